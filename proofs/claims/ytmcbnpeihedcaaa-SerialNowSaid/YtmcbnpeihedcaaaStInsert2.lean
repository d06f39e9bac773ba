/- slices.Insert at []api.Pair, of one pair, where there is no room; the contract. -/
import Derived.Test.YtmcbnpeihedcaaaStInsert
import Derived.Shelf.RegionOpenPlain
namespace Go.Proofs.Ytmcbnpeihedcaaa
set_option linter.unusedSimpArgs false
open Go Go.RowKit
set_option linter.unusedVariables false
set_option maxRecDepth 100000

theorem flat_split (l : List Pr) (i : Nat) : l.flatMap encPr = (l.take i).flatMap encPr ++ (l.drop i).flatMap encPr := by rw [← List.flatMap_append, List.take_append_drop]
theorem ins_row3 {l : List Pr} {row : Array Value} {G i : Nat} {x : Pr} (hs : row.size = G * 2) (ht : row.toList.take (i * 2) = (l.take i).flatMap encPr) (hi : i < l.length) (hG : l.length + 1 ≤ G) (row2 row3 : Array Value)
    (h1 : row2 = (row.toList.take (i * 2) ++ encPr x ++ row.toList.drop (i * 2 + (encPr x).length)).toArray)
    (h2 : row3 = (row2.toList.take ((i + 1) * 2) ++ (l.drop i).flatMap encPr ++ row2.toList.drop ((i + 1) * 2 + ((l.drop i).flatMap encPr).length)).toArray) :
    row2.size = G * 2 ∧ row3.size = G * 2 ∧ row3.toList.take ((l.length + 1) * 2) = (l.take i ++ x :: l.drop i).flatMap encPr := by
  have hdl : ((l.drop i).flatMap encPr).length = (l.length - i) * 2 := by rw [flat_len encPr encPr_len, List.length_drop]
  have htl : ((l.take i).flatMap encPr).length = i * 2 := by rw [flat_len encPr encPr_len, List.length_take]; omega
  have hl2 : row2.size = G * 2 := by
    rw [h1, ht]
    simp only [List.size_toArray, List.length_append, htl, encPr_len, List.length_drop, Array.length_toList, hs]
    omega
  have h2t : row2.toList.take ((i + 1) * 2) = (l.take i).flatMap encPr ++ encPr x := by
    rw [h1, ht]
    rw [List.take_append_of_le_length (by simp only [List.length_append, htl, encPr_len]; omega), List.take_of_length_le (by simp only [List.length_append, htl, encPr_len]; omega)]
  refine ⟨hl2, ?_, ?_⟩
  · rw [h2, h2t]
    simp only [List.size_toArray, List.length_append, htl, encPr_len, hdl, List.length_drop, Array.length_toList, hl2]
    omega
  · rw [h2, h2t, List.flatMap_append, List.flatMap_cons]
    rw [show ((l.take i).flatMap encPr ++ encPr x ++ (l.drop i).flatMap encPr ++ row2.toList.drop ((i + 1) * 2 + ((l.drop i).flatMap encPr).length)) = ((l.take i).flatMap encPr ++ (encPr x ++ (l.drop i).flatMap encPr)) ++ row2.toList.drop ((i + 1) * 2 + ((l.drop i).flatMap encPr).length) from by simp only [List.append_assoc]]
    rw [List.take_append_of_le_length (by simp only [List.length_append, htl, encPr_len, hdl]; omega), List.take_of_length_le (by simp only [List.length_append, htl, encPr_len, hdl]; omega)]

set_option maxHeartbeats 4000000 in
theorem ins_grow (base : Nat) (A : Option Addr) (c : Nat) (l : List Pr) (i : Nat) (x : Pr) (vb : Nat) (w : World) (h : PRow w base A c l) (hbs : base ≤ w.heap.size) (hl : l.length ≤ 1000) (hi : i < l.length) (hc : c = l.length) (hv : Blk w vb 34 #[.int .i64 x.at_, .int .i64 x.v]) (hvA : ∀ b, A = some b → b.block ≠ vb) :
    Calls Try.prog 68 #[.slice A l.length c, .int .i64 (i : Int), .slice (some ⟨vb, 0, none⟩) 1 1] w (InsPost base w A c l i x) := by
  obtain ⟨g, c', cur, he, hbg, hB, hn, hm, hs, ht⟩ := own_form h (by omega)
  injection he with e1 _ e3
  subst e1 e3
  obtain ⟨i0, hi0, hz0, hz1, hz2⟩ := info_parts clone_pair_info
  obtain ⟨n, hnn⟩ : ∃ n, n = l.length := ⟨_, rfl⟩
  have hcn : c = n := by omega
  subst hcn
  rw [← hnn] at ht hi hl hn
  have hdl : ((l.drop i).flatMap encPr).length = (c - i) * 2 := by rw [flat_len encPr encPr_len, List.length_drop, hnn]
  have htl : ((l.take i).flatMap encPr).length = i * 2 := by rw [flat_len encPr encPr_len, List.length_take]; omega
  have hcell : ∀ j v, (l.flatMap encPr)[j]? = some v → w.cell? ⟨g, j, none⟩ = some v := fun j v hj => by
    have hC := h.cells (g := g) rfl _ _ hj
    rwa [add_none, Nat.zero_add] at hC
  have hold : (Builtin.firstCells i0.size i (.slice (some ⟨g, 0, none⟩) i c)).run Try.prog w.drew = .ok ((l.take i).flatMap encPr).toArray w.drew := by
    rw [hz1]
    exact run_firstCells_some w.drew 2 i ⟨g, 0, none⟩ i c ((l.take i).flatMap encPr) (by rw [htl]) (fun j v hj => by
      rw [add_none, Nat.zero_add]
      refine hcell j v ?_
      rw [flat_split l i, List.getElem?_append_left (List.getElem?_eq_some_iff.1 hj).1]
      exact hj)
  obtain ⟨G, hG⟩ : ∃ G, G = grownCap w (c + 1) c 34 := ⟨_, rfl⟩
  have hGn : c + 1 ≤ G := by rw [hG]; exact grownCap_ge w _ _ _
  have hG63 : G ≤ maxLen := by rw [hG]; exact grownCap_le_maxLen w (c + 1) c 34 (by unfold maxLen; omega)
  obtain ⟨ROW, hROW⟩ : ∃ ROW : Array Value, ROW = ((l.take i).flatMap encPr).toArray ++ Builtin.zeroCells (Value.agg #[.int .i64 0, .int .i64 0]).cells (c + 1 - i) ++ Builtin.zeroCells (Value.agg #[.int .i64 0, .int .i64 0]).cells (G - (c + 1)) := ⟨_, rfl⟩
  obtain ⟨W1, hW1⟩ : ∃ W1, W1 = w.drew.alloc (.cells ROW 34) := ⟨_, rfl⟩
  have hkk : (c : Int) + 1 - (i : Int) = ((c + 1 - i : Nat) : Int) := by omega
  have hrz : ∀ ty, (Builtin.append_ #[25, 3] ty #[.slice (some ⟨g, 0, none⟩) i c, .int .i64 ((c : Int) + 1 - (i : Int))]).run Try.prog w = .ok (.slice (some ⟨w.heap.size, 0, none⟩) (c + 1) G) W1 := fun ty => by
    have h := Lib.run_append_grow_zeros w 25 3 ty 34 i0 _ .i64 .i64 Try.underlying25 Try.underlying3 hi0 hz0 (some ⟨g, 0, none⟩) i c _ hold (c + 1 - i) (by omega) (by omega) (by omega) (by omega) (by rw [hz2]; omega)
      (by rw [hz2, show i + (c + 1 - i) = c + 1 from by omega]; exact growslice_fits (by omega) (by omega))
    rw [show i + (c + 1 - i) = c + 1 from by omega, ← hG, ← hROW, ← hW1] at h
    rw [hkk]
    exact h
  have hRs : ROW.size = G * 2 := by
    rw [hROW]
    simp only [Array.size_append, List.size_toArray, htl, Builtin.zeroCells, Array.size_map, Array.size_range, Value.cells, List.length_cons, List.length_nil]
    omega
  have hRt : ROW.toList.take (i * 2) = (l.take i).flatMap encPr := by
    rw [hROW]
    simp only [Array.toList_append, List.append_assoc]
    rw [List.take_append_of_le_length (by simp only [htl]; omega), List.take_of_length_le (by simp only [htl]; omega)]
  have hrow := ins_row3 (l := l) (row := ROW) (G := G) (i := i) (x := x) hRs hRt (by omega) (by omega) _ _ rfl rfl
  obtain ⟨row2, hrow2⟩ : ∃ y, y = (ROW.toList.take (i * 2) ++ encPr x ++ ROW.toList.drop (i * 2 + (encPr x).length)).toArray := ⟨_, rfl⟩
  rw [← hrow2] at hrow
  obtain ⟨row3, hrow3⟩ : ∃ y, y = (row2.toList.take ((i + 1) * 2) ++ (l.drop i).flatMap encPr ++ row2.toList.drop ((i + 1) * 2 + ((l.drop i).flatMap encPr).length)).toArray := ⟨_, rfl⟩
  rw [← hrow3] at hrow
  have hglt : g < w.heap.size := hB.lt
  have hvlt : vb < w.heap.size := hv.lt
  have hN1 : Blk W1 w.heap.size 34 ROW := hW1 ▸ Blk.new_ w.drew 34 ROW w.heap.size rfl
  have hb1 : Below w.heap.size w W1 := hW1 ▸ ((Below.refl _ w).drew.alloc (Nat.le_refl _) _)
  have hcpA : ∀ ty dc, (Builtin.copy_ #[25, 25] ty #[.slice (some ⟨w.heap.size, i * 2, none⟩) (c + 1 - i) dc, .slice (some ⟨vb, 0, none⟩) 1 1]).run Try.prog W1 = .ok (.int .i64 ((1 : Nat) : Int)) (W1.setRow w.heap.size row2) := fun ty dc => by
    rw [hrow2]
    exact run_copy_k _ _ _ ty 34 w.heap.size (i * 2) _ _ ⟨vb, 0, none⟩ _ _ ROW 34 (encPr x) 2 1 Try.underlying25 pair_size hN1 (by simp only [Nat.min_def]; split <;> omega) rfl
      (fun j v hj => by rw [add_none, Nat.zero_add, (hv.keep hb1).cell]; simpa [encPr] using hj)
      (by rw [encPr_len, hRs]; omega) (by simp [encPr, Value.oneCell'])
  obtain ⟨W2, hW2⟩ : ∃ y, y = W1.setRow w.heap.size row2 := ⟨_, rfl⟩
  have hN2 : Blk W2 w.heap.size 34 row2 := hW2 ▸ hN1.setRow row2
  have hb2 : Below w.heap.size w W2 := hW2 ▸ below_setRow' hb1 (Nat.le_refl _) row2
  rw [← hW2] at hcpA
  have hcpB : ∀ ty dc sc, (Builtin.copy_ #[25, 25] ty #[.slice (some ⟨w.heap.size, (i + 1) * 2, none⟩) (c - i) dc, .slice (some ⟨g, i * 2, none⟩) (c - i) sc]).run Try.prog W2.drew = .ok (.int .i64 ((c - i : Nat) : Int)) (W2.drew.setRow w.heap.size row3) := fun ty dc sc => by
    rw [hrow3]
    exact run_copy_k W2.drew _ _ ty 34 w.heap.size ((i + 1) * 2) _ _ ⟨g, i * 2, none⟩ _ _ row2 34 _ 2 (c - i) Try.underlying25 pair_size hN2 (by simp) hdl
      (fun j v hj => by
        rw [add_none]
        show W2.cell? ⟨g, i * 2 + j, none⟩ = some v
        rw [hb2.cell (p := ⟨g, i * 2 + j, none⟩) hglt]
        refine hcell _ v ?_
        rw [flat_split l i, List.getElem?_append_right (by rw [htl]; omega), htl, show i * 2 + j - i * 2 = j from by omega]
        exact hj)
      (by rw [hdl, hrow.1]; omega) (encPr_one _)
  obtain ⟨W3, hW3⟩ : ∃ y, y = W2.drew.setRow w.heap.size row3 := ⟨_, rfl⟩
  have hN3 : Blk W3 w.heap.size 34 row3 := hW3 ▸ (show Blk W2.drew w.heap.size 34 row2 from hN2).setRow row3
  have hb3 : Below w.heap.size w W3 := hW3 ▸ below_setRow' hb2.drew (Nat.le_refl _) row3
  rw [← hW3] at hcpB
  have HEND := Lib.hid (show InsPost base w (some ⟨g, 0, none⟩) c l i x (.returned (.slice (some ⟨w.heap.size, 0, none⟩) (c + 1) G)) W3 from by
    refine ⟨_, _, by rw [← hnn], ?_, ⟨hb3.os, hb3.tape, hb3.output, hb3.size, fun k hk _ => hb3.block k hk⟩, fun b hb => .inr ?_⟩
    · unfold PRow
      rw [ins_len (by omega)]
      exact own_of (by rw [flat_len encPr encPr_len, ins_len (by omega)]) hbs hN3 (by omega) hG63 hrow.2.1 hrow.2.2
    · injection hb with hb
      subst hb
      exact Nat.le_refl _)
  have hz2' : ¬ ((i : Int) = (c : Int)) := by omega
  have hz3 : (c : Int) < (c : Int) + 1 := by omega
  have hw1 : IntKind.i64.wrap ((i : Int) + 1) = (i : Int) + 1 := by rw [IntKind.wrap_i64]; omega
  have hw2 : IntKind.i64.wrap ((c : Int) + 1) = (c : Int) + 1 := by rw [IntKind.wrap_i64]; omega
  have hw3 : IntKind.i64.wrap ((c : Int) + 1 - (i : Int)) = (c : Int) + 1 - (i : Int) := by rw [IntKind.wrap_i64]; omega
  have hb1' : (0 : Int) ≤ (i : Int) + 1 := by omega
  have hin : (i : Int) ≤ (c : Int) := by omega
  have htn : ((i : Int) + 1).toNat = i + 1 := by omega
  have hGi : ¬ (G = i) := by omega
  have hGi1 : ¬ (G = i + 1) := by omega
  have hci : ¬ (c = i) := by omega
  have hb4 : (i : Int) ≤ (c : Int) + 1 := by omega
  have hb5 : (i : Int) + 1 ≤ (c : Int) + 1 := by omega
  have HRZ := Lib.hid hrz
  have HCA := Lib.hid hcpA
  have HCB := Lib.hid hcpB
  unfold maxLen at hm hG63
  clear h hv hB hs ht hrow hrow2 hrow3 hcpA hcpB hb1 hb2 hb3 hN1 hN2 hN3 hW1 hW2 hW3 hdl htl hRs hRt hROW hold hcell hG hkk hrz
  rw [← hnn]
  clear hnn hc hn
  go_enter Try.func68, Try.ntmps68
  have ha := HCA.out
  go_wp2_with (at_builtin; refine Lib.wpList_append_run _ rfl _ _ _ _ rfl _ _ rfl rfl _ _ (HRZ.out _) ?_)
  refine wp_region_held_drew (S := fun _ => True) (by kernel_rfl) ?_ (fun hHeldbr => ?_)
  · trivial
  refine tkW 0 { dst := some 46, op := Op.move (Operand.tmp 9), type := 25, pos := "slices.go:154", after := _, guard := none } (v := ?vbr0) rfl (Or.inl ⟨by rfl, ?hybr0⟩) ?restbr0
  case hybr0 => (intro w hSw; (try dsimp only at hSw); go_simp <;> with_reducible rfl)
  try simp only [putW, setZ, setS]
  refine tkW 1 { dst := some 47, op := Op.move (Operand.tmp 1), type := 3, pos := "slices.go:154", after := _, guard := none } (v := ?vbr1) rfl (Or.inl ⟨by rfl, ?hybr1⟩) ?restbr1
  case hybr1 => (intro w hSw; (try dsimp only at hSw); go_simp <;> with_reducible rfl)
  try simp only [putW, setZ, setS]
  refine tkW 2 { dst := some 48, op := Op.move (Operand.tmp 7), type := 3, pos := "slices.go:154", after := _, guard := none } (v := ?vbr2) rfl (Or.inl ⟨by rfl, ?hybr2⟩) ?restbr2
  case hybr2 => (intro w hSw; (try dsimp only at hSw); go_simp <;> with_reducible rfl)
  try simp only [putW, setZ, setS]
  refine tkW 3 { dst := some 49, op := Op.binOp BinOp.add 3 (Operand.tmp 47) (Operand.tmp 48) 3, type := 3, pos := "slices.go:154", after := _, guard := none } (v := ?vbr3) rfl (Or.inl ⟨by rfl, ?hybr3⟩) ?restbr3
  case hybr3 => (intro w hSw; (try dsimp only at hSw); go_simp <;> with_reducible rfl)
  try simp only [putW, setZ, setS]
  refine tkW 4 { dst := some 50, op := Op.slice 25 (Operand.tmp 46) (some (Operand.tmp 49)) none none, type := 25, pos := "slices.go:154", after := _, guard := none } (v := ?vbr4) rfl (Or.inl ⟨by rfl, ?hybr4⟩) ?restbr4
  case hybr4 => (intro w hSw; (try dsimp only at hSw); go_simp <;> with_reducible rfl)
  try simp only [putW, setZ, setS]
  refine tkW 5 { dst := some 51, op := Op.move (Operand.tmp 0), type := 25, pos := "slices.go:154", after := _, guard := none } (v := ?vbr5) rfl (Or.inl ⟨by rfl, ?hybr5⟩) ?restbr5
  case hybr5 => (intro w hSw; (try dsimp only at hSw); go_simp <;> with_reducible rfl)
  try simp only [putW, setZ, setS]
  refine tkW 6 { dst := some 52, op := Op.move (Operand.tmp 1), type := 3, pos := "slices.go:154", after := _, guard := none } (v := ?vbr6) rfl (Or.inl ⟨by rfl, ?hybr6⟩) ?restbr6
  case hybr6 => (intro w hSw; (try dsimp only at hSw); go_simp <;> with_reducible rfl)
  try simp only [putW, setZ, setS]
  refine tkW 7 { dst := some 53, op := Op.slice 25 (Operand.tmp 51) (some (Operand.tmp 52)) none none, type := 25, pos := "slices.go:154", after := _, guard := none } (v := ?vbr7) rfl (Or.inl ⟨by rfl, ?hybr7⟩) ?restbr7
  case hybr7 => (intro w hSw; (try dsimp only at hSw); go_simp <;> with_reducible rfl)
  try simp only [putW, setZ, setS]
  refine wpAnyH_ready (rs := [8]) (by kernel_rfl) (by simp) ?_
  refine AllReadyH.cons (o := { dst := some 54, op := Op.call { callee := Callee.builtin Builtin.copy, args := #[Operand.tmp 50, Operand.tmp 53], argTypes := #[25, 25] }, type := 3, pos := "slices.go:154", after := _, guard := none }) rfl (fun K hK => ?_) AllReadyH.nil
  refine step_copy_eqn rfl _ _ 25 25 rfl (.slice (some ⟨w.heap.size, (i + 1) * 2, none⟩) (c - i) (G - (i + 1))) (.slice (some ⟨g, i * 2, none⟩) (c - i) (c - i)) rfl rfl (HCB.out _ (G - (i + 1)) (c - i)) ?_
  refine hK.out _ _ ?_ (fun hHeldbr8 => ?_)
  · trivial
  clear hK K hHeldbr
  try simp only [Act.put, List.setIfInBounds_toArray, List.set_cons_zero, List.set_cons_succ]
  refine wpAnyH_done (by kernel_rfl) ?_ _
  go_wp2
  go_ret
  exact HEND.out

/-- Insert, of one pair. -/
theorem insert_any (base : Nat) (A : Option Addr) (c : Nat) (l : List Pr) (i : Nat) (x : Pr) (vb : Nat) (w : World) (h : PRow w base A c l) (hbs : base ≤ w.heap.size) (hl : l.length ≤ 1000) (hi : i ≤ l.length) (hv : Blk w vb 34 #[.int .i64 x.at_, .int .i64 x.v]) (hvA : ∀ b, A = some b → b.block ≠ vb) :
    Calls Try.prog 68 #[.slice A l.length c, .int .i64 (i : Int), .slice (some ⟨vb, 0, none⟩) 1 1] w (InsPost base w A c l i x) := by
  rcases Nat.lt_or_ge i l.length with h1 | h1
  · rcases Nat.lt_or_ge l.length c with h2 | h2
    · exact ins_shift base A c l i x vb w h hl h1 h2 hv hvA
    · refine ins_grow base A c l i x vb w h hbs hl h1 ?_ hv hvA
      obtain ⟨g, c', cur, he, _, _, hn, _⟩ := own_form h (by omega)
      injection he with _ _ e3
      subst e3
      omega
  · obtain rfl : i = l.length := by omega
    exact ins_end base A c l x vb w h hbs hl hv
end Go.Proofs.Ytmcbnpeihedcaaa
