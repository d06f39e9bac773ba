/- get: a word that is read of memory. -/
import Derived.Test.YtngimbfojccikaaStmTellsI
namespace Go.Proofs.Ytngimbfojccikaa
set_option linter.unusedSimpArgs false
open Go Go.RowKit
set_option linter.unusedVariables false
set_option maxRecDepth 100000

section
variable {w0 w w' : World} {r : Nat} {φ : Nat → Nat} {a : Ad} {m : Mm} {pw pm : Int} {pv : Value}

set_option maxHeartbeats 4000000 in
theorem get_yes {k : Nat} {t : Tx} (h : RunW w0 w r φ a m pw pm pv (k : Int)) (hk : m.T[k]? = some t) (at_ : Int) (hp : t.W[t.W.findIdx (fun p => p.at_ == at_)]? = none) (hs : seesL m.now m.mx m.L at_ t.rv (k : Int) = true) (q : Nat) (hat : at_ = (q : Int)) (hq : q < m.W.length) (hR : t.R.length ≤ 1000) :
    Calls Try.prog 63 #[.pointer (some ⟨r, 0, none⟩), .int .i64 at_] w (GetPost w0 r φ a m k t (some (m.W[q], t.R ++ [⟨at_, m.W[q]⟩])) pw pm pv) := by
  have eg : ∀ args w, (callFunc 85 args).run Try.prog w = .ok (.enter 85 args) w := enters_of Try.func85 (by kernel_rfl) rfl
  have hA0 : Below w.heap.size w (w.alloc (.cells #[.int .i64 at_] 3)) := (Below.refl _ _).alloc (Nat.le_refl _) _
  have hbx : Blk (w.alloc (.cells #[.int .i64 at_] 3)) w.heap.size 3 #[.int .i64 at_] := Blk.new _ _ _
  have HME := Lib.hid (me_any (h.keep hA0) hk)
  have HH := Lib.hid (h.keep hA0)
  have hix := idx_miss hp
  have HIX := Lib.hid (fun W (hb : Below (w.alloc (.cells #[.int .i64 at_] 3)).heap.size (w.alloc (.cells #[.int .i64 at_] 3)) W) => hix ▸ index_pair (fun x => x.at_ == at_) 85 #[.pointer (some ⟨w.heap.size, 0, none⟩)] eg (.slice t.wA t.W.length t.wc) t.W W
    (fun W2 x hb2 => get1_any x w.heap.size at_ W2 (Nat.lt_of_lt_of_le hbx.lt (Nat.le_trans hb.size hb2.size)) (by rw [((hbx.keep hb).keep hb2).cell]; rfl)) (Sl.of_own (((h.keep hA0).keep hb).ts k t hk).W))
  have HSE := Lib.hid (fun W (hb : Below (w.alloc (.cells #[.int .i64 at_] 3)).heap.size (w.alloc (.cells #[.int .i64 at_] 3)) W) => hs ▸ Sees_any _ m.now m.mx at_ t.rv (k : Int) m.L W ((h.keep hA0).keep hb).locks)
  obtain ⟨n, hn⟩ : ∃ n, n = t.W.length := ⟨_, rfl⟩
  have HC8 := Lib.hid (fun W (hb : Below (w.alloc (.cells #[.int .i64 at_] 3)).heap.size (w.alloc (.cells #[.int .i64 at_] 3)) W) => (show W.cell? ⟨a.gT, k * 11 + 8, none⟩ = some (.slice t.wA n t.wc) from by rw [hn]; exact ((h.keep hA0).keep hb).tcells hk (j := 8) rfl))
  have HC := Lib.hid (fun W (hb : Below (w.alloc (.cells #[.int .i64 at_] 3)).heap.size (w.alloc (.cells #[.int .i64 at_] 3)) W) => (show W.cell? ⟨r, 1, none⟩ = some (.int .i64 m.now) ∧ W.cell? ⟨r, 2, none⟩ = some (.int .i64 m.mx) ∧ W.cell? ⟨r, 3, none⟩ = some (.slice a.lA m.L.length a.lc) ∧ W.cell? ⟨r, 10, none⟩ = some (.int .i64 (k : Int)) ∧ W.cell? ⟨a.gT, k * 11 + 4, none⟩ = some (.int .i64 t.rv) ∧ W.cell? ⟨w.heap.size, 0, none⟩ = some (.int .i64 at_) from
    ⟨((h.keep hA0).keep hb).rcells 1, ((h.keep hA0).keep hb).rcells 2, ((h.keep hA0).keep hb).rcells 3, ((h.keep hA0).keep hb).rcells 10, ((h.keep hA0).keep hb).tcells hk (j := 4) rfl, by rw [(hbx.keep hb).cell]; rfl⟩))
  rw [← hn] at HIX
  obtain ⟨nw, hnw⟩ : ∃ n, n = m.W.length := ⟨_, rfl⟩
  have HC7 := Lib.hid (fun W (hb : Below (w.alloc (.cells #[.int .i64 at_] 3)).heap.size (w.alloc (.cells #[.int .i64 at_] 3)) W) => (show W.cell? ⟨r, 0, none⟩ = some (.slice (some ⟨a.gW, 0, none⟩) nw a.cW) ∧ W.cell? ⟨w.heap.size, 0, none⟩ = some (.int .i64 (q : Int)) ∧ W.cell? ⟨a.gW, q, none⟩ = some (.int .i64 m.W[q]) from
    ⟨by rw [hnw]; exact ((h.keep hA0).keep hb).rcells 0, by rw [(hbx.keep hb).cell, ← hat]; rfl, (((h.keep hA0).keep hb).wcell hq).1⟩))
  have hqz : (q : Int) < (nw : Int) := by omega
  have hq0 : (0 : Int) ≤ (q : Int) := by omega
  have HK := Lib.hid hk
  have HAT := Lib.hid hat
  obtain ⟨nr, hnr⟩ : ∃ n, n = t.R.length := ⟨_, rfl⟩
  have HNR := Lib.hid hnr
  rw [← hnr] at hR
  have hHz := h.base.size
  obtain ⟨i0, hi0, hz0, hz1, hz2⟩ := info_parts clone_pair_info
  obtain ⟨v, hv⟩ : ∃ v, v = m.W[q] := ⟨_, rfl⟩
  rw [← hv] at HC7 ⊢
  have HW8 : Hid (∀ w2 A c g, Below (w.alloc (.cells #[.int .i64 at_] 3)).heap.size (w.alloc (.cells #[.int .i64 at_] 3)) w2 → ∀ w5, w2.grownBy w5 (Value.slice t.rA nr t.rc).ownBlock → w5.ownsRow w0.heap.size 55 2 (.slice A (nr + 1) c) (nr + 1) (t.R.flatMap encPr ++ [.int .i64 at_, .int .i64 v]) → A = some ⟨g, 0, none⟩ → ((Value.slice t.rA nr t.rc).ownBlock = some g ∨ g = w2.heap.size) →
      (w5.cell? ⟨a.gT, k * 11 + 7, none⟩ = some (.slice t.rA nr t.rc) ∧ w5.frozen? ⟨a.gT, k * 11 + 7, none⟩ = false) ∧ ∀ W, W = w5.setCell ⟨a.gT, k * 11 + 7, none⟩ (.slice A (nr + 1) c) → GetPost w0 r φ a m k t (some (v, t.R ++ [⟨at_, v⟩])) pw pm pv (.returned (.tuple #[.int .i64 v, .bool true])) W) := by
    intro w2 A c g hb w5 hg ho hAg hat
    have h2 := (h.keep hA0).keep hb
    have htk := h2.ts k t hk
    rw [hnr] at hg ho hat
    have hlen : (t.R ++ [(⟨at_, v⟩ : Pr)]).length = t.R.length + 1 := by simp
    have hP : PRow w5 w0.heap.size A c (t.R ++ [⟨at_, v⟩]) := by
      unfold PRow
      rw [hlen, List.flatMap_append]
      exact ho
    have hat2 : ∀ b, A = some b → t.rA = some b ∨ w2.heap.size ≤ b.block := fun b hb => by
      rw [hAg] at hb
      injection hb with hb
      subst hb
      rcases hat with e | e
      · refine .inl ?_
        cases hrA : t.rA with
        | none => rw [hrA] at e; cases e
        | some b' =>
          have hR := htk.R
          unfold PRow at hR
          rw [hrA] at hR e
          have := own_some hR
          simp only [Value.ownBlock, Option.some.injEq] at e
          rw [this, e]
      · exact .inr (by show w2.heap.size ≤ g; omega)
    have hnew := h2.newR hk hg hP hat2
    have ht3 := (h2.grownP hk (.inl rfl) hg (prow_row htk.R htk.gR)).2.2.1 (by decide) h2.trow
    obtain ⟨hk1, hk2⟩ := List.getElem?_eq_some_iff.1 hk
    refine ⟨⟨?_, ?_⟩, fun W hW => ?_⟩
    · have := ht3.cells (g := a.gT) rfl _ _ (flat_get encTx encTx_len m.T k hk1 7 _ (by rw [hk2]; rfl))
      rw [hnr]
      rwa [add_none, Nat.zero_add] at this
    · obtain ⟨_, _, _, _, cur, hB⟩ := own_blk ht3
      exact hB.free _
    · subst hW
      rw [hlen, ← hnr] at hnew
      exact ⟨rfl, _, A, c, hnew⟩
  have HR8 := Lib.hid (fun W (hb : Below (w.alloc (.cells #[.int .i64 at_] 3)).heap.size (w.alloc (.cells #[.int .i64 at_] 3)) W) => (show W.cell? ⟨a.gT, k * 11 + 7, none⟩ = some (.slice t.rA nr t.rc) from by rw [hnr]; exact ((h.keep hA0).keep hb).tcells hk (j := 7) rfl))
  have HRO := Lib.hid (fun W (hb : Below (w.alloc (.cells #[.int .i64 at_] 3)).heap.size (w.alloc (.cells #[.int .i64 at_] 3)) W) => (show W.ownsRow w0.heap.size 55 2 (.slice t.rA nr t.rc) nr (t.R.flatMap encPr) from by rw [hnr]; exact (((h.keep hA0).keep hb).ts k t hk).R))
  have hTl := h.apart.2.2.2.1
  have hneT : ¬ a.gT = w.heap.size := by omega
  have HNB := Lib.hid (show ∀ g, (Value.slice t.rA nr t.rc).ownBlock = some g → g < w.heap.size from fun g hg => by
    cases hrA : t.rA with
    | none => rw [hrA] at hg; cases hg
    | some b => rw [hrA] at hg; simp only [Value.ownBlock, Option.some.injEq] at hg; have := ((h.ts k t hk).R.lt hrA).1; omega)
  clear h hk hbx hA0 hn hix hp hs eg hnr hnw hat hv
  go_enter Try.func63, Try.ntmps63
  go_wp2_with fail
  refine HME.out.mono ?_
  rintro e w1 ⟨rfl, hb1⟩
  have HB1 := Lib.hid hb1
  have c8 := HC8.out _ hb1
  clear hb1 HME
  go_wp2_with fail
  refine (HIX.out _ HB1.out).mono ?_
  rintro e w2 ⟨rfl, hb2⟩
  have HB2 := Lib.hid (HB1.out.trans (hb2.mono HB1.out.size))
  clear hb2 c8
  go_wp2_with fail
  refine wp_region_held_drew (S := fun W => W.cell? ⟨r, 1, none⟩ = some (.int .i64 m.now) ∧ W.cell? ⟨r, 2, none⟩ = some (.int .i64 m.mx) ∧ W.cell? ⟨r, 3, none⟩ = some (.slice a.lA m.L.length a.lc) ∧ W.cell? ⟨r, 10, none⟩ = some (.int .i64 (k : Int)) ∧ W.cell? ⟨a.gT, k * 11 + 4, none⟩ = some (.int .i64 t.rv) ∧ W.cell? ⟨w.heap.size, 0, none⟩ = some (.int .i64 at_)) (by kernel_rfl) ?_ (fun hbr => ?_)
  · exact HC.out _ (HB2.out.trans ((Below.refl _ _).drew.mono HB2.out.size))
  refine tkA 0 ?_
  refine tkA 1 ?_
  refine tkA 2 ?_
  refine tkA 3 ?_
  refine tkA 4 ?_
  refine tkA 5 ?_
  refine tkA 6 ?_
  refine tkA 7 ?_
  refine tkA 8 ?_
  refine tkA 9 ?_
  refine tkA 10 ?_
  refine tkA 11 ?_
  refine tkA 12 ?_
  refine tkA 13 ?_
  refine stA 14 (fun K hK => ?_)
  go_simp
  refine (HSE.out _ (HB2.out.trans ((Below.refl _ _).drew.mono HB2.out.size))).mono ?_
  rintro e w3 ⟨rfl, hb3⟩
  have HB3 := Lib.hid ((HB2.out.trans ((Below.refl w2.heap.size w2).drew.mono HB2.out.size)).trans (hb3.mono HB2.out.size))
  clear hb3
  try go_wp2_with fail
  refine hK.out _ _ ?_ (fun hbr14 => ?_)
  · exact HC.out _ HB3.out
  clear hK K hbr
  try simp only [Act.put, List.setIfInBounds_toArray, List.set_cons_zero, List.set_cons_succ]
  refine tkA 15 ?_
  refine wpAnyH_done (by kernel_rfl) ?_ _
  go_wp2_with fail
  refine wp_region_held_drew (S := fun W => W.cell? ⟨r, 0, none⟩ = some (.slice (some ⟨a.gW, 0, none⟩) nw a.cW) ∧ W.cell? ⟨w.heap.size, 0, none⟩ = some (.int .i64 (q : Int)) ∧ W.cell? ⟨a.gW, q, none⟩ = some (.int .i64 v)) (by kernel_rfl) ?_ (fun hcr => ?_)
  · exact HC7.out _ (HB3.out.trans ((Below.refl _ _).drew.mono HB3.out.size))
  refine tkA 0 ?_
  refine tkA 1 ?_
  refine tkA 2 ?_
  refine tkA 3 ?_
  refine tkA 4 ?_
  refine tkA 5 ?_
  refine tkA 6 ?_
  refine tkA 7 ?_
  refine tkA 8 ?_
  refine wpAnyH_done (by kernel_rfl) ?_ _
  have HB4 := Lib.hid (HB3.out.trans ((Below.refl w3.heap.size w3).drew.mono HB3.out.size))
  have hTl4 : a.gT < w3.heap.size := Nat.lt_of_lt_of_le hTl (Nat.le_trans (by simp) HB3.out.size)
  have c7 := HR8.out _ HB3.out
  go_wp2_with fail
  refine wp_region_held_drew (S := fun W => W.cell? ⟨w.heap.size, 0, none⟩ = some (.int .i64 at_)) (by kernel_rfl) ?_ (fun hdr => ?_)
  · exact (HC.out _ (HB4.out.trans ((Below.refl _ _).drew.mono HB4.out.size))).2.2.2.2.2
  refine tkA 0 ?_
  refine tkA 1 ?_
  refine tkA 2 ?_
  refine tkA 3 ?_
  refine tkA 5 ?_
  refine tkA 6 ?_
  refine tkA 7 ?_
  refine wpAnyH_ready (rs := [4, 8]) (by kernel_rfl) (by simp) ?_
  refine conA (fun K hK => ?_) ?_
  · go_simp
    refine hK.out _ _ ?_ (fun hdr4b8 => ?_)
    · first | exact (HC.out _ HB3.out.drew.drew).2.2.2.2.2 | exact (HC.out _ (HB3.out.alloc HB3.out.size _).drew.drew).2.2.2.2.2
    clear hK K hdr
    try simp only [Act.put, List.setIfInBounds_toArray, List.set_cons_zero, List.set_cons_succ]
    refine stA 8 (fun K hK => ?_)
    go_simp
    refine hK.out _ _ ?_ (fun hdr8b9 => ?_)
    · exact (HC.out _ (HB3.out.alloc HB3.out.size _).drew.drew).2.2.2.2.2
    clear hK K hdr4b8
    try simp only [Act.put, List.setIfInBounds_toArray, List.set_cons_zero, List.set_cons_succ]
    refine stA 9 (fun K hK => ?_)
    refine step_append_lies _ rfl (.tmp 55) (.tmp 59) _ rfl w0.heap.size 55 i0 _ 2 16 Try.underlying44 hi0 hz0 hz1 hz2 rfl (by omega) (.slice t.rA nr t.rc) nr (t.R.flatMap encPr) rfl (HRO.out _ (HB3.out.alloc HB3.out.size (.cells #[.int .i64 at_, .int .i64 v] 55)).drew.drew) ⟨w3.heap.size, 0, none⟩ 1 1 [.int .i64 at_, .int .i64 v] rfl rfl (by intro j u hu; rw [add_none, Nat.zero_add]; rw [((Blk.new w3 55 #[.int .i64 at_, .int .i64 v]).drew.drew).cell]; simpa using hu) (by simp [Value.oneCell']) (by omega) (by unfold maxLen; omega) (by omega) (by have := HB3.out.size; simp at this ⊢; omega) _ rfl ?_
    intro g cap w5 hown5 hgrow5 hor hg5
    have hx := HW8.out (w3.alloc (.cells #[.int .i64 at_, .int .i64 v] 55)).drew.drew _ cap g (HB3.out.alloc HB3.out.size (.cells #[.int .i64 at_, .int .i64 v] 55)).drew.drew w5 hgrow5 hown5 rfl hor
    have z7 := hx.1.1
    have zf7 := hx.1.2
    have zb : w5.cell? ⟨w.heap.size, 0, none⟩ = some (.int .i64 at_) := (hgrow5.cell_far ⟨w.heap.size, 0, none⟩ (show w.heap.size < (w3.alloc (.cells #[.int .i64 at_, .int .i64 v] 55)).heap.size from by have h9 := HB3.out.size; simp only [World.size_alloc] at h9 ⊢; omega) (fun e => Nat.lt_irrefl _ (HNB.out _ e.symm))).trans (HC.out _ (HB3.out.alloc HB3.out.size (.cells #[.int .i64 at_, .int .i64 v] 55)).drew.drew).2.2.2.2.2
    have HX := Lib.hid hx
    clear hown5 hgrow5 hor hg5 hx
    refine hK.out _ _ ?_ (fun hdr9b10 => ?_)
    · exact zb
    clear hK K hdr8b9
    try simp only [Act.put, List.setIfInBounds_toArray, List.set_cons_zero, List.set_cons_succ]
    refine tkA 10 ?_
    refine tkA 11 ?_
    refine stA 12 (fun K hK => ?_)
    go_simp
    refine hK.out _ _ ?_ (fun hdr12b13 => ?_)
    · go_simp
    clear hK K hdr9b10
    try simp only [Act.put, List.setIfInBounds_toArray, List.set_cons_zero, List.set_cons_succ]
    refine wpAnyH_done (by kernel_rfl) ?_ _
    go_wp2
    go_ret2
    exact HX.out.2 _ rfl
  refine conA (fun K hK => ?_) ?_
  · go_simp
    refine hK.out _ _ ?_ (fun hdr8b14 => ?_)
    · exact (HC.out _ (HB3.out.alloc HB3.out.size _).drew.drew).2.2.2.2.2
    clear hK K hdr
    try simp only [Act.put, List.setIfInBounds_toArray, List.set_cons_zero, List.set_cons_succ]
    refine stA 4 (fun K hK => ?_)
    go_simp
    refine hK.out _ _ ?_ (fun hdr4b15 => ?_)
    · first | exact (HC.out _ HB3.out.drew.drew).2.2.2.2.2 | exact (HC.out _ (HB3.out.alloc HB3.out.size _).drew.drew).2.2.2.2.2
    clear hK K hdr8b14
    try simp only [Act.put, List.setIfInBounds_toArray, List.set_cons_zero, List.set_cons_succ]
    refine stA 9 (fun K hK => ?_)
    refine step_append_lies _ rfl (.tmp 55) (.tmp 59) _ rfl w0.heap.size 55 i0 _ 2 16 Try.underlying44 hi0 hz0 hz1 hz2 rfl (by omega) (.slice t.rA nr t.rc) nr (t.R.flatMap encPr) rfl (HRO.out _ (HB3.out.alloc HB3.out.size (.cells #[.int .i64 at_, .int .i64 v] 55)).drew.drew) ⟨w3.heap.size, 0, none⟩ 1 1 [.int .i64 at_, .int .i64 v] rfl rfl (by intro j u hu; rw [add_none, Nat.zero_add]; rw [((Blk.new w3 55 #[.int .i64 at_, .int .i64 v]).drew.drew).cell]; simpa using hu) (by simp [Value.oneCell']) (by omega) (by unfold maxLen; omega) (by omega) (by have := HB3.out.size; simp at this ⊢; omega) _ rfl ?_
    intro g cap w5 hown5 hgrow5 hor hg5
    have hx := HW8.out (w3.alloc (.cells #[.int .i64 at_, .int .i64 v] 55)).drew.drew _ cap g (HB3.out.alloc HB3.out.size (.cells #[.int .i64 at_, .int .i64 v] 55)).drew.drew w5 hgrow5 hown5 rfl hor
    have z7 := hx.1.1
    have zf7 := hx.1.2
    have zb : w5.cell? ⟨w.heap.size, 0, none⟩ = some (.int .i64 at_) := (hgrow5.cell_far ⟨w.heap.size, 0, none⟩ (show w.heap.size < (w3.alloc (.cells #[.int .i64 at_, .int .i64 v] 55)).heap.size from by have h9 := HB3.out.size; simp only [World.size_alloc] at h9 ⊢; omega) (fun e => Nat.lt_irrefl _ (HNB.out _ e.symm))).trans (HC.out _ (HB3.out.alloc HB3.out.size (.cells #[.int .i64 at_, .int .i64 v] 55)).drew.drew).2.2.2.2.2
    have HX := Lib.hid hx
    clear hown5 hgrow5 hor hg5 hx
    refine hK.out _ _ ?_ (fun hdr9b16 => ?_)
    · exact zb
    clear hK K hdr4b15
    try simp only [Act.put, List.setIfInBounds_toArray, List.set_cons_zero, List.set_cons_succ]
    refine tkA 10 ?_
    refine tkA 11 ?_
    refine stA 12 (fun K hK => ?_)
    go_simp
    refine hK.out _ _ ?_ (fun hdr12b19 => ?_)
    · go_simp
    clear hK K hdr9b16
    try simp only [Act.put, List.setIfInBounds_toArray, List.set_cons_zero, List.set_cons_succ]
    refine wpAnyH_done (by kernel_rfl) ?_ _
    go_wp2
    go_ret2
    exact HX.out.2 _ rfl
  exact AllReadyH.nil

end
end Go.Proofs.Ytngimbfojccikaa
