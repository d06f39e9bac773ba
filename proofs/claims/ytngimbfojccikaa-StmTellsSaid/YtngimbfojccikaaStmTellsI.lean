/- Several texts in one: StWrite, StGet. -/
import Derived.Test.YtngimbfojccikaaStmTellsH
import Derived.Deep.CutBlock
namespace Go.Proofs.Ytngimbfojccikaa
set_option linter.unusedSimpArgs false
open Go Go.RowKit
set_option linter.unusedVariables false
set_option maxRecDepth 100000

section
variable {w0 w w' : World} {r : Nat} {φ : Nat → Nat} {a : Ad} {m : Mm} {pw pm : Int} {pv : Value}

/-- The value of a pair that is written is another one, in its place. -/
theorem RunW.setV {who : Int} (h : RunW w0 w r φ a m pw pm pv who) {k : Nat} {t : Tx} (hk : m.T[k]? = some t) {b : Nat} (hA : t.wA = some ⟨b, 0, none⟩) {i : Nat} {p : Pr} (hi : t.W[i]? = some p) (v : Int) :
    RunW w0 (w.setCell ⟨b, i * 2 + 1, none⟩ (.int .i64 v)) r φ a { m with T := m.T.set k { t with W := t.W.set i ⟨p.at_, v⟩ } } pw pm pv who := by
  have htk := h.ts k t hk
  obtain ⟨hi1, hi2⟩ := List.getElem?_eq_some_iff.1 hi
  have hg := grown_setCell w ⟨b, i * 2 + 1, none⟩ (.int .i64 v)
  have hWr : w.ownsRow w0.heap.size 55 2 (.slice (some ⟨b, 0, none⟩) t.W.length t.wc) t.W.length (t.W.flatMap encPr) := by have := htk.W; unfold PRow at this; rw [hA] at this; exact this
  have hrow : ∀ g, (some b : Option Nat) = some g → φ g = 2 * k + 2 ∧ w0.heap.size ≤ g ∧ ∃ cur, Blk w g 55 cur := by
    intro g e
    injection e with e
    subst e
    obtain ⟨h1, _, _, _, h5⟩ := own_blk hWr
    exact ⟨htk.gW _ hA, h1, h5⟩
  obtain ⟨hb1, hrun, hrows, hts, hhs, hpr⟩ := h.grownP hk (.inr rfl) hg hrow
  obtain ⟨hk1, hk2⟩ := List.getElem?_eq_some_iff.1 hk
  have henc : encTx { t with W := t.W.set i ⟨p.at_, v⟩ } = encTx t := by unfold encTx; simp
  exact {
    base := hb1
    rge := h.rge
    run := by
      have e : runCells a { m with T := m.T.set k { t with W := t.W.set i ⟨p.at_, v⟩ } } pw pm pv who = runCells a m pw pm pv who := by unfold runCells; simp
      rw [e]; exact hrun
    wrow := hrows (by decide) h.wrow
    lrow := hrows (by decide) h.lrow
    trow := by
      have e : (m.T.set k { t with W := t.W.set i ⟨p.at_, v⟩ }).flatMap encTx = m.T.flatMap encTx := by
        rw [← flat_set1 encTx encTx_len m.T k hk1 0 (by omega) (.int .i64 t.st) { t with W := t.W.set i ⟨p.at_, v⟩ } (by rw [hk2, henc]; rfl)]
        have h0 : (m.T.flatMap encTx)[k * 11 + 0]? = some (.int .i64 t.st) := flat_get encTx encTx_len m.T k hk1 0 _ (by rw [hk2]; rfl)
        obtain ⟨h1, h2⟩ := List.getElem?_eq_some_iff.1 h0
        rw [← h2, List.set_getElem_self]
      rw [List.length_set, e]
      exact hrows (by decide) h.trow
    hrow := hrows (by decide) h.hrow
    ts := fun j t' hj => by
      rw [List.getElem?_set] at hj
      split at hj
      · rename_i e
        subst e
        obtain rfl := Option.some.inj (by simpa using hj)
        refine ⟨hpr (by omega) htk.R htk.gR, ?_, htk.gR, htk.gW⟩
        unfold PRow
        have h5 := own_set hWr (i * 2 + 1) (.int .i64 v)
        rw [flat_set1 encPr encPr_len t.W i hi1 1 (by omega) (.int .i64 v) ⟨p.at_, v⟩ (by rw [hi2]; rfl)] at h5
        rw [hA, List.length_set]
        exact h5
      · rename_i e
        exact hts j t' hj (fun e2 => e e2.symm)
    hs := fun x hx => hhs x hx }

theorem write_found {l : List Pr} {at_ v : Int} {i : Nat} {p : Pr} (hi : l[i]? = some p) (hp : p.at_ = at_) (hlt : ∀ j q, l[j]? = some q → j < i → q.at_ < at_) : writeP l at_ v = l.set i ⟨p.at_, v⟩ := by
  obtain ⟨hi1, hi2⟩ := List.getElem?_eq_some_iff.1 hi
  have hf : l.findIdx (fun q => decide (at_ ≤ q.at_)) = i := by
    rw [List.findIdx_eq hi1]
    refine ⟨by rw [hi2]; simpa using by omega, fun j hj => ?_⟩
    have := hlt j _ (List.getElem?_eq_getElem (by omega)) hj
    simpa using this
  unfold writeP
  rw [hf, hi]
  simp [hp]
theorem write_new {l : List Pr} {at_ v : Int} {i : Nat} (hi : i ≤ l.length) (hlt : ∀ j q, l[j]? = some q → j < i → q.at_ < at_) (hgt : ∀ p, l[i]? = some p → at_ < p.at_) : writeP l at_ v = l.take i ++ ⟨at_, v⟩ :: l.drop i := by
  rcases Nat.lt_or_ge i l.length with h1 | h1
  · have hg := hgt _ (List.getElem?_eq_getElem h1)
    have hf : l.findIdx (fun q => decide (at_ ≤ q.at_)) = i := by
      rw [List.findIdx_eq h1]
      refine ⟨by simp; omega, fun j hj => ?_⟩
      have := hlt j _ (List.getElem?_eq_getElem (by omega)) hj
      simpa using this
    unfold writeP
    rw [hf, List.getElem?_eq_getElem h1]
    simp only
    rw [if_neg (by omega)]
  · obtain rfl : i = l.length := by omega
    have hf : l.findIdx (fun q => decide (at_ ≤ q.at_)) = l.length := by
      rw [List.findIdx_eq_length]
      intro q hq
      obtain ⟨j, hj, rfl⟩ := List.getElem_of_mem hq
      have := hlt j _ (List.getElem?_eq_getElem hj) hj
      simpa using this
    unfold writeP
    rw [hf, List.getElem?_eq_none (Nat.le_refl _), List.take_length, List.drop_length]

/-- What write leaves. -/
def WritePost (w0 : World) (r : Nat) (a : Ad) (m : Mm) (k : Nat) (t : Tx) (W : List Pr) (pw pm : Int) (pv : Value) (e : Ending) (w' : World) : Prop :=
  e = .returned (.tuple #[]) ∧ ∃ φ' A c, RunW w0 w' r φ' a { m with T := m.T.set k { t with wA := A, wc := c, W := W } } pw pm pv (k : Int)

set_option maxHeartbeats 4000000 in
theorem write_any {k : Nat} {t : Tx} (h : RunW w0 w r φ a m pw pm pv (k : Int)) (hk : m.T[k]? = some t) (at_ v : Int) (hW : t.W.length ≤ 1000) :
    Calls Try.prog 62 #[.pointer (some ⟨r, 0, none⟩), .int .i64 at_, .int .i64 v] w (WritePost w0 r a m k t (writeP t.W at_ v) pw pm pv) := by
  have HME := Lib.hid (me_any h hk)
  have HH := Lib.hid h
  have HK := Lib.hid hk
  have HP := Lib.hid (fun W (hb : Below w.heap.size w W) (h0 : 0 < t.W.length) => (((h.keep hb).ts k t hk).W.pairs h0))
  obtain ⟨n, hn⟩ : ∃ n, n = t.W.length := ⟨_, rfl⟩
  obtain ⟨wA, hA⟩ : ∃ y, y = t.wA := ⟨_, rfl⟩
  have HC8 := Lib.hid (fun W (hb : Below w.heap.size w W) => (show W.cell? ⟨a.gT, k * 11 + 8, none⟩ = some (.slice wA n t.wc) from by rw [hA, hn]; exact (h.keep hb).tcells hk (j := 8) rfl))
  have HN := Lib.hid hn
  have HA := Lib.hid hA
  rw [← hn] at hW
  clear h hk hn hA
  go_enter Try.func62, Try.ntmps62
  go_wp2
  go_step3
  go_wp2_with fail
  refine HME.out.mono ?_
  rintro e w1 ⟨rfl, hb1⟩
  have HB1 := Lib.hid hb1
  have c8 := HC8.out _ hb1
  clear hb1 HME
  go_wp2
  go_step3
  have HSP : Hid (∀ i p, t.W[i]? = some p → p.at_ = at_ → (∀ j q, t.W[j]? = some q → j < i → q.at_ < at_) → ∀ W b, Below w.heap.size w W → t.wA = some ⟨b, 0, none⟩ → WritePost w0 r a m k t (writeP t.W at_ v) pw pm pv (.returned (.tuple #[])) (W.setCell ⟨b, i * 2 + 1, none⟩ (.int .i64 v))) := by
    intro i p hi hp hlt W b hW hb
    refine ⟨rfl, φ, t.wA, t.wc, ?_⟩
    rw [write_found hi hp hlt]
    exact (HH.out.keep hW).setV HK.out hb hi v
  go_upto_block 0 with fail
  go_cut [7] (fun s7 wx => ∃ i : Nat, i ≤ n ∧ s7 = .int .i64 i ∧ Hid ((∀ j q, t.W[j]? = some q → j < i → q.at_ < at_) ∧ (∀ p, t.W[i]? = some p → at_ < p.at_) ∧ Below w.heap.size w wx))
  case first =>
    go_wp2_with fail
    clear c8
    go_loopg [7, 22] n (fun gg s7 s22 wr => ∃ i : Nat, i ≤ n ∧ n - i ≤ gg ∧ s7 = .int .i64 n ∧ s22 = .int .i64 i ∧ Hid ((∀ j q, t.W[j]? = some q → j < i → q.at_ < at_) ∧ Below w.heap.size w wr))
    case atStart => exact ⟨0, by omega, by omega, by go_num, by go_num, (show Hid _ from ⟨fun j q _ hj => absurd hj (Nat.not_lt_zero _), HB1.out⟩)⟩
    case round =>
      obtain ⟨i, hin, hg, rfl, rfl, HI⟩ := hrel
      by_cases hlt : i < n
      · have hltz : (i : Int) < (n : Int) := by omega
        have hi0 : (0 : Int) ≤ (i : Int) := by omega
        have hil : i < t.W.length := by rw [← HN.out]; exact hlt
        obtain ⟨b, hb, hbl, _, _, ⟨cur, hcur⟩, hp⟩ := HP.out wr HI.out.2 (by omega)
        have hbA : wA = some ⟨b, 0, none⟩ := HA.out.trans hb
        subst hbA
        have hpi := List.getElem?_eq_getElem hil
        have hcells := hp i _ hpi
        have HPI := Lib.hid hpi
        generalize t.W[i] = x at *
        have c0 := hcells.1
        have c1 := hcells.2
        have hfz := hcur.free (i * 2 + 1)
        have HB := Lib.hid hb
        have hct := (HH.out.keep HI.out.2).tcells HK.out (j := 8) rfl
        rw [hb, ← HN.out] at hct
        have hTl := (HH.out.keep HI.out.2).apart.2.2.2.1
        have hWA : Below wr.heap.size wr (wr.alloc (.cells #[.int .i64 x.at_, .int .i64 x.v] 55)) := (Below.refl _ _).alloc (Nat.le_refl _) _
        have HWA := Lib.hid (HI.out.2.trans (hWA.mono HI.out.2.size))
        clear hcur hp hpi hcells hb hWA
        by_cases heq : x.at_ = at_
        · have heqb : (x.at_ == at_) = true := by simpa using heq
          have HF := Lib.hid (HSP.out i x HPI.out heq HI.out.1 _ b HI.out.2 HB.out)
          clear heq
          go_wp2
          refine bodyPost_ret (results_none rfl _ _ _) rfl ?_
          obtain ⟨e5, φ5, A5, c5, h5⟩ := HF.out
          exact ⟨e5, φ5, A5, c5, h5.keep ((Below.refl _ _).alloc (Nat.le_refl _) _)⟩
        · have heqb : (x.at_ == at_) = false := by simpa using heq
          by_cases hgt : at_ < x.at_
          · have HG := Lib.hid hgt
            clear heq
            go_wp2_with fail
            go_meet
            refine ⟨i, by omega, rfl, (show Hid _ from ⟨HI.out.1, fun p hp => ?_, HWA.out⟩)⟩
            rw [HPI.out] at hp
            injection hp with hp
            rw [← hp]
            exact HG.out
          · have HL : Hid (∀ j q, t.W[j]? = some q → j < i + 1 → q.at_ < at_) := by
              intro j q hj hji
              rcases Nat.lt_or_ge j i with h1 | h1
              · exact HI.out.1 j q hj h1
              · obtain rfl : j = i := by omega
                rw [HPI.out] at hj
                injection hj with hj
                subst hj
                omega
            clear heq
            go_wp2
            go_roundg (n - (i + 1))
            case measure => omega
            case rel => exact ⟨i + 1, by omega, by omega, by go_num, by go_num, (show Hid _ from ⟨HL.out, HWA.out⟩)⟩
      · obtain rfl : n = i := by omega
        go_wp2_with fail
        go_meet
        refine ⟨n, by omega, rfl, (show Hid _ from ⟨HI.out.1, fun p hp => ?_, HI.out.2⟩)⟩
        rw [List.getElem?_eq_none (by rw [← HN.out]; exact Nat.le_refl _)] at hp
        cases hp
  case rest =>
    obtain ⟨i, hin, rfl, HI⟩ := hcut
    clear c8
    have c8 := HC8.out _ HI.out.2.2
    have hTl := (HH.out.keep HI.out.2.2).apart.2.2.2.1
    have hA1 : Below wc.heap.size wc (wc.alloc (.cells #[.int .i64 at_, .int .i64 v] 55)) := (Below.refl _ _).alloc (Nat.le_refl _) _
    have H1 := Lib.hid ((HH.out.keep HI.out.2.2).keep hA1)
    have hbl : Blk (wc.alloc (.cells #[.int .i64 at_, .int .i64 v] 55)) wc.heap.size 55 #[.int .i64 at_, .int .i64 v] := Blk.new _ _ _
    have HINS := Lib.hid (insert_any w0.heap.size t.wA t.wc t.W i ⟨at_, v⟩ wc.heap.size _ (H1.out.ts k t HK.out).W H1.out.base.size (by rw [← HN.out]; exact hW) (by rw [← HN.out]; exact hin) hbl (fun b hb e => by have := (((HH.out.keep HI.out.2.2).ts k t HK.out).W.lt hb).1; omega))
    rw [← HN.out, ← HA.out] at HINS
    clear hbl hA1
    go_wp2_with fail
    refine HINS.out.mono ?_
    rintro e w3 ⟨A3, c3, rfl, hP3, hG3, hat3⟩
    rw [HA.out] at hG3 hat3
    have hnew := H1.out.newW HK.out hG3 hP3 hat3
    have htk := H1.out.ts k t HK.out
    have ht3 := (H1.out.grownP HK.out (.inr rfl) hG3 (prow_row htk.W htk.gW)).2.2.1 (by decide) H1.out.trow
    obtain ⟨hk1, hk2⟩ := List.getElem?_eq_some_iff.1 HK.out
    have d8 : w3.cell? ⟨a.gT, k * 11 + 8, none⟩ = some (.slice t.wA t.W.length t.wc) := by
      have := ht3.cells (g := a.gT) rfl _ _ (flat_get encTx encTx_len m.T k hk1 8 _ (by rw [hk2]; rfl))
      rwa [add_none, Nat.zero_add] at this
    have f8 : w3.frozen? ⟨a.gT, k * 11 + 8, none⟩ = false := by
      obtain ⟨_, _, _, _, cur, hB⟩ := own_blk ht3
      exact hB.free _
    have hlen := ins_len (l := t.W) (i := i) (by rw [← HN.out]; exact hin) ⟨at_, v⟩
    rw [hlen] at hnew
    have HWN := Lib.hid (write_new (v := v) (by rw [← HN.out]; exact hin) HI.out.1 HI.out.2.1)
    have HNEW := Lib.hid hnew
    clear hG3 hat3 hnew htk ht3 hk1 hk2 hP3 hlen
    go_wp2
    go_end0
    have h9 := HNEW.out
    rw [← HWN.out] at h9
    exact ⟨rfl, _, _, _, h9⟩
end
end Go.Proofs.Ytngimbfojccikaa
namespace Go.Proofs.Ytngimbfojccikaa
set_option linter.unusedSimpArgs false
open Go Go.RowKit
set_option linter.unusedVariables false
set_option maxRecDepth 100000

set_option maxHeartbeats 1000000 in
theorem get1_any (x : Pr) (B : Nat) (at_ : Int) (w : World) (hB : B < w.heap.size) (hc : w.cell? ⟨B, 0, none⟩ = some (.int .i64 at_)) :
    Calls Try.prog 85 #[.agg (encPr x).toArray, .pointer (some ⟨B, 0, none⟩)] w fun e w' => e = .returned (.bool (x.at_ == at_)) ∧ Below w.heap.size w w' := by
  have hb0 : Below w.heap.size w (w.alloc (.cells (encPr x).toArray 55)) := (Below.refl _ w).alloc (Nat.le_refl _) _
  simp only [encPr] at hb0 ⊢
  cases h : (x.at_ == at_) with
  | true =>
    go_enter Try.func85, Try.ntmps85
    go_wp2
    go_ret
    exact ⟨rfl, hb0⟩
  | false =>
    go_enter Try.func85, Try.ntmps85
    go_wp2
    go_ret
    exact ⟨rfl, hb0⟩

section
variable {w0 w w' : World} {r : Nat} {φ : Nat → Nat} {a : Ad} {m : Mm} {pw pm : Int} {pv : Value}

/-- What get leaves. -/
def GetPost (w0 : World) (r : Nat) (φ : Nat → Nat) (a : Ad) (m : Mm) (k : Nat) (t : Tx) (q : Option (Int × List Pr)) (pw pm : Int) (pv : Value) (e : Ending) (w' : World) : Prop :=
  match q with
  | some (v, R) => e = .returned (.tuple #[.int .i64 v, .bool true]) ∧ ∃ φ' A c, RunW w0 w' r φ' a { m with T := m.T.set k { t with rA := A, rc := c, R := R } } pw pm pv (k : Int)
  | none => e = .returned (.tuple #[.int .i64 0, .bool false]) ∧ RunW w0 w' r φ a m pw pm pv (k : Int)

theorem idx_hit {l : List Pr} {at_ : Int} {p : Pr} {i : Nat} (hi : l.findIdx (fun p => p.at_ == at_) = i) (hp : l[i]? = some p) : idxF (fun p : Pr => p.at_ == at_) l = (i : Int) := by
  unfold idxF
  rw [hi, if_pos (List.getElem?_eq_some_iff.1 hp).1]
theorem idx_miss {l : List Pr} {at_ : Int} (hp : l[l.findIdx (fun p => p.at_ == at_)]? = none) : idxF (fun p : Pr => p.at_ == at_) l = -1 := by
  unfold idxF
  rw [List.getElem?_eq_none_iff] at hp
  rw [if_neg (by omega)]

set_option maxHeartbeats 4000000 in
theorem get_own {k : Nat} {t : Tx} (h : RunW w0 w r φ a m pw pm pv (k : Int)) (hk : m.T[k]? = some t) (at_ : Int) (i : Nat) (p : Pr) (hi : t.W.findIdx (fun p => p.at_ == at_) = i) (hp : t.W[i]? = some p) :
    Calls Try.prog 63 #[.pointer (some ⟨r, 0, none⟩), .int .i64 at_] w (GetPost w0 r φ a m k t (some (p.v, t.R)) pw pm pv) := by
  have eg : ∀ args w, (callFunc 85 args).run Try.prog w = .ok (.enter 85 args) w := enters_of Try.func85 (by kernel_rfl) rfl
  have hA0 : Below w.heap.size w (w.alloc (.cells #[.int .i64 at_] 3)) := (Below.refl _ _).alloc (Nat.le_refl _) _
  have hbx : Blk (w.alloc (.cells #[.int .i64 at_] 3)) w.heap.size 3 #[.int .i64 at_] := Blk.new _ _ _
  have HME := Lib.hid (me_any (h.keep hA0) hk)
  have HH := Lib.hid (h.keep hA0)
  have hix := idx_hit hi hp
  have hil : i < t.W.length := (List.getElem?_eq_some_iff.1 hp).1
  have HIX := Lib.hid (fun W (hb : Below (w.alloc (.cells #[.int .i64 at_] 3)).heap.size (w.alloc (.cells #[.int .i64 at_] 3)) W) => hix ▸ index_pair (fun x => x.at_ == at_) 85 #[.pointer (some ⟨w.heap.size, 0, none⟩)] eg (.slice t.wA t.W.length t.wc) t.W W
    (fun W2 x hb2 => get1_any x w.heap.size at_ W2 (Nat.lt_of_lt_of_le hbx.lt (Nat.le_trans hb.size hb2.size)) (by rw [((hbx.keep hb).keep hb2).cell]; rfl)) (Sl.of_own (((h.keep hA0).keep hb).ts k t hk).W))
  obtain ⟨b, hbA, _, _, _, _, _⟩ := (h.ts k t hk).W.pairs (by omega)
  have HPC := Lib.hid (fun W (hb : Below (w.alloc (.cells #[.int .i64 at_] 3)).heap.size (w.alloc (.cells #[.int .i64 at_] 3)) W) => (show W.cell? ⟨b, i * 2 + 1, none⟩ = some (.int .i64 p.v) from by
    obtain ⟨b', hbA', _, _, _, _, hpp⟩ := (((h.keep hA0).keep hb).ts k t hk).W.pairs (by omega)
    rw [hbA] at hbA'
    injection hbA' with e
    injection e with e
    subst e
    exact (hpp i p hp).2))
  obtain ⟨n, hn⟩ : ∃ n, n = t.W.length := ⟨_, rfl⟩
  have HC8 := Lib.hid (fun W (hb : Below (w.alloc (.cells #[.int .i64 at_] 3)).heap.size (w.alloc (.cells #[.int .i64 at_] 3)) W) => (show W.cell? ⟨a.gT, k * 11 + 8, none⟩ = some (.slice (some ⟨b, 0, none⟩) n t.wc) from by rw [← hbA, hn]; exact ((h.keep hA0).keep hb).tcells hk (j := 8) rfl))
  rw [hbA, ← hn] at HIX
  have hiz : (i : Int) < (n : Int) := by omega
  have hi0 : (0 : Int) ≤ (i : Int) := by omega
  have HK := Lib.hid hk
  clear h hk hbx hA0 hn hbA hix hi hp hil eg
  go_enter Try.func63, Try.ntmps63
  go_wp2_with fail
  refine HME.out.mono ?_
  rintro e w1 ⟨rfl, hb1⟩
  have HB1 := Lib.hid hb1
  have c8 := HC8.out _ hb1
  clear hb1 HME
  go_wp2_with fail
  refine (HIX.out _ HB1.out).mono ?_
  rintro e w2 ⟨rfl, hb2⟩
  have HB2 := Lib.hid (HB1.out.trans (hb2.mono HB1.out.size))
  clear hb2 c8
  have c8 := HC8.out _ HB2.out
  have c1 := HPC.out _ HB2.out
  go_wp2
  go_ret2
  exact ⟨rfl, φ, t.rA, t.rc, (HH.out.keep HB2.out).tc0 HK.out⟩

set_option maxHeartbeats 4000000 in
theorem get_no {k : Nat} {t : Tx} (h : RunW w0 w r φ a m pw pm pv (k : Int)) (hk : m.T[k]? = some t) (at_ : Int) (hp : t.W[t.W.findIdx (fun p => p.at_ == at_)]? = none) (hs : seesL m.now m.mx m.L at_ t.rv (k : Int) = false) :
    Calls Try.prog 63 #[.pointer (some ⟨r, 0, none⟩), .int .i64 at_] w (GetPost w0 r φ a m k t none pw pm pv) := by
  have eg : ∀ args w, (callFunc 85 args).run Try.prog w = .ok (.enter 85 args) w := enters_of Try.func85 (by kernel_rfl) rfl
  have hA0 : Below w.heap.size w (w.alloc (.cells #[.int .i64 at_] 3)) := (Below.refl _ _).alloc (Nat.le_refl _) _
  have hbx : Blk (w.alloc (.cells #[.int .i64 at_] 3)) w.heap.size 3 #[.int .i64 at_] := Blk.new _ _ _
  have HME := Lib.hid (me_any (h.keep hA0) hk)
  have HH := Lib.hid (h.keep hA0)
  have hix := idx_miss hp
  have HIX := Lib.hid (fun W (hb : Below (w.alloc (.cells #[.int .i64 at_] 3)).heap.size (w.alloc (.cells #[.int .i64 at_] 3)) W) => hix ▸ index_pair (fun x => x.at_ == at_) 85 #[.pointer (some ⟨w.heap.size, 0, none⟩)] eg (.slice t.wA t.W.length t.wc) t.W W
    (fun W2 x hb2 => get1_any x w.heap.size at_ W2 (Nat.lt_of_lt_of_le hbx.lt (Nat.le_trans hb.size hb2.size)) (by rw [((hbx.keep hb).keep hb2).cell]; rfl)) (Sl.of_own (((h.keep hA0).keep hb).ts k t hk).W))
  have HSE := Lib.hid (fun W (hb : Below (w.alloc (.cells #[.int .i64 at_] 3)).heap.size (w.alloc (.cells #[.int .i64 at_] 3)) W) => hs ▸ Sees_any _ m.now m.mx at_ t.rv (k : Int) m.L W ((h.keep hA0).keep hb).locks)
  obtain ⟨n, hn⟩ : ∃ n, n = t.W.length := ⟨_, rfl⟩
  have HC8 := Lib.hid (fun W (hb : Below (w.alloc (.cells #[.int .i64 at_] 3)).heap.size (w.alloc (.cells #[.int .i64 at_] 3)) W) => (show W.cell? ⟨a.gT, k * 11 + 8, none⟩ = some (.slice t.wA n t.wc) from by rw [hn]; exact ((h.keep hA0).keep hb).tcells hk (j := 8) rfl))
  have HC := Lib.hid (fun W (hb : Below (w.alloc (.cells #[.int .i64 at_] 3)).heap.size (w.alloc (.cells #[.int .i64 at_] 3)) W) => (show W.cell? ⟨r, 1, none⟩ = some (.int .i64 m.now) ∧ W.cell? ⟨r, 2, none⟩ = some (.int .i64 m.mx) ∧ W.cell? ⟨r, 3, none⟩ = some (.slice a.lA m.L.length a.lc) ∧ W.cell? ⟨r, 10, none⟩ = some (.int .i64 (k : Int)) ∧ W.cell? ⟨a.gT, k * 11 + 4, none⟩ = some (.int .i64 t.rv) ∧ W.cell? ⟨w.heap.size, 0, none⟩ = some (.int .i64 at_) from
    ⟨((h.keep hA0).keep hb).rcells 1, ((h.keep hA0).keep hb).rcells 2, ((h.keep hA0).keep hb).rcells 3, ((h.keep hA0).keep hb).rcells 10, ((h.keep hA0).keep hb).tcells hk (j := 4) rfl, by rw [(hbx.keep hb).cell]; rfl⟩))
  rw [← hn] at HIX
  clear h hk hbx hA0 hn hix hp hs eg
  go_enter Try.func63, Try.ntmps63
  go_wp2_with fail
  refine HME.out.mono ?_
  rintro e w1 ⟨rfl, hb1⟩
  have HB1 := Lib.hid hb1
  have c8 := HC8.out _ hb1
  clear hb1 HME
  go_wp2_with fail
  refine (HIX.out _ HB1.out).mono ?_
  rintro e w2 ⟨rfl, hb2⟩
  have HB2 := Lib.hid (HB1.out.trans (hb2.mono HB1.out.size))
  clear hb2 c8
  go_wp2_with fail
  refine wp_region_held_drew (S := fun W => W.cell? ⟨r, 1, none⟩ = some (.int .i64 m.now) ∧ W.cell? ⟨r, 2, none⟩ = some (.int .i64 m.mx) ∧ W.cell? ⟨r, 3, none⟩ = some (.slice a.lA m.L.length a.lc) ∧ W.cell? ⟨r, 10, none⟩ = some (.int .i64 (k : Int)) ∧ W.cell? ⟨a.gT, k * 11 + 4, none⟩ = some (.int .i64 t.rv) ∧ W.cell? ⟨w.heap.size, 0, none⟩ = some (.int .i64 at_)) (by kernel_rfl) ?_ (fun hbr => ?_)
  · exact HC.out _ (HB2.out.trans ((Below.refl _ _).drew.mono HB2.out.size))
  refine tkA 0 ?_
  refine tkA 1 ?_
  refine tkA 2 ?_
  refine tkA 3 ?_
  refine tkA 4 ?_
  refine tkA 5 ?_
  refine tkA 6 ?_
  refine tkA 7 ?_
  refine tkA 8 ?_
  refine tkA 9 ?_
  refine tkA 10 ?_
  refine tkA 11 ?_
  refine tkA 12 ?_
  refine tkA 13 ?_
  refine stA 14 (fun K hK => ?_)
  go_simp
  refine (HSE.out _ (HB2.out.trans ((Below.refl _ _).drew.mono HB2.out.size))).mono ?_
  rintro e w3 ⟨rfl, hb3⟩
  have HB3 := Lib.hid ((HB2.out.trans ((Below.refl w2.heap.size w2).drew.mono HB2.out.size)).trans (hb3.mono HB2.out.size))
  clear hb3
  try go_wp2_with fail
  refine hK.out _ _ ?_ (fun hbr14 => ?_)
  · exact HC.out _ HB3.out
  clear hK K hbr
  try simp only [Act.put, List.setIfInBounds_toArray, List.set_cons_zero, List.set_cons_succ]
  refine tkA 15 ?_
  refine wpAnyH_done (by kernel_rfl) ?_ _
  go_wp2
  go_ret2
  exact ⟨rfl, HH.out.keep HB3.out⟩
end
end Go.Proofs.Ytngimbfojccikaa
