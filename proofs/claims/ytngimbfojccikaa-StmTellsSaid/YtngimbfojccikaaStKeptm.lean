/- What holds of the machine is kept by each step: plain. -/
import Derived.Test.YtngimbfojccikaaStGoodm
namespace Go.Proofs.Ytngimbfojccikaa
set_option linter.unusedSimpArgs false
open Go
set_option linter.unusedVariables false

section
variable {words : Nat} {mx : Int} {pl : List (List (List Ac))} {m : Mm} {k : Nat} {t : Tx} {txs : List (List Ac)}

theorem overT_good (hg : GoodT words txs t) (hlt : t.tx < (txs.length : Int)) (how : Int) : GoodT words txs (overT t how) := by
  have h0 := hg.x0
  have h1 := hg.y0
  have h2 := hg.y3
  unfold overT
  split
  · rename_i h
    exact { s0 := by simp [Tx.zero], s5 := by simp [Tx.zero], x0 := h0, x1 := by show t.tx ≤ _; omega, x2 := fun h => absurd rfl h, y0 := h1, y2 := fun _ => by show t.try_ ≤ 2; omega, y3 := h2, c0 := by simp [Tx.zero], c1 := by simp [Tx.zero], rl := by simp [Tx.zero], wl := by simp [Tx.zero], ws := List.Pairwise.nil, wa := fun p hp => by simp [Tx.zero] at hp, ra := fun p hp => by simp [Tx.zero] at hp, i0 := by simp [Tx.zero], i2 := fun h => by simp [Tx.zero] at h, i4 := fun h => by simp [Tx.zero] at h, i5 := fun h => by simp [Tx.zero] at h, w0 := fun h => by simp [Tx.zero] at h }
  · exact { s0 := by simp [Tx.zero], s5 := by simp [Tx.zero], x0 := by show 0 ≤ t.tx + 1; omega, x1 := by show t.tx + 1 ≤ _; omega, x2 := fun h => absurd rfl h, y0 := by simp [Tx.zero], y2 := fun _ => by simp [Tx.zero], y3 := by simp [Tx.zero], c0 := by simp [Tx.zero], c1 := by simp [Tx.zero], rl := by simp [Tx.zero], wl := by simp [Tx.zero], ws := List.Pairwise.nil, wa := fun p hp => by simp [Tx.zero] at hp, ra := fun p hp => by simp [Tx.zero] at hp, i0 := by simp [Tx.zero], i2 := fun h => by simp [Tx.zero] at h, i4 := fun h => by simp [Tx.zero] at h, i5 := fun h => by simp [Tx.zero] at h, w0 := fun h => by simp [Tx.zero] at h }

/-- One thread is another one, and the rest may be. -/
theorem Good.with (hg : Good words pl m) (htx : pl[k]? = some txs) {m' : Mm} {t' : Tx} (hT : m'.T = m.T.set k t') (hW : m'.W.length = m.W.length) (hL : m'.L.length = m.L.length) (hm : mayL m'.now m'.mx m'.L = true) (hH : m'.H.length ≤ m.H.length + 1) (htime : m'.time = m.time)
    (ht : GoodT words txs t') : Good words pl (timeM m') := by
  refine ⟨hW.trans hg.W, hL.trans hg.L, hm, ?_, ?_, ?_⟩
  · show m'.T.length = _
    rw [hT, List.length_set]; exact hg.T
  · intro j t2 txs2 hj htx2
    replace hj : m'.T[j]? = some t2 := hj
    rw [hT, List.getElem?_set] at hj
    split at hj
    · rename_i e
      subst e
      split at hj
      · injection hj with hj
        subst hj
        rw [htx] at htx2
        injection htx2 with htx2
        subst htx2
        exact ht
      · cases hj
    · exact hg.ts j t2 txs2 hj htx2
  · have := hg.h
    show (m'.H.length : Int) ≤ m'.time + 1
    rw [htime]
    omega

theorem take_may' {now mx : Int} {ls : List Lk} (hm : mayL now mx ls = true) (i who : Int) : mayL now mx (takeL now mx ls i who).2 = true := by
  by_cases h : (takeL now mx ls i who).1 = 0
  · obtain ⟨k, rfl, _, h0, h4, hk, _, he⟩ := take_ok h
    rw [he]
    have := may_at hm k hk
    exact may_set hm k _ ⟨this.1, this.2.1, by show -1 ≤ who; omega, h4⟩
  · rw [take_err h]; exact hm
theorem give_may' {now mx : Int} {ls : List Lk} (hm : mayL now mx ls = true) (i who ver : Int) : mayL now mx (giveL now mx ls i who ver).2 = true := by
  by_cases h : (giveL now mx ls i who ver).1 = 0
  · obtain ⟨k, rfl, _, h0, h4, h1, h2, hk, _, _, he⟩ := give_ok h
    rw [he]
    have := may_at hm k hk
    exact may_set hm k _ ⟨by show 0 ≤ max _ _; omega, by show max _ _ ≤ now; omega, Int.le_refl _, by show (-1 : Int) < 4; omega⟩
  · rw [give_err h]; exact hm
theorem drop_may' {now mx : Int} {ls : List Lk} (h : mayL now mx ls = true) (who : Int) : mayL now mx (ls.map (dropO who)) = true := by
  rw [may_iff] at h ⊢
  refine ⟨h.1, h.2.1, h.2.2.1, by simpa using h.2.2.2.1, by simpa using h.2.2.2.2.1, fun x hx => ?_⟩
  obtain ⟨y, hy, rfl⟩ := List.mem_map.1 hx
  have := h.2.2.2.2.2 y hy
  unfold dropO
  split
  · exact ⟨this.1, this.2.1, by simp, by simp⟩
  · exact this
theorem tick_cases {now mx : Int} {ls : List Lk} (hm : mayL now mx ls = true) : (now = mx ∧ tickL now mx ls = (now, 0, 9)) ∨ (now < mx ∧ tickL now mx ls = (now + 1, now + 1, 0)) := by
  have h := may_iff.1 hm
  unfold tickL
  rw [if_pos hm]
  by_cases e : now = mx
  · exact .inl ⟨e, by rw [if_pos (by simpa using e)]⟩
  · exact .inr ⟨by omega, by rw [if_neg (by simpa using e)]⟩
theorem tick_may' {now mx : Int} {ls : List Lk} (hm : mayL now mx ls = true) : mayL (tickL now mx ls).1 mx ls = true := by
  rcases tick_cases hm with ⟨_, e⟩ | ⟨h1, e⟩
  · rw [e]; exact hm
  · rw [e]
    rw [may_iff] at hm ⊢
    refine ⟨hm.1, by show 0 ≤ now + 1; omega, by show now + 1 ≤ mx; omega, hm.2.2.2.1, hm.2.2.2.2.1, fun x hx => ?_⟩
    have := hm.2.2.2.2.2 x hx
    exact ⟨this.1, by show x.v ≤ now + 1; omega, this.2.2⟩
theorem doL_len' (f : Lk → Int × Lk) (now mx : Int) (ls : List Lk) (i : Int) (b : Bool) : (doL f now mx ls i b).2.length = ls.length := doL_len f now mx ls i b

theorem good_way (hp : PlanOk words mx pl) (hg : Good words pl m) (hk : m.T[k]? = some t) (htx : pl[k]? = some txs) (hlt : t.tx < (txs.length : Int)) {m' : Mm} (hw : Way txs m k t m') : Good words pl (timeM m') := by
  have gt := hg.ts k t txs hk htx
  have hmt : txs ∈ pl := List.mem_of_getElem? htx
  have hacs : ∀ a, (txs.getD t.tx.toNat [])[t.pc.toNat]? = some a → AcOk words a ∧ t.pc < ((txs.getD t.tx.toNat []).length : Int) := by
    intro a ha
    have hx0 := gt.x0
    have hxl : t.tx.toNat < txs.length := by omega
    have e : txs.getD t.tx.toNat [] = txs[t.tx.toNat] := by simp [List.getD, hxl]
    have hc := gt.c0
    have hlt2 := (List.getElem?_eq_some_iff.1 ha).1
    refine ⟨?_, by omega⟩
    rw [e] at ha
    exact hp.acs txs hmt _ (List.getElem_mem hxl) a (List.mem_of_getElem? ha)
  have hend : ∀ how, Good words pl (timeM (endM m k t how)) := fun how =>
    hg.with htx (t' := overT t how) rfl rfl rfl hg.may (by simp [endM, overM, tellM]) rfl (overT_good gt hlt how)
  have hquit : ∀ how, Good words pl (timeM (quitM m k t how)) := fun how =>
    hg.with htx (t' := overT t how) rfl rfl (by simp [quitM, endM, overM, tellM]) (drop_may' hg.may _) (by simp [quitM, endM, overM, tellM]) rfl (overT_good gt hlt how)
  cases hw with
  | begins h =>
    have h2 := gt.y2 h
    refine hg.with htx rfl rfl rfl hg.may (by simp [beginM]) rfl ?_
    exact { gt with s0 := by simp, s5 := by simp, x2 := fun _ => hlt, y0 := by have := gt.y0; show 0 ≤ t.try_ + 1; omega, y2 := fun h => by simp at h, y3 := by show t.try_ + 1 ≤ 3; omega, i2 := fun h => by simp at h, i4 := fun h => by simp at h, i5 := fun h => by simp at h, w0 := fun h => by simp at h }
  | writes h a ha hd u =>
    obtain ⟨hA, hpl⟩ := hacs a ha
    have hw := writeP_len t.W a.at_ u
    have hwl := gt.wl
    refine hg.with htx rfl rfl rfl hg.may (by simp) rfl ?_
    exact { gt with c0 := by have := gt.c0; show 0 ≤ t.pc + 1; omega, c1 := by show t.pc + 1 ≤ ((txs.getD t.tx.toNat []).length : Int); omega, rl := by have := gt.rl; show (t.R.length : Int) ≤ t.pc + 1; omega, wl := by show ((writeP t.W a.at_ u).length : Int) ≤ t.pc + 1; omega, ws := writeP_sorted gt.ws _ _, wa := writeP_at gt.wa hA.a0 hA.a1, i2 := fun h2 => by replace h2 : t.st = 2 := h2; omega, i5 := fun h2 => by replace h2 : t.st = 5 := h2; omega, w0 := fun h2 => hw.2 }
  | own h a ha hd p hp hpa u =>
    obtain ⟨hA, hpl⟩ := hacs a ha
    refine hg.with htx rfl rfl rfl hg.may (by simp) rfl ?_
    exact { gt with c0 := by have := gt.c0; show 0 ≤ t.pc + 1; omega, c1 := by show t.pc + 1 ≤ ((txs.getD t.tx.toNat []).length : Int); omega, rl := by have := gt.rl; show (t.R.length : Int) ≤ t.pc + 1; omega, wl := by have := gt.wl; show (t.W.length : Int) ≤ t.pc + 1; omega }
  | reads h a ha hd hn hs u =>
    obtain ⟨hA, hpl⟩ := hacs a ha
    refine hg.with htx rfl rfl rfl hg.may (by simp) rfl ?_
    have hra : ∀ p ∈ t.R ++ [(⟨a.at_, m.W.getD a.at_.toNat 0⟩ : Pr)], 0 ≤ p.at_ ∧ p.at_ < (words : Int) := by
      intro p hp
      rw [List.mem_append] at hp
      rcases hp with hp | hp
      · exact gt.ra p hp
      · simp at hp; subst hp; exact ⟨hA.a0, hA.a1⟩
    have hrl : ((t.R ++ [(⟨a.at_, m.W.getD a.at_.toNat 0⟩ : Pr)]).length : Int) ≤ t.pc + 1 := by have := gt.rl; rw [List.length_append]; simp; omega
    exact { gt with c0 := by have := gt.c0; show 0 ≤ t.pc + 1; omega, c1 := by show t.pc + 1 ≤ ((txs.getD t.tx.toNat []).length : Int); omega, rl := hrl, wl := by have := gt.wl; show (t.W.length : Int) ≤ t.pc + 1; omega, ra := hra, i4 := fun h2 => by replace h2 : t.st = 4 := h2; omega }
  | blind h a ha hd hn hs => exact hend 1
  | readonly h hpc hW => exact hend 0
  | holds h hpc hW =>
    refine hg.with htx rfl rfl rfl hg.may (by simp) rfl ?_
    exact { gt with s0 := by simp, s5 := by simp, x2 := fun _ => hlt, y2 := fun h => by simp at h, i0 := by simp, i2 := fun _ => by show (0 : Int) < (t.W.length : Int); omega, i4 := fun h => by simp at h, i5 := fun h => by simp at h, w0 := fun _ => by show 0 < t.W.length; omega }
  | takes h x hx ht =>
    have hi := gt.i2 h
    have h0 := gt.i0
    refine hg.with htx rfl rfl (doL_len _ _ _ _ _ _) (take_may' hg.may _ _) (by simp) rfl ?_
    obtain ⟨st', hst⟩ : ∃ st', st' = (if t.i + 1 = t.W.length then (3 : Int) else t.st) := ⟨_, rfl⟩
    have hc : (st' = 3 ∧ t.i + 1 = t.W.length) ∨ (st' = 2 ∧ t.i + 1 ≠ t.W.length) := by
      rw [hst]
      by_cases e : t.i + 1 = t.W.length
      · exact .inl ⟨if_pos e, e⟩
      · exact .inr ⟨(if_neg e).trans h, e⟩
    rw [← hst]
    exact { gt with s0 := by show 0 ≤ st'; omega, s5 := by show st' ≤ 5; omega, x2 := fun _ => hlt, y2 := fun h2 => by replace h2 : st' = 0 := h2; omega, i0 := by show 0 ≤ t.i + 1; omega, i2 := fun h2 => by replace h2 : st' = 2 := h2; show t.i + 1 < (t.W.length : Int); omega, i4 := fun h2 => by replace h2 : st' = 4 := h2; omega, i5 := fun h2 => by replace h2 : st' = 5 := h2; omega, w0 := fun _ => gt.w0 (by omega) }
  | clash h x hx ht => exact hquit 1
  | ticks h ht =>
    refine hg.with htx rfl rfl rfl (tick_may' hg.may) (by simp) rfl ?_
    exact { gt with s0 := by simp, s5 := by simp, x2 := fun _ => hlt, y2 := fun h => by simp at h, i0 := by simp, i2 := fun h => by simp at h, i4 := fun _ => by show (0 : Int) ≤ (t.R.length : Int); omega, i5 := fun h => by simp at h, w0 := fun _ => gt.w0 (by omega) }
  | late h ht => exact hquit 2
  | checks h x hx hs =>
    have h0 := gt.i0
    have hl := (List.getElem?_eq_some_iff.1 hx).1
    refine hg.with htx rfl rfl rfl hg.may (by simp) rfl ?_
    exact { gt with i0 := by show 0 ≤ t.i + 1; omega, i2 := fun h2 => by replace h2 : t.st = 2 := h2; omega, i4 := fun _ => by show t.i + 1 ≤ (t.R.length : Int); omega, i5 := fun h2 => by replace h2 : t.st = 5 := h2; omega }
  | stale h x hx hs => exact hquit 1
  | done h hx =>
    have hw := gt.w0 (by omega)
    refine hg.with htx rfl rfl rfl hg.may (by simp [tellM]) rfl ?_
    exact { gt with s0 := by simp, s5 := by simp, x2 := fun _ => hlt, y2 := fun h => by simp at h, i0 := by simp, i2 := fun h => by simp at h, i4 := fun h => by simp at h, i5 := fun _ => by show (0 : Int) < (t.W.length : Int); omega, w0 := fun _ => hw }
  | backs h x hx =>
    have h0 := gt.i0
    have hl := (List.getElem?_eq_some_iff.1 hx).1
    refine hg.with htx rfl (by simp) (doL_len _ _ _ _ _ _) (give_may' hg.may _ _ _) (by simp) rfl ?_
    split
    · exact overT_good gt hlt 0
    · rename_i hne
      exact { gt with i0 := by show 0 ≤ t.i + 1; omega, i2 := fun h2 => by replace h2 : t.st = 2 := h2; omega, i4 := fun h2 => by replace h2 : t.st = 4 := h2; omega, i5 := fun _ => by show t.i + 1 < (t.W.length : Int); have := gt.i5 h; omega }

theorem good_time (hg : Good words pl m) : Good words pl (timeM m) :=
  ⟨hg.W, hg.L, hg.may, hg.T, hg.ts, by have := hg.h; show (m.H.length : Int) ≤ m.time + 1; omega⟩
theorem good_stepK (hp : PlanOk words mx pl) (hg : Good words pl m) (k : Nat) : Good words pl (timeM (stepK pl m k)) := by
  unfold stepK
  cases hk : m.T[k]? with
  | none => exact good_time hg
  | some t =>
    cases htx : pl[k]? with
    | none => exact good_time hg
    | some txs =>
      simp only
      split
      · rename_i hlt
        exact good_way hp hg hk htx hlt (way_of (hg.ts k t txs hk htx))
      · exact good_time hg
theorem good_step (hp : PlanOk words mx pl) (hg : Good words pl m) (who : Int) : Good words pl (timeM (stepM pl m who)) := by
  unfold stepM
  split
  · exact good_stepK hp hg _
  · exact good_time hg
theorem good_init (hp : PlanOk words mx pl) : Good words pl (initM words mx pl.length) := by
  have h1 := hp.w1
  have h8 := hp.w8
  refine ⟨by simp [initM], by simp [initM], ?_, by simp [initM], ?_, by simp [initM]⟩
  · rw [may_iff]
    refine ⟨hp.m1, by simp [initM], hp.m0, by simp [initM]; omega, by simp [initM]; omega, fun x hx => ?_⟩
    simp [initM] at hx
    rw [hx.2]
    simp [initM]
  · intro k t txs hk htx
    have ht : t = Tx.zero := by
      simp [initM, List.getElem?_replicate] at hk
      exact hk.2.symm
    subst ht
    exact { s0 := by simp [Tx.zero], s5 := by simp [Tx.zero], x0 := by simp [Tx.zero], x1 := by simp [Tx.zero], x2 := fun h => absurd rfl h, y0 := by simp [Tx.zero], y2 := fun _ => by simp [Tx.zero], y3 := by simp [Tx.zero], c0 := by simp [Tx.zero], c1 := by simp [Tx.zero], rl := by simp [Tx.zero], wl := by simp [Tx.zero], ws := List.Pairwise.nil, wa := fun p hp => by simp [Tx.zero] at hp, ra := fun p hp => by simp [Tx.zero] at hp, i0 := by simp [Tx.zero], i2 := fun h => by simp [Tx.zero] at h, i4 := fun h => by simp [Tx.zero] at h, i5 := fun h => by simp [Tx.zero] at h, w0 := fun h => by simp [Tx.zero] at h }
theorem time_step (pl : List (List (List Ac))) (m : Mm) (who : Int) : (stepM pl m who).time = m.time := by
  unfold stepM
  split
  · unfold stepK
    split
    · split
      · unfold doM
        split
        · rfl
        split
        · unfold workM
          split
          · unfold actM
            split
            · rfl
            split
            · rfl
            split <;> rfl
          · split <;> rfl
        split
        · unfold holdM
          split
          · split <;> rfl
          · rfl
        split
        · unfold tickM
          split <;> rfl
        split
        · unfold checkM
          split
          · split <;> rfl
          · rfl
        · unfold backM
          split <;> rfl
      · rfl
    · rfl
  · rfl
theorem good_run (hp : PlanOk words mx pl) (picks : List Int) : Good words pl (runM words mx pl picks) ∧ (runM words mx pl picks).time = picks.length := by
  unfold runM runFrom
  have : ∀ (picks : List Int) (m : Mm), Good words pl m → Good words pl (picks.foldl (fun m who => timeM (stepM pl m who)) m) ∧ (picks.foldl (fun m who => timeM (stepM pl m who)) m).time = m.time + picks.length := by
    intro picks
    induction picks with
    | nil => intro m hg; exact ⟨hg, by simp⟩
    | cons q picks ih =>
      intro m hg
      have h := ih _ (good_step hp hg q)
      refine ⟨h.1, ?_⟩
      rw [List.foldl_cons, h.2]
      show (stepM pl m q).time + 1 + _ = _
      rw [time_step]
      simp
      omega
  have h := this picks _ (good_init hp)
  exact ⟨h.1, by rw [h.2]; simp [initM]⟩
theorem good_er (hg : Good words pl m.er) : Good words pl m := by
  refine ⟨hg.W, hg.L, hg.may, by have := hg.T; simpa [Mm.er] using this, fun k t txs hk htx => ?_, by have := hg.h; simpa [Mm.er] using this⟩
  have h := hg.ts k (erT t) txs (by rw [er_T, hk]; rfl) htx
  exact ⟨h.s0, h.s5, h.x0, h.x1, h.x2, h.y0, h.y2, h.y3, h.c0, h.c1, h.rl, h.wl, h.ws, h.wa, h.ra, h.i0, h.i2, h.i4, h.i5, h.w0⟩
end
end Go.Proofs.Ytngimbfojccikaa
