/- Layer 17: what is read behind a write, a fork, a drop; how many pages are had. -/
import Derived.Test.YtoogobenjhmjjaaTbPlain2
namespace Go.Proofs.Ytoogobenjhmjjaa
open Go
set_option linter.unusedVariables false

section
variable {cap : Int} {ps qs : List Pg} {ts : List (List Int)} {k j p : Nat} {t a : Int}

theorem tabAt_out {t : Int} (h : (ts.length : Int) ≤ t) : (tabAt ts t).length = 0 := by
  unfold tabAt
  rw [List.getD_eq_getElem?_getD, List.getElem?_eq_none (by omega)]
  rfl
theorem tabAt_in (hk : k < ts.length) : tabAt ts (k : Int) = ts[k] := by
  unfold tabAt
  rw [Int.toNat_natCast, List.getD_eq_getElem?_getD, List.getElem?_eq_getElem hk]; rfl
/-- Is there no such table, or word? -/
def outW (ts : List (List Int)) (t a : Int) : Prop := t < 0 ∨ (tabAt ts t).length = 0 ∨ a < 0 ∨ 16 ≤ a
theorem why_tab (h : MH cap ps ts) : (outW ts t a → whyH cap ps ts t a = 11) ∧ (¬ outW ts t a → whyH cap ps ts t a = 0) := by
  unfold outW
  refine ⟨fun h2 => wh11 (mayH_iff.2 h) ?_, fun h2 => wh0 (mayH_iff.2 h) ?_⟩
  · rcases h2 with e | e | e | e
    · exact .inl e
    · exact .inr (.inr (.inl e))
    · exact .inr (.inr (.inr (.inl e)))
    · exact .inr (.inr (.inr (.inr e)))
  · intro h3
    refine h2 ?_
    rcases h3 with e | e | e | e | e
    · exact .inl e
    · exact .inr (.inl (tabAt_out e))
    · exact .inr (.inl e)
    · exact .inr (.inr (.inl e))
    · exact .inr (.inr (.inr e))
theorem wget_zero (i : Nat) : wget ⟨0, 0, 0, 0, 0⟩ i = 0 := by unfold wget; split <;> rfl
theorem read_tab (h : MH cap ps ts) : (outW ts t a → readH cap ps ts t a = (0, 11)) ∧ (¬ outW ts t a → readH cap ps ts t a = (wget (oldPg ps (plAt ts t a)) (a.toNat % 4), 0)) := by
  refine ⟨fun h2 => ?_, fun h2 => ?_⟩
  · unfold readH
    rw [(why_tab h).1 h2, if_neg (by decide)]
  · unfold readH oldPg
    rw [(why_tab h).2 h2, if_pos rfl]
    split
    · rw [wget_zero]
    · rfl
/-- A word that is there: where. -/
theorem in_word (h : MH cap ps ts) (h2 : ¬ outW ts t a) : ∃ (k n : Nat) (hk : k < ts.length) (hj : n / 4 < ts[k].length), t = k ∧ a = n ∧ n < 16 ∧ plAt ts t a = ts[k][n / 4] := by
  unfold outW at h2
  simp only [not_or] at h2
  obtain ⟨h3, h4, h5, h6⟩ := h2
  obtain ⟨k, rfl⟩ := Int.eq_ofNat_of_zero_le (Int.not_lt.1 h3)
  obtain ⟨n, rfl⟩ := Int.eq_ofNat_of_zero_le (Int.not_lt.1 h5)
  have hk : k < ts.length := by
    rcases Nat.lt_or_ge k ts.length with e | e
    · exact e
    · exact absurd (tabAt_out (by omega)) h4
  rw [tabAt_in hk] at h4
  have h4' := h.four hk h4
  have hj : n / 4 < ts[k].length := by omega
  refine ⟨k, n, hk, hj, rfl, rfl, by omega, ?_⟩
  unfold plAt
  rw [tabAt_in hk, Int.toNat_natCast, List.getD_eq_getElem?_getD, List.getElem?_eq_getElem hj]; rfl

theorem wget_r (x : Pg) (n : Int) (i : Nat) : wget { x with r := n } i = wget x i := by unfold wget; split <;> rfl
theorem wget_wset (x : Pg) {m i : Nat} (v : Int) (hm : m < 4) (hi : i < 4) : wget (wset x m v) i = if i = m then v else wget x i := by
  obtain rfl | rfl | rfl | rfl : m = 0 ∨ m = 1 ∨ m = 2 ∨ m = 3 := by omega
  all_goals obtain rfl | rfl | rfl | rfl : i = 0 ∨ i = 1 ∨ i = 2 ∨ i = 3 := by omega
  all_goals rfl
theorem oldPg_in (hp : p < ps.length) : oldPg ps (p : Int) = ps[p] := by
  unfold oldPg; rw [if_neg (by omega), pgAt_get hp]

/-! ### Behind a write -/
theorem read_write {v u b : Int} (h : (writeH cap ps ts t a v).1 = 0) :
    (u = t ∧ b = a → readH cap (writeH cap ps ts t a v).2.1 (writeH cap ps ts t a v).2.2 u b = (v, 0)) ∧
    (¬ (u = t ∧ b = a) → readH cap (writeH cap ps ts t a v).2.1 (writeH cap ps ts t a v).2.2 u b = readH cap ps ts u b) ∧
    MH cap (writeH cap ps ts t a v).2.1 (writeH cap ps ts t a v).2.2 := by
  obtain ⟨k, n, hk, hj, x, qs, rfl, rfl, hn, hM, h4, hW, e⟩ := write_ok h
  rw [e]
  have hM2 := hM.wrote hk hj hW
  have hx : x < qs.length := (List.getElem?_eq_some_iff.1 hW.new).1
  have hnew := hW.new
  rw [List.getElem?_eq_getElem hx] at hnew
  have hnew := Option.some.inj hnew
  dsimp only
  have hgo : ∀ (k' n' : Nat) (hk' : k' < ts.length) (hj' : n' / 4 < ts[k'].length), plAt (ts.set k (ts[k].set (n / 4) (x : Int))) (k' : Int) (n' : Int) = if k' = k ∧ n' / 4 = n / 4 then (x : Int) else ts[k'][n' / 4] := by
    intro k' n' hk' hj'
    unfold plAt
    rw [tabAt_in (by simpa using hk'), Int.toNat_natCast]
    by_cases e1 : k' = k
    · subst e1
      rw [List.getElem_set_self, List.getD_eq_getElem?_getD]
      by_cases e2 : n' / 4 = n / 4
      · rw [if_pos ⟨rfl, e2⟩, e2, List.getElem?_set_self hj]; rfl
      · rw [if_neg (fun h => e2 h.2), List.getElem?_set_ne (Ne.symm e2), List.getElem?_eq_getElem hj']; rfl
    · rw [if_neg (fun h => e1 h.1), List.getElem_set_ne (Ne.symm e1), List.getD_eq_getElem?_getD, List.getElem?_eq_getElem hj']; rfl
  have hlen : ∀ u : Int, (tabAt (ts.set k (ts[k].set (n / 4) (x : Int))) u).length = (tabAt ts u).length := by
    intro u
    unfold tabAt
    rw [List.getD_eq_getElem?_getD, List.getD_eq_getElem?_getD]
    by_cases e1 : k = u.toNat
    · rw [← e1, List.getElem?_set_self hk, List.getElem?_eq_getElem hk]; simp
    · rw [List.getElem?_set_ne e1]
  have hout : ∀ u b : Int, outW (ts.set k (ts[k].set (n / 4) (x : Int))) u b ↔ outW ts u b := by
    intro u b
    unfold outW
    rw [hlen]
  have hin : ¬ outW ts (k : Int) (n : Int) := by
    unfold outW
    rw [tabAt_in hk]
    simp only [not_or]
    omega
  refine ⟨?_, ?_, hM2⟩
  · rintro ⟨rfl, rfl⟩
    rw [(read_tab hM2).2 (fun h => hin ((hout _ _).1 h)), hgo k n hk hj, if_pos ⟨rfl, rfl⟩, oldPg_in hx, hnew, wget_r, Int.toNat_natCast, wget_wset _ _ (by omega) (by omega), if_pos rfl]
  · intro hne
    by_cases ho : outW ts u b
    · rw [(read_tab hM2).1 ((hout _ _).2 ho), (read_tab hM).1 ho]
    · rw [(read_tab hM2).2 (fun h => ho ((hout _ _).1 h)), (read_tab hM).2 ho]
      obtain ⟨k', n', hk', hj', rfl, rfl, hn', hpl⟩ := in_word hM ho
      rw [hgo k' n' hk' hj', hpl, Int.toNat_natCast]
      by_cases e1 : k' = k ∧ n' / 4 = n / 4
      · rw [if_pos e1]
        obtain ⟨e1, e2⟩ := e1
        subst e1
        have e3 : n' % 4 ≠ n % 4 := fun e3 => hne ⟨rfl, by omega⟩
        rw [oldPg_in hx, hnew, wget_r, wget_wset _ _ (by omega) (by omega), if_neg e3]
        congr 3
        simp only [e2]
      · rw [if_neg e1]
        congr 1
        rcases hM.place hk' hj' with e2 | ⟨q, e2, hq, r1, r2⟩
        · rw [e2]; rfl
        · rw [e2, oldPg_in hq]
          have hqx : q ≠ x := by
            rintro rfl
            rcases hW.old with ⟨e3, _, hr⟩ | ⟨_, hz, _⟩
            · have := cnt_two hk hj hk' hj' e3.symm e2 (fun h => e1 ⟨h.1.symm, h.2.symm⟩)
              have := hM.refs q hq
              omega
            · have := hz hq
              omega
          by_cases e4 : ts[k][n / 4] = (q : Int)
          · rcases hW.old with ⟨e3, _⟩ | ⟨_, _, ho⟩
            · omega
            · obtain ⟨_, ho⟩ := ho q e4
              have hq2 : q < qs.length := (List.getElem?_eq_some_iff.1 ho).1
              rw [List.getElem?_eq_getElem hq2] at ho
              rw [oldPg_in hq2, Option.some.inj ho, wget_r]
          · have ho := hW.same q hq hqx (fun h => e4 h.symm)
            rw [List.getElem?_eq_getElem hq] at ho
            have hq2 : q < qs.length := (List.getElem?_eq_some_iff.1 ho).1
            rw [List.getElem?_eq_getElem hq2] at ho
            rw [oldPg_in hq2, Option.some.inj ho]

/-! ### Behind a fork -/
theorem getD_at (hk : k < ts.length) : ts.getD k [] = ts[k] := by rw [List.getD_eq_getElem?_getD, List.getElem?_eq_getElem hk]; rfl
theorem fork_ok (h : (forkH cap ps ts t).2.1 = 0) :
    ∃ (k : Nat) (hk : k < ts.length), t = k ∧ MH cap ps ts ∧ ts[k].length = 4 ∧ ts.length ≠ 5 ∧ forkH cap ps ts t = ((ts.length : Int), 0, each_shareL cap ps (pgs ts[k]), ts ++ [ts[k]]) := by
  unfold forkH at h ⊢
  split at h
  · rename_i h0
    rw [if_pos h0]
    obtain ⟨hmy, k, rfl, hk, htab, hne, ha0, ha1⟩ := why_ok h0
    have hM := mayH_iff.1 hmy
    rw [Int.toNat_natCast] at *
    unfold forkS at h ⊢
    split at h
    · simp at h
    · rename_i h5
      rw [if_neg h5, getD_at hk]
      exact ⟨k, hk, rfl, hM, hM.four hk hne, h5, rfl⟩
  · rename_i h0
    exact absurd h h0
theorem fork_err (h : (forkH cap ps ts t).2.1 ≠ 0) : (forkH cap ps ts t).2.2 = (ps, ts) := by
  unfold forkH forkS at *
  split at h
  · rename_i h0
    rw [if_pos h0]
    split at h
    · rename_i h5
      rw [if_pos h5]
    · simp at h
  · rename_i h0
    rw [if_neg h0]
theorem oldPg_share (hM : MH cap ps ts) (hk : k < ts.length) (x : Int) (i : Nat) : wget (oldPg (each_shareL cap ps (pgs ts[k])) x) i = wget (oldPg ps x) i := by
  unfold oldPg
  split
  · rfl
  · unfold pgAt
    have hl := each_shareL_len cap (pgs ts[k]) ps
    rw [List.getD_eq_getElem?_getD, List.getD_eq_getElem?_getD]
    rcases Nat.lt_or_ge x.toNat ps.length with e | e
    · rw [(hM.share hk).2 _ e, List.getElem?_eq_getElem e]
      exact wget_r _ _ _
    · rw [List.getElem?_eq_none (by omega), List.getElem?_eq_none e]
theorem read_fork {u b : Int} (h : (forkH cap ps ts t).2.1 = 0) :
    (forkH cap ps ts t).1 = (ts.length : Int) ∧ MH cap (forkH cap ps ts t).2.2.1 (forkH cap ps ts t).2.2.2 ∧
    (u ≠ (ts.length : Int) → readH cap (forkH cap ps ts t).2.2.1 (forkH cap ps ts t).2.2.2 u b = readH cap ps ts u b) ∧
    readH cap (forkH cap ps ts t).2.2.1 (forkH cap ps ts t).2.2.2 (ts.length : Int) b = readH cap (forkH cap ps ts t).2.2.1 (forkH cap ps ts t).2.2.2 t b := by
  obtain ⟨k, hk, rfl, hM, h4, h5, e⟩ := fork_ok h
  rw [e]
  dsimp only
  have hM2 := hM.fork hk h5
  have hold : ∀ u : Int, u < 0 ∨ u ≠ (ts.length : Int) → (u < 0 ∨ tabAt (ts ++ [ts[k]]) u = tabAt ts u) := by
    intro u hu
    rcases Int.lt_or_le u 0 with e | e
    · exact .inl e
    · refine .inr ?_
      unfold tabAt
      rw [List.getD_eq_getElem?_getD, List.getD_eq_getElem?_getD]
      rcases Nat.lt_or_ge u.toNat ts.length with e1 | e1
      · rw [List.getElem?_append_left e1]
      · rw [List.getElem?_eq_none (by simp; omega), List.getElem?_eq_none e1]
  have hnew : tabAt (ts ++ [ts[k]]) (ts.length : Int) = ts[k] := by
    unfold tabAt
    rw [Int.toNat_natCast, List.getD_eq_getElem?_getD]; simp
  have heq : ∀ (ts1 : List (List Int)) (qs1 : List Pg) (u u1 : Int), MH cap qs1 ts1 → (∀ x i, wget (oldPg (each_shareL cap ps (pgs ts[k])) x) i = wget (oldPg qs1 x) i) → (u < 0 ↔ u1 < 0) → (u < 0 ∨ tabAt (ts ++ [ts[k]]) u = tabAt ts1 u1) →
      readH cap (each_shareL cap ps (pgs ts[k])) (ts ++ [ts[k]]) u b = readH cap qs1 ts1 u1 b := by
    intro ts1 qs1 u u1 hM1 hw hs ht
    by_cases ho : outW (ts ++ [ts[k]]) u b
    · rw [(read_tab hM2).1 ho, (read_tab hM1).1]
      unfold outW at ho ⊢
      rcases ht with e | e
      · exact .inl (hs.1 e)
      · rw [← e]
        rcases ho with e1 | e1
        · exact .inl (hs.1 e1)
        · exact .inr e1
    · have ho1 : ¬ outW ts1 u1 b := by
        intro ho1
        refine ho ?_
        unfold outW at ho1 ⊢
        rcases ht with e | e
        · exact .inl e
        · rw [e]
          rcases ho1 with e1 | e1
          · exact .inl (hs.2 e1)
          · exact .inr e1
      rw [(read_tab hM2).2 ho, (read_tab hM1).2 ho1, hw]
      have hpl : plAt (ts ++ [ts[k]]) u b = plAt ts1 u1 b := by
        unfold plAt
        rcases ht with e | e
        · unfold outW at ho; exact absurd (.inl e) ho
        · rw [e]
      rw [hpl]
  refine ⟨rfl, hM2, fun hu => ?_, ?_⟩
  · exact heq ts ps u u hM (fun x i => oldPg_share hM hk x i) Iff.rfl (hold u (.inr hu))
  · refine heq _ _ _ _ hM2 (fun _ _ => rfl) (by omega) (.inr ?_)
    rw [hnew]
    rcases hold (k : Int) (.inr (by omega)) with e | e
    · omega
    · rw [e, tabAt_in hk]

/-! ### Behind a drop -/
theorem drop_ok (h : (dropH cap ps ts t).2.1 = 0) :
    ∃ (k : Nat) (hk : k < ts.length), t = k ∧ MH cap ps ts ∧ ts[k].length = 4 ∧ dropH cap ps ts t = ((k : Int), 0, each_freeL cap ps (pgs ts[k]), ts.set k []) := by
  unfold dropH at h ⊢
  split at h
  · rename_i h0
    rw [if_pos h0]
    obtain ⟨hmy, k, rfl, hk, htab, hne, ha0, ha1⟩ := why_ok h0
    have hM := mayH_iff.1 hmy
    refine ⟨k, hk, rfl, hM, hM.four hk hne, ?_⟩
    unfold dropS
    rw [Int.toNat_natCast, getD_at hk]
    rfl
  · rename_i h0
    exact absurd h h0
theorem drop_err (h : (dropH cap ps ts t).2.1 ≠ 0) : (dropH cap ps ts t).2.2 = (ps, ts) := by
  unfold dropH at *
  split at h
  · exact absurd rfl h
  · rename_i h0
    rw [if_neg h0]
theorem drop_at (hM : MH cap ps ts) (hk : k < ts.length) : ((dropH cap ps ts (k : Int)).2.1 = 0 ↔ 0 < ts[k].length) := by
  constructor
  · intro h
    obtain ⟨k', hk', e, _, h4, _⟩ := drop_ok h
    obtain rfl : k = k' := by omega
    omega
  · intro h
    unfold dropH
    rw [if_pos (why_zero hM hk (by omega) (by omega) (by omega))]
theorem read_drop {u b : Int} (h : (dropH cap ps ts t).2.1 = 0) :
    MH cap (dropH cap ps ts t).2.2.1 (dropH cap ps ts t).2.2.2 ∧
    (u ≠ t → readH cap (dropH cap ps ts t).2.2.1 (dropH cap ps ts t).2.2.2 u b = readH cap ps ts u b) ∧
    (u = t → readH cap (dropH cap ps ts t).2.2.1 (dropH cap ps ts t).2.2.2 u b = (0, 11)) := by
  obtain ⟨k, hk, rfl, hM, h4, e⟩ := drop_ok h
  rw [e]
  dsimp only
  have hM2 := hM.drop hk
  have hlf := each_freeL_len cap (pgs ts[k]) ps
  refine ⟨hM2, fun hu => ?_, ?_⟩
  · by_cases hn : u < 0
    · rw [(read_tab hM2).1 (.inl hn), (read_tab hM).1 (.inl hn)]
    · obtain ⟨k', rfl⟩ := Int.eq_ofNat_of_zero_le (Int.not_lt.1 hn)
      have hne : k ≠ k' := by omega
      have htab : tabAt (ts.set k []) (k' : Int) = tabAt ts (k' : Int) := by
        unfold tabAt
        rw [Int.toNat_natCast, List.getD_eq_getElem?_getD, List.getD_eq_getElem?_getD, List.getElem?_set_ne hne]
      have hout : outW (ts.set k []) (k' : Int) b ↔ outW ts (k' : Int) b := by unfold outW; rw [htab]
      by_cases ho : outW ts (k' : Int) b
      · rw [(read_tab hM2).1 (hout.2 ho), (read_tab hM).1 ho]
      · rw [(read_tab hM2).2 (fun h => ho (hout.1 h)), (read_tab hM).2 ho]
        have hpl : plAt (ts.set k []) (k' : Int) b = plAt ts (k' : Int) b := by unfold plAt; rw [htab]
        obtain ⟨k2, n, hk2, hj, e1, rfl, hn16, hpl2⟩ := in_word hM ho
        obtain rfl : k' = k2 := by omega
        rw [hpl, hpl2]
        congr 1
        rcases hM.place hk2 hj with e2 | ⟨q, e2, hq, r1, r2⟩
        · rw [e2]; rfl
        · have hq2 : q < (each_freeL cap ps (pgs ts[k])).length := by omega
          have hk3 : k' < (ts.set k []).length := by simpa using hk2
          have e3 : (ts.set k [])[k'] = ts[k'] := List.getElem_set_ne hne hk3
          have hpos : 1 ≤ cnt (ts.set k []) q := cnt_pos hk3 (j := n / 4) (by rw [e3]; exact hj) (by simp only [e3]; exact e2)
          have hr := hM2.refs q hq2
          have hf := (hM.free hk).2 q hq
          rw [List.getElem?_eq_getElem hq2] at hf
          have hf := Option.some.inj hf
          rw [e2, oldPg_in hq2, oldPg_in hq, hf]
          rw [hf, less_r] at hr
          unfold less
          rw [if_neg (by omega), wget_r]
  · rintro rfl
    refine (read_tab hM2).1 (.inr (.inl ?_))
    rw [tabAt_in (by simpa using hk)]
    simp

/-! ### How many pages are had -/
theorem usedN_mono : ∀ {ps qs : List Pg}, ps.length = qs.length → (∀ p (h1 : p < ps.length) (h2 : p < qs.length), ps[p].r = 0 → qs[p].r = 0) → usedN qs ≤ usedN ps
  | [], [], _, _ => Nat.le_refl _
  | x :: ps, y :: qs, hl, h => by
    have ih := usedN_mono (ps := ps) (qs := qs) (by simpa using hl) fun p h1 h2 => h (p + 1) (by simpa using h1) (by simpa using h2)
    have h0 := h 0 (by simp) (by simp)
    simp only [List.getElem_cons_zero] at h0
    have hc : ∀ (z : Pg) (l : List Pg), usedN (z :: l) = (if z.r = 0 then 0 else 1) + usedN l := by
      intro z l
      unfold usedN
      by_cases h : z.r = 0 <;> simp [freeP, h]
      omega
    rw [hc, hc]
    by_cases e : x.r = 0
    · rw [if_pos e, if_pos (h0 e)]; omega
    · rw [if_neg e]; split <;> omega
  | [], _ :: _, hl, _ => by simp at hl
  | _ :: _, [], hl, _ => by simp at hl
theorem used_fork (hM : MH cap ps ts) (hk : k < ts.length) : usedN (each_shareL cap ps (pgs ts[k])) = usedN ps := by
  have hl := each_shareL_len cap (pgs ts[k]) ps
  have h2 := (hM.share hk).2
  refine Nat.le_antisymm (usedN_mono hl.symm fun p h1 h3 h0 => ?_) (usedN_mono hl fun p h3 h1 h0 => ?_)
  · have e := h2 p h1
    rw [List.getElem?_eq_getElem h3] at e
    rw [Option.some.inj e]
    have := cnt_set hk [] p
    have := hM.refs p h1
    simp at *
    omega
  · have e := h2 p h1
    rw [List.getElem?_eq_getElem h3] at e
    rw [Option.some.inj e] at h0
    have := hM.refs p h1
    simp only at h0
    omega
theorem used_drop (hM : MH cap ps ts) (hk : k < ts.length) : usedN (each_freeL cap ps (pgs ts[k])) ≤ usedN ps := by
  have hl := each_freeL_len cap (pgs ts[k]) ps
  have h2 := (hM.free hk).2
  refine usedN_mono hl.symm fun p h1 h3 h0 => ?_
  have e := h2 p h1
  rw [List.getElem?_eq_getElem h3] at e
  rw [Option.some.inj e, less_r]
  have := cnt_set hk [] p
  have := hM.refs p h1
  simp at *
  omega
theorem used_write {x : Int} {m n : Nat} {v : Int} (hW : Wrote cap ps x m v n qs) (hr : ∀ q : Nat, x = (q : Int) → ∃ h : q < ps.length, 1 ≤ ps[q].r) : usedN qs ≤ usedN ps + 1 := by
  have hx : n < qs.length := (List.getElem?_eq_some_iff.1 hW.new).1
  have h1 := usedN_set hx ⟨0, 0, 0, 0, 0⟩
  simp only [if_true] at h1
  have key : ∀ ps' : List Pg, ps'.length = qs.length → (∀ p (h : p < ps'.length), p < ps.length → p ≠ n → ps'[p]? = ps[p]?) → (ps.length ≤ ps'.length) → (∀ p, ps.length ≤ p → p < ps'.length → p = n) → usedN (qs.set n ⟨0, 0, 0, 0, 0⟩) ≤ usedN ps' := by
    intro ps' hl hs hle hn
    refine usedN_mono (by simpa using hl) fun p g1 g2 g0 => ?_
    rw [List.getElem_set]
    split
    · rfl
    · rename_i e
      have hp : p < ps.length := by
        rcases Nat.lt_or_ge p ps.length with e1 | e1
        · exact e1
        · exact absurd (hn p e1 g1).symm e
      have e1 := hs p g1 hp (Ne.symm e)
      rw [List.getElem?_eq_getElem g1, List.getElem?_eq_getElem hp] at e1
      rw [Option.some.inj e1] at g0
      have hpx : (p : Int) ≠ x := by
        intro e2
        obtain ⟨_, h⟩ := hr p e2.symm
        omega
      have e3 := hW.same p hp (Ne.symm e) hpx
      rw [List.getElem?_eq_getElem (by simpa using g2), List.getElem?_eq_getElem hp] at e3
      rw [Option.some.inj e3, g0]
  rcases hW.long with e | ⟨e1, e2⟩
  · have := key ps e.symm (fun _ _ _ _ => rfl) (Nat.le_refl _) (fun p h h2 => by omega)
    split at h1 <;> omega
  · have h3 := key (ps ++ [⟨0, 0, 0, 0, 0⟩]) (by simp [e2]) (fun p _ hp _ => by rw [List.getElem?_append_left hp]) (by simp) (fun p h h2 => by simp at h2; omega)
    rw [usedN_snoc] at h3
    simp only [if_true] at h3
    split at h1 <;> omega
/-- No table has a page: no page is had. -/
theorem used_none (hM : MH cap ps ts) (h : ∀ t ∈ ts, t = []) : usedN ps = 0 := by
  unfold usedN
  rw [List.length_eq_zero_iff, List.filter_eq_nil_iff]
  intro x hx
  obtain ⟨p, hp, rfl⟩ := List.getElem_of_mem hx
  have := hM.refs p hp
  have h0 : cnt ts p = 0 := by
    unfold cnt
    rw [List.count_eq_zero]
    intro hm
    obtain ⟨t, ht, hx⟩ := List.mem_flatten.1 hm
    rw [h t ht] at hx
    simp at hx
  simp [freeP]
  omega

theorem same_refl (cap : Int) (ps : List Pg) (ts : List (List Int)) : sameH cap ps ts cap ps ts = true := by
  have h1 : ∀ xs : List Pg, eqL pgEq xs xs = true := fun xs => eqL_all rfl fun j h => by simp [pgEq]
  have h2 : ∀ xs : List Int, tabEq xs xs = true := fun xs => eqL_all rfl fun j h => by simp [intEq]
  unfold sameH sameP
  rw [h1, eqR_all rfl fun j _ _ => h2 _]
  simp
theorem write_mh {v e : Int} {qs : List Pg} {us : List (List Int)} (h : MH cap ps ts) (hw : writeH cap ps ts t a v = (e, qs, us)) : MH cap qs us := by
  by_cases h0 : e = 0
  · have := (read_write (cap := cap) (ps := ps) (ts := ts) (t := t) (a := a) (v := v) (u := 0) (b := 0) (by rw [hw]; exact h0)).2.2
    rwa [hw] at this
  · have := write_err (cap := cap) (ps := ps) (ts := ts) (t := t) (a := a) (v := v) (by rw [hw]; exact h0)
    rw [hw] at this
    simp only [Prod.mk.injEq] at this
    obtain ⟨rfl, rfl⟩ := this
    exact h
theorem MH.lens (h : MH cap ps ts) : ps.length ≤ 900 ∧ ts.length ≤ 1000 ∧ ∀ t ∈ ts, t.length ≤ 1000 := by
  refine ⟨by have := may_len h.may; omega, by have := h.five; omega, fun t ht => ?_⟩
  rcases h.len t ht with e | e <;> omega
theorem stays_write {v e : Int} {qs : List Pg} {us : List (List Int)} (h : MH cap ps ts) (hw : writeH cap ps ts t a v = (e, qs, us)) :
    MH cap qs us ∧ (e ≠ 0 → sameH cap qs us cap ps ts = true) ∧ usedL cap qs ≤ usedL cap ps + 1 := by
  have hM := write_mh h hw
  refine ⟨hM, fun h0 => ?_, ?_⟩
  · have := write_err (cap := cap) (ps := ps) (ts := ts) (t := t) (a := a) (v := v) (by rw [hw]; exact h0)
    rw [hw] at this
    simp only [Prod.mk.injEq] at this
    obtain ⟨rfl, rfl⟩ := this
    exact same_refl _ _ _
  · unfold usedL
    rw [if_pos hM.may, if_pos h.may]
    by_cases h0 : e = 0
    · obtain ⟨k, n, hk, hj, x, qs', rfl, rfl, hn, _, h4, hW, e1⟩ := write_ok (cap := cap) (ps := ps) (ts := ts) (t := t) (a := a) (v := v) (by rw [hw]; exact h0)
      rw [hw] at e1
      injection e1 with _ e1
      injection e1 with e1 _
      subst e1
      have := used_write hW (fun q hq => by
        rcases h.place hk hj with e2 | ⟨q', e2, hq', r1, _⟩
        · omega
        · obtain rfl : q = q' := by omega
          exact ⟨hq', r1⟩)
      omega
    · have := write_err (cap := cap) (ps := ps) (ts := ts) (t := t) (a := a) (v := v) (by rw [hw]; exact h0)
      rw [hw] at this
      simp only [Prod.mk.injEq] at this
      rw [this.1]; omega
theorem stays_fork {n e : Int} {qs : List Pg} {us : List (List Int)} (h : MH cap ps ts) (hw : forkH cap ps ts t = (n, e, qs, us)) :
    MH cap qs us ∧ (e ≠ 0 → sameH cap qs us cap ps ts = true) ∧ usedL cap ps = usedL cap qs := by
  by_cases h0 : e = 0
  · obtain ⟨k, hk, rfl, _, h4, h5, e1⟩ := fork_ok (cap := cap) (ps := ps) (ts := ts) (t := t) (by rw [hw]; exact h0)
    rw [hw] at e1
    simp only [Prod.mk.injEq] at e1
    obtain ⟨_, _, rfl, rfl⟩ := e1
    have hM := h.fork hk h5
    refine ⟨hM, fun g => absurd h0 g, ?_⟩
    unfold usedL
    rw [if_pos hM.may, if_pos h.may, used_fork h hk]
  · have := fork_err (cap := cap) (ps := ps) (ts := ts) (t := t) (by rw [hw]; exact h0)
    rw [hw] at this
    simp only [Prod.mk.injEq] at this
    obtain ⟨rfl, rfl⟩ := this
    exact ⟨h, fun _ => same_refl _ _ _, rfl⟩
theorem stays_drop {n e : Int} {qs : List Pg} {us : List (List Int)} (h : MH cap ps ts) (hw : dropH cap ps ts t = (n, e, qs, us)) :
    MH cap qs us ∧ (e ≠ 0 → sameH cap qs us cap ps ts = true) ∧ usedL cap qs ≤ usedL cap ps := by
  by_cases h0 : e = 0
  · obtain ⟨k, hk, rfl, _, h4, e1⟩ := drop_ok (cap := cap) (ps := ps) (ts := ts) (t := t) (by rw [hw]; exact h0)
    rw [hw] at e1
    simp only [Prod.mk.injEq] at e1
    obtain ⟨_, _, rfl, rfl⟩ := e1
    have hM := h.drop hk
    refine ⟨hM, fun g => absurd h0 g, ?_⟩
    unfold usedL
    rw [if_pos hM.may, if_pos h.may]
    have := used_drop h hk
    omega
  · have := drop_err (cap := cap) (ps := ps) (ts := ts) (t := t) (by rw [hw]; exact h0)
    rw [hw] at this
    simp only [Prod.mk.injEq] at this
    obtain ⟨rfl, rfl⟩ := this
    exact ⟨h, fun _ => same_refl _ _ _, Int.le_refl _⟩
end
end Go.Proofs.Ytoogobenjhmjjaa
