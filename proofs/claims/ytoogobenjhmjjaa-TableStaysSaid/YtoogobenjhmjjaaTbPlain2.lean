/- Layer 17: forks, drops and writes keep what may be. -/
import Derived.Test.YtoogobenjhmjjaaTbPlain
namespace Go.Proofs.Ytoogobenjhmjjaa
open Go
set_option linter.unusedVariables false

section
variable {cap : Int} {ps qs : List Pg} {ts : List (List Int)} {k j p : Nat} {t a : Int}

theorem why_zero (h : MH cap ps ts) (hk : k < ts.length) (hne : ts[k].length ≠ 0) (h0 : 0 ≤ a) (h1 : a < 16) : whyH cap ps ts (k : Int) a = 0 := by
  refine wh0 (mayH_iff.2 h) ?_
  unfold tabAt
  rw [Int.toNat_natCast, List.getD_eq_getElem?_getD, List.getElem?_eq_getElem hk]
  simp only [Option.getD_some, not_or]
  omega

/-- The pages of a table, with the places left out. -/
def pgs (t : List Int) : List Int := (prs t).map (·.2)
theorem pgs_count (t : List Int) (p : Nat) : (pgs t).count (p : Int) = t.count (p : Int) := prs_count t p
theorem pgs_mem {t : List Int} {x : Int} (h : x ∈ pgs t) : x ∈ t ∧ x ≠ -1 := by
  obtain ⟨y, hy, rfl⟩ := List.mem_map.1 h
  obtain ⟨h1, h2, h3⟩ := prsK_mem t t.length (Nat.le_refl _) y hy
  refine ⟨?_, h3⟩
  rw [List.getD_eq_getElem?_getD, List.getElem?_eq_getElem h1] at h2
  rw [← h2]
  exact List.getElem_mem h1
theorem pgs_len (t : List Int) : (pgs t).length ≤ t.length := by
  unfold pgs; rw [List.length_map]; exact prsK_len t _

theorem MH.share (h : MH cap ps ts) (hk : k < ts.length) :
    mayP cap (each_shareL cap ps (pgs ts[k])) = true ∧ ∀ p (hp : p < ps.length), (each_shareL cap ps (pgs ts[k]))[p]? = some { ps[p] with r := ps[p].r + ((ts[k].count (p : Int) : Nat) : Int) } := by
  obtain ⟨h1, h2⟩ := share_all h.may (pgs ts[k]) (fun x hx => by
    obtain ⟨hm, hx1⟩ := pgs_mem hx
    obtain ⟨j, hj, rfl⟩ := List.getElem_of_mem hm
    have hl := pgs_len ts[k]
    have hl4 := h.len _ (List.getElem_mem hk)
    rcases h.place hk hj with e | ⟨q, e, hq, r1, r2⟩
    · exact absurd e hx1
    · exact ⟨q, e, hq, r1, by omega⟩)
  exact ⟨h1, fun p hp => by rw [h2 p hp, pgs_count]⟩

theorem MH.free (h : MH cap ps ts) (hk : k < ts.length) :
    mayP cap (each_freeL cap ps (pgs ts[k])) = true ∧ ∀ p (hp : p < ps.length), (each_freeL cap ps (pgs ts[k]))[p]? = some (less ps[p] (ts[k].count (p : Int))) := by
  obtain ⟨h1, h2⟩ := free_all h.may (pgs ts[k]) (fun x hx => by
    obtain ⟨hm, hx1⟩ := pgs_mem hx
    rcases h.pl _ (List.getElem_mem hk) x hm with e | e
    · exact absurd e hx1
    · exact e) (fun p hp => by
    have h3 := cnt_set hk [] p
    have h4 := h.refs p hp
    rw [pgs_count]
    simp at h3
    omega)
  exact ⟨h1, fun p hp => by rw [h2 p hp, pgs_count]⟩

theorem MH.fork (h : MH cap ps ts) (hk : k < ts.length) (h5 : ts.length ≠ 5) : MH cap (each_shareL cap ps (pgs ts[k])) (ts ++ [ts[k]]) := by
  obtain ⟨h1, h2⟩ := h.share hk
  have hl := each_shareL_len cap (pgs ts[k]) ps
  refine ⟨h1, by have := h.five; simp; omega, fun t ht => ?_, fun t ht x hx => ?_, fun p hp => ?_⟩
  · rcases List.mem_append.1 ht with ht | ht
    · exact h.len t ht
    · simp at ht; subst ht; exact h.len _ (List.getElem_mem hk)
  · rw [hl]
    rcases List.mem_append.1 ht with ht | ht
    · exact h.pl t ht x hx
    · simp at ht; subst ht; exact h.pl _ (List.getElem_mem hk) x hx
  · have hp' : p < ps.length := by omega
    have h3 := h2 p hp'
    rw [List.getElem?_eq_getElem hp] at h3
    rw [Option.some.inj h3, cnt_snoc]
    have := h.refs p hp'
    simp only
    omega
theorem less_r {x : Pg} {n : Nat} : (less x n).r = x.r - n := by
  unfold less
  split
  · simp only; omega
  · rfl
theorem MH.drop (h : MH cap ps ts) (hk : k < ts.length) : MH cap (each_freeL cap ps (pgs ts[k])) (ts.set k []) := by
  obtain ⟨h1, h2⟩ := h.free hk
  have hl := each_freeL_len cap (pgs ts[k]) ps
  refine ⟨h1, by have := h.five; simpa using this, fun t ht => ?_, fun t ht x hx => ?_, fun p hp => ?_⟩
  · rcases List.mem_or_eq_of_mem_set ht with ht | rfl
    · exact h.len t ht
    · exact .inl rfl
  · rw [hl]
    rcases List.mem_or_eq_of_mem_set ht with ht | rfl
    · exact h.pl t ht x hx
    · simp at hx
  · have hp' : p < ps.length := by omega
    have h3 := h2 p hp'
    rw [List.getElem?_eq_getElem hp] at h3
    rw [Option.some.inj h3, less_r]
    have h4 := cnt_set hk [] p
    have := h.refs p hp'
    simp at h4
    omega

/-! ### Write -/
/-- What a write that is done comes to: the page that the place had, or none; the page that it has now. -/
def oldPg (ps : List Pg) (x : Int) : Pg := if x = -1 then ⟨0, 0, 0, 0, 0⟩ else pgAt ps x
theorem wset_with (x : Pg) (i v n : Int) : wset { x with r := n } i v = { wset x i v with r := n } := by
  unfold wset
  split
  · rfl
  · split
    · rfl
    · split <;> rfl
structure Wrote (cap : Int) (ps : List Pg) (x : Int) (m : Nat) (v : Int) (a : Nat) (qs : List Pg) : Prop where
  may : mayP cap qs = true
  new : qs[a]? = some { wset (oldPg ps x) m v with r := 1 }
  same : ∀ p, p < ps.length → p ≠ a → (p : Int) ≠ x → qs[p]? = ps[p]?
  old : ((a : Int) = x ∧ ∃ h : a < ps.length, ps[a].r = 1) ∨ ((a : Int) ≠ x ∧ (∀ h : a < ps.length, ps[a].r = 0) ∧ ∀ q : Nat, x = (q : Int) → ∃ h : q < ps.length, qs[q]? = some { ps[q] with r := ps[q].r - 1 })
  long : qs.length = ps.length ∨ (a = ps.length ∧ qs.length = ps.length + 1)

theorem alloc_long {cap : Int} {ps : List Pg} {x : Pg} {a : Nat} {L : List Pg} (h : allocL cap ps x = ((a : Int), 0, L)) : (L.length = ps.length ∨ (a = ps.length ∧ L.length = ps.length + 1)) ∧ (∀ h : a < ps.length, ps[a].r = 0) ∧ a < L.length := by
  unfold allocL at h
  rcases idxF_range freeP ps with h5 | ⟨m, hm5, h5⟩
  · rw [if_pos h5] at h
    split at h
    · simp at h
    · injection h with h1 h2
      injection h2 with _ h2
      obtain rfl : ps.length = a := by omega
      subst h2
      exact ⟨.inr ⟨rfl, by simp⟩, fun h => absurd h (by omega), by simp⟩
  · rw [if_neg (by omega), h5] at h
    injection h with h1 h2
    injection h2 with _ h2
    obtain rfl : m = a := by omega
    subst h2
    obtain ⟨_, hp, _⟩ := idxF_spec freeP ps m h5
    exact ⟨.inl (by simp), fun h => by simpa [freeP] using hp, by simpa using hm5⟩

theorem write_in {cap : Int} {ps : List Pg} {n m : Nat} {v : Int} (hm : mayP cap ps = true) (hn : n < ps.length) (h4 : m < 4) (hr : ps[n].r = 1) : writeL cap ps (n : Int) (m : Int) v = ((n : Int), 0, ps.set n (wset ps[n] m v)) := by
  unfold writeL
  rw [if_pos (had_mk hm hn (by omega)), if_pos (by omega), pgAt_get hn, if_pos hr, Int.toNat_natCast]

/-- A page that was made for the write. -/
theorem wrote_made {m : Nat} {v a2 : Int} {ps1 ps2 : List Pg} {a1 : Int} (hm : mayP cap ps = true) (h4 : m < 4) (h1 : allocX cap ps = (a1, 0, ps1)) (h2 : writeL cap ps1 a1 (m : Int) v = (a2, 0, ps2)) :
    ∃ a : Nat, a2 = a ∧ Wrote cap ps (-1) m v a ps2 := by
  unfold allocX at h1
  rw [if_pos hm] at h1
  obtain ⟨a, L, e1, e2, e3, e4⟩ := alloc_what (cap := cap) (ps := ps) (x := ⟨0, 0, 0, 0, 0⟩) (by rw [h1])
  rw [h1] at e1
  injection e1 with e5 e6
  injection e6 with _ e6
  subst e5 e6
  obtain ⟨l1, l2, l3⟩ := alloc_long h1
  have hma : mayP cap ps1 = true := by have := allocL_may hm ⟨0, 0, 0, 0, 0⟩; rwa [h1] at this
  have e2' := e2
  rw [List.getElem?_eq_getElem l3] at e2'
  have e2' := Option.some.inj e2'
  rw [write_in hma l3 h4 (by rw [e2'])] at h2
  injection h2 with h2 h3
  injection h3 with _ h3
  subst h2 h3
  refine ⟨a, rfl, ?_, ?_, ?_, ?_, ?_⟩
  · have := writeL_may hma (a : Int) (m : Int) v
    rwa [write_in hma l3 h4 (by rw [e2'])] at this
  · rw [List.getElem?_set_self l3, e2', wset_with]; rfl
  · intro p hp hne _
    rw [List.getElem?_set_ne (Ne.symm hne), e3 p hp hne]
  · refine .inr ⟨by omega, l2, fun q hq => absurd hq (by omega)⟩
  · simpa using l1

/-- A page that was there already. -/
theorem wrote_had {n m : Nat} {v a2 : Int} {ps2 : List Pg} (hm : mayP cap ps = true) (h4 : m < 4) (h2 : writeL cap ps (n : Int) (m : Int) v = (a2, 0, ps2)) :
    ∃ a : Nat, a2 = a ∧ Wrote cap ps (n : Int) m v a ps2 := by
  have hmq := writeL_may hm (n : Int) (m : Int) v
  rw [h2] at hmq
  obtain ⟨n', m', a, qs, e1, e2, _, e4, hn, hr, hnq, e5, e6, e7, e8⟩ := write_what (cap := cap) (ps := ps) (p := (n : Int)) (i := (m : Int)) (v := v) (by rw [h2])
  obtain rfl : n = n' := by omega
  obtain rfl : m = m' := by omega
  rw [h2] at e4
  injection e4 with e4 e9
  injection e9 with _ e9
  subst e4 e9
  have hold : oldPg ps (n : Int) = ps[n] := by unfold oldPg; rw [if_neg (by omega), pgAt_get hn]
  refine ⟨a, rfl, hmq, by rw [hold]; exact e5, fun p hp h1 h2 => e8 p hp (by omega) h1, ?_, ?_⟩
  · by_cases e : a = n
    · subst e
      exact .inl ⟨rfl, hn, e6.1 rfl⟩
    · refine .inr ⟨by omega, ?_, fun q hq => ?_⟩
      · intro ha
        unfold writeL at h2
        rw [if_pos (had_mk hm hn (by omega)), if_pos (by omega), pgAt_get hn, if_neg (fun h => e (e6.2 h))] at h2
        split at h2
        · obtain ⟨b, L, g1, _⟩ := alloc_what (cap := cap) (ps := ps) (x := wset ps[n] m v) ‹_›
          rw [g1] at h2
          injection h2 with h2 _
          obtain rfl : b = a := by simp only at h2; omega
          exact (alloc_long g1).2.1 ha
        · rename_i hh
          rw [h2] at hh
          exact absurd rfl hh
      · obtain rfl : n = q := by omega
        exact ⟨hn, e7 e⟩
  · unfold writeL at h2
    rw [if_pos (had_mk hm hn (by omega)), if_pos (by omega), pgAt_get hn] at h2
    split at h2
    · injection h2 with _ h2
      injection h2 with _ h2
      subst h2
      exact .inl (by simp)
    · split at h2
      · obtain ⟨b, L, g1, _⟩ := alloc_what (cap := cap) (ps := ps) (x := wset ps[n] m v) ‹_›
        rw [g1] at h2
        injection h2 with h2 h3
        injection h3 with _ h3
        obtain rfl : b = a := by simp only at h2; omega
        have := (alloc_long g1).1
        subst h3
        unfold freeL
        split <;> simpa using this
      · rename_i hh
        rw [h2] at hh
        exact absurd rfl hh

/-- The heap behind a write. -/
theorem MH.wrote {m a : Nat} {v : Int} (h : MH cap ps ts) (hk : k < ts.length) (hj : j < ts[k].length) (hw : Wrote cap ps ts[k][j] m v a qs) : MH cap qs (ts.set k (ts[k].set j (a : Int))) := by
  have ha : a < qs.length := (List.getElem?_eq_some_iff.1 hw.new).1
  have hle : ps.length ≤ qs.length := by have := hw.long; omega
  refine ⟨hw.may, by have := h.five; simpa using this, fun t ht => ?_, fun t ht x hx => ?_, fun p hp => ?_⟩
  · rcases List.mem_or_eq_of_mem_set ht with ht | rfl
    · exact h.len t ht
    · rw [List.length_set]; exact h.len _ (List.getElem_mem hk)
  · have old : ∀ t ∈ ts, ∀ x ∈ t, x = -1 ∨ ∃ q : Nat, x = (q : Int) ∧ q < qs.length := fun t ht x hx => by
      rcases h.pl t ht x hx with e | ⟨q, e, hq⟩
      · exact .inl e
      · exact .inr ⟨q, e, by omega⟩
    rcases List.mem_or_eq_of_mem_set ht with ht | rfl
    · exact old t ht x hx
    · rcases List.mem_or_eq_of_mem_set hx with hx | rfl
      · exact old _ (List.getElem_mem hk) x hx
      · exact .inr ⟨a, rfl, ha⟩
  · have hc := cnt_put hk hj (a : Int) p
    by_cases e : p = a
    · subst e
      have h1 := hw.new
      rw [List.getElem?_eq_getElem hp] at h1
      rw [Option.some.inj h1]
      simp only
      rw [if_pos rfl] at hc
      rcases hw.old with ⟨e1, hp', hr⟩ | ⟨e1, hz, _⟩
      · rw [if_pos e1.symm] at hc
        have := h.refs p hp'
        omega
      · rw [if_neg (Ne.symm e1)] at hc
        have : cnt ts p = 0 := by
          by_cases hp' : p < ps.length
          · have := h.refs p hp'
            have := hz hp'
            omega
          · exact h.no (by omega)
        omega
    · rw [if_neg (show ¬ ((a : Int) = (p : Int)) by omega)] at hc
      have hp' : p < ps.length := by have := hw.long; omega
      have hrf := h.refs p hp'
      by_cases e2 : ts[k][j] = (p : Int)
      · rw [if_pos e2] at hc
        rcases hw.old with ⟨e1, _⟩ | ⟨_, _, ho⟩
        · omega
        · obtain ⟨hq, ho⟩ := ho p e2
          rw [List.getElem?_eq_getElem hp] at ho
          rw [Option.some.inj ho]
          simp only
          omega
      · rw [if_neg e2] at hc
        have := hw.same p hp' e (fun h => e2 h.symm)
        rw [List.getElem?_eq_getElem hp, List.getElem?_eq_getElem hp'] at this
        rw [Option.some.inj this]
        omega

/-- What Write comes to. -/
theorem write_ok {v : Int} (h : (writeH cap ps ts t a v).1 = 0) :
    ∃ (k n : Nat) (hk : k < ts.length) (hj : n / 4 < ts[k].length) (x : Nat) (qs : List Pg), t = k ∧ a = n ∧ n < 16 ∧ MH cap ps ts ∧ ts[k].length = 4 ∧ Wrote cap ps (ts[k][n / 4]) (n % 4) v x qs ∧ writeH cap ps ts t a v = (0, qs, ts.set k (ts[k].set (n / 4) (x : Int))) := by
  by_cases h0 : whyH cap ps ts t a = 0
  · obtain ⟨hmy, k, rfl, hk, htab, hne, ha0, ha1⟩ := why_ok h0
    have hM := mayH_iff.1 hmy
    have h4 := hM.four hk hne
    obtain ⟨n, rfl⟩ : ∃ n : Nat, a = (n : Int) := ⟨a.toNat, by omega⟩
    have hn4 : n / 4 < ts[k].length := by omega
    have hpl : plAt ts (k : Int) (n : Int) = ts[k][n / 4] := by unfold plAt; rw [htab, Int.toNat_natCast, List.getD_eq_getElem?_getD, List.getElem?_eq_getElem hn4]; rfl
    have h4' : ((n : Int) % 4) = ((n % 4 : Nat) : Int) := by omega
    have e0 : writeH cap ps ts (k : Int) (n : Int) v = if (firstH cap ps ts[k][n / 4]).2.1 = 0 then
      (if (writeL cap (firstH cap ps ts[k][n / 4]).2.2 (firstH cap ps ts[k][n / 4]).1 ((n % 4 : Nat) : Int) v).2.1 = 0 then
        (0, (writeL cap (firstH cap ps ts[k][n / 4]).2.2 (firstH cap ps ts[k][n / 4]).1 ((n % 4 : Nat) : Int) v).2.2, ts.set k (ts[k].set (n / 4) (writeL cap (firstH cap ps ts[k][n / 4]).2.2 (firstH cap ps ts[k][n / 4]).1 ((n % 4 : Nat) : Int) v).1))
       else ((writeL cap (firstH cap ps ts[k][n / 4]).2.2 (firstH cap ps ts[k][n / 4]).1 ((n % 4 : Nat) : Int) v).2.1, ps, ts)) else ((firstH cap ps ts[k][n / 4]).2.1, ps, ts) := by
      unfold writeH
      rw [if_pos h0, hpl, h4', htab, Int.toNat_natCast, Int.toNat_natCast]
    rw [e0] at h
    split at h
    · rename_i h1
      rw [if_pos h1] at e0
      split at h
      · rename_i h2
        rw [if_pos h2] at e0
        have hW : ∃ x : Nat, (writeL cap (firstH cap ps ts[k][n / 4]).2.2 (firstH cap ps ts[k][n / 4]).1 ((n % 4 : Nat) : Int) v).1 = x ∧ Wrote cap ps (ts[k][n / 4]) (n % 4) v x (writeL cap (firstH cap ps ts[k][n / 4]).2.2 (firstH cap ps ts[k][n / 4]).1 ((n % 4 : Nat) : Int) v).2.2 := by
          rcases hM.place hk hn4 with e | ⟨q, e, hq, r1, r2⟩
          · rw [e] at h1 h2 ⊢
            unfold firstH at h1 h2 ⊢
            rw [if_pos rfl] at h1 h2 ⊢
            exact wrote_made hM.may (by omega) (Prod.ext rfl (Prod.ext h1 rfl)) (Prod.ext rfl (Prod.ext h2 rfl))
          · rw [e] at h1 h2 ⊢
            unfold firstH at h1 h2 ⊢
            rw [if_neg (by omega)] at h1 h2 ⊢
            exact wrote_had hM.may (by omega) (Prod.ext rfl (Prod.ext h2 rfl))
        obtain ⟨x, hx, hW⟩ := hW
        exact ⟨k, n, hk, hn4, x, _, rfl, rfl, by omega, hM, h4, hW, by rw [e0, hx]⟩
      · rename_i h2
        exact absurd h h2
    · rename_i h1
      exact absurd h h1
  · unfold writeH at h
    rw [if_neg h0] at h
    exact absurd h h0
theorem write_err {v : Int} (h : (writeH cap ps ts t a v).1 ≠ 0) : (writeH cap ps ts t a v).2 = (ps, ts) := by
  unfold writeH at *
  split at h
  · rename_i h0
    rw [if_pos h0]
    split at h
    · rename_i h1
      rw [if_pos h1]
      split at h
      · exact absurd rfl h
      · rename_i h2
        rw [if_neg h2]
    · rename_i h1
      rw [if_neg h1]
  · rename_i h0
    rw [if_neg h0]
end
end Go.Proofs.Ytoogobenjhmjjaa
