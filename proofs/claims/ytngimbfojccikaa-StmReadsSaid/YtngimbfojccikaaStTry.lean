/- Tries of a thread stand in their order; threads that only read: plain. -/
import Derived.Test.YtngimbfojccikaaStInv
namespace Go.Proofs.Ytngimbfojccikaa
set_option linter.unusedSimpArgs false
open Go
set_option linter.unusedVariables false

/-- One told try, on what is awaited: the transaction, the try, and when the one ahead ended. -/
def tryF (who : Int) (s : Int × Int × Int) (x : Rx) : Option (Int × Int × Int) :=
  if x.who = who then
    (if x.tx ≠ s.1 ∨ x.try_ ≠ s.2.1 ∨ x.fr ≤ s.2.2 ∨ x.to_ < x.fr ∨ 3 < x.try_ then none
    else some (if x.en ≠ 1 ∨ x.try_ = 3 then (s.1 + 1, 1, x.to_) else (s.1, s.2.1 + 1, x.to_)))
  else some s
def triesF (who : Int) : List Rx → Int × Int × Int → Option (Int × Int × Int)
  | [], s => some s
  | x :: h, s => (tryF who s x).bind (triesF who h)
theorem triesF_app (who : Int) : ∀ (h g : List Rx) (s : Int × Int × Int), triesF who (h ++ g) s = (triesF who h s).bind (triesF who g)
  | [], g, s => rfl
  | x :: h, g, s => by
    show (tryF who s x).bind (triesF who (h ++ g)) = _
    unfold triesF
    cases tryF who s x with
    | none => rfl
    | some s' => exact triesF_app who h g s'
theorem triesF_one (who : Int) (x : Rx) (s : Int × Int × Int) : triesF who [x] s = tryF who s x := by
  show (tryF who s x).bind (fun s => some s) = _
  cases tryF who s x <;> rfl
theorem triesF_snoc {who : Int} {h : List Rx} {s s' : Int × Int × Int} (h1 : triesF who h s = some s') (x : Rx) : triesF who (h ++ [x]) s = tryF who s' x := by
  rw [triesF_app, h1]
  exact triesF_one who x s'
theorem tryF_er (who : Int) (s : Int × Int × Int) (x : Rx) : tryF who s (erX x) = tryF who s x := rfl
theorem triesF_er (who : Int) : ∀ (h : List Rx) (s : Int × Int × Int), triesF who (h.map erX) s = triesF who h s
  | [], s => rfl
  | x :: h, s => by
    show (tryF who s (erX x)).bind (triesF who (h.map erX)) = (tryF who s x).bind (triesF who h)
    rw [tryF_er]
    cases tryF who s x with
    | none => rfl
    | some s' => exact triesF_er who h s'

/-- Where a thread stands agrees with what is awaited. -/
def TryT (t : Tx) (s : Int × Int × Int) (now : Int) : Prop :=
  s.2.2 < now ∧ ((t.st = 5 ∧ t.tx = s.1 - 1 ∧ s.2.1 = 1) ∨ (t.st = 0 ∧ t.tx = s.1 ∧ t.try_ = s.2.1 - 1) ∨ (t.st ≠ 0 ∧ t.st ≠ 5 ∧ t.tx = s.1 ∧ t.try_ = s.2.1 ∧ s.2.2 < t.fr ∧ t.fr < now))
def TryI (m : Mm) : Prop := ∀ (k : Nat) t, m.T[k]? = some t → ∃ s, triesF (k : Int) m.H (0, 1, -1) = some s ∧ TryT t s m.time

section
variable {words : Nat} {mx : Int} {pl : List (List (List Ac))} {m m' : Mm} {k : Nat} {t t' : Tx} {txs : List (List Ac)}

theorem TryT.later {t : Tx} {s : Int × Int × Int} {now : Int} (h : TryT t s now) : TryT t s (now + 1) := by
  unfold TryT at *
  omega
/-- Nothing told. -/
theorem TryI.quiet (h : TryI m) (hk : m.T[k]? = some t) (hH : m'.H = m.H) (htm : m'.time = m.time) (hT : m'.T = m.T.set k t') (ht : ∀ s, TryT t s m.time → TryT t' s (m.time + 1)) : TryI (timeM m') := by
  intro j u hu
  replace hu : m'.T[j]? = some u := hu
  rw [hT] at hu
  show ∃ s, triesF (j : Int) m'.H (0, 1, -1) = some s ∧ TryT u s (m'.time + 1)
  rw [hH, htm]
  rcases set_get hu with ⟨rfl, rfl⟩ | ⟨_, hu⟩
  · obtain ⟨s, h1, h2⟩ := h _ t hk
    exact ⟨s, h1, ht s h2⟩
  · obtain ⟨s, h1, h2⟩ := h j u hu
    exact ⟨s, h1, h2.later⟩
/-- One is told. -/
theorem TryI.told (h : TryI m) (hk : m.T[k]? = some t) (how : Int) (hH : m'.H = m.H ++ [tellR m k t how]) (htm : m'.time = m.time) (hT : m'.T = m.T.set k t') (h3 : t.try_ ≤ 3) (hs0 : t.st ≠ 0) (hs5 : t.st ≠ 5)
    (ht : t'.st = 5 ∧ t'.tx = t.tx ∧ (how ≠ 1 ∨ t.try_ = 3) ∨ t'.st = 0 ∧ t'.tx = t.tx + 1 ∧ t'.try_ = 0 ∧ (how ≠ 1 ∨ t.try_ = 3) ∨ t'.st = 0 ∧ t'.tx = t.tx ∧ t'.try_ = t.try_ ∧ how = 1 ∧ t.try_ ≠ 3) : TryI (timeM m') := by
  intro j u hu
  replace hu : m'.T[j]? = some u := hu
  rw [hT] at hu
  show ∃ s, triesF (j : Int) m'.H (0, 1, -1) = some s ∧ TryT u s (m'.time + 1)
  rw [hH, htm]
  rcases set_get hu with ⟨rfl, rfl⟩ | ⟨hne, hu⟩
  · obtain ⟨s, h1, h2⟩ := h _ t hk
    rw [triesF_snoc h1]
    unfold TryT at h2
    have h4 : t.tx = s.1 ∧ t.try_ = s.2.1 ∧ s.2.2 < t.fr ∧ t.fr < m.time := by omega
    unfold tryF tellR
    simp only
    rw [if_pos trivial, if_neg (by omega)]
    refine ⟨_, rfl, ?_⟩
    by_cases hc : how ≠ 1 ∨ t.try_ = 3
    · rw [if_pos hc]
      show m.time < m.time + 1 ∧ ((u.st = 5 ∧ u.tx = s.1 + 1 - 1 ∧ (1 : Int) = 1) ∨ (u.st = 0 ∧ u.tx = s.1 + 1 ∧ u.try_ = 1 - 1) ∨ (u.st ≠ 0 ∧ u.st ≠ 5 ∧ u.tx = s.1 + 1 ∧ u.try_ = 1 ∧ m.time < u.fr ∧ u.fr < m.time + 1))
      omega
    · rw [if_neg hc]
      show m.time < m.time + 1 ∧ ((u.st = 5 ∧ u.tx = s.1 - 1 ∧ s.2.1 + 1 = 1) ∨ (u.st = 0 ∧ u.tx = s.1 ∧ u.try_ = s.2.1 + 1 - 1) ∨ (u.st ≠ 0 ∧ u.st ≠ 5 ∧ u.tx = s.1 ∧ u.try_ = s.2.1 + 1 ∧ m.time < u.fr ∧ u.fr < m.time + 1))
      omega
  · obtain ⟨s, h1, h2⟩ := h j u hu
    rw [triesF_snoc h1]
    unfold tryF tellR
    simp only
    rw [if_neg (by omega)]
    exact ⟨s, rfl, h2.later⟩
theorem overT_again (h3 : t.try_ ≤ 3) : (overT t 1).st = 0 ∧ ((overT t 1).tx = t.tx + 1 ∧ (overT t 1).try_ = 0 ∧ t.try_ = 3 ∨ (overT t 1).tx = t.tx ∧ (overT t 1).try_ = t.try_ ∧ t.try_ ≠ 3) := by
  refine ⟨overT_st t 1, ?_⟩
  unfold overT
  split
  · rename_i h; exact .inr ⟨rfl, rfl, by omega⟩
  · rename_i h; exact .inl ⟨rfl, rfl, by omega⟩
theorem over_not {how : Int} (h : how ≠ 1) : overT t how = { Tx.zero with tx := t.tx + 1 } := by
  unfold overT
  rw [if_neg (by omega)]
theorem try_way (hg : Good words pl m) (h : TryI m) (hk : m.T[k]? = some t) (htx : pl[k]? = some txs) (hw : Way txs m k t m') : TryI (timeM m') := by
  have gt := hg.ts k t txs hk htx
  have hag : (overT t 1).st = 5 ∧ (overT t 1).tx = t.tx ∧ ((1 : Int) ≠ 1 ∨ t.try_ = 3) ∨ (overT t 1).st = 0 ∧ (overT t 1).tx = t.tx + 1 ∧ (overT t 1).try_ = 0 ∧ ((1 : Int) ≠ 1 ∨ t.try_ = 3) ∨ (overT t 1).st = 0 ∧ (overT t 1).tx = t.tx ∧ (overT t 1).try_ = t.try_ ∧ (1 : Int) = 1 ∧ t.try_ ≠ 3 := by
    have := overT_again gt.y3
    omega
  cases hw with
  | begins hs => exact h.quiet hk rfl rfl rfl (fun s hh => by unfold TryT at *; simp only; omega)
  | writes hs a ha hd u => exact h.quiet hk rfl rfl rfl (fun s hh => by unfold TryT at *; simp only; omega)
  | own hs a ha hd p hp hpa u => exact h.quiet hk rfl rfl rfl (fun s hh => by unfold TryT at *; simp only; omega)
  | reads hs a ha hd hn hs2 u => exact h.quiet hk rfl rfl rfl (fun s hh => by unfold TryT at *; simp only; omega)
  | blind hs a ha hd hn hs2 => exact h.told (m' := endM m k t 1) hk 1 rfl rfl rfl gt.y3 (by omega) (by omega) hag
  | readonly hs hpc hW => exact h.told (m' := endM m k t 0) hk 0 rfl rfl rfl gt.y3 (by omega) (by omega) (by rw [over_not (by omega)]; exact .inr (.inl ⟨rfl, rfl, rfl, .inl (by omega)⟩))
  | holds hs hpc hW => exact h.quiet (t' := { t with st := 2, i := 0 }) hk rfl rfl rfl (fun s hh => by unfold TryT at *; simp only; omega)
  | takes hs x hx ht =>
    refine h.quiet hk rfl rfl rfl (fun s hh => ?_)
    by_cases hl : t.i + 1 = (t.W.length : Int)
    · rw [if_pos hl]; unfold TryT at *; simp only; omega
    · rw [if_neg hl]; unfold TryT at *; simp only; omega
  | clash hs x hx ht => exact h.told (m' := quitM m k t 1) hk 1 rfl rfl rfl gt.y3 (by omega) (by omega) hag
  | ticks hs ht => exact h.quiet (t' := { t with wv := (tickL m.now m.mx m.L).2.1, st := 4, i := 0 }) hk rfl rfl rfl (fun s hh => by unfold TryT at *; simp only; omega)
  | late hs ht => exact h.told (m' := quitM m k t 2) hk 2 rfl rfl rfl gt.y3 (by omega) (by omega) (by rw [over_not (by omega)]; exact .inr (.inl ⟨rfl, rfl, rfl, .inl (by omega)⟩))
  | checks hs x hx hs2 => exact h.quiet (t' := { t with i := t.i + 1 }) hk rfl rfl rfl (fun s hh => by unfold TryT at *; simp only; omega)
  | stale hs x hx hs2 => exact h.told (m' := quitM m k t 1) hk 1 rfl rfl rfl gt.y3 (by omega) (by omega) hag
  | done hs hx => exact h.told (m' := { tellM m k t 0 with T := m.T.set k { t with st := 5, i := 0 } }) (t' := { t with st := 5, i := 0 }) hk 0 rfl rfl rfl gt.y3 (by omega) (by omega) (.inl ⟨rfl, rfl, .inl (by omega)⟩)
  | backs hs x hx =>
    refine h.quiet (m' := { m with W := m.W.set x.at_.toNat x.v, L := (giveL m.now m.mx m.L x.at_ (k : Int) t.wv).2, T := m.T.set k (if t.i + 1 = t.W.length then overT t 0 else { t with i := t.i + 1 }) }) hk rfl rfl rfl (fun s hh => ?_)
    by_cases hl : t.i + 1 = (t.W.length : Int)
    · rw [if_pos hl, over_not (by omega)]
      unfold TryT at *
      show s.2.2 < m.time + 1 ∧ (((0 : Int) = 5 ∧ t.tx + 1 = s.1 - 1 ∧ s.2.1 = 1) ∨ ((0 : Int) = 0 ∧ t.tx + 1 = s.1 ∧ (0 : Int) = s.2.1 - 1) ∨ ((0 : Int) ≠ 0 ∧ (0 : Int) ≠ 5 ∧ t.tx + 1 = s.1 ∧ (0 : Int) = s.2.1 ∧ s.2.2 < 0 ∧ (0 : Int) < m.time + 1))
      omega
    · rw [if_neg hl]
      unfold TryT at *
      show s.2.2 < m.time + 1 ∧ ((t.st = 5 ∧ t.tx = s.1 - 1 ∧ s.2.1 = 1) ∨ (t.st = 0 ∧ t.tx = s.1 ∧ t.try_ = s.2.1 - 1) ∨ (t.st ≠ 0 ∧ t.st ≠ 5 ∧ t.tx = s.1 ∧ t.try_ = s.2.1 ∧ s.2.2 < t.fr ∧ t.fr < m.time + 1))
      omega
theorem try_run (hp : PlanOk words mx pl) (picks : List Int) : TryI (runM words mx pl picks) := by
  refine run_ind hp (P := TryI) (show TryI _ from fun k t hk => ?_) (fun m k t txs m' hg h hk htx _ hw => try_way hg h hk htx hw) (fun m h => (show TryI (timeM m) from fun k t hk => ?_)) picks
  · replace hk : (List.replicate pl.length Tx.zero)[k]? = some t := hk
    rw [List.eq_of_mem_replicate (List.mem_of_getElem? hk)]
    refine ⟨(0, 1, -1), rfl, ?_⟩
    exact ⟨by show (-1 : Int) < 0; omega, .inr (.inl ⟨rfl, rfl, rfl⟩)⟩
  · obtain ⟨s, h1, h2⟩ := h k t hk
    exact ⟨s, h1, h2.later⟩

/-! ### StmReads -/
theorem act_mem {txs : List (List Ac)} {i j : Nat} {a : Ac} (h : (txs.getD i [])[j]? = some a) : ∃ l ∈ txs, a ∈ l := by
  rw [List.getD_eq_getElem?_getD] at h
  cases hl : txs[i]? with
  | none => rw [hl] at h; simp at h
  | some l =>
    rw [hl] at h
    exact ⟨l, List.mem_of_getElem? hl, List.mem_of_getElem? h⟩
structure ReadI (m : Mm) : Prop where
  n : m.now = 0
  l : ∀ x ∈ m.L, x = ⟨0, -1⟩
  w : ∀ v ∈ m.W, v = 0
  t : ∀ (k : Nat) t, m.T[k]? = some t → t.W = [] ∧ (t.st = 0 ∧ t.try_ = 0 ∨ t.st = 1 ∧ t.try_ = 1 ∧ t.rv = 0)
  h : ∀ x ∈ m.H, x.en = 0 ∧ x.try_ = 1 ∧ x.W = []
theorem read_way (hpl : ∀ txs ∈ pl, ∀ l ∈ txs, ∀ a ∈ l, a.d = 0) (hg : Good words pl m) (hO : ∀ txs ∈ pl, ∀ l ∈ txs, ∀ a ∈ l, AcOk words a) (h : ReadI m) (hk : m.T[k]? = some t) (htx : pl[k]? = some txs) (hw : Way txs m k t m') : ReadI (timeM m') := by
  have ht := h.t k t hk
  have hmt : txs ∈ pl := List.mem_of_getElem? htx
  have hset : ∀ (t' : Tx), t'.W = [] ∧ (t'.st = 0 ∧ t'.try_ = 0 ∨ t'.st = 1 ∧ t'.try_ = 1 ∧ t'.rv = 0) → ∀ (j : Nat) u, (m.T.set k t')[j]? = some u → u.W = [] ∧ (u.st = 0 ∧ u.try_ = 0 ∨ u.st = 1 ∧ u.try_ = 1 ∧ u.rv = 0) := by
    intro t' ht' j u hu
    rcases set_get hu with ⟨_, rfl⟩ | ⟨_, hu⟩
    · exact ht'
    · exact h.t j u hu
  cases hw with
  | begins hs => exact ⟨h.n, h.l, h.w, hset _ ⟨ht.1, .inr ⟨rfl, by show t.try_ + 1 = 1; omega, h.n⟩⟩, h.h⟩
  | writes hs a ha hd u =>
    obtain ⟨l, hl, hal⟩ := act_mem ha
    have := hpl _ hmt l hl a hal
    omega
  | own hs a ha hd p hp hpa u => rw [ht.1] at hp; cases hp
  | reads hs a ha hd hn hs2 u => exact ⟨h.n, h.l, h.w, hset _ ⟨ht.1, by have := ht.2; show (t.st = 0 ∧ t.try_ = 0 ∨ t.st = 1 ∧ t.try_ = 1 ∧ t.rv = 0); exact this⟩, h.h⟩
  | blind hs a ha hd hn hs2 =>
    exfalso
    obtain ⟨l, hl, hal⟩ := act_mem ha
    have hok := hO _ hmt l hl a hal
    obtain ⟨b, hb⟩ : ∃ b : Nat, a.at_ = (b : Int) := ⟨a.at_.toNat, by have := hok.a0; omega⟩
    have hbl : b < m.L.length := by rw [hg.L]; have := hok.a1; omega
    rw [hb, sees_in hg.may hbl, h.l _ (List.getElem_mem hbl)] at hs2
    have : t.rv = 0 := by have := ht.2; omega
    rw [this] at hs2
    simp [freeH] at hs2
  | readonly hs hpc hW =>
    refine ⟨h.n, h.l, h.w, hset _ ?_, fun x hx => ?_⟩
    · rw [over_not (by omega)]
      exact ⟨rfl, .inl ⟨rfl, rfl⟩⟩
    · replace hx : x ∈ m.H ++ [tellR m k t 0] := hx
      rw [List.mem_append, List.mem_singleton] at hx
      rcases hx with hx | rfl
      · exact h.h x hx
      · exact ⟨rfl, by have := ht.2; show t.try_ = 1; omega, ht.1⟩
  | holds hs hpc hW => rw [ht.1] at hW; exact absurd rfl hW
  | takes hs x hx ht2 => have := ht.2; omega
  | clash hs x hx ht2 => have := ht.2; omega
  | ticks hs ht2 => have := ht.2; omega
  | late hs ht2 => have := ht.2; omega
  | checks hs x hx hs2 => have := ht.2; omega
  | stale hs x hx hs2 => have := ht.2; omega
  | done hs hx => have := ht.2; omega
  | backs hs x hx => have := ht.2; omega
theorem read_run (hp : PlanOk words mx pl) (hpl : ∀ txs ∈ pl, ∀ l ∈ txs, ∀ a ∈ l, a.d = 0) (picks : List Int) : ReadI (runM words mx pl picks) := by
  refine run_ind hp ⟨rfl, fun x hx => List.eq_of_mem_replicate hx, fun x hx => List.eq_of_mem_replicate hx, fun k t hk => ?_, fun x hx => by simp [initM] at hx⟩ (fun m k t txs m' hg h hk htx _ hw => read_way hpl hg hp.acs h hk htx hw) (fun m h => ⟨h.n, h.l, h.w, h.t, h.h⟩) picks
  simp only [initM] at hk
  rw [List.eq_of_mem_replicate (List.mem_of_getElem? hk)]
  exact ⟨rfl, .inl ⟨rfl, rfl⟩⟩
end
end Go.Proofs.Ytngimbfojccikaa
