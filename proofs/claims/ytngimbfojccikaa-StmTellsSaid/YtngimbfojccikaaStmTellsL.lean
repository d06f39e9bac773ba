/- Several texts in one: StFew, StPlain, StOrd. -/
import Derived.Test.YtngimbfojccikaaStmTellsJ
import Derived.Test.YtngimbfojccikaaStmTellsK
import Derived.Test.YtngimbfojccikaaStRunm
namespace Go.Proofs.Ytngimbfojccikaa
set_option linter.unusedSimpArgs false
open Go Go.RowKit
set_option linter.unusedVariables false

def FewPost (n np : Nat) (w : World) (e : Ending) (w' : World) : Prop := ∃ b, e = .returned (.bool b) ∧ (b = true → n ≤ 8 ∧ np ≤ 150) ∧ Below w.heap.size w w'
set_option maxRecDepth 100000 in
set_option maxHeartbeats 4000000 in
theorem few19_any (words mx : Int) (pl : List (List (List Ac))) (pv : Value) (kA : Option Addr) (np kc : Nat) (w : World) (hpl : PlV w pv pl) :
    Calls Try.prog 11 #[planV words mx pv, .slice kA np kc] w (FewPost pl.length np w) := by
  obtain ⟨A, c, rfl, hc1, hmx⟩ := hpl.form
  have hA0 := (Below.refl w.heap.size w).alloc (Nat.le_refl _) (.cells #[.int .i64 words, .int .i64 mx, .slice A pl.length c] 24)
  have k0 := Blk.new w 24 #[.int .i64 words, .int .i64 mx, .slice A pl.length c]
  obtain ⟨w1, hw1⟩ : ∃ x, w.alloc (.cells #[.int .i64 words, .int .i64 mx, .slice A pl.length c] 24) = x := ⟨_, rfl⟩
  rw [hw1] at hA0 k0
  have HEL := Lib.hid (fun (i : Nat) (txs : List (List Ac)) (h : pl[i]? = some txs) => (hpl.below hA0).at_ h)
  obtain ⟨n, hn⟩ : ∃ n, n = pl.length := ⟨_, rfl⟩
  rw [← hn] at hc1 k0 hw1 HEL ⊢
  unfold maxLen at hmx
  have HN := Lib.hid hn
  have HB := Lib.hid hA0
  have HW := Lib.hid hw1
  have p2 : w1.cell? ⟨w.heap.size, 2, none⟩ = some (.slice A n c) := by rw [k0.cell]; rfl
  have hn9 : n ≤ 9223372036854775807 := by omega
  clear hn hA0 hw1 k0 hc1 hmx hpl
  unfold planV
  go_enter Try.func11, Try.ntmps11
  go_wp2_with fail
  rw [HW.out]
  go_loopg [5, 6] n (fun gg s5 s6 wr => ∃ kk : Nat, kk ≤ n ∧ n - kk ≤ gg ∧ s5 = .int .i64 kk ∧ w1 = wr)
  case atStart => exact ⟨0, by omega, by omega, rfl, rfl⟩
  case round =>
    obtain ⟨k, hk, hg, rfl, rfl⟩ := hrel
    by_cases hlt : k < n
    · have hltz : (k : Int) < (n : Int) := by omega
      have hk0 : (0 : Int) ≤ (k : Int) := by omega
      obtain ⟨txs, htx⟩ : ∃ txs, pl[k]? = some txs := ⟨_, List.getElem?_eq_getElem (by rw [← HN.out]; exact hlt)⟩
      obtain ⟨b1, o1, c1, A1, d1, e1, hb1, _, hc1, hT⟩ := HEL.out k txs htx
      injection e1 with e1 _ e1c
      subst e1 e1c
      obtain ⟨m, hm⟩ : ∃ m, m = txs.length := ⟨_, rfl⟩
      have HM := Lib.hid hm
      have HE2 := Lib.hid (fun (i : Nat) (l : List Ac) (h : txs[i]? = some l) => hT.at_ h)
      have hmb : m ≤ 9223372036854775807 := by obtain ⟨avs, h5, _⟩ := hT; obtain ⟨_, _, _, h6, h7⟩ := h5.form; unfold maxLen at h7; omega
      rw [← hm] at hc1 HE2
      clear hT htx hm
      by_cases h8 : (8 : Int) < (m : Int)
      · go_wp2
        go_ret
        exact ⟨false, rfl, (fun h => by cases h), HB.out⟩
      · have hm8 : m ≤ 8 := by omega
        go_wp2_with fail
        go_loopg [6] m (fun gg s6 wr => ∃ jj : Nat, jj ≤ m ∧ m - jj ≤ gg ∧ s6 = .int .i64 jj ∧ w1 = wr)
        case atStart => exact ⟨0, by omega, by omega, by go_num, rfl⟩
        case round =>
          obtain ⟨j, hj, hg2, rfl, rfl⟩ := hrel
          by_cases hlt2 : j < m
          · have hltz2 : (j : Int) < (m : Int) := by omega
            have hj0 : (0 : Int) ≤ (j : Int) := by omega
            obtain ⟨l, hl⟩ : ∃ l, txs[j]? = some l := ⟨_, List.getElem?_eq_getElem (by rw [← HM.out]; exact hlt2)⟩
            obtain ⟨b3, o3, c3, A4, d4, e3, hb3, _, hc3, hL⟩ := HE2.out j l hl
            injection e3 with e3 _ e3c
            subst e3 e3c
            generalize l.length = p at *
            clear hL hl
            by_cases h10 : (10 : Int) < (p : Int)
            · go_wp2_with fail
              go_ret
              exact ⟨false, rfl, (fun h => by cases h), HB.out⟩
            · go_wp2_with fail
              go_roundg (m - (j + 1))
              case measure => omega
              case rel => exact ⟨j + 1, by omega, by omega, by go_num, rfl⟩
          · obtain rfl : j = m := by omega
            have hltz2 : ¬ (j : Int) < (j : Int) := by omega
            go_wp2_with fail
            go_roundg (n - (k + 1))
            case measure => omega
            case rel => exact ⟨k + 1, by omega, by omega, by go_num, rfl⟩
    · obtain rfl : n = k := by omega
      have hltz : ¬ (n : Int) < (n : Int) := by omega
      by_cases q1 : (n : Int) ≤ 8
      · by_cases q2 : (np : Int) ≤ 150
        · go_wp2
          go_ret
          exact ⟨_, rfl, (fun h => ⟨by omega, by omega⟩), HB.out⟩
        · go_wp2
          go_ret
          exact ⟨_, rfl, (fun h => by first | cases h | (simp at h; omega)), HB.out⟩
      · go_wp2
        go_ret
        exact ⟨_, rfl, (fun h => by first | cases h | (simp at h; omega)), HB.out⟩
end Go.Proofs.Ytngimbfojccikaa
namespace Go.Proofs.Ytngimbfojccikaa
set_option linter.unusedSimpArgs false
open Go
set_option linter.unusedVariables false

theorem eqL_iff' {α : Type} {q : α → α → Bool} (hq : ∀ x y, q x y = true ↔ x = y) : ∀ {xs ys : List α}, eqL q xs ys = true ↔ xs = ys := by
  intro xs ys
  constructor
  · intro h
    have hl := eqL_len h
    refine List.ext_getElem hl fun i h1 h2 => ?_
    exact (hq _ _).1 ((eqL_at hl i h1 h).symm ▸ rfl)
  · rintro rfl
    exact eqL_all rfl fun j h1 => (hq _ _).2 rfl
theorem sameL_iff' {n1 m1 n2 m2 : Int} {xs ys : List Lk} : sameL n1 m1 xs n2 m2 ys = true ↔ n1 = n2 ∧ m1 = m2 ∧ xs = ys := by
  unfold sameL
  rw [Bool.and_eq_true, Bool.and_eq_true, beq_iff_eq, beq_iff_eq, eqL_iff' (q := lkEq) (fun x y => lkEq_iff)]
theorem eqR_iff {α β γ : Type} {q : α → β → Bool} {f : α → γ} {g : β → γ} (hq : ∀ x y, q x y = true ↔ f x = g y) : ∀ {xs : List α} {ys : List β}, eqR q xs ys = true ↔ xs.map f = ys.map g
  | [], [] => by simp [eqR]
  | [], _ :: _ => by simp [eqR]
  | _ :: _, [] => by simp [eqR]
  | x :: xs, y :: ys => by
    unfold eqR
    rw [Bool.and_eq_true, hq, eqR_iff hq]
    simp
theorem txEq_iff (x y : Tx) : txEq x y = true ↔ erT x = erT y := by
  unfold txEq erT
  simp only [Bool.and_eq_true, beq_iff_eq, eqL_iff' (q := prEq) (fun x y => prEq_iff), Tx.mk.injEq]
  constructor
  · rintro ⟨h1, h2, h3, h4, h5, h6, h7, h8, h9, h10, h11⟩
    exact ⟨h1, h2, h3, h4, h5, h6, h7, trivial, trivial, h10, trivial, trivial, h11, h8, h9⟩
  · rintro ⟨h1, h2, h3, h4, h5, h6, h7, -, -, h10, -, -, h11, h8, h9⟩
    exact ⟨h1, h2, h3, h4, h5, h6, h7, h8, h9, h10, h11⟩
theorem rxEq_iff (x y : Rx) : rxEq x y = true ↔ erX x = erX y := by
  unfold rxEq erX
  simp only [Bool.and_eq_true, beq_iff_eq, eqL_iff' (q := prEq) (fun x y => prEq_iff), Rx.mk.injEq]
  constructor
  · rintro ⟨h1, h2, h3, h4, h5, h6, h7, h8, h9, h10⟩
    exact ⟨h1, h2, h3, h4, h5, h6, trivial, trivial, h9, trivial, trivial, h10, h7, h8⟩
  · rintro ⟨h1, h2, h3, h4, h5, h6, -, -, h9, -, -, h10, h7, h8⟩
    exact ⟨h1, h2, h3, h4, h5, h6, h7, h8, h9, h10⟩
theorem memEq_iff (m n : Mm) : memEq m n = true ↔ m.er = n.er := by
  unfold memEq
  rw [Bool.and_eq_true, Bool.and_eq_true, Bool.and_eq_true, Bool.and_eq_true, eqL_iff' (q := intEq) (fun x y => by unfold intEq; exact beq_iff_eq), eqR_iff txEq_iff, eqR_iff rxEq_iff, beq_iff_eq, sameL_iff']
  unfold Mm.er
  rw [Mm.mk.injEq]
  constructor
  · rintro ⟨h1, ⟨h2, h3, h4⟩, h5, h6, h7⟩
    exact ⟨h1, h2, h3, h4, h5, h6, h7⟩
  · rintro ⟨h1, h2, h3, h4, h5, h6, h7⟩
    exact ⟨h1, ⟨h2, h3, h4⟩, h5, h6, h7⟩
theorem idleL_er (pl : List (List (List Ac))) (m : Mm) (who : Int) : idleL pl m.er who = idleL pl m who := by
  unfold idleL
  rw [er_T]
  cases m.T[who.toNat]? with
  | none => rfl
  | some t => cases pl[who.toNat]? <;> rfl

/-! ### The chapter's example -/
def aP : List (List (List Ac)) := [[[⟨1, 0, 7⟩]]]
def aK : List Int := [0, 0, 0, 0, 0, 0, 0, 0]
def aM : Mm := ⟨[7], 1, 5, [⟨1, -1⟩], [{ Tx.zero with tx := 1 }], [⟨0, 0, 1, 0, 0, 1, none, 0, [], none, 0, [⟨0, 7⟩], 0, 5⟩], 8⟩
theorem aRun : runM 1 5 aP aK = aM := by rfl
theorem aMay : mayP 1 5 aP = true := by rfl
theorem aIdle : idleL aP aM 0 = true := by rfl
theorem aBound : boundL 1 5 aP 0 = 10 := by rfl
end Go.Proofs.Ytngimbfojccikaa
namespace Go.Proofs.Ytngimbfojccikaa
set_option linter.unusedSimpArgs false
open Go
set_option linter.unusedVariables false

section
variable {words : Nat} {mx : Int} {pl : List (List (List Ac))}

theorem runFrom_ind {P : Mm → Prop} (hp : PlanOk words mx pl)
    (hs : ∀ m k t txs m', Good words pl m → P m → m.T[k]? = some t → pl[k]? = some txs → t.tx < (txs.length : Int) → Way txs m k t m' → P (timeM m'))
    (ht : ∀ m, P m → P (timeM m)) : ∀ (picks : List Int) (m : Mm), Good words pl m → P m → P (runFrom pl m picks)
  | [], m, _, h => h
  | q :: picks, m, hg, h => by
    refine runFrom_ind hp hs ht picks _ (good_step hp hg q) ?_
    show P (timeM (stepM pl m q))
    unfold stepM
    split
    · unfold stepK
      cases hk : m.T[q.toNat]? with
      | none => exact ht m h
      | some t =>
        cases htx : pl[q.toNat]? with
        | none => exact ht m h
        | some txs =>
          simp only
          split
          · rename_i hlt
            exact hs m _ t txs _ hg h hk htx hlt (way_of (hg.ts _ t txs hk htx))
          · exact ht m h
    · exact ht m h
theorem run_ind {P : Mm → Prop} (hp : PlanOk words mx pl) (h0 : P (initM words mx pl.length))
    (hs : ∀ m k t txs m', Good words pl m → P m → m.T[k]? = some t → pl[k]? = some txs → t.tx < (txs.length : Int) → Way txs m k t m' → P (timeM m'))
    (ht : ∀ m, P m → P (timeM m)) (picks : List Int) : P (runM words mx pl picks) :=
  runFrom_ind hp hs ht picks _ (good_init hp) h0

theorem set_get {α : Type} {l : List α} {k j : Nat} {x y : α} (h : (l.set k x)[j]? = some y) : (j = k ∧ y = x) ∨ (j ≠ k ∧ l[j]? = some y) := by
  rw [List.getElem?_set] at h
  split at h
  · rename_i e
    split at h
    · injection h with h
      exact .inl ⟨e.symm, h.symm⟩
    · cases h
  · rename_i e
    exact .inr ⟨fun h => e h.symm, h⟩

/-! ### StmOrder -/
structure OrdI (m : Mm) : Prop where
  t1 : ∀ (k : Nat) t, m.T[k]? = some t → 1 ≤ t.st → t.rv ≤ m.now
  t4 : ∀ (k : Nat) t, m.T[k]? = some t → 4 ≤ t.st → t.rv < t.wv ∧ t.wv ≤ m.now
  hs : ∀ x ∈ m.H, x.W.Pairwise (fun p q => p.at_ < q.at_) ∧ x.rv ≤ m.now ∧ (x.en = 0 → x.W ≠ [] → x.rv < x.wv ∧ x.wv ≤ m.now)
theorem overT_st (t : Tx) (how : Int) : (overT t how).st = 0 := by unfold overT; split <;> rfl
theorem OrdI.with {m m' : Mm} {k : Nat} {t' : Tx} (h : OrdI m) (hn : m.now ≤ m'.now) (hT : m'.T = m.T.set k t') (h1 : 1 ≤ t'.st → t'.rv ≤ m'.now) (h4 : 4 ≤ t'.st → t'.rv < t'.wv ∧ t'.wv ≤ m'.now)
    (hH : ∀ x ∈ m'.H, x ∈ m.H ∨ (x.W.Pairwise (fun p q => p.at_ < q.at_) ∧ x.rv ≤ m'.now ∧ (x.en = 0 → x.W ≠ [] → x.rv < x.wv ∧ x.wv ≤ m'.now))) : OrdI (timeM m') := by
  refine ⟨fun j u hu hs => ?_, fun j u hu hs => ?_, fun x hx => ?_⟩
  · replace hu : m'.T[j]? = some u := hu
    rw [hT] at hu
    show u.rv ≤ m'.now
    rcases set_get hu with ⟨_, rfl⟩ | ⟨_, hu⟩
    · exact h1 hs
    · have := h.t1 j u hu hs; omega
  · replace hu : m'.T[j]? = some u := hu
    rw [hT] at hu
    show u.rv < u.wv ∧ u.wv ≤ m'.now
    rcases set_get hu with ⟨_, rfl⟩ | ⟨_, hu⟩
    · exact h4 hs
    · have := h.t4 j u hu hs; omega
  · show x.W.Pairwise _ ∧ x.rv ≤ m'.now ∧ (x.en = 0 → x.W ≠ [] → x.rv < x.wv ∧ x.wv ≤ m'.now)
    rcases hH x hx with hx | hx
    · have := h.hs x hx
      exact ⟨this.1, by have := this.2.1; omega, fun e1 e2 => by have := this.2.2 e1 e2; omega⟩
    · exact hx
theorem ord_way {m : Mm} {k : Nat} {t : Tx} {txs : List (List Ac)} {m' : Mm} (hg : Good words pl m) (h : OrdI m) (hk : m.T[k]? = some t) (htx : pl[k]? = some txs) (hw : Way txs m k t m') : OrdI (timeM m') := by
  have gt := hg.ts k t txs hk htx
  have h1 := h.t1 k t hk
  have h4 := h.t4 k t hk
  have hno : ∀ (how : Int) (n : Mm), n.now = m.now → how ≠ 0 → n.H = m.H → 1 ≤ t.st → ∀ x ∈ (endM n k t how).H, x ∈ m.H ∨ (x.W.Pairwise (fun p q => p.at_ < q.at_) ∧ x.rv ≤ m.now ∧ (x.en = 0 → x.W ≠ [] → x.rv < x.wv ∧ x.wv ≤ m.now)) := by
    intro how n hn hh hH hst x hx
    simp only [endM, overM, tellM, List.mem_append, List.mem_singleton, hH] at hx
    rcases hx with hx | rfl
    · exact .inl hx
    · exact .inr ⟨gt.ws, h1 hst, fun e => absurd e hh⟩
  have hov : ∀ (how : Int), (1 ≤ (overT t how).st → (overT t how).rv ≤ m.now) ∧ (4 ≤ (overT t how).st → (overT t how).rv < (overT t how).wv ∧ (overT t how).wv ≤ m.now) := fun how => by
    rw [overT_st]
    exact ⟨fun h => by omega, fun h => by omega⟩
  cases hw with
  | begins hs => exact h.with (Int.le_refl _) rfl (fun _ => Int.le_refl _) (fun h => by have : (4 : Int) ≤ 1 := h; omega) (fun x hx => .inl hx)
  | writes hs a ha hd u => exact h.with (Int.le_refl _) rfl (fun hst => h1 hst) (fun hst => h4 hst) (fun x hx => .inl hx)
  | own hs a ha hd p hp hpa u => exact h.with (Int.le_refl _) rfl (fun hst => h1 hst) (fun hst => h4 hst) (fun x hx => .inl hx)
  | reads hs a ha hd hn hs2 u => exact h.with (Int.le_refl _) rfl (fun hst => h1 hst) (fun hst => h4 hst) (fun x hx => .inl hx)
  | blind hs a ha hd hn hs2 => exact h.with (Int.le_refl _) rfl (hov 1).1 (hov 1).2 (hno 1 m rfl (by omega) rfl (by omega))
  | readonly hs hpc hW =>
    refine h.with (Int.le_refl _) rfl (hov 0).1 (hov 0).2 (fun x hx => ?_)
    simp only [endM, overM, tellM, List.mem_append, List.mem_singleton] at hx
    rcases hx with hx | rfl
    · exact .inl hx
    · exact .inr ⟨gt.ws, h1 (by omega), fun _ e => absurd (List.eq_nil_of_length_eq_zero hW) e⟩
  | holds hs hpc hW => exact h.with (Int.le_refl _) rfl (fun _ => h1 (by omega)) (fun h => by have : (4 : Int) ≤ 2 := h; omega) (fun x hx => .inl hx)
  | takes hs x hx ht => exact h.with (Int.le_refl _) rfl (fun _ => h1 (by omega)) (fun h => by exfalso; simp only at h; split at h <;> omega) (fun x hx => .inl hx)
  | clash hs x hx ht => exact h.with (Int.le_refl _) rfl (hov 1).1 (hov 1).2 (hno 1 _ rfl (by omega) rfl (by omega))
  | ticks hs ht =>
    rcases tick_cases hg.may with ⟨_, e⟩ | ⟨hlt, e⟩
    · rw [e] at ht; simp at ht
    · have hr := h1 (by omega)
      refine h.with (m' := { m with now := (tickL m.now m.mx m.L).1, T := m.T.set k { t with wv := (tickL m.now m.mx m.L).2.1, st := 4, i := 0 } }) (by show m.now ≤ (tickL m.now m.mx m.L).1; rw [e]; show m.now ≤ m.now + 1; omega) rfl (fun _ => ?_) (fun _ => ?_) (fun x hx => .inl hx)
      · show t.rv ≤ (tickL m.now m.mx m.L).1
        rw [e]; show t.rv ≤ m.now + 1; omega
      · show t.rv < (tickL m.now m.mx m.L).2.1 ∧ (tickL m.now m.mx m.L).2.1 ≤ (tickL m.now m.mx m.L).1
        rw [e]; show t.rv < m.now + 1 ∧ m.now + 1 ≤ m.now + 1; omega
  | late hs ht => exact h.with (Int.le_refl _) rfl (hov 2).1 (hov 2).2 (hno 2 _ rfl (by omega) rfl (by omega))
  | checks hs x hx hs2 => exact h.with (Int.le_refl _) rfl (fun hst => h1 hst) (fun hst => h4 hst) (fun x hx => .inl hx)
  | stale hs x hx hs2 => exact h.with (Int.le_refl _) rfl (hov 1).1 (hov 1).2 (hno 1 _ rfl (by omega) rfl (by omega))
  | done hs hx =>
    refine h.with (m' := { tellM m k t 0 with T := m.T.set k { t with st := 5, i := 0 } }) (Int.le_refl _) rfl (fun _ => h1 (by omega)) (fun _ => h4 (by omega)) (fun x hx => ?_)
    simp only [tellM, List.mem_append, List.mem_singleton] at hx
    rcases hx with hx | rfl
    · exact .inl hx
    · exact .inr ⟨gt.ws, h1 (by omega), fun _ _ => h4 (by omega)⟩
  | backs hs x hx =>
    refine h.with (m' := { m with W := m.W.set x.at_.toNat x.v, L := (giveL m.now m.mx m.L x.at_ (k : Int) t.wv).2, T := m.T.set k (if t.i + 1 = t.W.length then overT t 0 else { t with i := t.i + 1 }) }) (Int.le_refl _) rfl (fun hst => ?_) (fun hst => ?_) (fun x hx => .inl hx)
    · split at hst
      · rw [overT_st] at hst; omega
      · rw [if_neg (by assumption)]; exact h1 hst
    · split at hst
      · rw [overT_st] at hst; omega
      · rw [if_neg (by assumption)]; exact h4 hst
theorem ord_run (hp : PlanOk words mx pl) (picks : List Int) : OrdI (runM words mx pl picks) := by
  refine run_ind hp ⟨fun k t hk hs => ?_, fun k t hk hs => ?_, fun x hx => by simp [initM] at hx⟩ (fun m k t txs m' hg h hk htx _ hw => ord_way hg h hk htx hw) (fun m h => ⟨h.t1, h.t4, h.hs⟩) picks
  all_goals
    simp only [initM] at hk
    have := List.eq_of_mem_replicate (List.mem_of_getElem? hk)
    rw [this] at hs
    simp [Tx.zero] at hs
end
end Go.Proofs.Ytngimbfojccikaa
