/- slices.stableCmpFunc, SortStableFunc at []api.Rec. -/
import Derived.Test.YtmcbnpeihedcaaaSrSym3
namespace Go.Proofs.Ytmcbnpeihedcaaa
set_option linter.unusedSimpArgs false
open Go Go.RowKit
set_option linter.unusedVariables false
attribute [local go_sem ↓] Go.wp_at_zero Go.wp_at_succ

theorem symmerge_any (base g c : Nat) : ∀ (d : Nat) (l : List Rx) (a m b : Nat) (w : World), b - a ≤ d → OwnR w base g c l → a < m → m < b → b ≤ l.length → l.length ≤ 100000 → base ≤ w.heap.size → Srt Rx.wv l a m → Srt Rx.wv l m b → SymC base g c l.length l a m b w := by
  intro d
  induction d with
  | zero => intro l a m b w hd _ h1 h2; omega
  | succ d ih =>
    intro l a m b w hd hr h1 h2 h3 hn hb s1 s2 x y z hx hy hz
    by_cases c1 : m = a + 1
    · exact symup_any base g c l a m b x y z w hr hx hy hz c1 h2 h3 hn hb s2
    · by_cases c2 : b = m + 1
      · exact symdn_any base g c l a m b x y z w hr hx hy hz c2 c1 h1 h3 hn hb s1
      · refine symgen_any base g c l a m b x y z w hr hx hy hz h1 h2 c1 c2 h3 hn hb s1 s2 fun l' a' m' b' w' q1 q2 q3 q4 q5 q6 q7 q8 q9 => ?_
        have := ih l' a' m' b' w' (by omega) q2 q3 q4 (by omega) (by omega) q7 q8 q9
        rwa [q1] at this

/-- Each part of s rises. -/
def BSrt (l : List Rx) (s n : Nat) : Prop := ∀ t, Srt Rx.wv l (t * s) (min (t * s + s) n)
/-- Parts of 2 * s up to a, of s from there on. -/
def HSrt (l : List Rx) (s n a : Nat) : Prop := (∃ T, a = T * (2 * s)) ∧ (∀ t, t * (2 * s) < a → Srt Rx.wv l (t * (2 * s)) (t * (2 * s) + 2 * s)) ∧ ∀ t, a ≤ t * s → Srt Rx.wv l (t * s) (min (t * s + s) n)
theorem Srt.out {l l' : List Rx} {a b p q : Nat} (h : Srt Rx.wv l p q) (ho : Out l l' a b) (hd : q ≤ a ∨ b ≤ p) : Srt Rx.wv l' p q := fun i j x y h1 h2 h3 h4 h5 => by
  rw [ho i (by omega)] at h4
  rw [ho j (by omega)] at h5
  exact h i j x y h1 h2 h3 h4 h5
theorem BSrt.start {l : List Rx} {s n : Nat} (h : BSrt l s n) : HSrt l s n 0 := ⟨⟨0, by simp⟩, fun t ht => by omega, fun t _ => h t⟩
theorem HSrt.pre {l : List Rx} {s n a : Nat} (h : HSrt l s n a) : Srt Rx.wv l a (min (a + s) n) ∧ Srt Rx.wv l (a + s) (min (a + 2 * s) n) := by
  obtain ⟨⟨T, hT⟩, _, h3⟩ := h
  have e1 : (2 * T) * s = a := by rw [hT, Nat.mul_comm 2 T, Nat.mul_assoc]
  have e2 : (2 * T + 1) * s = a + s := by rw [Nat.add_mul, e1, Nat.one_mul]
  have a1 := h3 (2 * T) (by omega)
  have a2 := h3 (2 * T + 1) (by omega)
  rw [e1] at a1
  rw [e2, show a + s + s = a + 2 * s from by omega] at a2
  exact ⟨a1, a2⟩
theorem HSrt.step {l l' : List Rx} {s n a : Nat} (h : HSrt l s n a) (h1 : Srt Rx.wv l' a (a + 2 * s)) (ho : Out l l' a (a + 2 * s)) : HSrt l' s n (a + 2 * s) := by
  obtain ⟨⟨T, hT⟩, h2, h3⟩ := h
  refine ⟨⟨T + 1, by rw [Nat.add_mul, ← hT]; omega⟩, fun t ht => ?_, fun t ht => ?_⟩
  · by_cases e : t = T
    · subst e; rw [← hT]; exact h1
    · have hlt : t < T := by
        apply Nat.lt_of_not_le
        intro hge
        have h5 : (T + 1) * (2 * s) ≤ t * (2 * s) := Nat.mul_le_mul_right _ (by omega)
        rw [Nat.add_mul, ← hT] at h5
        omega
      have h6 : (t + 1) * (2 * s) ≤ T * (2 * s) := Nat.mul_le_mul_right _ (by omega)
      rw [Nat.add_mul, ← hT] at h6
      have h7 : t * (2 * s) < a ∨ s = 0 := by
        by_cases e0 : s = 0
        · exact .inr e0
        · exact .inl (by omega)
      rcases h7 with h7 | h7
      · exact (h2 t h7).out ho (.inl (by omega))
      · intro p q x y c1 c2 c3; omega
  · exact (h3 t (by omega)).out ho (.inr (by omega))
theorem HSrt.done {l : List Rx} {s n a : Nat} (h : HSrt l s n a) (hs : 0 < s) (hn : n < a + 2 * s) (han : a ≤ n) (h1 : Srt Rx.wv l a n) : BSrt l (2 * s) n := by
  obtain ⟨⟨T, hT⟩, h2, h3⟩ := h
  intro t
  by_cases e : t = T
  · subst e; rw [← hT, Nat.min_eq_right (by omega)]; exact h1
  · by_cases hlt : t < T
    · have h6 : (t + 1) * (2 * s) ≤ T * (2 * s) := Nat.mul_le_mul_right _ (by omega)
      rw [Nat.add_mul, ← hT] at h6
      rw [Nat.min_eq_left (by omega)]
      exact h2 t (by omega)
    · have h6 : (T + 1) * (2 * s) ≤ t * (2 * s) := Nat.mul_le_mul_right _ (by omega)
      rw [Nat.add_mul, ← hT] at h6
      intro p q x y c1 c2 c3
      omega
/-- Parts of 20 up to a. -/
def ISrt (l : List Rx) (a : Nat) : Prop := (∃ T, a = T * 20) ∧ ∀ t, t * 20 < a → Srt Rx.wv l (t * 20) (t * 20 + 20)
theorem ISrt.step {l l' : List Rx} {a : Nat} (h : ISrt l a) (h1 : Srt Rx.wv l' a (a + 20)) (ho : Out l l' a (a + 20)) : ISrt l' (a + 20) := by
  obtain ⟨⟨T, hT⟩, h2⟩ := h
  refine ⟨⟨T + 1, by omega⟩, fun t ht => ?_⟩
  by_cases e : t = T
  · subst e; rw [← hT]; exact h1
  · exact (h2 t (by omega)).out ho (.inl (by omega))
theorem ISrt.done {l l' : List Rx} {a n : Nat} (h : ISrt l a) (hn : n < a + 20) (han : a ≤ n) (h1 : Srt Rx.wv l' a n) (ho : Out l l' a n) : BSrt l' 20 n := by
  obtain ⟨⟨T, hT⟩, h2⟩ := h
  intro t
  by_cases e : t = T
  · subst e; rw [← hT, Nat.min_eq_right (by omega)]; exact h1
  · by_cases hlt : t < T
    · rw [Nat.min_eq_left (by omega)]
      exact (h2 t (by omega)).out ho (.inl (by omega))
    · intro p q x y c1 c2 c3
      omega

/-- What the whole sort hands back. -/
def StabPost (base g c : Nat) (l : List Rx) (w : World) (e : Ending) (w' : World) : Prop :=
  e = .returned (.tuple #[]) ∧ ∃ l' : List Rx, l'.length = l.length ∧ OwnR w' base g c l' ∧ Srt Rx.wv l' 0 l.length ∧ Stab Rx.wv l l' ∧ Below base w w'

set_option maxRecDepth 100000 in
set_option maxHeartbeats 8000000 in
theorem stable_any (base g c : Nat) (l : List Rx) (w : World) (hr : OwnR w base g c l) (hn : l.length ≤ 100000) (hbase : base ≤ w.heap.size) :
    Calls Try.prog 48 #[.slice (some ⟨g, 0, none⟩) l.length c, .int .i64 (l.length : Int), .func (.func 31) #[] #[]] w (StabPost base g c l w) := by
  obtain ⟨n, hnn⟩ : ∃ n, n = l.length := ⟨_, rfl⟩
  have HL := Lib.hid hnn
  have HR := Lib.hid hr
  have HI := Lib.hid (fun (l' : List Rx) (hc : l'.length = l.length) (a b : Nat) (W : World) (h : OwnR W base g c l') h1 h2 h3 => (hc ▸ insort_any base g c l' a b W h h1 h2 h3 (by omega) : Calls Try.prog 64 #[.slice (some ⟨g, 0, none⟩) l.length c, .int .i64 (a : Int), .int .i64 (b : Int), .func (.func 31) #[] #[]] W (SortPost base g c l' a b W)))
  have HSY := Lib.hid (fun (l' : List Rx) (hc : l'.length = l.length) (a m b : Nat) (W : World) h1 h2 h3 h4 h5 h6 h7 => (hc ▸ symmerge_any base g c (b - a) l' a m b W (Nat.le_refl _) h1 h2 h3 h4 (by omega) h5 h6 h7 : SymC base g c l.length l' a m b W))
  rw [← hnn] at hn HI HSY ⊢
  clear hr hnn
  go_enter Try.func48, Try.ntmps48
  go_upto_block 0 with fail
  go_cut [7] (fun s7 wx => ∃ (a : Nat) (cur : List Rx), s7 = .int .i64 a ∧ a ≤ n ∧ n < a + 20 ∧ Hid (ISrt cur a ∧ cur.length = l.length ∧ Stab Rx.wv l cur ∧ OwnR wx base g c cur ∧ Below base w wx))
  case first =>
    as_aux_lemma =>
    go_wp2_with fail
    go_loopg [7, 8] n (fun gg s7 s8 wr => ∃ (a b : Nat) (cur : List Rx), s7 = .int .i64 a ∧ s8 = .int .i64 b ∧ b = a + 20 ∧ a ≤ n ∧ n - a ≤ gg ∧ Hid (ISrt cur a ∧ cur.length = l.length ∧ Stab Rx.wv l cur ∧ OwnR wr base g c cur ∧ Below base w wr))
    case atStart => exact ⟨0, 20, l, rfl, rfl, rfl, by omega, by omega, ⟨⟨0, rfl⟩, fun t ht => by omega⟩, rfl, Stab.refl _, HR.out, Below.refl _ _⟩
    case round =>
      obtain ⟨a, b, cur, rfl, rfl, hba, han, hg, HM⟩ := hrel
      have HBA := Lib.hid hba
      have hb1 : a < b := by omega
      have hb2 : b ≤ a + 20 := by omega
      clear hba
      by_cases hlt : b ≤ n
      · have hltz : (b : Int) ≤ (n : Int) := by omega
        go_wp2_with fail
        refine (HI.out cur (HM.out.2.1.trans HL.out.symm) a b _ HM.out.2.2.2.1 (by have := HM.out.2.2.2.2.size; omega) (by have h1 := HM.out.2.1; have h2 := HL.out; omega) (by have h1 := HM.out.2.1; have h2 := HL.out; omega)).mono ?_
        rintro e w1 ⟨rfl, l', hl', hO, hS, hU, hT, hB⟩
        have HX := Lib.hid (show ISrt l' b ∧ l'.length = l.length ∧ Stab Rx.wv l l' ∧ OwnR w1 base g c l' ∧ Below base w w1 from by
          have hq := HBA.out
          rw [hq] at hS hU ⊢
          exact ⟨HM.out.1.step hS hU, hl'.trans HM.out.2.1, HM.out.2.2.1.trans hT, hO, HM.out.2.2.2.2.trans hB⟩)
        clear hO hS hU hT hB hl'
        go_wp2
        go_roundg (n - b)
        case measure => omega
        case rel => exact ⟨b, b + 20, l', rfl, by go_num, rfl, hlt, by omega, HX⟩
      · have hltz : ¬ (b : Int) ≤ (n : Int) := by omega
        go_wp2
        go_meet
        exact ⟨a, cur, rfl, han, by omega, HM.out⟩
  case rest =>
    obtain ⟨a, cur, rfl, han, hna, HM⟩ := hcut
    obtain ⟨w1, rfl⟩ : ∃ x : World, x = wc := ⟨_, rfl⟩
    go_wp2_with fail
    refine (HI.out cur (HM.out.2.1.trans HL.out.symm) a n _ HM.out.2.2.2.1 (by have := HM.out.2.2.2.2.size; omega) (by have h1 := HM.out.2.1; have h2 := HL.out; omega) (by have h1 := HM.out.2.1; have h2 := HL.out; omega)).mono ?_
    rintro e w2 ⟨rfl, l', hl', hO, hS, hU, hT, hB⟩
    have HX := Lib.hid (show BSrt l' 20 n ∧ l'.length = l.length ∧ Stab Rx.wv l l' ∧ OwnR w2 base g c l' ∧ Below base w w2 from ⟨HM.out.1.done hna han hS hU, hl'.trans HM.out.2.1, HM.out.2.2.1.trans hT, hO, HM.out.2.2.2.2.trans hB⟩)
    clear hO hS hU hT hB hl'
    go_wp2_with fail
    go_loopg [6] n (fun gg s6 wr => ∃ (s : Nat) (cur : List Rx), s6 = .int .i64 s ∧ 20 ≤ s ∧ s ≤ 1000000 ∧ n - s ≤ gg ∧ Hid (BSrt cur s n ∧ cur.length = l.length ∧ Stab Rx.wv l cur ∧ OwnR wr base g c cur ∧ Below base w wr))
    case atStart => exact ⟨20, l', by go_num, by omega, by omega, by omega, HX.out⟩
    case round =>
      obtain ⟨s, cur2, rfl, hs20, hsm, hg, HY⟩ := hrel
      clear HX HM
      by_cases hlt : s < n
      · have hltz : (s : Int) < (n : Int) := by omega
        go_upto_block 4 with fail
        go_cut [7] (fun s7 wx => ∃ (a : Nat) (cur : List Rx), s7 = .int .i64 a ∧ a ≤ n ∧ n < a + 2 * s ∧ Hid (HSrt cur s n a ∧ cur.length = l.length ∧ Stab Rx.wv l cur ∧ OwnR wx base g c cur ∧ Below base w wx))
        case first =>
          as_aux_lemma =>
          go_wp2_with fail
          go_loopg [7, 8] n (fun gg s7 s8 wr => ∃ (a b : Nat) (cur : List Rx), s7 = .int .i64 a ∧ s8 = .int .i64 b ∧ b = a + 2 * s ∧ a ≤ n ∧ n - a ≤ gg ∧ Hid (HSrt cur s n a ∧ cur.length = l.length ∧ Stab Rx.wv l cur ∧ OwnR wr base g c cur ∧ Below base w wr))
          case atStart => exact ⟨0, 2 * s, cur2, rfl, by go_num, by omega, by omega, by omega, HY.out.1.start, HY.out.2⟩
          case round =>
            obtain ⟨a, b, cur, rfl, rfl, hba, han, hg, HM⟩ := hrel
            have HBA := Lib.hid hba
            have hb1 : a + s < b := by omega
            have hb2 : b ≤ a + 2000000 := by omega
            clear hba
            by_cases hlt2 : b ≤ n
            · have hltz : (b : Int) ≤ (n : Int) := by omega
              go_wp2_with fail
              refine (HSY.out cur (HM.out.2.1.trans HL.out.symm) a (a + s) b _ HM.out.2.2.2.1 (by omega) hb1 (by have h1 := HM.out.2.1; have h2 := HL.out; omega) (by have := HM.out.2.2.2.2.size; omega) (by have := HM.out.1.pre.1; rwa [Nat.min_eq_left (by omega)] at this) (by have := HM.out.1.pre.2; have hq := HBA.out; rw [Nat.min_eq_left (by omega), ← hq] at this; exact this) _ _ _ rfl (by go_num) rfl).mono ?_
              rintro e w3 ⟨rfl, l3, hl3, hO, hS, hU, hT, hB⟩
              have HX := Lib.hid (show HSrt l3 s n b ∧ l3.length = l.length ∧ Stab Rx.wv l l3 ∧ OwnR w3 base g c l3 ∧ Below base w w3 from by
                have hq := HBA.out
                rw [hq] at hS hU ⊢
                exact ⟨HM.out.1.step hS hU, hl3.trans HM.out.2.1, HM.out.2.2.1.trans hT, hO, HM.out.2.2.2.2.trans hB⟩)
              clear hO hS hU hT hB hl3
              go_wp2
              go_roundg (n - b)
              case measure => omega
              case rel => exact ⟨b, b + 2 * s, l3, rfl, by go_num, rfl, hlt2, by omega, HX⟩
            · have hltz : ¬ (b : Int) ≤ (n : Int) := by omega
              have hend := Lib.hid (show n < a + 2 * s from by have := HBA.out; omega)
              go_wp2
              go_meet
              exact ⟨a, cur, rfl, han, hend.out, HM.out⟩
        case rest =>
          obtain ⟨a, cur, rfl, han, hna, HM⟩ := hcut
          obtain ⟨w5, rfl⟩ : ∃ x : World, x = wc := ⟨_, rfl⟩
          by_cases hm : a + s < n
          · have hm' : (a : Int) + (s : Int) < (n : Int) := by omega
            go_wp2_with fail
            refine (HSY.out cur (HM.out.2.1.trans HL.out.symm) a (a + s) n _ HM.out.2.2.2.1 (by omega) hm (by have h1 := HM.out.2.1; have h2 := HL.out; omega) (by have := HM.out.2.2.2.2.size; omega) (by have := HM.out.1.pre.1; rwa [Nat.min_eq_left (by omega)] at this) (by have := HM.out.1.pre.2; rwa [Nat.min_eq_right (by omega)] at this) _ _ _ rfl (by go_num) rfl).mono ?_
            rintro e w6 ⟨rfl, l3, hl3, hO, hS, hU, hT, hB⟩
            have HX := Lib.hid (show BSrt l3 (s * 2) n ∧ l3.length = l.length ∧ Stab Rx.wv l l3 ∧ OwnR w6 base g c l3 ∧ Below base w w6 from by
              refine ⟨?_, hl3.trans HM.out.2.1, HM.out.2.2.1.trans hT, hO, HM.out.2.2.2.2.trans hB⟩
              rw [Nat.mul_comm s 2]
              refine HSrt.done (a := a) ⟨HM.out.1.1, fun t ht => ?_, fun t ht => ?_⟩ (by omega) hna han hS
              · obtain ⟨T, hT2⟩ := HM.out.1.1
                have hlt3 : t < T := by
                  apply Nat.lt_of_not_le
                  intro hge
                  have h5 : T * (2 * s) ≤ t * (2 * s) := Nat.mul_le_mul_right _ hge
                  omega
                have h6 : (t + 1) * (2 * s) ≤ T * (2 * s) := Nat.mul_le_mul_right _ (by omega)
                rw [Nat.add_mul, ← hT2] at h6
                exact (HM.out.1.2.1 t ht).out hU (.inl (by omega))
              · intro p q x y c1 c2 c3 c4 c5
                exact hS p q x y (by omega) c2 (by omega) c4 c5)
            clear hO hS hU hT hB hl3
            go_wp2
            go_roundg (n - s * 2)
            case measure => omega
            case rel => exact ⟨s * 2, l3, by go_num, by omega, by omega, by omega, HX⟩
          · have hm' : ¬ (a : Int) + (s : Int) < (n : Int) := by omega
            have HX := Lib.hid (show BSrt cur (s * 2) n from by
              rw [Nat.mul_comm s 2]
              exact HM.out.1.done (by omega) hna han (by have := HM.out.1.pre.1; rwa [Nat.min_eq_right (by omega)] at this))
            go_wp2
            go_roundg (n - s * 2)
            case measure => omega
            case rel => exact ⟨s * 2, cur, by go_num, by omega, by omega, by omega, (show Hid _ from ⟨HX.out, HM.out.2⟩)⟩
      · have hltz : ¬ (s : Int) < (n : Int) := by omega
        go_wp2
        go_end0
        exact ⟨rfl, cur2, HY.out.2.1, HY.out.2.2.2.1, by have := HY.out.1 0; rw [Nat.zero_mul, Nat.zero_add, Nat.min_eq_right (by omega)] at this; rw [← HL.out]; exact this, HY.out.2.2.1, HY.out.2.2.2.2⟩

set_option maxHeartbeats 1000000 in
theorem sortst_any (base g c : Nat) (l : List Rx) (w : World) (hr : OwnR w base g c l) (hn : l.length ≤ 100000) (hbase : base ≤ w.heap.size) :
    Calls Try.prog 30 #[.slice (some ⟨g, 0, none⟩) l.length c, .func (.func 31) #[] #[]] w (StabPost base g c l w) := by
  have hc := stable_any base g c l w hr hn hbase
  clear hr
  go_enter Try.func30, Try.ntmps30
  go_wp2_with fail
  refine hc.mono ?_
  rintro e w1 ⟨rfl, hx⟩
  have HX := Lib.hid hx
  clear hx
  go_wp2
  go_end0
  exact ⟨rfl, HX.out⟩
end Go.Proofs.Ytmcbnpeihedcaaa
