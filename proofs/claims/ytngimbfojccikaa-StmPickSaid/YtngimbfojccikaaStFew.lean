/- Few. -/
import Derived.Test.YtngimbfojccikaaStMay
namespace Go.Proofs.Ytngimbfojccikaa
set_option linter.unusedSimpArgs false
open Go Go.RowKit
set_option linter.unusedVariables false

def FewPost (n np : Nat) (w : World) (e : Ending) (w' : World) : Prop := ∃ b, e = .returned (.bool b) ∧ (b = true → n ≤ 8 ∧ np ≤ 150) ∧ Below w.heap.size w w'
set_option maxRecDepth 100000 in
set_option maxHeartbeats 4000000 in
theorem few19_any (words mx : Int) (pl : List (List (List Ac))) (pv : Value) (kA : Option Addr) (np kc : Nat) (w : World) (hpl : PlV w pv pl) :
    Calls Try.prog 11 #[planV words mx pv, .slice kA np kc] w (FewPost pl.length np w) := by
  obtain ⟨A, c, rfl, hc1, hmx⟩ := hpl.form
  have hA0 := (Below.refl w.heap.size w).alloc (Nat.le_refl _) (.cells #[.int .i64 words, .int .i64 mx, .slice A pl.length c] 24)
  have k0 := Blk.new w 24 #[.int .i64 words, .int .i64 mx, .slice A pl.length c]
  obtain ⟨w1, hw1⟩ : ∃ x, w.alloc (.cells #[.int .i64 words, .int .i64 mx, .slice A pl.length c] 24) = x := ⟨_, rfl⟩
  rw [hw1] at hA0 k0
  have HEL := Lib.hid (fun (i : Nat) (txs : List (List Ac)) (h : pl[i]? = some txs) => (hpl.below hA0).at_ h)
  obtain ⟨n, hn⟩ : ∃ n, n = pl.length := ⟨_, rfl⟩
  rw [← hn] at hc1 k0 hw1 HEL ⊢
  unfold maxLen at hmx
  have HN := Lib.hid hn
  have HB := Lib.hid hA0
  have HW := Lib.hid hw1
  have p2 : w1.cell? ⟨w.heap.size, 2, none⟩ = some (.slice A n c) := by rw [k0.cell]; rfl
  have hn9 : n ≤ 9223372036854775807 := by omega
  clear hn hA0 hw1 k0 hc1 hmx hpl
  unfold planV
  go_enter Try.func11, Try.ntmps11
  go_wp2_with fail
  rw [HW.out]
  go_loopg [5, 6] n (fun gg s5 s6 wr => ∃ kk : Nat, kk ≤ n ∧ n - kk ≤ gg ∧ s5 = .int .i64 kk ∧ w1 = wr)
  case atStart => exact ⟨0, by omega, by omega, rfl, rfl⟩
  case round =>
    obtain ⟨k, hk, hg, rfl, rfl⟩ := hrel
    by_cases hlt : k < n
    · have hltz : (k : Int) < (n : Int) := by omega
      have hk0 : (0 : Int) ≤ (k : Int) := by omega
      obtain ⟨txs, htx⟩ : ∃ txs, pl[k]? = some txs := ⟨_, List.getElem?_eq_getElem (by rw [← HN.out]; exact hlt)⟩
      obtain ⟨b1, o1, c1, A1, d1, e1, hb1, _, hc1, hT⟩ := HEL.out k txs htx
      injection e1 with e1 _ e1c
      subst e1 e1c
      obtain ⟨m, hm⟩ : ∃ m, m = txs.length := ⟨_, rfl⟩
      have HM := Lib.hid hm
      have HE2 := Lib.hid (fun (i : Nat) (l : List Ac) (h : txs[i]? = some l) => hT.at_ h)
      have hmb : m ≤ 9223372036854775807 := by obtain ⟨avs, h5, _⟩ := hT; obtain ⟨_, _, _, h6, h7⟩ := h5.form; unfold maxLen at h7; omega
      rw [← hm] at hc1 HE2
      clear hT htx hm
      by_cases h8 : (8 : Int) < (m : Int)
      · go_wp2
        go_ret
        exact ⟨false, rfl, (fun h => by cases h), HB.out⟩
      · have hm8 : m ≤ 8 := by omega
        go_wp2_with fail
        go_loopg [6] m (fun gg s6 wr => ∃ jj : Nat, jj ≤ m ∧ m - jj ≤ gg ∧ s6 = .int .i64 jj ∧ w1 = wr)
        case atStart => exact ⟨0, by omega, by omega, by go_num, rfl⟩
        case round =>
          obtain ⟨j, hj, hg2, rfl, rfl⟩ := hrel
          by_cases hlt2 : j < m
          · have hltz2 : (j : Int) < (m : Int) := by omega
            have hj0 : (0 : Int) ≤ (j : Int) := by omega
            obtain ⟨l, hl⟩ : ∃ l, txs[j]? = some l := ⟨_, List.getElem?_eq_getElem (by rw [← HM.out]; exact hlt2)⟩
            obtain ⟨b3, o3, c3, A4, d4, e3, hb3, _, hc3, hL⟩ := HE2.out j l hl
            injection e3 with e3 _ e3c
            subst e3 e3c
            generalize l.length = p at *
            clear hL hl
            by_cases h10 : (10 : Int) < (p : Int)
            · go_wp2_with fail
              go_ret
              exact ⟨false, rfl, (fun h => by cases h), HB.out⟩
            · go_wp2_with fail
              go_roundg (m - (j + 1))
              case measure => omega
              case rel => exact ⟨j + 1, by omega, by omega, by go_num, rfl⟩
          · obtain rfl : j = m := by omega
            have hltz2 : ¬ (j : Int) < (j : Int) := by omega
            go_wp2_with fail
            go_roundg (n - (k + 1))
            case measure => omega
            case rel => exact ⟨k + 1, by omega, by omega, by go_num, rfl⟩
    · obtain rfl : n = k := by omega
      have hltz : ¬ (n : Int) < (n : Int) := by omega
      by_cases q1 : (n : Int) ≤ 8
      · by_cases q2 : (np : Int) ≤ 150
        · go_wp2
          go_ret
          exact ⟨_, rfl, (fun h => ⟨by omega, by omega⟩), HB.out⟩
        · go_wp2
          go_ret
          exact ⟨_, rfl, (fun h => by first | cases h | (simp at h; omega)), HB.out⟩
      · go_wp2
        go_ret
        exact ⟨_, rfl, (fun h => by first | cases h | (simp at h; omega)), HB.out⟩
end Go.Proofs.Ytngimbfojccikaa
