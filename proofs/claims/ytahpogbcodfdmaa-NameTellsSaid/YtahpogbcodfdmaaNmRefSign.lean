/- The document's sign: plain numbers. -/
import Derived.Test.YtahpogbcodfdmaaNmPlain2
namespace Go.Proofs.Ytahpogbcodfdmaa
open Go Go.RowKit
set_option linter.unusedVariables false

/-- The number that k bytes tell, the first one as c0. -/
def accN (c0 : Int) (l : List UInt8) : Nat → Int
  | 0 => c0
  | 1 => c0
  | k + 2 => 64 * accN c0 l (k + 1) + ((l.getD (k + 1) 0).toNat : Int) - 128

/-- Bytes that carry on, up to k. -/
def contN (l : List UInt8) (k : Nat) : Prop := ∀ j, 1 ≤ j → j < k → 128 ≤ (l.getD j 0).toNat ∧ (l.getD j 0).toNat ≤ 191

theorem cont_one (l : List UInt8) : contN l 1 := fun j h1 h2 => by omega
theorem cont_succ {l : List UInt8} {k : Nat} (h : contN l k) (h1 : 128 ≤ (l.getD k 0).toNat) (h2 : (l.getD k 0).toNat ≤ 191) : contN l (k + 1) := fun j j1 j2 => by
  by_cases e : j = k
  · subst e; exact ⟨h1, h2⟩
  · exact h j j1 (by omega)

theorem acc_succ (c0 : Int) (l : List UInt8) (k : Nat) (hk : 1 ≤ k) : accN c0 l (k + 1) = 64 * accN c0 l k + ((l.getD k 0).toNat : Int) - 128 := by
  match k, hk with
  | k + 1, _ => rfl

theorem acc_bd (c0 : Int) (l : List UInt8) (h0 : 0 ≤ c0) (h1 : c0 ≤ 31) : ∀ k, 1 ≤ k → k ≤ 4 → contN l k → 0 ≤ accN c0 l k ∧ accN c0 l k ≤ 8388607 := by
  intro k hk1 hk4 hc
  have c1 := fun h => hc 1 (by omega) h
  have c2 := fun h => hc 2 (by omega) h
  have c3 := fun h => hc 3 (by omega) h
  obtain rfl | rfl | rfl | rfl : k = 1 ∨ k = 2 ∨ k = 3 ∨ k = 4 := by omega
  · simp only [accN]; omega
  · simp only [accN, Nat.reduceAdd]; have := c1 (by omega); omega
  · simp only [accN, Nat.reduceAdd]; have := c1 (by omega); have := c2 (by omega); omega
  · simp only [accN, Nat.reduceAdd]; have := c1 (by omega); have := c2 (by omega); have := c3 (by omega); omega

/-- What the document's sign says, of a text whose first byte tells n bytes. -/
def sgn (l : List UInt8) (n : Nat) (low c : Int) : Int × Int := if c < low ∨ 1114111 < c ∨ (55296 ≤ c ∧ c ≤ 57343) then (65533, 1) else (c, n)

theorem dec_ascii (l : List UInt8) (h : (l.getD 0 0).toNat < 128) : dec l = ((l.getD 0 0).toNat, 1) := by
  unfold dec Lib.decodeN
  rw [if_pos h]
theorem dec_odd (l : List UInt8) (h : 128 ≤ (l.getD 0 0).toNat) (h2 : (l.getD 0 0).toNat < 194 ∨ 245 ≤ (l.getD 0 0).toNat) : dec l = (65533, 1) := by
  have h0 := (l.getD 0 0).toNat_lt
  unfold dec Lib.decodeN
  generalize (l.getD 0 0).toNat = b0 at *
  repeat' split
  all_goals first | rfl | (exfalso; omega)
theorem dec_short2 (l : List UInt8) (n : Nat) (h : 194 ≤ (l.getD 0 0).toNat) (h2 : (l.getD 0 0).toNat < 224) (hl : l.length < 2) : dec l = (65533, 1) := by
  unfold dec Lib.decodeN
  generalize (l.getD 0 0).toNat = b0 at *
  repeat' split
  all_goals first | rfl | (exfalso; omega)
theorem dec_short3 (l : List UInt8) (n : Nat) (h : 224 ≤ (l.getD 0 0).toNat) (h2 : (l.getD 0 0).toNat < 240) (hl : l.length < 3) : dec l = (65533, 1) := by
  unfold dec Lib.decodeN
  generalize (l.getD 0 0).toNat = b0 at *
  repeat' split
  all_goals first | rfl | (exfalso; omega)
theorem dec_short4 (l : List UInt8) (n : Nat) (h : 240 ≤ (l.getD 0 0).toNat) (h2 : (l.getD 0 0).toNat < 245) (hl : l.length < 4) : dec l = (65533, 1) := by
  unfold dec Lib.decodeN
  generalize (l.getD 0 0).toNat = b0 at *
  repeat' split
  all_goals first | rfl | (exfalso; omega)
theorem dec_break2 (l : List UInt8) (h : 194 ≤ (l.getD 0 0).toNat) (h2 : (l.getD 0 0).toNat < 224) (k : Nat) (hk : 1 ≤ k) (hkn : k < 2) (hb : (l.getD k 0).toNat < 128 ∨ 191 < (l.getD k 0).toNat) : dec l = (65533, 1) := by
  have := (l.getD k 0).toNat_lt
  obtain rfl : k = 1 := by omega
  unfold dec Lib.decodeN
  generalize (l.getD 0 0).toNat = b0 at *
  generalize (l.getD 1 0).toNat = b1 at *
  repeat' split
  all_goals first | rfl | (exfalso; omega)
theorem dec_break3 (l : List UInt8) (h : 224 ≤ (l.getD 0 0).toNat) (h2 : (l.getD 0 0).toNat < 240) (k : Nat) (hk : 1 ≤ k) (hkn : k < 3) (hb : (l.getD k 0).toNat < 128 ∨ 191 < (l.getD k 0).toNat) : dec l = (65533, 1) := by
  have := (l.getD k 0).toNat_lt
  have hh : (l.getD 1 0).toNat / 64 ≠ 2 ∨ (l.getD 2 0).toNat / 64 ≠ 2 := by
    obtain rfl | rfl : k = 1 ∨ k = 2 := by omega
    · left; omega
    · right; omega
  unfold dec Lib.decodeN
  generalize (l.getD 0 0).toNat = b0 at *
  generalize (l.getD 1 0).toNat = b1 at *
  generalize (l.getD 2 0).toNat = b2 at *
  clear hb this
  repeat' split
  all_goals first | rfl | (exfalso; omega)
theorem dec_break4 (l : List UInt8) (h : 240 ≤ (l.getD 0 0).toNat) (h2 : (l.getD 0 0).toNat < 245) (k : Nat) (hk : 1 ≤ k) (hkn : k < 4) (hb : (l.getD k 0).toNat < 128 ∨ 191 < (l.getD k 0).toNat) : dec l = (65533, 1) := by
  have := (l.getD k 0).toNat_lt
  have hh : (l.getD 1 0).toNat / 64 ≠ 2 ∨ (l.getD 2 0).toNat / 64 ≠ 2 ∨ (l.getD 3 0).toNat / 64 ≠ 2 := by
    obtain rfl | rfl | rfl : k = 1 ∨ k = 2 ∨ k = 3 := by omega
    · left; omega
    · right; left; omega
    · right; right; omega
  unfold dec Lib.decodeN
  generalize (l.getD 0 0).toNat = b0 at *
  generalize (l.getD 1 0).toNat = b1 at *
  generalize (l.getD 2 0).toNat = b2 at *
  generalize (l.getD 3 0).toNat = b3 at *
  clear hb this
  repeat' split
  all_goals first | rfl | (exfalso; omega)

theorem dec_full2 (l : List UInt8) (h : 194 ≤ (l.getD 0 0).toNat) (h2 : (l.getD 0 0).toNat < 224) (hl : 2 ≤ l.length) (hc : contN l 2) :
    (((dec l).1 : Int), ((dec l).2 : Int)) = sgn l 2 128 (accN ((l.getD 0 0).toNat - 192) l 2) := by
  have c1 := hc 1 (by omega) (by omega)
  simp only [accN, Nat.reduceAdd]
  unfold dec
  generalize (l.getD 0 0).toNat = b0 at *
  generalize (l.getD 1 0).toNat = b1 at *
  unfold Lib.decodeN sgn
  rw [if_neg (by omega), if_pos (by omega), if_pos (by omega), if_neg (by omega)]
  refine Prod.ext ?_ rfl
  simp only
  omega
theorem dec_full3 (l : List UInt8) (h : 224 ≤ (l.getD 0 0).toNat) (h2 : (l.getD 0 0).toNat < 240) (hl : 3 ≤ l.length) (hc : contN l 3) :
    (((dec l).1 : Int), ((dec l).2 : Int)) = sgn l 3 2048 (accN ((l.getD 0 0).toNat - 224) l 3) := by
  have c1 := hc 1 (by omega) (by omega)
  have c2 := hc 2 (by omega) (by omega)
  simp only [accN, Nat.reduceAdd]
  unfold dec
  generalize (l.getD 0 0).toNat = b0 at *
  generalize (l.getD 1 0).toNat = b1 at *
  generalize (l.getD 2 0).toNat = b2 at *
  unfold Lib.decodeN sgn
  have e : ((b0 % 16 * 4096 + b1 % 64 * 64 + b2 % 64 : Nat) : Int) = 64 * (64 * ((b0 : Int) - 224) + (b1 : Int) - 128) + (b2 : Int) - 128 := by omega
  rw [if_neg (by omega), if_neg (by omega), if_pos (by omega), ← e]
  generalize b0 % 16 * 4096 + b1 % 64 * 64 + b2 % 64 = c at *
  split
  · rw [if_neg (by omega)]
  · rw [if_pos (by omega)]; rfl
theorem dec_full4 (l : List UInt8) (h : 240 ≤ (l.getD 0 0).toNat) (h2 : (l.getD 0 0).toNat < 245) (hl : 4 ≤ l.length) (hc : contN l 4) :
    (((dec l).1 : Int), ((dec l).2 : Int)) = sgn l 4 65536 (accN ((l.getD 0 0).toNat - 240) l 4) := by
  have c1 := hc 1 (by omega) (by omega)
  have c2 := hc 2 (by omega) (by omega)
  have c3 := hc 3 (by omega) (by omega)
  simp only [accN, Nat.reduceAdd]
  unfold dec
  generalize (l.getD 0 0).toNat = b0 at *
  generalize (l.getD 1 0).toNat = b1 at *
  generalize (l.getD 2 0).toNat = b2 at *
  generalize (l.getD 3 0).toNat = b3 at *
  unfold Lib.decodeN sgn
  have e : ((b0 % 8 * 262144 + b1 % 64 * 4096 + b2 % 64 * 64 + b3 % 64 : Nat) : Int) = 64 * (64 * (64 * ((b0 : Int) - 240) + (b1 : Int) - 128) + (b2 : Int) - 128) + (b3 : Int) - 128 := by omega
  rw [if_neg (by omega), if_neg (by omega), if_neg (by omega), if_pos (by omega), ← e]
  generalize b0 % 8 * 262144 + b1 % 64 * 4096 + b2 % 64 * 64 + b3 % 64 = c at *
  split
  · rw [if_neg (by omega)]
  · rw [if_pos (by omega)]; rfl
end Go.Proofs.Ytahpogbcodfdmaa
