/- The document's sign, walked. -/
import Derived.Test.YtahpogbcodfdmaaNmRefSign
namespace Go.Proofs.Ytahpogbcodfdmaa
open Go Go.RowKit
set_option linter.unusedVariables false

theorem byte_get (s : ByteArray) (k : Nat) (h : k < s.size) : s.data.toList.getD k 0 = s[k] := by
  rw [List.getD_eq_getElem?_getD, List.getElem?_eq_getElem (by rw [size_list]; exact h), Option.getD_some, Array.getElem_toList]
  rfl

def sgnPost (s : ByteArray) (w : World) (e : Ending) (w' : World) : Prop := e = .returned (.tuple #[.int .i64 ((dec s.data.toList).1 : Int), .int .i64 ((dec s.data.toList).2 : Int)]) ∧ w = w'
theorem sgn_ret {s : ByteArray} {w : World} {a b : Int} (h : (((dec s.data.toList).1 : Int), ((dec s.data.toList).2 : Int)) = (a, b)) : sgnPost s w (.returned (.tuple #[.int .i64 a, .int .i64 b])) w := by
  injection h with h1 h2
  unfold sgnPost
  rw [h1, h2]
  exact ⟨rfl, rfl⟩

set_option maxRecDepth 100000 in
set_option maxHeartbeats 4000000 in
theorem sign_ascii (s : ByteArray) (w : World) (h0 : 0 < s.size) (h1 : (s[0].toNat : Int) < 128) : Calls Try.prog 30 #[.string s] w (sgnPost s w) := by
  have eb := congrArg UInt8.toNat (byte_get s 0 h0)
  have ub0 : (s[0].toNat : Int) ≤ 255 := by have := s[0].toNat_lt; omega
  have HE := Lib.hid (dec_ascii s.data.toList (by omega))
  have HB := Lib.hid eb
  clear eb
  go_enter Try.func30, Try.ntmps30
  go_wp2
  go_ret2
  exact sgn_ret (by rw [HE.out, HB.out]; rfl)

set_option maxRecDepth 100000 in
set_option maxHeartbeats 4000000 in
theorem sign_odd1 (s : ByteArray) (w : World) (h0 : 0 < s.size) (h1 : 128 ≤ (s[0].toNat : Int)) (h2 : (s[0].toNat : Int) < 194) : Calls Try.prog 30 #[.string s] w (sgnPost s w) := by
  have eb := congrArg UInt8.toNat (byte_get s 0 h0)
  have ub0 : (s[0].toNat : Int) ≤ 255 := by have := s[0].toNat_lt; omega
  have HE := Lib.hid (dec_odd s.data.toList (by omega) (by omega))
  clear eb
  go_enter Try.func30, Try.ntmps30
  go_wp2
  go_ret2
  exact sgn_ret (by rw [HE.out]; rfl)

set_option maxRecDepth 100000 in
set_option maxHeartbeats 4000000 in
theorem sign_odd2 (s : ByteArray) (w : World) (h0 : 0 < s.size) (h1 : 245 ≤ (s[0].toNat : Int)) : Calls Try.prog 30 #[.string s] w (sgnPost s w) := by
  have eb := congrArg UInt8.toNat (byte_get s 0 h0)
  have ub0 : (s[0].toNat : Int) ≤ 255 := by have := s[0].toNat_lt; omega
  have HE := Lib.hid (dec_odd s.data.toList (by omega) (by omega))
  clear eb
  go_enter Try.func30, Try.ntmps30
  go_wp2
  go_ret2
  exact sgn_ret (by rw [HE.out]; rfl)

set_option maxRecDepth 100000 in
set_option maxHeartbeats 4000000 in
theorem sign_short2 (s : ByteArray) (w : World) (h0 : 0 < s.size) (h1 : 194 ≤ (s[0].toNat : Int)) (h2 : (s[0].toNat : Int) < 224) (hl : s.size < 2) : Calls Try.prog 30 #[.string s] w (sgnPost s w) := by
  have eb := congrArg UInt8.toNat (byte_get s 0 h0)
  have ub0 : (s[0].toNat : Int) ≤ 255 := by have := s[0].toNat_lt; omega
  have HE := Lib.hid (dec_short2 s.data.toList 2 (by omega) (by omega) (by rw [size_list]; exact hl))
  clear eb
  have hl' : (s.size : Int) < 2 := by omega
  go_enter Try.func30, Try.ntmps30
  go_wp2
  go_ret2
  exact sgn_ret (by rw [HE.out]; rfl)

set_option maxRecDepth 100000 in
set_option maxHeartbeats 4000000 in
theorem sign_full2 (s : ByteArray) (w : World) (h0 : 0 < s.size) (h1 : 194 ≤ (s[0].toNat : Int)) (h2 : (s[0].toNat : Int) < 224) (hl : 2 ≤ s.size) : Calls Try.prog 30 #[.string s] w (sgnPost s w) := by
  have eb := congrArg UInt8.toNat (byte_get s 0 h0)
  have ub0 : (s[0].toNat : Int) ≤ 255 := by have := s[0].toNat_lt; omega
  have HBK := Lib.hid (fun k a b c => dec_break2 s.data.toList (by omega) (by omega) k a b c)
  have HF := Lib.hid (fun c => dec_full2 s.data.toList (by omega) (by omega) (by rw [size_list]; exact hl) c)
  have HB := Lib.hid eb
  clear eb
  have hl' : ¬ (s.size : Int) < 2 := by omega
  go_enter Try.func30, Try.ntmps30
  go_wp2_with fail
  go_loop [8, 7] (fun i c => ∃ k : Nat, 1 ≤ k ∧ k ≤ 2 ∧ i = .int .i64 k ∧ c = .int .i64 (accN ((s[0].toNat : Int) - 192) s.data.toList k) ∧ Hid (contN s.data.toList k)) (fun i _ => 2 - (intOf i).toNat)
  case atStart => exact ⟨1, by omega, by omega, rfl, rfl, cont_one _⟩
  case round =>
    obtain ⟨k, hk1, hkn, rfl, rfl, HC⟩ := hrel
    obtain ⟨bd0, bd1⟩ := acc_bd ((s[0].toNat : Int) - 192) s.data.toList (by omega) (by omega) k hk1 (by omega) HC.out
    by_cases hlt : k < 2
    · have hz : k < s.size := by omega
      have ek := congrArg UInt8.toNat (byte_get s k hz)
      have ubk : (s[k].toNat : Int) ≤ 255 := by have := s[k].toNat_lt; omega
      have HS := Lib.hid (acc_succ ((s[0].toNat : Int) - 192) s.data.toList k hk1)
      have HK := Lib.hid (fun a b => cont_succ (k := k) HC.out a b)
      rw [ek] at HS HK
      generalize accN ((s[0].toNat : Int) - 192) s.data.toList k = acc at *
      by_cases b1 : (s[k].toNat : Int) < 128
      · have HE := Lib.hid (HBK.out k hk1 hlt (by omega))
        clear HS HK HBK HF HC ek
        go_wp2
        go_ret2
        exact sgn_ret (by rw [HE.out]; rfl)
      · by_cases b2 : 191 < (s[k].toNat : Int)
        · have HE := Lib.hid (HBK.out k hk1 hlt (by omega))
          clear HS HK HBK HF HC ek
          go_wp2
          go_ret2
          exact sgn_ret (by rw [HE.out]; rfl)
        · have HC2 := Lib.hid (HK.out (by omega) (by omega))
          have HEK := Lib.hid ek
          clear HK HC ek HBK HF
          go_wp2
          go_round
          case rel => exact ⟨k + 1, by omega, by omega, by go_num, by rw [HS.out], HC2.out⟩
          case measure => simp [intOf]; omega
    · obtain rfl : k = 2 := by omega
      have HR := Lib.hid (HF.out HC.out)
      rw [HB.out] at HR
      generalize accN ((s[0].toNat : Int) - 192) s.data.toList 2 = acc at *
      clear HF HBK HC HB
      have R1 := Lib.hid (fun h => HR.out.trans (if_pos h))
      have R2 := Lib.hid (fun h => HR.out.trans (if_neg h))
      clear HR
      by_cases q1 : acc < 128
      · go_wp2
        go_ret2
        exact sgn_ret (R1.out (by omega))
      by_cases q2 : 1114111 < acc
      · go_wp2
        go_ret2
        exact sgn_ret (R1.out (by omega))
      by_cases q3 : 55296 ≤ acc
      · by_cases q4 : acc ≤ 57343
        · go_wp2
          go_ret2
          exact sgn_ret (R1.out (by omega))
        · go_wp2
          go_ret2
          exact sgn_ret (R2.out (by omega))
      · go_wp2
        go_ret2
        exact sgn_ret (R2.out (by omega))

set_option maxRecDepth 100000 in
set_option maxHeartbeats 4000000 in
theorem sign_short3 (s : ByteArray) (w : World) (h0 : 0 < s.size) (h1 : 224 ≤ (s[0].toNat : Int)) (h2 : (s[0].toNat : Int) < 240) (hl : s.size < 3) : Calls Try.prog 30 #[.string s] w (sgnPost s w) := by
  have eb := congrArg UInt8.toNat (byte_get s 0 h0)
  have ub0 : (s[0].toNat : Int) ≤ 255 := by have := s[0].toNat_lt; omega
  have HE := Lib.hid (dec_short3 s.data.toList 3 (by omega) (by omega) (by rw [size_list]; exact hl))
  clear eb
  have hl' : (s.size : Int) < 3 := by omega
  go_enter Try.func30, Try.ntmps30
  go_wp2
  go_ret2
  exact sgn_ret (by rw [HE.out]; rfl)

set_option maxRecDepth 100000 in
set_option maxHeartbeats 4000000 in
theorem sign_full3 (s : ByteArray) (w : World) (h0 : 0 < s.size) (h1 : 224 ≤ (s[0].toNat : Int)) (h2 : (s[0].toNat : Int) < 240) (hl : 3 ≤ s.size) : Calls Try.prog 30 #[.string s] w (sgnPost s w) := by
  have eb := congrArg UInt8.toNat (byte_get s 0 h0)
  have ub0 : (s[0].toNat : Int) ≤ 255 := by have := s[0].toNat_lt; omega
  have HBK := Lib.hid (fun k a b c => dec_break3 s.data.toList (by omega) (by omega) k a b c)
  have HF := Lib.hid (fun c => dec_full3 s.data.toList (by omega) (by omega) (by rw [size_list]; exact hl) c)
  have HB := Lib.hid eb
  clear eb
  have hl' : ¬ (s.size : Int) < 3 := by omega
  go_enter Try.func30, Try.ntmps30
  go_wp2_with fail
  go_loop [8, 7] (fun i c => ∃ k : Nat, 1 ≤ k ∧ k ≤ 3 ∧ i = .int .i64 k ∧ c = .int .i64 (accN ((s[0].toNat : Int) - 224) s.data.toList k) ∧ Hid (contN s.data.toList k)) (fun i _ => 3 - (intOf i).toNat)
  case atStart => exact ⟨1, by omega, by omega, rfl, rfl, cont_one _⟩
  case round =>
    obtain ⟨k, hk1, hkn, rfl, rfl, HC⟩ := hrel
    obtain ⟨bd0, bd1⟩ := acc_bd ((s[0].toNat : Int) - 224) s.data.toList (by omega) (by omega) k hk1 (by omega) HC.out
    by_cases hlt : k < 3
    · have hz : k < s.size := by omega
      have ek := congrArg UInt8.toNat (byte_get s k hz)
      have ubk : (s[k].toNat : Int) ≤ 255 := by have := s[k].toNat_lt; omega
      have HS := Lib.hid (acc_succ ((s[0].toNat : Int) - 224) s.data.toList k hk1)
      have HK := Lib.hid (fun a b => cont_succ (k := k) HC.out a b)
      rw [ek] at HS HK
      generalize accN ((s[0].toNat : Int) - 224) s.data.toList k = acc at *
      by_cases b1 : (s[k].toNat : Int) < 128
      · have HE := Lib.hid (HBK.out k hk1 hlt (by omega))
        clear HS HK HBK HF HC ek
        go_wp2
        go_ret2
        exact sgn_ret (by rw [HE.out]; rfl)
      · by_cases b2 : 191 < (s[k].toNat : Int)
        · have HE := Lib.hid (HBK.out k hk1 hlt (by omega))
          clear HS HK HBK HF HC ek
          go_wp2
          go_ret2
          exact sgn_ret (by rw [HE.out]; rfl)
        · have HC2 := Lib.hid (HK.out (by omega) (by omega))
          have HEK := Lib.hid ek
          clear HK HC ek HBK HF
          go_wp2
          go_round
          case rel => exact ⟨k + 1, by omega, by omega, by go_num, by rw [HS.out], HC2.out⟩
          case measure => simp [intOf]; omega
    · obtain rfl : k = 3 := by omega
      have HR := Lib.hid (HF.out HC.out)
      rw [HB.out] at HR
      generalize accN ((s[0].toNat : Int) - 224) s.data.toList 3 = acc at *
      clear HF HBK HC HB
      have R1 := Lib.hid (fun h => HR.out.trans (if_pos h))
      have R2 := Lib.hid (fun h => HR.out.trans (if_neg h))
      clear HR
      by_cases q1 : acc < 2048
      · go_wp2
        go_ret2
        exact sgn_ret (R1.out (by omega))
      by_cases q2 : 1114111 < acc
      · go_wp2
        go_ret2
        exact sgn_ret (R1.out (by omega))
      by_cases q3 : 55296 ≤ acc
      · by_cases q4 : acc ≤ 57343
        · go_wp2
          go_ret2
          exact sgn_ret (R1.out (by omega))
        · go_wp2
          go_ret2
          exact sgn_ret (R2.out (by omega))
      · go_wp2
        go_ret2
        exact sgn_ret (R2.out (by omega))

set_option maxRecDepth 100000 in
set_option maxHeartbeats 4000000 in
theorem sign_short4 (s : ByteArray) (w : World) (h0 : 0 < s.size) (h1 : 240 ≤ (s[0].toNat : Int)) (h2 : (s[0].toNat : Int) < 245) (hl : s.size < 4) : Calls Try.prog 30 #[.string s] w (sgnPost s w) := by
  have eb := congrArg UInt8.toNat (byte_get s 0 h0)
  have ub0 : (s[0].toNat : Int) ≤ 255 := by have := s[0].toNat_lt; omega
  have HE := Lib.hid (dec_short4 s.data.toList 4 (by omega) (by omega) (by rw [size_list]; exact hl))
  clear eb
  have hl' : (s.size : Int) < 4 := by omega
  go_enter Try.func30, Try.ntmps30
  go_wp2
  go_ret2
  exact sgn_ret (by rw [HE.out]; rfl)

set_option maxRecDepth 100000 in
set_option maxHeartbeats 4000000 in
theorem sign_full4 (s : ByteArray) (w : World) (h0 : 0 < s.size) (h1 : 240 ≤ (s[0].toNat : Int)) (h2 : (s[0].toNat : Int) < 245) (hl : 4 ≤ s.size) : Calls Try.prog 30 #[.string s] w (sgnPost s w) := by
  have eb := congrArg UInt8.toNat (byte_get s 0 h0)
  have ub0 : (s[0].toNat : Int) ≤ 255 := by have := s[0].toNat_lt; omega
  have HBK := Lib.hid (fun k a b c => dec_break4 s.data.toList (by omega) (by omega) k a b c)
  have HF := Lib.hid (fun c => dec_full4 s.data.toList (by omega) (by omega) (by rw [size_list]; exact hl) c)
  have HB := Lib.hid eb
  clear eb
  have hl' : ¬ (s.size : Int) < 4 := by omega
  go_enter Try.func30, Try.ntmps30
  go_wp2_with fail
  go_loop [8, 7] (fun i c => ∃ k : Nat, 1 ≤ k ∧ k ≤ 4 ∧ i = .int .i64 k ∧ c = .int .i64 (accN ((s[0].toNat : Int) - 240) s.data.toList k) ∧ Hid (contN s.data.toList k)) (fun i _ => 4 - (intOf i).toNat)
  case atStart => exact ⟨1, by omega, by omega, rfl, rfl, cont_one _⟩
  case round =>
    obtain ⟨k, hk1, hkn, rfl, rfl, HC⟩ := hrel
    obtain ⟨bd0, bd1⟩ := acc_bd ((s[0].toNat : Int) - 240) s.data.toList (by omega) (by omega) k hk1 (by omega) HC.out
    by_cases hlt : k < 4
    · have hz : k < s.size := by omega
      have ek := congrArg UInt8.toNat (byte_get s k hz)
      have ubk : (s[k].toNat : Int) ≤ 255 := by have := s[k].toNat_lt; omega
      have HS := Lib.hid (acc_succ ((s[0].toNat : Int) - 240) s.data.toList k hk1)
      have HK := Lib.hid (fun a b => cont_succ (k := k) HC.out a b)
      rw [ek] at HS HK
      generalize accN ((s[0].toNat : Int) - 240) s.data.toList k = acc at *
      by_cases b1 : (s[k].toNat : Int) < 128
      · have HE := Lib.hid (HBK.out k hk1 hlt (by omega))
        clear HS HK HBK HF HC ek
        go_wp2
        go_ret2
        exact sgn_ret (by rw [HE.out]; rfl)
      · by_cases b2 : 191 < (s[k].toNat : Int)
        · have HE := Lib.hid (HBK.out k hk1 hlt (by omega))
          clear HS HK HBK HF HC ek
          go_wp2
          go_ret2
          exact sgn_ret (by rw [HE.out]; rfl)
        · have HC2 := Lib.hid (HK.out (by omega) (by omega))
          have HEK := Lib.hid ek
          clear HK HC ek HBK HF
          go_wp2
          go_round
          case rel => exact ⟨k + 1, by omega, by omega, by go_num, by rw [HS.out], HC2.out⟩
          case measure => simp [intOf]; omega
    · obtain rfl : k = 4 := by omega
      have HR := Lib.hid (HF.out HC.out)
      rw [HB.out] at HR
      generalize accN ((s[0].toNat : Int) - 240) s.data.toList 4 = acc at *
      clear HF HBK HC HB
      have R1 := Lib.hid (fun h => HR.out.trans (if_pos h))
      have R2 := Lib.hid (fun h => HR.out.trans (if_neg h))
      clear HR
      by_cases q1 : acc < 65536
      · go_wp2
        go_ret2
        exact sgn_ret (R1.out (by omega))
      by_cases q2 : 1114111 < acc
      · go_wp2
        go_ret2
        exact sgn_ret (R1.out (by omega))
      by_cases q3 : 55296 ≤ acc
      · by_cases q4 : acc ≤ 57343
        · go_wp2
          go_ret2
          exact sgn_ret (R1.out (by omega))
        · go_wp2
          go_ret2
          exact sgn_ret (R2.out (by omega))
      · go_wp2
        go_ret2
        exact sgn_ret (R2.out (by omega))

theorem sign_any (s : ByteArray) (w : World) (h0 : 0 < s.size) : Calls Try.prog 30 #[.string s] w fun e w' => e = .returned (.tuple #[.int .i64 ((dec s.data.toList).1 : Int), .int .i64 ((dec s.data.toList).2 : Int)]) ∧ w = w' := by
  show Calls Try.prog 30 #[.string s] w (sgnPost s w)
  by_cases a1 : (s[0].toNat : Int) < 128
  · exact sign_ascii s w h0 a1
  by_cases a2 : (s[0].toNat : Int) < 194
  · exact sign_odd1 s w h0 (by omega) a2
  by_cases a3 : (s[0].toNat : Int) < 224
  · by_cases hl : s.size < 2
    · exact sign_short2 s w h0 (by omega) a3 hl
    · exact sign_full2 s w h0 (by omega) a3 (by omega)
  by_cases a4 : (s[0].toNat : Int) < 240
  · by_cases hl : s.size < 3
    · exact sign_short3 s w h0 (by omega) a4 hl
    · exact sign_full3 s w h0 (by omega) a4 (by omega)
  by_cases a5 : (s[0].toNat : Int) < 245
  · by_cases hl : s.size < 4
    · exact sign_short4 s w h0 (by omega) a5 hl
    · exact sign_full4 s w h0 (by omega) a5 (by omega)
  exact sign_odd2 s w h0 (by omega)
end Go.Proofs.Ytahpogbcodfdmaa
