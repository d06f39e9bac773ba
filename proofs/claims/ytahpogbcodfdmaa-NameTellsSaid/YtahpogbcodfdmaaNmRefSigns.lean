/- The document's Signs, walked. -/
import Derived.Test.YtahpogbcodfdmaaNmRefSignW
import Derived.Laws.AppendOwn
namespace Go.Proofs.Ytahpogbcodfdmaa
open Go Go.RowKit
set_option linter.unusedVariables false

def encI (c : Nat) : List Value := [.int .i64 (c : Int)]
theorem encI_len : ∀ x : Nat, (encI x).length = 1 := fun _ => rfl
theorem int_info : (Try.prog.info? 3).map (fun i => (i.zero, i.size, i.bytes)) = some (some (.int .i64 0), 1, 8) := by kernel_rfl

theorem own_block_ge {w : World} {base : Nat} {e : TypeId} {k n : Nat} {v : Value} {xs : List Value} (h : w.ownsRow base e k v n xs) {b : Nat} (hb : v.ownBlock = some b) : base ≤ b := by
  rcases h.2 with ⟨rfl, _⟩ | ⟨g, cap, cur, rfl, hg, _⟩
  · simp [Value.ownBlock] at hb
  · have : g = b := by simpa [Value.ownBlock] using hb
    omega

/-- A row of one's own that reads as these signs. -/
def RowI (w : World) (base : Nat) (v : Value) (xs : List Nat) : Prop := w.ownsRow base 3 1 v xs.length (xs.flatMap encI)
theorem RowI.keep {w w' : World} {base : Nat} {v : Value} {xs : List Nat} (h : RowI w base v xs) (hb : Below w.heap.size w w') : RowI w' base v xs := own_below h hb
def SignsPost (s : ByteArray) (w : World) (e : Ending) (w' : World) : Prop :=
  ∃ v, e = .returned v ∧ RowI w' w.heap.size v (signs s.data.toList) ∧ Below w.heap.size w w'

set_option maxRecDepth 100000 in
set_option maxHeartbeats 4000000 in
theorem Signs_any (s : ByteArray) (w : World) (hs : s.size ≤ 400) : Calls Try.prog 21 #[.string s] w (SignsPost s w) := by
  obtain ⟨i0, hi0, hz0, hz1, hz2⟩ := info_parts int_info
  have HL := Lib.hid (signs_length s.data.toList)
  go_enter Try.func21, Try.ntmps21
  go_wp2_with fail
  go_loopg [0, 3] s.size (fun gg s0 s3 wr => ∃ (t : ByteArray) (xs : List Nat), s0 = .string t ∧ t.size ≤ gg ∧ t.size ≤ s.size ∧ Hid (RowI wr w.heap.size s3 xs) ∧ Hid (Below w.heap.size w wr) ∧ Hid (xs ++ signs t.data.toList = signs s.data.toList))
  case atStart => exact ⟨s, [], rfl, Nat.le_refl _, Nat.le_refl _, World.ownsRow_nil _ _ _ _, Below.refl _ _, rfl⟩
  case round =>
    obtain ⟨t, xs, rfl, hg, hts, HO, HB, HX⟩ := hrel
    by_cases hlt : 0 < t.size
    · have hl : 0 < t.data.toList.length := by rw [size_list]; exact hlt
      have hw := dec_width _ hl
      have hsig := signs_cons _ hl
      have hsg := fun w => sign_any t w hlt
      rw [size_list] at hw
      have hxl : xs.length ≤ 400 := by
        have := congrArg List.length HX.out
        rw [List.length_append] at this
        have := HL.out
        rw [size_list] at this
        omega
      obtain ⟨⟨c, wd⟩, hd⟩ : ∃ d, dec t.data.toList = d := ⟨_, rfl⟩
      rw [hd] at hw hsig hsg
      simp only at hw hsig hsg
      have HS := Lib.hid hsig
      obtain ⟨hw1, hw2, hw4⟩ := hw
      have hex : (t.extract wd t.size).size = t.size - wd := by rw [ByteArray.size_extract]; omega
      have hexl : (t.extract wd t.size).data.toList = t.data.toList.drop wd := by
        rw [Lib.extract_data, ← size_list, List.take_of_length_le (by rw [List.length_drop]; exact Nat.le_refl _)]
      have HE := Lib.hid hex
      have HEL := Lib.hid hexl
      have h0 : (0 : Int) ≤ (wd : Int) := by omega
      have h1 : (wd : Int) ≤ (t.size : Int) := by omega
      clear hsig hd hl hex hexl
      go_wp2_with (first | (go_at_call 30; refine (hsg _).mono ?_; rintro e w' ⟨rfl, rfl⟩) | (at_builtin; refine wpList_append_own _ rfl (.tmp 14) (.tmp 16) _ rfl w.heap.size 3 i0 _ 1 8 Try.underlying34 hi0 hz0 hz1 hz2 rfl (by omega) _ xs.length _ rfl (HO.out.alloc _) ⟨wr.heap.size, 0, none⟩ 1 1 [.int .i64 (c : Int)] rfl rfl ?c1 ?c2 (by unfold maxLen; omega) (by omega) (by have := HB.out.size; simp; omega) ?c3; case' c3 => (intro v' w1 hown' hgrow _; have HO2 := Lib.hid hown'; have HG := Lib.hid hgrow; clear hown' hgrow)))
      case c1 => intro j u hu; match j, hu with | 0, hu => (simp at hu; subst hu; simp [Addr.add])
      case c2 => simp [Value.oneCell']
      go_wp2
      go_roundg (t.extract wd t.size).size
      case measure => rw [HE.out]; omega
      case rel =>
        have BW := (HB.out.alloc (o := .cells #[.int .i64 (c : Int)] 3) HB.out.size).grown HG.out (by have := HB.out.size; simp; omega) (fun b hb => own_block_ge HO.out hb)
        refine ⟨_, xs ++ [c], rfl, Nat.le_refl _, ?_, ?_, BW, ?_⟩
        · rw [HE.out]; omega
        · show World.ownsRow _ _ _ _ _ _ _
          rw [List.length_append, List.flatMap_append]
          exact HO2.out
        · show _ = _
          rw [HEL.out, List.append_assoc]
          rw [← HX.out, HS.out]
          rfl
    · have ht : t.data.toList = [] := List.eq_nil_of_length_eq_zero (by rw [size_list]; omega)
      have HX2 := Lib.hid (show xs = signs s.data.toList from by have := HX.out; rw [ht, signs_nil, List.append_nil] at this; exact this)
      clear ht HX
      go_wp2
      go_ret
      exact ⟨_, rfl, HX2.out ▸ HO.out, HB.out⟩
end Go.Proofs.Ytahpogbcodfdmaa
