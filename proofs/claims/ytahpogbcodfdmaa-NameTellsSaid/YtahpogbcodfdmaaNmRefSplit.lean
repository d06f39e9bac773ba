/- The document's Join, Split, walked. -/
import Derived.Test.YtahpogbcodfdmaaNmRefMay
import Derived.Deep.RegionHeld3
import Derived.Deep.DrawnRows
import Derived.RegionTactic
namespace Go.Proofs.Ytahpogbcodfdmaa
open Go Go.RowKit
set_option linter.unusedVariables false
attribute [local go_sem ↓] Go.wp_at_zero Go.wp_at_succ

set_option maxHeartbeats 1000000 in
theorem rjoin_any (a b : ByteArray) (w : World) (ha : a.size ≤ 400) (hb : b.size ≤ 400) : Calls Try.prog 19 #[.string a, .string b] w fun e w' => e = .returned (.string (joinN a b)) ∧ Below w.heap.size w w' := by
  have hm1 := fun w => rmay_any a w (by omega)
  have hm2 := fun w => rmay_any b w (by omega)
  unfold joinN
  generalize mayN a.data.toList = m1 at *
  generalize mayN b.data.toList = m2 at *
  have e0 : ∀ W, (Op.stringOp .add a ⟨#[46]⟩).run Try.prog W = .ok (.string (a ++ ⟨#[46]⟩)) W := fun W => run_string_add_sum W a ⟨#[46]⟩ (by show a.size + 1 ≤ _; omega)
  have e1 : ∀ W, (Op.stringOp .add (a ++ ⟨#[46]⟩) b).run Try.prog W = .ok (.string (a ++ ⟨#[46]⟩ ++ b)) W := fun W => run_string_add_sum W (a ++ ⟨#[46]⟩) b (by rw [ByteArray.size_append]; show a.size + 1 + _ ≤ _; omega)
  generalize a ++ ⟨#[46]⟩ ++ b = ab at *
  generalize a ++ ⟨#[46]⟩ = ad at *
  clear ha hb
  cases m1 <;> cases m2
  all_goals
    simp only [Bool.and_false, Bool.and_true, Bool.false_eq_true, if_false, if_true]
    go_enter Try.func19, Try.ntmps19
    go_wp2_with fail
    refine (hm1 _).mono ?_
    rintro e w1 ⟨rfl, hb⟩
    go_wp2_with fail
    refine (hm2 _).mono ?_
    rintro e w2 ⟨rfl, hb2⟩
    go_wp2
    go_ret
    exact ⟨rfl, hb.trans (hb2.mono hb.size)⟩

/-- At place j there is a point between two names. -/
def okAt (s : ByteArray) (j : Nat) : Prop := j < s.size ∧ s.data.toList.getD j 0 = 46 ∧ mayN (s.extract 0 j).data.toList = true ∧ mayN (s.extract (j + 1) s.size).data.toList = true

theorem parts_at {s : ByteArray} {j : Nat} (hj : j < s.size) (h : s.data.toList.getD j 0 = 46) : s = s.extract 0 j ++ ⟨#[46]⟩ ++ s.extract (j + 1) s.size := by
  have hl : j < s.data.toList.length := by rw [size_list]; exact hj
  refine bytes_ext ?_
  rw [joined_list, Lib.extract_data, Lib.extract_data, ← size_list]
  rw [List.take_of_length_le (l := s.data.toList.drop (j + 1)) (by rw [List.length_drop]; exact Nat.le_refl _)]
  simp only [List.drop_zero, Nat.sub_zero]
  rw [List.getD_eq_getElem?_getD, List.getElem?_eq_getElem hl, Option.getD_some] at h
  conv => lhs; rw [← List.take_append_drop j s.data.toList, List.drop_eq_getElem_cons hl, h]
theorem okAt_split {s : ByteArray} {j : Nat} (h : okAt s j) : splitB s = true ∧ splitL s = s.extract 0 j ∧ splitR s = s.extract (j + 1) s.size := by
  obtain ⟨h1, h2, h3, h4⟩ := h
  have hp := parts_at h1 h2
  obtain ⟨a, b, c⟩ := split_joined h3 h4
  rw [← hp] at a b c
  exact ⟨a, b, c⟩
theorem split_okAt {s : ByteArray} (h : splitB s = true) : okAt s (dotN s.data.toList) := by
  obtain ⟨h1, h2, h3, h4⟩ := split_parts h
  have h0 := h
  unfold splitL at h1
  unfold splitR at h2
  rw [if_pos h0] at h1 h2
  have e1 : cutL s = s.extract 0 (dotN s.data.toList) := by unfold cutL; rw [size_list, if_pos h4]
  have e2 : cutR s = s.extract (dotN s.data.toList + 1) s.size := by unfold cutR; rw [size_list, if_pos h4]
  rw [e1] at h1
  rw [e2] at h2
  refine ⟨h4, ?_, h1, h2⟩
  have hl : dotN s.data.toList < s.data.toList.length := by rw [size_list]; exact h4
  unfold dotN at hl ⊢
  have := List.findIdx_getElem (w := hl)
  rw [List.getD_eq_getElem?_getD, List.getElem?_eq_getElem hl, Option.getD_some]
  simpa using this
/-- What the document's loop asks at a point. -/
theorem join_at {s : ByteArray} {j : Nat} (hj : j < s.size) (h : s.data.toList.getD j 0 = 46) :
    ((joinN (s.extract 0 j) (s.extract (j + 1) s.size)).toList == s.toList) = (mayN (s.extract 0 j).data.toList && mayN (s.extract (j + 1) s.size).data.toList) := by
  have hp := parts_at hj h
  rw [Lib.toList_data, Lib.toList_data]
  unfold joinN
  cases hm : (mayN (s.extract 0 j).data.toList && mayN (s.extract (j + 1) s.size).data.toList) with
  | true => rw [if_pos rfl, ← hp]; simp
  | false =>
    rw [if_neg (by simp)]
    rw [beq_eq_false_iff_ne]
    intro e
    have := congrArg List.length e
    rw [size_list, size_list] at this
    have e0 : (⟨#[]⟩ : ByteArray).size = 0 := rfl
    rw [e0] at this
    omega

def SplitPost (s : ByteArray) (w : World) (e : Ending) (w' : World) : Prop :=
  e = .returned (.tuple #[.string (splitL s), .string (splitR s), .bool (splitB s)]) ∧ Below w.heap.size w w'

set_option maxRecDepth 100000 in
set_option maxHeartbeats 4000000 in
theorem rsplit_any (s : ByteArray) (w : World) (hs : s.size ≤ 200) : Calls Try.prog 11 #[.string s] w (SplitPost s w) := by
  go_enter Try.func11, Try.ntmps11
  go_wp2_with fail
  go_loopg [5] s.size (fun gg i wr => ∃ k : Nat, k ≤ s.size ∧ s.size - k ≤ gg ∧ i = .int .i64 k ∧ Below w.heap.size w wr ∧ Hid (∀ j, j < k → ¬ okAt s j))
  case atStart => exact ⟨0, Nat.zero_le _, Nat.le_refl _, rfl, Below.refl _ _, fun j h => absurd h (Nat.not_lt_zero _)⟩
  case round =>
    obtain ⟨k, hk, hg, rfl, hY, HA⟩ := hrel
    by_cases hlt : k < s.size
    · have hbk := congrArg UInt8.toNat (byte_get s k hlt)
      have q0 : (0 : Int) ≤ (k : Int) := by omega
      have q1 : (k : Int) < (s.size : Int) := by omega
      have q2 : (k : Int) ≤ (s.size : Int) := by omega
      have q3 : (0 : Int) ≤ (k : Int) + 1 := by omega
      have q4 : (k : Int) + 1 ≤ (s.size : Int) := by omega
      have q5 : IntKind.i64.wrap ((k : Int) + 1) = (k : Int) + 1 := by rw [IntKind.wrap_i64]; omega
      by_cases hc : ((s[k].toNat : Int) == 46) = true
      · have hd : s.data.toList.getD k 0 = 46 := by
          have : s.data.toList.getD k 0 = UInt8.ofNat 46 := u8_of (by rw [hbk]; have := of_decide_eq_true hc; simp at hc; omega)
          simpa using this
        have hja := join_at hlt hd
        have HOK := Lib.hid (fun a b => show okAt s k from ⟨hlt, hd, a, b⟩)
        have HNO := Lib.hid (fun h : okAt s k => (show (mayN (s.extract 0 k).data.toList && mayN (s.extract (k + 1) s.size).data.toList) = true by rw [h.2.2.1, h.2.2.2]; rfl))
        have cj := fun w => rjoin_any (s.extract 0 k) (s.extract (k + 1) s.size) w (by rw [ByteArray.size_extract]; omega) (by rw [ByteArray.size_extract]; omega)
        generalize joinN (s.extract 0 k) (s.extract (k + 1) s.size) = jk at *
        cases hm : (mayN (s.extract 0 k).data.toList && mayN (s.extract (k + 1) s.size).data.toList) with
        | true =>
          rw [hm] at hja
          have HS := Lib.hid (okAt_split (HOK.out (by rw [Bool.and_eq_true] at hm; exact hm.1) (by rw [Bool.and_eq_true] at hm; exact hm.2)))
          clear hm HOK HNO hbk hd HA
          go_wp2_with fail
          refine wp_region_held_drew (S := fun _ => True) (by kernel_rfl) ?_ (fun hHeldbr => ?_)
          · trivial
          refine wpAnyH_take (i := 0) (oi := { dst := some 12, op := Op.move (Operand.tmp 0), type := 9, pos := "ref.go:106", after := _, guard := none }) (v := ?vbr0) rfl (by kernel_rfl) (by kernel_rfl) (by kernel_rfl) (fun _ _ _ h => h) (Or.inl ⟨by rfl, ?hybr0⟩) (by assumption) ?restbr0
          case hybr0 => (intro w hSw; (try dsimp only at hSw); go_simp <;> with_reducible rfl)
          try simp only [Act.put, List.setIfInBounds_toArray, List.set_cons_zero, List.set_cons_succ]
          refine wpAnyH_take (i := 1) (oi := { dst := some 13, op := Op.move (Operand.tmp 5), type := 3, pos := "ref.go:106", after := _, guard := none }) (v := ?vbr1) rfl (by kernel_rfl) (by kernel_rfl) (by kernel_rfl) (fun _ _ _ h => h) (Or.inl ⟨by rfl, ?hybr1⟩) (by assumption) ?restbr1
          case hybr1 => (intro w hSw; (try dsimp only at hSw); go_simp <;> with_reducible rfl)
          try simp only [Act.put, List.setIfInBounds_toArray, List.set_cons_zero, List.set_cons_succ]
          refine wpAnyH_take (i := 2) (oi := { dst := some 14, op := Op.index 9 (Operand.tmp 12) (Operand.tmp 13), type := 5, pos := "ref.go:106", after := _, guard := none }) (v := ?vbr2) rfl (by kernel_rfl) (by kernel_rfl) (by kernel_rfl) (fun _ _ _ h => h) (Or.inl ⟨by rfl, ?hybr2⟩) (by assumption) ?restbr2
          case hybr2 => (intro w hSw; (try dsimp only at hSw); go_simp <;> with_reducible rfl)
          try simp only [Act.put, List.setIfInBounds_toArray, List.set_cons_zero, List.set_cons_succ]
          refine wpAnyH_take (i := 3) (oi := { dst := some 15, op := Op.binOp BinOp.eql 5 (Operand.tmp 14) (Operand.const (Value.int IntKind.u8 46)) 5, type := 4, pos := "ref.go:106", after := _, guard := none }) (v := ?vbr3) rfl (by kernel_rfl) (by kernel_rfl) (by kernel_rfl) (fun _ _ _ h => h) (Or.inl ⟨by rfl, ?hybr3⟩) (by assumption) ?restbr3
          case hybr3 => (intro w hSw; (try dsimp only at hSw); go_simp <;> with_reducible rfl)
          try simp only [Act.put, List.setIfInBounds_toArray, List.set_cons_zero, List.set_cons_succ]
          refine wpAnyH_take (i := 4) (oi := { dst := some 16, op := Op.move (Operand.tmp 15), type := 4, pos := "ref.go:106", after := _, guard := none }) (v := ?vbr4) rfl (by kernel_rfl) (by kernel_rfl) (by kernel_rfl) (fun _ _ _ h => h) (Or.inl ⟨by rfl, ?hybr4⟩) (by assumption) ?restbr4
          case hybr4 => (intro w hSw; (try dsimp only at hSw); go_simp <;> with_reducible rfl)
          try simp only [Act.put, List.setIfInBounds_toArray, List.set_cons_zero, List.set_cons_succ]
          refine wpAnyH_take (i := 5) (oi := { dst := some 17, op := Op.move (Operand.tmp 0), type := 9, pos := "ref.go:106", after := _, guard := some (4, true) }) (v := ?vbr5) rfl (by kernel_rfl) (by kernel_rfl) (by kernel_rfl) (fun _ _ _ h => h) (Or.inl ⟨by rfl, ?hybr5⟩) (by assumption) ?restbr5
          case hybr5 => (intro w hSw; (try dsimp only at hSw); go_simp <;> with_reducible rfl)
          try simp only [Act.put, List.setIfInBounds_toArray, List.set_cons_zero, List.set_cons_succ]
          refine wpAnyH_take (i := 6) (oi := { dst := some 18, op := Op.move (Operand.tmp 5), type := 3, pos := "ref.go:106", after := _, guard := some (4, true) }) (v := ?vbr6) rfl (by kernel_rfl) (by kernel_rfl) (by kernel_rfl) (fun _ _ _ h => h) (Or.inl ⟨by rfl, ?hybr6⟩) (by assumption) ?restbr6
          case hybr6 => (intro w hSw; (try dsimp only at hSw); go_simp <;> with_reducible rfl)
          try simp only [Act.put, List.setIfInBounds_toArray, List.set_cons_zero, List.set_cons_succ]
          refine wpAnyH_take (i := 7) (oi := { dst := some 19, op := Op.slice 9 (Operand.tmp 17) none (some (Operand.tmp 18)) none, type := 9, pos := "ref.go:106", after := _, guard := some (4, true) }) (v := ?vbr7) rfl (by kernel_rfl) (by kernel_rfl) (by kernel_rfl) (fun _ _ _ h => h) (Or.inl ⟨by rfl, ?hybr7⟩) (by assumption) ?restbr7
          case hybr7 => (intro w hSw; (try dsimp only at hSw); go_simp <;> with_reducible rfl)
          try simp only [Act.put, List.setIfInBounds_toArray, List.set_cons_zero, List.set_cons_succ]
          refine wpAnyH_take (i := 8) (oi := { dst := some 20, op := Op.move (Operand.tmp 0), type := 9, pos := "ref.go:106", after := _, guard := some (4, true) }) (v := ?vbr8) rfl (by kernel_rfl) (by kernel_rfl) (by kernel_rfl) (fun _ _ _ h => h) (Or.inl ⟨by rfl, ?hybr8⟩) (by assumption) ?restbr8
          case hybr8 => (intro w hSw; (try dsimp only at hSw); go_simp <;> with_reducible rfl)
          try simp only [Act.put, List.setIfInBounds_toArray, List.set_cons_zero, List.set_cons_succ]
          refine wpAnyH_take (i := 9) (oi := { dst := some 21, op := Op.move (Operand.tmp 5), type := 3, pos := "ref.go:106", after := _, guard := some (4, true) }) (v := ?vbr9) rfl (by kernel_rfl) (by kernel_rfl) (by kernel_rfl) (fun _ _ _ h => h) (Or.inl ⟨by rfl, ?hybr9⟩) (by assumption) ?restbr9
          case hybr9 => (intro w hSw; (try dsimp only at hSw); go_simp <;> with_reducible rfl)
          try simp only [Act.put, List.setIfInBounds_toArray, List.set_cons_zero, List.set_cons_succ]
          refine wpAnyH_take (i := 10) (oi := { dst := some 22, op := Op.binOp BinOp.add 3 (Operand.tmp 21) (Operand.const (Value.int IntKind.i64 1)) 3, type := 3, pos := "ref.go:106", after := _, guard := some (4, true) }) (v := ?vbr10) rfl (by kernel_rfl) (by kernel_rfl) (by kernel_rfl) (fun _ _ _ h => h) (Or.inl ⟨by rfl, ?hybr10⟩) (by assumption) ?restbr10
          case hybr10 => (intro w hSw; (try dsimp only at hSw); go_simp <;> with_reducible rfl)
          try simp only [Act.put, List.setIfInBounds_toArray, List.set_cons_zero, List.set_cons_succ]
          refine wpAnyH_take (i := 11) (oi := { dst := some 23, op := Op.slice 9 (Operand.tmp 20) (some (Operand.tmp 22)) none none, type := 9, pos := "ref.go:106", after := _, guard := some (4, true) }) (v := ?vbr11) rfl (by kernel_rfl) (by kernel_rfl) (by kernel_rfl) (fun _ _ _ h => h) (Or.inl ⟨by rfl, ?hybr11⟩) (by assumption) ?restbr11
          case hybr11 => (intro w hSw; (try dsimp only at hSw); go_simp <;> with_reducible rfl)
          try simp only [Act.put, List.setIfInBounds_toArray, List.set_cons_zero, List.set_cons_succ]
          refine wpAnyH_take (i := 13) (oi := { dst := some 25, op := Op.move (Operand.tmp 0), type := 9, pos := "ref.go:106", after := _, guard := some (4, true) }) (v := ?vbr13) rfl (by kernel_rfl) (by kernel_rfl) (by kernel_rfl) (fun _ _ _ h => h) (Or.inl ⟨by rfl, ?hybr13⟩) (by assumption) ?restbr13
          case hybr13 => (intro w hSw; (try dsimp only at hSw); go_simp <;> with_reducible rfl)
          try simp only [Act.put, List.setIfInBounds_toArray, List.set_cons_zero, List.set_cons_succ]
          refine wpAnyH_ready (rs := [12]) (by kernel_rfl) (by simp) ?_
          refine AllReadyH.cons (o := { dst := some 24, op := Op.call { callee := Callee.value (Operand.func 19), args := #[Operand.tmp 19, Operand.tmp 23], argTypes := #[9, 9] }, type := 9, pos := "ref.go:106", after := _, guard := some (4, true) }) rfl (fun K hK => ?_) AllReadyH.nil
          go_simp
          refine (cj _).mono ?_
          rintro e w' ⟨rfl, hb'⟩
          try go_wp2_with fail
          refine hK.out _ _ ?_ (fun hHeldbr12 => ?_)
          · trivial
          clear hK K hHeldbr
          try simp only [Act.put, List.setIfInBounds_toArray, List.set_cons_zero, List.set_cons_succ]
          refine wpAnyH_take (i := 14) (oi := { dst := some 26, op := Op.binOp BinOp.eql 9 (Operand.tmp 24) (Operand.tmp 25) 9, type := 4, pos := "ref.go:106", after := _, guard := some (4, true) }) (v := ?vbr14) rfl (by kernel_rfl) (by kernel_rfl) (by kernel_rfl) (fun _ _ _ h => h) (Or.inl ⟨by rfl, ?hybr14⟩) (by assumption) ?restbr14
          case hybr14 => (intro w hSw; (try dsimp only at hSw); go_simp <;> with_reducible rfl)
          try simp only [Act.put, List.setIfInBounds_toArray, List.set_cons_zero, List.set_cons_succ]
          refine wpAnyH_take (i := 15) (oi := { dst := some 27, op := Op.pick (Operand.tmp 16) (Operand.tmp 26) (Operand.const (Value.bool false)), type := 4, pos := "ref.go:106", after := _, guard := none }) (v := ?vbr15) rfl (by kernel_rfl) (by kernel_rfl) (by kernel_rfl) (fun _ _ _ h => h) (Or.inl ⟨by rfl, ?hybr15⟩) (by assumption) ?restbr15
          case hybr15 => (intro w hSw; (try dsimp only at hSw); go_simp <;> with_reducible rfl)
          try simp only [Act.put, List.setIfInBounds_toArray, List.set_cons_zero, List.set_cons_succ]
          refine wpAnyH_done (by kernel_rfl) ?_ _
          go_wp2_with fail
          go_quiet (fail)
          go_wp2
          go_ret3
          unfold SplitPost
          rw [HS.out.1, HS.out.2.1, HS.out.2.2]
          exact ⟨rfl, below_drewN ((below_drewN hY 1).trans (hb'.mono hY.size)) _⟩
        | false =>
          rw [hm] at hja
          have HN2 := Lib.hid (show ¬ okAt s k from fun h => by have := HNO.out h; rw [hm] at this; cases this)
          clear hm HOK HNO hbk hd
          go_wp2_with fail
          refine wp_region_held_drew (S := fun _ => True) (by kernel_rfl) ?_ (fun hHeldcr => ?_)
          · trivial
          refine wpAnyH_take (i := 0) (oi := { dst := some 12, op := Op.move (Operand.tmp 0), type := 9, pos := "ref.go:106", after := _, guard := none }) (v := ?vcr0) rfl (by kernel_rfl) (by kernel_rfl) (by kernel_rfl) (fun _ _ _ h => h) (Or.inl ⟨by rfl, ?hycr0⟩) (by assumption) ?restcr0
          case hycr0 => (intro w hSw; (try dsimp only at hSw); go_simp <;> with_reducible rfl)
          try simp only [Act.put, List.setIfInBounds_toArray, List.set_cons_zero, List.set_cons_succ]
          refine wpAnyH_take (i := 1) (oi := { dst := some 13, op := Op.move (Operand.tmp 5), type := 3, pos := "ref.go:106", after := _, guard := none }) (v := ?vcr1) rfl (by kernel_rfl) (by kernel_rfl) (by kernel_rfl) (fun _ _ _ h => h) (Or.inl ⟨by rfl, ?hycr1⟩) (by assumption) ?restcr1
          case hycr1 => (intro w hSw; (try dsimp only at hSw); go_simp <;> with_reducible rfl)
          try simp only [Act.put, List.setIfInBounds_toArray, List.set_cons_zero, List.set_cons_succ]
          refine wpAnyH_take (i := 2) (oi := { dst := some 14, op := Op.index 9 (Operand.tmp 12) (Operand.tmp 13), type := 5, pos := "ref.go:106", after := _, guard := none }) (v := ?vcr2) rfl (by kernel_rfl) (by kernel_rfl) (by kernel_rfl) (fun _ _ _ h => h) (Or.inl ⟨by rfl, ?hycr2⟩) (by assumption) ?restcr2
          case hycr2 => (intro w hSw; (try dsimp only at hSw); go_simp <;> with_reducible rfl)
          try simp only [Act.put, List.setIfInBounds_toArray, List.set_cons_zero, List.set_cons_succ]
          refine wpAnyH_take (i := 3) (oi := { dst := some 15, op := Op.binOp BinOp.eql 5 (Operand.tmp 14) (Operand.const (Value.int IntKind.u8 46)) 5, type := 4, pos := "ref.go:106", after := _, guard := none }) (v := ?vcr3) rfl (by kernel_rfl) (by kernel_rfl) (by kernel_rfl) (fun _ _ _ h => h) (Or.inl ⟨by rfl, ?hycr3⟩) (by assumption) ?restcr3
          case hycr3 => (intro w hSw; (try dsimp only at hSw); go_simp <;> with_reducible rfl)
          try simp only [Act.put, List.setIfInBounds_toArray, List.set_cons_zero, List.set_cons_succ]
          refine wpAnyH_take (i := 4) (oi := { dst := some 16, op := Op.move (Operand.tmp 15), type := 4, pos := "ref.go:106", after := _, guard := none }) (v := ?vcr4) rfl (by kernel_rfl) (by kernel_rfl) (by kernel_rfl) (fun _ _ _ h => h) (Or.inl ⟨by rfl, ?hycr4⟩) (by assumption) ?restcr4
          case hycr4 => (intro w hSw; (try dsimp only at hSw); go_simp <;> with_reducible rfl)
          try simp only [Act.put, List.setIfInBounds_toArray, List.set_cons_zero, List.set_cons_succ]
          refine wpAnyH_take (i := 5) (oi := { dst := some 17, op := Op.move (Operand.tmp 0), type := 9, pos := "ref.go:106", after := _, guard := some (4, true) }) (v := ?vcr5) rfl (by kernel_rfl) (by kernel_rfl) (by kernel_rfl) (fun _ _ _ h => h) (Or.inl ⟨by rfl, ?hycr5⟩) (by assumption) ?restcr5
          case hycr5 => (intro w hSw; (try dsimp only at hSw); go_simp <;> with_reducible rfl)
          try simp only [Act.put, List.setIfInBounds_toArray, List.set_cons_zero, List.set_cons_succ]
          refine wpAnyH_take (i := 6) (oi := { dst := some 18, op := Op.move (Operand.tmp 5), type := 3, pos := "ref.go:106", after := _, guard := some (4, true) }) (v := ?vcr6) rfl (by kernel_rfl) (by kernel_rfl) (by kernel_rfl) (fun _ _ _ h => h) (Or.inl ⟨by rfl, ?hycr6⟩) (by assumption) ?restcr6
          case hycr6 => (intro w hSw; (try dsimp only at hSw); go_simp <;> with_reducible rfl)
          try simp only [Act.put, List.setIfInBounds_toArray, List.set_cons_zero, List.set_cons_succ]
          refine wpAnyH_take (i := 7) (oi := { dst := some 19, op := Op.slice 9 (Operand.tmp 17) none (some (Operand.tmp 18)) none, type := 9, pos := "ref.go:106", after := _, guard := some (4, true) }) (v := ?vcr7) rfl (by kernel_rfl) (by kernel_rfl) (by kernel_rfl) (fun _ _ _ h => h) (Or.inl ⟨by rfl, ?hycr7⟩) (by assumption) ?restcr7
          case hycr7 => (intro w hSw; (try dsimp only at hSw); go_simp <;> with_reducible rfl)
          try simp only [Act.put, List.setIfInBounds_toArray, List.set_cons_zero, List.set_cons_succ]
          refine wpAnyH_take (i := 8) (oi := { dst := some 20, op := Op.move (Operand.tmp 0), type := 9, pos := "ref.go:106", after := _, guard := some (4, true) }) (v := ?vcr8) rfl (by kernel_rfl) (by kernel_rfl) (by kernel_rfl) (fun _ _ _ h => h) (Or.inl ⟨by rfl, ?hycr8⟩) (by assumption) ?restcr8
          case hycr8 => (intro w hSw; (try dsimp only at hSw); go_simp <;> with_reducible rfl)
          try simp only [Act.put, List.setIfInBounds_toArray, List.set_cons_zero, List.set_cons_succ]
          refine wpAnyH_take (i := 9) (oi := { dst := some 21, op := Op.move (Operand.tmp 5), type := 3, pos := "ref.go:106", after := _, guard := some (4, true) }) (v := ?vcr9) rfl (by kernel_rfl) (by kernel_rfl) (by kernel_rfl) (fun _ _ _ h => h) (Or.inl ⟨by rfl, ?hycr9⟩) (by assumption) ?restcr9
          case hycr9 => (intro w hSw; (try dsimp only at hSw); go_simp <;> with_reducible rfl)
          try simp only [Act.put, List.setIfInBounds_toArray, List.set_cons_zero, List.set_cons_succ]
          refine wpAnyH_take (i := 10) (oi := { dst := some 22, op := Op.binOp BinOp.add 3 (Operand.tmp 21) (Operand.const (Value.int IntKind.i64 1)) 3, type := 3, pos := "ref.go:106", after := _, guard := some (4, true) }) (v := ?vcr10) rfl (by kernel_rfl) (by kernel_rfl) (by kernel_rfl) (fun _ _ _ h => h) (Or.inl ⟨by rfl, ?hycr10⟩) (by assumption) ?restcr10
          case hycr10 => (intro w hSw; (try dsimp only at hSw); go_simp <;> with_reducible rfl)
          try simp only [Act.put, List.setIfInBounds_toArray, List.set_cons_zero, List.set_cons_succ]
          refine wpAnyH_take (i := 11) (oi := { dst := some 23, op := Op.slice 9 (Operand.tmp 20) (some (Operand.tmp 22)) none none, type := 9, pos := "ref.go:106", after := _, guard := some (4, true) }) (v := ?vcr11) rfl (by kernel_rfl) (by kernel_rfl) (by kernel_rfl) (fun _ _ _ h => h) (Or.inl ⟨by rfl, ?hycr11⟩) (by assumption) ?restcr11
          case hycr11 => (intro w hSw; (try dsimp only at hSw); go_simp <;> with_reducible rfl)
          try simp only [Act.put, List.setIfInBounds_toArray, List.set_cons_zero, List.set_cons_succ]
          refine wpAnyH_take (i := 13) (oi := { dst := some 25, op := Op.move (Operand.tmp 0), type := 9, pos := "ref.go:106", after := _, guard := some (4, true) }) (v := ?vcr13) rfl (by kernel_rfl) (by kernel_rfl) (by kernel_rfl) (fun _ _ _ h => h) (Or.inl ⟨by rfl, ?hycr13⟩) (by assumption) ?restcr13
          case hycr13 => (intro w hSw; (try dsimp only at hSw); go_simp <;> with_reducible rfl)
          try simp only [Act.put, List.setIfInBounds_toArray, List.set_cons_zero, List.set_cons_succ]
          refine wpAnyH_ready (rs := [12]) (by kernel_rfl) (by simp) ?_
          refine AllReadyH.cons (o := { dst := some 24, op := Op.call { callee := Callee.value (Operand.func 19), args := #[Operand.tmp 19, Operand.tmp 23], argTypes := #[9, 9] }, type := 9, pos := "ref.go:106", after := _, guard := some (4, true) }) rfl (fun K hK => ?_) AllReadyH.nil
          go_simp
          refine (cj _).mono ?_
          rintro e w' ⟨rfl, hb'⟩
          try go_wp2_with fail
          refine hK.out _ _ ?_ (fun hHeldcr12 => ?_)
          · trivial
          clear hK K hHeldcr
          try simp only [Act.put, List.setIfInBounds_toArray, List.set_cons_zero, List.set_cons_succ]
          refine wpAnyH_take (i := 14) (oi := { dst := some 26, op := Op.binOp BinOp.eql 9 (Operand.tmp 24) (Operand.tmp 25) 9, type := 4, pos := "ref.go:106", after := _, guard := some (4, true) }) (v := ?vcr14) rfl (by kernel_rfl) (by kernel_rfl) (by kernel_rfl) (fun _ _ _ h => h) (Or.inl ⟨by rfl, ?hycr14⟩) (by assumption) ?restcr14
          case hycr14 => (intro w hSw; (try dsimp only at hSw); go_simp <;> with_reducible rfl)
          try simp only [Act.put, List.setIfInBounds_toArray, List.set_cons_zero, List.set_cons_succ]
          refine wpAnyH_take (i := 15) (oi := { dst := some 27, op := Op.pick (Operand.tmp 16) (Operand.tmp 26) (Operand.const (Value.bool false)), type := 4, pos := "ref.go:106", after := _, guard := none }) (v := ?vcr15) rfl (by kernel_rfl) (by kernel_rfl) (by kernel_rfl) (fun _ _ _ h => h) (Or.inl ⟨by rfl, ?hycr15⟩) (by assumption) ?restcr15
          case hycr15 => (intro w hSw; (try dsimp only at hSw); go_simp <;> with_reducible rfl)
          try simp only [Act.put, List.setIfInBounds_toArray, List.set_cons_zero, List.set_cons_succ]
          refine wpAnyH_done (by kernel_rfl) ?_ _
          have hY2 := (below_drewN hY 1).trans (hb'.mono hY.size)
          clear hb' cj hja
          go_wp2
          go_roundg (s.size - (k + 1))
          case measure => omega
          case rel => exact ⟨k + 1, by omega, by omega, by go_num, hY2, fun j hj => by
            by_cases e : j = k
            · exact e ▸ HN2.out
            · exact HA.out j (by omega)⟩
      · rw [Bool.not_eq_true] at hc
        have HN2 := Lib.hid (show ¬ okAt s k from fun h => by
          have h2 := h.2.1
          rw [byte_get s k hlt] at h2
          rw [h2] at hc
          cases hc)
        clear hbk
        go_wp2_with fail
        refine wp_region_held_drew (S := fun _ => True) (by kernel_rfl) ?_ (fun hHelddr => ?_)
        · trivial
        refine wpAnyH_take (i := 0) (oi := { dst := some 12, op := Op.move (Operand.tmp 0), type := 9, pos := "ref.go:106", after := _, guard := none }) (v := ?vdr0) rfl (by kernel_rfl) (by kernel_rfl) (by kernel_rfl) (fun _ _ _ h => h) (Or.inl ⟨by rfl, ?hydr0⟩) (by assumption) ?restdr0
        case hydr0 => (intro w hSw; (try dsimp only at hSw); go_simp <;> with_reducible rfl)
        try simp only [Act.put, List.setIfInBounds_toArray, List.set_cons_zero, List.set_cons_succ]
        refine wpAnyH_take (i := 1) (oi := { dst := some 13, op := Op.move (Operand.tmp 5), type := 3, pos := "ref.go:106", after := _, guard := none }) (v := ?vdr1) rfl (by kernel_rfl) (by kernel_rfl) (by kernel_rfl) (fun _ _ _ h => h) (Or.inl ⟨by rfl, ?hydr1⟩) (by assumption) ?restdr1
        case hydr1 => (intro w hSw; (try dsimp only at hSw); go_simp <;> with_reducible rfl)
        try simp only [Act.put, List.setIfInBounds_toArray, List.set_cons_zero, List.set_cons_succ]
        refine wpAnyH_take (i := 2) (oi := { dst := some 14, op := Op.index 9 (Operand.tmp 12) (Operand.tmp 13), type := 5, pos := "ref.go:106", after := _, guard := none }) (v := ?vdr2) rfl (by kernel_rfl) (by kernel_rfl) (by kernel_rfl) (fun _ _ _ h => h) (Or.inl ⟨by rfl, ?hydr2⟩) (by assumption) ?restdr2
        case hydr2 => (intro w hSw; (try dsimp only at hSw); go_simp <;> with_reducible rfl)
        try simp only [Act.put, List.setIfInBounds_toArray, List.set_cons_zero, List.set_cons_succ]
        refine wpAnyH_take (i := 3) (oi := { dst := some 15, op := Op.binOp BinOp.eql 5 (Operand.tmp 14) (Operand.const (Value.int IntKind.u8 46)) 5, type := 4, pos := "ref.go:106", after := _, guard := none }) (v := ?vdr3) rfl (by kernel_rfl) (by kernel_rfl) (by kernel_rfl) (fun _ _ _ h => h) (Or.inl ⟨by rfl, ?hydr3⟩) (by assumption) ?restdr3
        case hydr3 => (intro w hSw; (try dsimp only at hSw); go_simp <;> with_reducible rfl)
        try simp only [Act.put, List.setIfInBounds_toArray, List.set_cons_zero, List.set_cons_succ]
        refine wpAnyH_take (i := 4) (oi := { dst := some 16, op := Op.move (Operand.tmp 15), type := 4, pos := "ref.go:106", after := _, guard := none }) (v := ?vdr4) rfl (by kernel_rfl) (by kernel_rfl) (by kernel_rfl) (fun _ _ _ h => h) (Or.inl ⟨by rfl, ?hydr4⟩) (by assumption) ?restdr4
        case hydr4 => (intro w hSw; (try dsimp only at hSw); go_simp <;> with_reducible rfl)
        try simp only [Act.put, List.setIfInBounds_toArray, List.set_cons_zero, List.set_cons_succ]
        refine wpAnyH_take (i := 5) (oi := { dst := some 17, op := Op.move (Operand.tmp 0), type := 9, pos := "ref.go:106", after := _, guard := some (4, true) }) rfl (by kernel_rfl) (by kernel_rfl) (by kernel_rfl) (fun _ _ _ h => h) (Or.inr ⟨by rfl, rfl⟩) (by assumption) ?_
        try simp only [Act.put, List.setIfInBounds_toArray, List.set_cons_zero, List.set_cons_succ]
        refine wpAnyH_take (i := 6) (oi := { dst := some 18, op := Op.move (Operand.tmp 5), type := 3, pos := "ref.go:106", after := _, guard := some (4, true) }) rfl (by kernel_rfl) (by kernel_rfl) (by kernel_rfl) (fun _ _ _ h => h) (Or.inr ⟨by rfl, rfl⟩) (by assumption) ?_
        try simp only [Act.put, List.setIfInBounds_toArray, List.set_cons_zero, List.set_cons_succ]
        refine wpAnyH_take (i := 7) (oi := { dst := some 19, op := Op.slice 9 (Operand.tmp 17) none (some (Operand.tmp 18)) none, type := 9, pos := "ref.go:106", after := _, guard := some (4, true) }) rfl (by kernel_rfl) (by kernel_rfl) (by kernel_rfl) (fun _ _ _ h => h) (Or.inr ⟨by rfl, rfl⟩) (by assumption) ?_
        try simp only [Act.put, List.setIfInBounds_toArray, List.set_cons_zero, List.set_cons_succ]
        refine wpAnyH_take (i := 8) (oi := { dst := some 20, op := Op.move (Operand.tmp 0), type := 9, pos := "ref.go:106", after := _, guard := some (4, true) }) rfl (by kernel_rfl) (by kernel_rfl) (by kernel_rfl) (fun _ _ _ h => h) (Or.inr ⟨by rfl, rfl⟩) (by assumption) ?_
        try simp only [Act.put, List.setIfInBounds_toArray, List.set_cons_zero, List.set_cons_succ]
        refine wpAnyH_take (i := 9) (oi := { dst := some 21, op := Op.move (Operand.tmp 5), type := 3, pos := "ref.go:106", after := _, guard := some (4, true) }) rfl (by kernel_rfl) (by kernel_rfl) (by kernel_rfl) (fun _ _ _ h => h) (Or.inr ⟨by rfl, rfl⟩) (by assumption) ?_
        try simp only [Act.put, List.setIfInBounds_toArray, List.set_cons_zero, List.set_cons_succ]
        refine wpAnyH_take (i := 10) (oi := { dst := some 22, op := Op.binOp BinOp.add 3 (Operand.tmp 21) (Operand.const (Value.int IntKind.i64 1)) 3, type := 3, pos := "ref.go:106", after := _, guard := some (4, true) }) rfl (by kernel_rfl) (by kernel_rfl) (by kernel_rfl) (fun _ _ _ h => h) (Or.inr ⟨by rfl, rfl⟩) (by assumption) ?_
        try simp only [Act.put, List.setIfInBounds_toArray, List.set_cons_zero, List.set_cons_succ]
        refine wpAnyH_take (i := 11) (oi := { dst := some 23, op := Op.slice 9 (Operand.tmp 20) (some (Operand.tmp 22)) none none, type := 9, pos := "ref.go:106", after := _, guard := some (4, true) }) rfl (by kernel_rfl) (by kernel_rfl) (by kernel_rfl) (fun _ _ _ h => h) (Or.inr ⟨by rfl, rfl⟩) (by assumption) ?_
        try simp only [Act.put, List.setIfInBounds_toArray, List.set_cons_zero, List.set_cons_succ]
        refine wpAnyH_take (i := 12) (oi := { dst := some 24, op := Op.call { callee := Callee.value (Operand.func 19), args := #[Operand.tmp 19, Operand.tmp 23], argTypes := #[9, 9] }, type := 9, pos := "ref.go:106", after := _, guard := some (4, true) }) rfl (by kernel_rfl) (by kernel_rfl) (by kernel_rfl) (fun _ _ _ h => h) (Or.inr ⟨by rfl, rfl⟩) (by assumption) ?_
        try simp only [Act.put, List.setIfInBounds_toArray, List.set_cons_zero, List.set_cons_succ]
        refine wpAnyH_take (i := 13) (oi := { dst := some 25, op := Op.move (Operand.tmp 0), type := 9, pos := "ref.go:106", after := _, guard := some (4, true) }) rfl (by kernel_rfl) (by kernel_rfl) (by kernel_rfl) (fun _ _ _ h => h) (Or.inr ⟨by rfl, rfl⟩) (by assumption) ?_
        try simp only [Act.put, List.setIfInBounds_toArray, List.set_cons_zero, List.set_cons_succ]
        refine wpAnyH_take (i := 14) (oi := { dst := some 26, op := Op.binOp BinOp.eql 9 (Operand.tmp 24) (Operand.tmp 25) 9, type := 4, pos := "ref.go:106", after := _, guard := some (4, true) }) rfl (by kernel_rfl) (by kernel_rfl) (by kernel_rfl) (fun _ _ _ h => h) (Or.inr ⟨by rfl, rfl⟩) (by assumption) ?_
        try simp only [Act.put, List.setIfInBounds_toArray, List.set_cons_zero, List.set_cons_succ]
        refine wpAnyH_take (i := 15) (oi := { dst := some 27, op := Op.pick (Operand.tmp 16) (Operand.tmp 26) (Operand.const (Value.bool false)), type := 4, pos := "ref.go:106", after := _, guard := none }) (v := ?vdr15) rfl (by kernel_rfl) (by kernel_rfl) (by kernel_rfl) (fun _ _ _ h => h) (Or.inl ⟨by rfl, ?hydr15⟩) (by assumption) ?restdr15
        case hydr15 => (intro w hSw; (try dsimp only at hSw); go_simp <;> with_reducible rfl)
        try simp only [Act.put, List.setIfInBounds_toArray, List.set_cons_zero, List.set_cons_succ]
        refine wpAnyH_done (by kernel_rfl) ?_ _
        go_wp2
        go_roundg (s.size - (k + 1))
        case measure => omega
        case rel => exact ⟨k + 1, by omega, by omega, by go_num, below_drewN hY 1, fun j hj => by
          by_cases e : j = k
          · exact e ▸ HN2.out
          · exact HA.out j (by omega)⟩
    · have HB := Lib.hid (show splitB s = false from by
        rw [Bool.eq_false_iff]
        intro h
        have h2 := split_okAt h
        exact HA.out _ (by have := h2.1; omega) h2)
      have HN := Lib.hid (split_none HB.out)
      go_wp2
      go_ret3
      unfold SplitPost
      rw [HB.out, HN.out.1, HN.out.2]
      exact ⟨rfl, hY⟩
end Go.Proofs.Ytahpogbcodfdmaa
