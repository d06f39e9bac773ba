/- NameJoin: what is joined is split as it was. -/
import Derived.Test.YtahpogbcodfdmaaNmJoinLaw
import Derived.Test.YtahpogbcodfdmaaNmPlain2
namespace Go.Proofs.Ytahpogbcodfdmaa
open Go Go.RowKit
set_option linter.unusedVariables false

theorem nameJoin_walk (w : World) (a : ByteArray) (wa : a.size ≤ maxLen) (b : ByteArray) (wb : b.size ≤ maxLen) (s : ByteArray) (wc : s.size ≤ maxLen) :
    Calls Try.prog 5 #[.string a, .string b, .string s] w fun e w' => e = .returned (.bool true) ∧ Below w.heap.size w w' := by
  by_cases ha : 200 < a.size
  · exact join_a a b s ha w
  by_cases hb : 200 < b.size
  · exact join_b a b s (by omega) hb w
  by_cases hs : 200 < s.size
  · exact join_s a b s (by omega) (by omega) hs w
  have ha : a.size ≤ 200 := by omega
  have hb : b.size ≤ 200 := by omega
  have hs : s.size ≤ 200 := by omega
  have cm : ∀ (s : ByteArray) (v : Bool), s.size ≤ 200 → mayN s.data.toList = v → ∀ W : World, Calls Try.prog 14 #[.string s] W fun e w' => e = .returned (.bool v) ∧ Below W.heap.size W w' := fun s v hs h W => h ▸ nmay_any s W (by omega)
  have cj : ∀ (a b j : ByteArray), a.size ≤ 200 → b.size ≤ 200 → joinN a b = j → ∀ W : World, Calls Try.prog 18 #[.string a, .string b] W fun e w' => e = .returned (.string j) ∧ Below W.heap.size W w' := fun a b j ha hb h W => h ▸ Join_any a b W (by omega) (by omega)
  have cs : ∀ (s p q : ByteArray) (v : Bool), s.size ≤ 500 → splitL s = p → splitR s = q → splitB s = v → ∀ W : World, Calls Try.prog 10 #[.string s] W fun e w' => e = .returned (.tuple #[.string p, .string q, .bool v]) ∧ Below W.heap.size W w' := by
    rintro s p q v hs rfl rfl rfl W
    exact Split_any s W (by omega)
  have ce := cs ⟨#[]⟩ ⟨#[]⟩ ⟨#[]⟩ false (by decide) (split_none split_empty).1 (split_none split_empty).2 split_empty
  have lr : (splitL s).size ≤ 200 ∧ (splitR s).size ≤ 200 := by
    have h1 := cutL_size s
    have h2 := cutR_size s
    unfold splitL splitR
    split
    · omega
    · exact ⟨Nat.zero_le _, Nat.zero_le _⟩
  cases ma : mayN a.data.toList
  · have ej : joinN a b = ⟨#[]⟩ := by unfold joinN; rw [ma]; rfl
    cases hsp : splitB s
    · exact join_n1n a b s ha hb hs (cj a b _ ha hb ej) ce (cm a _ ha ma) (cs s _ _ _ (by omega) (split_none hsp).1 (split_none hsp).2 hsp) w
    · exact join_n1y a b s ha hb hs (cj a b _ ha hb ej) ce (cm a _ ha ma) _ _ (cs s _ _ _ (by omega) rfl rfl hsp) (cj _ _ _ lr.1 lr.2 (join_split hsp)) w
  cases mb : mayN b.data.toList
  · have ej : joinN a b = ⟨#[]⟩ := by unfold joinN; rw [ma, mb]; rfl
    cases hsp : splitB s
    · exact join_n2n a b s ha hb hs (cj a b _ ha hb ej) ce (cm a _ ha ma) (cm b _ hb mb) (cs s _ _ _ (by omega) (split_none hsp).1 (split_none hsp).2 hsp) w
    · exact join_n2y a b s ha hb hs (cj a b _ ha hb ej) ce (cm a _ ha ma) (cm b _ hb mb) _ _ (cs s _ _ _ (by omega) rfl rfl hsp) (cj _ _ _ lr.1 lr.2 (join_split hsp)) w
  have ej := joined ma mb
  obtain ⟨j1, j2, j3⟩ := split_joined ma mb
  have jne : (a ++ ⟨#[46]⟩ ++ b).toList.isEmpty = false := by
    rw [Lib.toList_data, joined_list, List.isEmpty_eq_false_iff]
    simp
  have jsz : (a ++ ⟨#[46]⟩ ++ b).size ≤ 500 := by
    rw [← size_list, joined_list, List.length_append, List.length_cons, size_list, size_list]; omega
  generalize a ++ ⟨#[46]⟩ ++ b = j at *
  cases hsp : splitB s
  · exact join_yn a b s ha hb hs j jne (cj a b _ ha hb ej) (cs j _ _ _ jsz j2 j3 j1) (cm a _ ha ma) (cm b _ hb mb) (cs s _ _ _ (by omega) (split_none hsp).1 (split_none hsp).2 hsp) w
  · exact join_yy a b s ha hb hs j jne (cj a b _ ha hb ej) (cs j _ _ _ jsz j2 j3 j1) (cm a _ ha ma) (cm b _ hb mb) _ _ (cs s _ _ _ (by omega) rfl rfl hsp) (cj _ _ _ lr.1 lr.2 (join_split hsp)) w
end Go.Proofs.Ytahpogbcodfdmaa
