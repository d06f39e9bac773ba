/- (*table.heap).drop. -/
import Derived.Test.YtoogobenjhmjjaaTbFork
namespace Go.Proofs.Ytoogobenjhmjjaa
open Go Go.RowKit
set_option linter.unusedVariables false

/-- What drop comes to: the pages, the tables. -/
def dropS (cap : Int) (ps : List Pg) (ts : List (List Int)) (k : Nat) : List Pg × List (List Int) := (each_freeL cap ps ((prs (ts.getD k [])).map (·.2)), ts.set k [])

theorem TbO.setNil {w : World} {base hi gT cT k : Nat} {tvs : List Value} {ts : List (List Int)} (h : TbO w base hi (.slice (some ⟨gT, 0, none⟩) ts.length cT) tvs ts) (hk : k < ts.length) :
    TbQ (w.setCell ⟨gT, k, none⟩ (.slice none 0 0)) base (.slice (some ⟨gT, 0, none⟩) ts.length cT) (ts.set k []) := by
  obtain ⟨h1, h2, h3, h4, h5⟩ := h
  obtain ⟨g, cap', cur, hv, hg, hb, hc1, hc2, hc3, hc4⟩ := own_form h1 (by omega)
  injection hv with a1 _ a3
  injection a1 with a1
  injection a1 with a1 _ _
  subst a1 a3
  refine ⟨tvs.set k (.slice none 0 0), ?_, by simp [h3], ?_⟩
  · rw [List.length_set]
    refine own_of (by have := h1.1; simpa using this) hg (hb.set_ k _) hc1 hc2 (by simp [hc3]) ?_
    rw [take_set, hc4]
  · intro i v t e1 e2
    by_cases e : i = k
    · subst e
      rw [List.getElem?_set_self (by omega)] at e1 e2
      obtain rfl := Option.some.inj e1
      obtain rfl := Option.some.inj e2
      exact World.ownsRow_nil _ _ _ _
    · rw [List.getElem?_set_ne (by omega)] at e1 e2
      have h6 := (h4 i v t e1 e2).1
      exact own_far h6 (own_ne h6 hb (by decide)) _

def DropPost (w : World) (base b k : Nat) (cap : Int) (r : List Pg × List (List Int)) (e : Ending) (w' : World) : Prop :=
  e = .returned (.tuple #[.int .i64 (k : Int), .int .i64 0]) ∧ OwnW w' base b cap r.1 r.2 ∧ Below base w w'

set_option maxRecDepth 100000 in
set_option maxHeartbeats 4000000 in
theorem drop_any (base b k : Nat) (cap : Int) (ps : List Pg) (ts : List (List Int)) (w : World) (hs : OwnHp w base b cap ps ts) (hk : k < ts.length) (hl : ∀ t ∈ ts, t.length ≤ 1000) (hn : ps.length ≤ 1000) :
    Calls Try.prog 46 #[.pointer (some ⟨b, 0, none⟩), .int .i64 (k : Int)] w (DropPost w base b k cap (dropS cap ps ts k)) := by
  have hat : ts.getD k [] = ts[k] := by rw [List.getD_eq_getElem?_getD, List.getElem?_eq_getElem hk]; rfl
  have hb1 : base ≤ b := by obtain ⟨_, _, _, h, _⟩ := hs; exact h
  unfold dropS
  rw [hat]
  obtain ⟨t, ht⟩ : ∃ t, ts[k] = t := ⟨_, rfl⟩
  have htl := hl t (ht ▸ List.getElem_mem hk)
  have cE := each_free base b k cap ps ts t w hs hk ht htl hn
  rw [ht]
  have HT := Lib.hid ht
  clear hs hat ht
  go_enter Try.func46, Try.ntmps46
  go_wp2_with fail
  refine cE.mono ?_
  rintro e w1 ⟨rfl, hs1, hY1⟩
  obtain ⟨pv1, tv1, tvs1, _, hB1, hP1, hT1⟩ := hs1
  obtain ⟨gT, cT, Ak, ck, rfl, hgT, htk, hcell, hI⟩ := hT1.table hk
  have q2 : w1.cell? ⟨b, 2, none⟩ = some (.slice (some ⟨gT, 0, none⟩) ts.length cT) := by rw [hB1.cell]; rfl
  have hk0 : (0 : Int) ≤ (k : Int) := by omega
  have hk1 : (k : Int) < (ts.length : Int) := by omega
  have hTfr : w1.frozen? ⟨gT, k, none⟩ = false := by
    obtain ⟨g, cap', cur, hv, _, hb, _⟩ := own_form hT1.1 (by omega)
    injection hv with hv _ _
    injection hv with hv
    injection hv with hv _ _
    subst hv
    exact hb.free k
  have hgb : base ≤ gT := (own_block_ge hT1.1 rfl).1
  have HB1 := Lib.hid hB1
  have HP1 := Lib.hid hP1
  have HT1 := Lib.hid hT1
  clear hB1 hP1 hT1 hI htk
  go_wp2
  go_ret2
  obtain ⟨cur, hTb⟩ : ∃ cur, Blk w1 gT 47 cur := by
    obtain ⟨g, cap', cur, hv, _, hb, _⟩ := own_form HT1.out.1 (by omega)
    injection hv with hv _ _
    injection hv with hv
    injection hv with hv _ _
    subst hv
    exact ⟨cur, hb⟩
  exact ⟨rfl, ⟨pv1, _, hb1, HB1.out.far (by simp; omega) _, own_far HP1.out (own_ne HP1.out hTb (by decide)) _, HT1.out.setNil hk⟩, (hY1.mono hb1).setCell hgb _⟩
end Go.Proofs.Ytoogobenjhmjjaa
