/- table.do, Fork, Drop. -/
import Derived.Test.YtoogobenjhmjjaaTbDrop
namespace Go.Proofs.Ytoogobenjhmjjaa
open Go Go.RowKit
set_option linter.unusedVariables false

section
variable {w w' : World} {base b : Nat} {cap : Int} {ps : List Pg} {ts : List (List Int)}
theorem OwnW.keep (h : OwnW w base b cap ps ts) (hb : Below w.heap.size w w') : OwnW w' base b cap ps ts := by
  obtain ⟨pv, tv, h1, h2, h3, h4⟩ := h
  exact ⟨pv, tv, h1, h2.keep hb, own_below h3 hb, h4.keep hb⟩
theorem OwnHp.keep (h : OwnHp w base b cap ps ts) (hb : Below w.heap.size w w') : OwnHp w' base b cap ps ts := by
  obtain ⟨pv, tv, tvs, h1, h2, h3, h4⟩ := h
  exact ⟨pv, tv, tvs, h1, h2.keep hb, own_below h3 hb, h4.keep hb⟩
/-- What lies in its block. -/
theorem OwnW.read (h : OwnW w base b cap ps ts) : ∃ A c A2 c2, base ≤ b ∧ b < w.heap.size ∧ w.cell? ⟨b, 0, none⟩ = some (.int .i64 cap) ∧ w.cell? ⟨b, 1, none⟩ = some (.slice A ps.length c) ∧ w.cell? ⟨b, 2, none⟩ = some (.slice A2 ts.length c2) ∧
    HpQ w base (.agg #[.int .i64 cap, .slice A ps.length c, .slice A2 ts.length c2]) cap ps ts := by
  obtain ⟨pv, tv, h1, h2, h3, h4⟩ := h
  obtain ⟨A, c, rfl, _, _⟩ := (Sl.of_own h3).form
  obtain ⟨A2, c2, rfl, _, _⟩ := h4.tabs.form
  exact ⟨A, c, A2, c2, h1, h2.lt, by rw [h2.cell]; rfl, by rw [h2.cell]; rfl, by rw [h2.cell]; rfl, _, _, rfl, h3, h4⟩
theorem HpQ.boxed {v : Value} {g : Nat} {cs : Array Value} (h : HpQ w base v cap ps ts) (hg : Blk w g 28 cs) (o : Nat) (u : Value) : HpQ (w.setCell ⟨g, o, none⟩ u) base v cap ps ts := h.other hg (by decide) (by decide) (by decide) o u
end

def HeapRes (cap : Int) (n er : Int) (ps : List Pg) (ts : List (List Int)) (w : World) (e : Ending) (w' : World) : Prop :=
  ∃ v', e = .returned (.tuple #[v', .int .i64 n, .int .i64 er]) ∧ HpQ w' w.heap.size v' cap ps ts ∧ Below w.heap.size w w'

set_option maxRecDepth 100000 in
set_option maxHeartbeats 4000000 in
theorem do_err (v : Value) (cap : Int) (ps : List Pg) (ts : List (List Int)) (t : Int) (g : Nat) (er : Int) (w : World) (hv : HpV w v cap ps ts) (hn : ps.length ≤ 1000) (hm : ts.length ≤ 1000) (hl : ∀ t ∈ ts, t.length ≤ 1000)
    (he : whyH cap ps ts t 0 = er) (h0 : (er != 0) = true) :
    Calls Try.prog 43 #[v, .int .i64 t, .func (.func g) #[] #[]] w (HeapRes cap (-1) er ps ts w) := by
  obtain ⟨A, c, A2, c2, rfl, hv⟩ := hv.form
  have cO := fun W h => town_any (.agg #[.int .i64 cap, .slice A ps.length c, .slice A2 ts.length c2]) cap ps ts W h hn hm hl
  have cW := fun W h => twhy_any (.agg #[.int .i64 cap, .slice A ps.length c, .slice A2 ts.length c2]) cap ps ts t 0 W h hn
  rw [he] at cW
  have HV := Lib.hid hv
  have h0' : (er == 0) = false := by simpa using h0
  clear he hl hv
  go_enter Try.func43, Try.ntmps43
  have hA0 := ((Below.refl w.heap.size w).alloc (Nat.le_refl _) (.cells #[.int .i64 cap, .slice A ps.length c, .slice A2 ts.length c2] 28)).alloc (by simp) (.cells #[.int .i64 0, .slice none 0 0, .slice none 0 0] 28)
  go_wp2_with fail
  refine (cO _ (HV.out.keep hA0)).mono ?_
  rintro e w1 ⟨b, rfl, hs1, hb1⟩
  have hY1 := hA0.trans (hb1.mono (by simp; omega))
  have k0 : Blk w1 w.heap.size 28 #[.int .i64 cap, .slice A ps.length c, .slice A2 ts.length c2] := ((Blk.new_ w _ _ _ rfl).alloc _).keep hb1
  have k1 : Blk w1 (w.heap.size + 1) 28 #[.int .i64 0, .slice none 0 0, .slice none 0 0] := (Blk.new_ _ _ _ _ (by simp)).keep hb1
  have p0 : w1.cell? ⟨w.heap.size, 0, none⟩ = some (.int .i64 cap) := by rw [k0.cell]; rfl
  have p1 : w1.cell? ⟨w.heap.size, 1, none⟩ = some (.slice A ps.length c) := by rw [k0.cell]; rfl
  have p2 : w1.cell? ⟨w.heap.size, 2, none⟩ = some (.slice A2 ts.length c2) := by rw [k0.cell]; rfl
  go_wp2_with fail
  refine (cW _ (HV.out.keep hY1)).mono ?_
  rintro e w2 ⟨rfl, hb2⟩
  have hY2 := hY1.trans (hb2.mono hY1.size)
  replace k1 := k1.keep hb2
  obtain ⟨A3, c3, A4, c4, hbase, hblt, r0, r1, r2, hq⟩ := (hs1.keep hb2).toW.read
  have q0 : w2.cell? ⟨w.heap.size + 1, 0, none⟩ = some (.int .i64 0) := by rw [k1.cell]; rfl
  have q1 : w2.cell? ⟨w.heap.size + 1, 1, none⟩ = some (.slice none 0 0) := by rw [k1.cell]; rfl
  have q2 : w2.cell? ⟨w.heap.size + 1, 2, none⟩ = some (.slice none 0 0) := by rw [k1.cell]; rfl
  have f0 : w2.frozen? ⟨w.heap.size + 1, 0, none⟩ = false := k1.free 0
  have f1 : w2.frozen? ⟨w.heap.size + 1, 1, none⟩ = false := k1.free 1
  have f2 : w2.frozen? ⟨w.heap.size + 1, 2, none⟩ = false := k1.free 2
  have HQ := Lib.hid hq
  have HK := Lib.hid k1
  clear k0 k1 hs1 hq p0 p1 p2 hb1 hb2
  simp at hbase
  go_wp2
  have k5 := ((HK.out.set_ 0 (.int .i64 cap)).set_ 1 (.slice A3 ps.length c3)).set_ 2 (.slice A4 ts.length c4)
  refine bodyPost_ret (v := .tuple #[.agg #[.int .i64 cap, .slice A3 ps.length c3, .slice A4 ts.length c4], .int .i64 (-1), .int .i64 er]) (by simp [results, Try.results43, go_sem, q0, q1, q2]) rfl ⟨_, rfl, ?_, ?_⟩
  · exact (((HQ.out.boxed HK.out 0 _).boxed (HK.out.set_ 0 _) 1 _).boxed ((HK.out.set_ 0 _).set_ 1 _) 2 _).mono (by simp; omega)
  · exact ((hY2.setCell (by simp) _).setCell (by simp) _).setCell (by simp) _

set_option maxRecDepth 100000 in
set_option maxHeartbeats 4000000 in
theorem do_ok (v : Value) (cap : Int) (ps ps' : List Pg) (ts ts' : List (List Int)) (k g : Nat) (n er : Int) (w : World) (hv : HpV w v cap ps ts) (hn : ps.length ≤ 1000) (hm : ts.length ≤ 1000) (hl : ∀ t ∈ ts, t.length ≤ 1000)
    (eg : ∀ args w, (callFunc g args).run Try.prog w = .ok (.enter g args) w) (he : whyH cap ps ts (k : Int) 0 = 0)
    (cG : ∀ (W : World) (base b : Nat), OwnHp W base b cap ps ts → Calls Try.prog g #[.pointer (some ⟨b, 0, none⟩), .int .i64 (k : Int)] W fun e w' => e = .returned (.tuple #[.int .i64 n, .int .i64 er]) ∧ OwnW w' base b cap ps' ts' ∧ Below base W w') :
    Calls Try.prog 43 #[v, .int .i64 (k : Int), .func (.func g) #[] #[]] w (HeapRes cap n er ps' ts' w) := by
  obtain ⟨A, c, A2, c2, rfl, hv⟩ := hv.form
  have cO := fun W h => town_any (.agg #[.int .i64 cap, .slice A ps.length c, .slice A2 ts.length c2]) cap ps ts W h hn hm hl
  have cW := fun W h => twhy_any (.agg #[.int .i64 cap, .slice A ps.length c, .slice A2 ts.length c2]) cap ps ts (k : Int) 0 W h hn
  rw [he] at cW
  have HV := Lib.hid hv
  clear he hl hv
  go_enter Try.func43, Try.ntmps43
  have hA0 := ((Below.refl w.heap.size w).alloc (Nat.le_refl _) (.cells #[.int .i64 cap, .slice A ps.length c, .slice A2 ts.length c2] 28)).alloc (by simp) (.cells #[.int .i64 0, .slice none 0 0, .slice none 0 0] 28)
  go_wp2_with fail
  refine (cO _ (HV.out.keep hA0)).mono ?_
  rintro e w1 ⟨b, rfl, hs1, hb1⟩
  have hY1 := hA0.trans (hb1.mono (by simp; omega))
  have k0 : Blk w1 w.heap.size 28 #[.int .i64 cap, .slice A ps.length c, .slice A2 ts.length c2] := ((Blk.new_ w _ _ _ rfl).alloc _).keep hb1
  have k1 : Blk w1 (w.heap.size + 1) 28 #[.int .i64 0, .slice none 0 0, .slice none 0 0] := (Blk.new_ _ _ _ _ (by simp)).keep hb1
  have p0 : w1.cell? ⟨w.heap.size, 0, none⟩ = some (.int .i64 cap) := by rw [k0.cell]; rfl
  have p1 : w1.cell? ⟨w.heap.size, 1, none⟩ = some (.slice A ps.length c) := by rw [k0.cell]; rfl
  have p2 : w1.cell? ⟨w.heap.size, 2, none⟩ = some (.slice A2 ts.length c2) := by rw [k0.cell]; rfl
  go_wp2_with fail
  refine (cW _ (HV.out.keep hY1)).mono ?_
  rintro e w2 ⟨rfl, hb2⟩
  have hY2 := hY1.trans (hb2.mono hY1.size)
  replace k1 := k1.keep hb2
  have hs2 := hs1.keep hb2
  have cG2 := cG w2 _ b hs2
  have HS2 := Lib.hid hs2
  clear k0 hs1 hs2 p0 p1 p2 hb1 hb2 cG cW cO
  go_wp2_with fail
  refine cG2.mono ?_
  rintro e w3 ⟨rfl, hs3, hb3⟩
  clear cG2
  simp at hb3 hs3
  have hY3 := hY2.trans (hb3.mono (by omega))
  have k3 := k1.below hb3 (by omega)
  obtain ⟨A3, c3, A4, c4, hbase, hblt, r0, r1, r2, hq⟩ := hs3.read
  have q0 : w3.cell? ⟨w.heap.size + 1, 0, none⟩ = some (.int .i64 0) := by rw [k3.cell]; rfl
  have q1 : w3.cell? ⟨w.heap.size + 1, 1, none⟩ = some (.slice none 0 0) := by rw [k3.cell]; rfl
  have q2 : w3.cell? ⟨w.heap.size + 1, 2, none⟩ = some (.slice none 0 0) := by rw [k3.cell]; rfl
  have f0 : w3.frozen? ⟨w.heap.size + 1, 0, none⟩ = false := k3.free 0
  have f1 : w3.frozen? ⟨w.heap.size + 1, 1, none⟩ = false := k3.free 1
  have f2 : w3.frozen? ⟨w.heap.size + 1, 2, none⟩ = false := k3.free 2
  have HQ := Lib.hid hq
  have HK := Lib.hid k3
  clear k1 k3 hs3 hq hb3
  go_wp2
  refine bodyPost_ret (v := .tuple #[.agg #[.int .i64 cap, .slice A3 ps'.length c3, .slice A4 ts'.length c4], .int .i64 n, .int .i64 er]) (by simp [results, Try.results43, go_sem, q0, q1, q2]) rfl ⟨_, rfl, ?_, ?_⟩
  · exact (((HQ.out.boxed HK.out 0 _).boxed (HK.out.set_ 0 _) 1 _).boxed ((HK.out.set_ 0 _).set_ 1 _) 2 _).mono (by omega)
  · exact ((hY3.setCell (by simp) _).setCell (by simp) _).setCell (by simp) _
end Go.Proofs.Ytoogobenjhmjjaa
