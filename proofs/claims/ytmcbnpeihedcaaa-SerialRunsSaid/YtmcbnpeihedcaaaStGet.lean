/- get: a value that is read. -/
import Derived.Test.YtmcbnpeihedcaaaStWrite
namespace Go.Proofs.Ytmcbnpeihedcaaa
set_option linter.unusedSimpArgs false
open Go Go.RowKit
set_option linter.unusedVariables false
set_option maxRecDepth 100000

set_option maxHeartbeats 1000000 in
theorem get1_any (x : Pr) (B : Nat) (at_ : Int) (w : World) (hB : B < w.heap.size) (hc : w.cell? ⟨B, 0, none⟩ = some (.int .i64 at_)) :
    Calls Try.prog 69 #[.agg (encPr x).toArray, .pointer (some ⟨B, 0, none⟩)] w fun e w' => e = .returned (.bool (x.at_ == at_)) ∧ Below w.heap.size w w' := by
  have hb0 : Below w.heap.size w (w.alloc (.cells (encPr x).toArray 34)) := (Below.refl _ w).alloc (Nat.le_refl _) _
  simp only [encPr] at hb0 ⊢
  cases h : (x.at_ == at_) with
  | true =>
    go_enter Try.func69, Try.ntmps69
    go_wp2
    go_ret
    exact ⟨rfl, hb0⟩
  | false =>
    go_enter Try.func69, Try.ntmps69
    go_wp2
    go_ret
    exact ⟨rfl, hb0⟩

section
variable {w0 w w' : World} {r : Nat} {φ : Nat → Nat} {a : Ad} {m : Mm} {pw pm : Int} {pv : Value}

/-- What get leaves. -/
def GetPost (w0 : World) (r : Nat) (φ : Nat → Nat) (a : Ad) (m : Mm) (k : Nat) (t : Tx) (q : Option (Int × List Pr)) (pw pm : Int) (pv : Value) (e : Ending) (w' : World) : Prop :=
  match q with
  | some (v, R) => e = .returned (.tuple #[.int .i64 v, .bool true]) ∧ ∃ φ' A c, RunW w0 w' r φ' a { m with T := m.T.set k { t with rA := A, rc := c, R := R } } pw pm pv (k : Int)
  | none => e = .returned (.tuple #[.int .i64 0, .bool false]) ∧ RunW w0 w' r φ a m pw pm pv (k : Int)

theorem idx_hit {l : List Pr} {at_ : Int} {p : Pr} {i : Nat} (hi : l.findIdx (fun p => p.at_ == at_) = i) (hp : l[i]? = some p) : idxF (fun p : Pr => p.at_ == at_) l = (i : Int) := by
  unfold idxF
  rw [hi, if_pos (List.getElem?_eq_some_iff.1 hp).1]
theorem idx_miss {l : List Pr} {at_ : Int} (hp : l[l.findIdx (fun p => p.at_ == at_)]? = none) : idxF (fun p : Pr => p.at_ == at_) l = -1 := by
  unfold idxF
  rw [List.getElem?_eq_none_iff] at hp
  rw [if_neg (by omega)]

set_option maxHeartbeats 4000000 in
theorem get_own {k : Nat} {t : Tx} (h : RunW w0 w r φ a m pw pm pv (k : Int)) (hk : m.T[k]? = some t) (at_ : Int) (i : Nat) (p : Pr) (hi : t.W.findIdx (fun p => p.at_ == at_) = i) (hp : t.W[i]? = some p) :
    Calls Try.prog 56 #[.pointer (some ⟨r, 0, none⟩), .int .i64 at_] w (GetPost w0 r φ a m k t (some (p.v, t.R)) pw pm pv) := by
  have eg : ∀ args w, (callFunc 69 args).run Try.prog w = .ok (.enter 69 args) w := enters_of Try.func69 (by kernel_rfl) rfl
  have hA0 : Below w.heap.size w (w.alloc (.cells #[.int .i64 at_] 3)) := (Below.refl _ _).alloc (Nat.le_refl _) _
  have hbx : Blk (w.alloc (.cells #[.int .i64 at_] 3)) w.heap.size 3 #[.int .i64 at_] := Blk.new _ _ _
  have HME := Lib.hid (me_any (h.keep hA0) hk)
  have HH := Lib.hid (h.keep hA0)
  have hix := idx_hit hi hp
  have hil : i < t.W.length := (List.getElem?_eq_some_iff.1 hp).1
  have HIX := Lib.hid (fun W (hb : Below (w.alloc (.cells #[.int .i64 at_] 3)).heap.size (w.alloc (.cells #[.int .i64 at_] 3)) W) => hix ▸ index_pair (fun x => x.at_ == at_) 69 #[.pointer (some ⟨w.heap.size, 0, none⟩)] eg (.slice t.wA t.W.length t.wc) t.W W
    (fun W2 x hb2 => get1_any x w.heap.size at_ W2 (Nat.lt_of_lt_of_le hbx.lt (Nat.le_trans hb.size hb2.size)) (by rw [((hbx.keep hb).keep hb2).cell]; rfl)) (Sl.of_own (((h.keep hA0).keep hb).ts k t hk).W))
  obtain ⟨b, hbA, _, _, _, _, _⟩ := (h.ts k t hk).W.pairs (by omega)
  have HPC := Lib.hid (fun W (hb : Below (w.alloc (.cells #[.int .i64 at_] 3)).heap.size (w.alloc (.cells #[.int .i64 at_] 3)) W) => (show W.cell? ⟨b, i * 2 + 1, none⟩ = some (.int .i64 p.v) from by
    obtain ⟨b', hbA', _, _, _, _, hpp⟩ := (((h.keep hA0).keep hb).ts k t hk).W.pairs (by omega)
    rw [hbA] at hbA'
    injection hbA' with e
    injection e with e
    subst e
    exact (hpp i p hp).2))
  obtain ⟨n, hn⟩ : ∃ n, n = t.W.length := ⟨_, rfl⟩
  have HC8 := Lib.hid (fun W (hb : Below (w.alloc (.cells #[.int .i64 at_] 3)).heap.size (w.alloc (.cells #[.int .i64 at_] 3)) W) => (show W.cell? ⟨a.gT, k * 11 + 8, none⟩ = some (.slice (some ⟨b, 0, none⟩) n t.wc) from by rw [← hbA, hn]; exact ((h.keep hA0).keep hb).tcells hk (j := 8) rfl))
  rw [hbA, ← hn] at HIX
  have hiz : (i : Int) < (n : Int) := by omega
  have hi0 : (0 : Int) ≤ (i : Int) := by omega
  have HK := Lib.hid hk
  clear h hk hbx hA0 hn hbA hix hi hp hil eg
  go_enter Try.func56, Try.ntmps56
  go_wp2_with fail
  refine HME.out.mono ?_
  rintro e w1 ⟨rfl, hb1⟩
  have HB1 := Lib.hid hb1
  have c8 := HC8.out _ hb1
  clear hb1 HME
  go_wp2_with fail
  refine (HIX.out _ HB1.out).mono ?_
  rintro e w2 ⟨rfl, hb2⟩
  have HB2 := Lib.hid (HB1.out.trans (hb2.mono HB1.out.size))
  clear hb2 c8
  have c8 := HC8.out _ HB2.out
  have c1 := HPC.out _ HB2.out
  go_wp2
  go_ret2
  exact ⟨rfl, φ, t.rA, t.rc, (HH.out.keep HB2.out).tc0 HK.out⟩

set_option maxHeartbeats 4000000 in
theorem get_no {k : Nat} {t : Tx} (h : RunW w0 w r φ a m pw pm pv (k : Int)) (hk : m.T[k]? = some t) (at_ : Int) (hp : t.W[t.W.findIdx (fun p => p.at_ == at_)]? = none) (hs : seesL m.now m.mx m.L at_ t.rv (k : Int) = false) :
    Calls Try.prog 56 #[.pointer (some ⟨r, 0, none⟩), .int .i64 at_] w (GetPost w0 r φ a m k t none pw pm pv) := by
  have eg : ∀ args w, (callFunc 69 args).run Try.prog w = .ok (.enter 69 args) w := enters_of Try.func69 (by kernel_rfl) rfl
  have hA0 : Below w.heap.size w (w.alloc (.cells #[.int .i64 at_] 3)) := (Below.refl _ _).alloc (Nat.le_refl _) _
  have hbx : Blk (w.alloc (.cells #[.int .i64 at_] 3)) w.heap.size 3 #[.int .i64 at_] := Blk.new _ _ _
  have HME := Lib.hid (me_any (h.keep hA0) hk)
  have HH := Lib.hid (h.keep hA0)
  have hix := idx_miss hp
  have HIX := Lib.hid (fun W (hb : Below (w.alloc (.cells #[.int .i64 at_] 3)).heap.size (w.alloc (.cells #[.int .i64 at_] 3)) W) => hix ▸ index_pair (fun x => x.at_ == at_) 69 #[.pointer (some ⟨w.heap.size, 0, none⟩)] eg (.slice t.wA t.W.length t.wc) t.W W
    (fun W2 x hb2 => get1_any x w.heap.size at_ W2 (Nat.lt_of_lt_of_le hbx.lt (Nat.le_trans hb.size hb2.size)) (by rw [((hbx.keep hb).keep hb2).cell]; rfl)) (Sl.of_own (((h.keep hA0).keep hb).ts k t hk).W))
  have HSE := Lib.hid (fun W (hb : Below (w.alloc (.cells #[.int .i64 at_] 3)).heap.size (w.alloc (.cells #[.int .i64 at_] 3)) W) => hs ▸ Sees_any _ m.now m.mx at_ t.rv (k : Int) m.L W ((h.keep hA0).keep hb).locks)
  obtain ⟨n, hn⟩ : ∃ n, n = t.W.length := ⟨_, rfl⟩
  have HC8 := Lib.hid (fun W (hb : Below (w.alloc (.cells #[.int .i64 at_] 3)).heap.size (w.alloc (.cells #[.int .i64 at_] 3)) W) => (show W.cell? ⟨a.gT, k * 11 + 8, none⟩ = some (.slice t.wA n t.wc) from by rw [hn]; exact ((h.keep hA0).keep hb).tcells hk (j := 8) rfl))
  have HC := Lib.hid (fun W (hb : Below (w.alloc (.cells #[.int .i64 at_] 3)).heap.size (w.alloc (.cells #[.int .i64 at_] 3)) W) => (show W.cell? ⟨r, 1, none⟩ = some (.int .i64 m.now) ∧ W.cell? ⟨r, 2, none⟩ = some (.int .i64 m.mx) ∧ W.cell? ⟨r, 3, none⟩ = some (.slice a.lA m.L.length a.lc) ∧ W.cell? ⟨r, 10, none⟩ = some (.int .i64 (k : Int)) ∧ W.cell? ⟨a.gT, k * 11 + 4, none⟩ = some (.int .i64 t.rv) ∧ W.cell? ⟨w.heap.size, 0, none⟩ = some (.int .i64 at_) from
    ⟨((h.keep hA0).keep hb).rcells 1, ((h.keep hA0).keep hb).rcells 2, ((h.keep hA0).keep hb).rcells 3, ((h.keep hA0).keep hb).rcells 10, ((h.keep hA0).keep hb).tcells hk (j := 4) rfl, by rw [(hbx.keep hb).cell]; rfl⟩))
  rw [← hn] at HIX
  clear h hk hbx hA0 hn hix hp hs eg
  go_enter Try.func56, Try.ntmps56
  go_wp2_with fail
  refine HME.out.mono ?_
  rintro e w1 ⟨rfl, hb1⟩
  have HB1 := Lib.hid hb1
  have c8 := HC8.out _ hb1
  clear hb1 HME
  go_wp2_with fail
  refine (HIX.out _ HB1.out).mono ?_
  rintro e w2 ⟨rfl, hb2⟩
  have HB2 := Lib.hid (HB1.out.trans (hb2.mono HB1.out.size))
  clear hb2 c8
  go_wp2_with fail
  refine wp_region_held_drew (S := fun W => W.cell? ⟨r, 1, none⟩ = some (.int .i64 m.now) ∧ W.cell? ⟨r, 2, none⟩ = some (.int .i64 m.mx) ∧ W.cell? ⟨r, 3, none⟩ = some (.slice a.lA m.L.length a.lc) ∧ W.cell? ⟨r, 10, none⟩ = some (.int .i64 (k : Int)) ∧ W.cell? ⟨a.gT, k * 11 + 4, none⟩ = some (.int .i64 t.rv) ∧ W.cell? ⟨w.heap.size, 0, none⟩ = some (.int .i64 at_)) (by kernel_rfl) ?_ (fun hHeldbr => ?_)
  · exact HC.out _ (HB2.out.trans ((Below.refl _ _).drew.mono HB2.out.size))
  refine tkW 0 { dst := some 27, op := Op.move (Operand.tmp 0), type := 68, pos := "stm.go:106", after := _, guard := none } (v := ?vbr0) rfl (Or.inl ⟨by rfl, ?hybr0⟩) ?restbr0
  case hybr0 => (intro w hSw; (try dsimp only at hSw); go_simp <;> with_reducible rfl)
  try simp only [putW, setZ, setS]
  refine tkW 1 { dst := some 28, op := Op.nilCheck (Operand.tmp 27), type := 0, pos := "stm.go:106", after := _, guard := none } (v := ?vbr1) rfl (Or.inl ⟨by rfl, ?hybr1⟩) ?restbr1
  case hybr1 => (intro w hSw; (try dsimp only at hSw); go_simp <;> with_reducible rfl)
  try simp only [putW, setZ, setS]
  refine tkW 2 { dst := some 29, op := Op.fieldAddr 70 (Operand.tmp 28) 0, type := 0, pos := "stm.go:106", after := _, guard := none } (v := ?vbr2) rfl (Or.inl ⟨by rfl, ?hybr2⟩) ?restbr2
  case hybr2 => (intro w hSw; (try dsimp only at hSw); go_simp <;> with_reducible rfl)
  try simp only [putW, setZ, setS]
  refine tkW 3 { dst := some 30, op := Op.fieldAddr 46 (Operand.tmp 29) 1, type := 0, pos := "stm.go:106", after := _, guard := none } (v := ?vbr3) rfl (Or.inl ⟨by rfl, ?hybr3⟩) ?restbr3
  case hybr3 => (intro w hSw; (try dsimp only at hSw); go_simp <;> with_reducible rfl)
  try simp only [putW, setZ, setS]
  refine tkW 4 { dst := some 31, op := Op.load 43 (Operand.tmp 30), type := 43, pos := "stm.go:106", after := _, guard := none } (v := ?vbr4) rfl (Or.inl ⟨by rfl, ?hybr4⟩) ?restbr4
  case hybr4 => (intro w hSw; (try dsimp only at hSw); go_simp <;> with_reducible rfl)
  try simp only [putW, setZ, setS]
  refine tkW 5 { dst := some 32, op := Op.load 3 (Operand.tmp 3), type := 3, pos := "stm.go:106", after := _, guard := none } (v := ?vbr5) rfl (Or.inl ⟨by rfl, ?hybr5⟩) ?restbr5
  case hybr5 => (intro w hSw; (try dsimp only at hSw); go_simp <;> with_reducible rfl)
  try simp only [putW, setZ, setS]
  refine tkW 6 { dst := some 33, op := Op.move (Operand.tmp 6), type := 84, pos := "stm.go:106", after := _, guard := none } (v := ?vbr6) rfl (Or.inl ⟨by rfl, ?hybr6⟩) ?restbr6
  case hybr6 => (intro w hSw; (try dsimp only at hSw); go_simp <;> with_reducible rfl)
  try simp only [putW, setZ, setS]
  refine tkW 7 { dst := some 34, op := Op.nilCheck (Operand.tmp 33), type := 0, pos := "stm.go:106", after := _, guard := none } (v := ?vbr7) rfl (Or.inl ⟨by rfl, ?hybr7⟩) ?restbr7
  case hybr7 => (intro w hSw; (try dsimp only at hSw); go_simp <;> with_reducible rfl)
  try simp only [putW, setZ, setS]
  refine tkW 8 { dst := some 35, op := Op.fieldAddr 52 (Operand.tmp 34) 4, type := 0, pos := "stm.go:106", after := _, guard := none } (v := ?vbr8) rfl (Or.inl ⟨by rfl, ?hybr8⟩) ?restbr8
  case hybr8 => (intro w hSw; (try dsimp only at hSw); go_simp <;> with_reducible rfl)
  try simp only [putW, setZ, setS]
  refine tkW 9 { dst := some 36, op := Op.load 3 (Operand.tmp 35), type := 3, pos := "stm.go:106", after := _, guard := none } (v := ?vbr9) rfl (Or.inl ⟨by rfl, ?hybr9⟩) ?restbr9
  case hybr9 => (intro w hSw; (try dsimp only at hSw); go_simp <;> with_reducible rfl)
  try simp only [putW, setZ, setS]
  refine tkW 10 { dst := some 37, op := Op.move (Operand.tmp 0), type := 68, pos := "stm.go:106", after := _, guard := none } (v := ?vbr10) rfl (Or.inl ⟨by rfl, ?hybr10⟩) ?restbr10
  case hybr10 => (intro w hSw; (try dsimp only at hSw); go_simp <;> with_reducible rfl)
  try simp only [putW, setZ, setS]
  refine tkW 11 { dst := some 38, op := Op.nilCheck (Operand.tmp 37), type := 0, pos := "stm.go:106", after := _, guard := none } (v := ?vbr11) rfl (Or.inl ⟨by rfl, ?hybr11⟩) ?restbr11
  case hybr11 => (intro w hSw; (try dsimp only at hSw); go_simp <;> with_reducible rfl)
  try simp only [putW, setZ, setS]
  refine tkW 12 { dst := some 39, op := Op.fieldAddr 70 (Operand.tmp 38) 2, type := 0, pos := "stm.go:106", after := _, guard := none } (v := ?vbr12) rfl (Or.inl ⟨by rfl, ?hybr12⟩) ?restbr12
  case hybr12 => (intro w hSw; (try dsimp only at hSw); go_simp <;> with_reducible rfl)
  try simp only [putW, setZ, setS]
  refine tkW 13 { dst := some 40, op := Op.load 3 (Operand.tmp 39), type := 3, pos := "stm.go:106", after := _, guard := none } (v := ?vbr13) rfl (Or.inl ⟨by rfl, ?hybr13⟩) ?restbr13
  case hybr13 => (intro w hSw; (try dsimp only at hSw); go_simp <;> with_reducible rfl)
  try simp only [putW, setZ, setS]
  refine wpAnyH_ready (rs := [14]) (by kernel_rfl) (by simp) ?_
  refine AllReadyH.cons (o := { dst := some 41, op := Op.call { callee := Callee.value (Operand.func 61), args := #[Operand.tmp 31, Operand.tmp 32, Operand.tmp 36, Operand.tmp 40], argTypes := #[43, 3, 3, 3] }, type := 4, pos := "stm.go:106", after := _, guard := none }) rfl (fun K hK => ?_) AllReadyH.nil
  go_simp
  refine (HSE.out _ (HB2.out.trans ((Below.refl _ _).drew.mono HB2.out.size))).mono ?_
  rintro e w3 ⟨rfl, hb3⟩
  have HB3 := Lib.hid ((HB2.out.trans ((Below.refl w2.heap.size w2).drew.mono HB2.out.size)).trans (hb3.mono HB2.out.size))
  clear hb3
  try go_wp2_with fail
  refine hK.out _ _ ?_ (fun hHeldbr14 => ?_)
  · exact HC.out _ HB3.out
  clear hK K hHeldbr
  try simp only [Act.put, List.setIfInBounds_toArray, List.set_cons_zero, List.set_cons_succ]
  refine tkW 15 { dst := some 42, op := Op.unOp UnOp.not 4 (Operand.tmp 41), type := 4, pos := "stm.go:106", after := _, guard := none } (v := ?vbr15) rfl (Or.inl ⟨by rfl, ?hybr15⟩) ?restbr15
  case hybr15 => (intro w hSw; (try dsimp only at hSw); go_simp <;> with_reducible rfl)
  try simp only [putW, setZ, setS]
  refine wpAnyH_done (by kernel_rfl) ?_ _
  go_wp2
  go_ret2
  exact ⟨rfl, HH.out.keep HB3.out⟩
end
end Go.Proofs.Ytmcbnpeihedcaaa
