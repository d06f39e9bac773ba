/- slices.Values at []api.Rec, as something to range over. -/
import Derived.Test.YtmcbnpeihedcaaaSrWriters
import Derived.Test.YtmcbnpeihedcaaaRfKit
namespace Go.Proofs.Ytmcbnpeihedcaaa
open Go Go.RowKit Go.Shelf
set_option linter.unusedVariables false
attribute [local go_sem] Oper.semAt_some

theorem abides_alloc {β : Type} {B : Nat} {J : β → World → Prop} (h : AbidesFrom B J) {s : β} {W : World} (hs : J s W) (o : Obj) : J s (W.alloc o) :=
  h s W _ none hs (World.grownBy_alloc W o none) (fun r e => by cases e)

/-- Blocks from lo on below hi are as they were. -/
def KpM (lo hi : Nat) (W W' : World) : Prop := W.heap.size ≤ W'.heap.size ∧ ∀ k, lo ≤ k → k < hi → W'.heap[k]? = W.heap[k]?
theorem KpM.refl (lo hi : Nat) (W : World) : KpM lo hi W W := ⟨Nat.le_refl _, fun _ _ _ => rfl⟩
theorem KpM.trans {lo hi : Nat} {A B C : World} (h : KpM lo hi A B) (h2 : KpM lo hi B C) : KpM lo hi A C := ⟨Nat.le_trans h.1 h2.1, fun k a b => (h2.2 k a b).trans (h.2 k a b)⟩
theorem KpM.below {lo hi B : Nat} {A C : World} (h : Below B A C) (hb : hi ≤ B) : KpM lo hi A C := ⟨h.size, fun k _ b => h.block k (by omega)⟩
theorem KpM.alloc {lo hi : Nat} {A : World} (h : hi ≤ A.heap.size) (o : Obj) : KpM lo hi A (A.alloc o) := KpM.below ((Below.refl A.heap.size A).alloc (Nat.le_refl _) o) h
theorem KpM.setCell {lo hi : Nat} {A : World} {p : Addr} (h : p.block < lo ∨ hi ≤ p.block) (u : Value) : KpM lo hi A (A.setCell p u) :=
  ⟨by simp, fun k a b => Below.heap_setCell A p u k (by omega)⟩
theorem KpM.putObj {lo hi B : Nat} {A : World} {l : Nat} {o : Obj} (hl : A.heap[l]? = some o) (hB : hi ≤ B) (h : B ≤ l) (o' : Obj) : KpM lo hi A (A.putObj l o') :=
  ⟨(grownBy_putObj' A l o').size, fun k a b => World.putObj_heap_other (by omega)⟩
theorem KpM.cell {lo hi : Nat} {A C : World} (h : KpM lo hi A C) {p : Addr} (h1 : lo ≤ p.block) (h2 : p.block < hi) : C.cell? p = A.cell? p := World.cell?_of_block (h.2 _ h1 h2)

set_option maxRecDepth 100000 in
set_option maxHeartbeats 2000000 in
theorem values1_in {α : Type} (f : α → Rx) (F : Fence) (n : Nat) (hF : F.fn 50) (hro : F.round = none) (hn : 1 ≤ n) (l Bs lo hi b off cap B0 : Nat) (xs : List α) (hlen : xs.length ≤ 100000) (hb : lo ≤ b) (hb2 : b < hi) (J Jx : List α → World → Prop) (hJ : AbidesFrom B0 J)
    (hY : ∀ pre x W, J pre W → pre.length < xs.length → YieldAt F (n - 1) Try.prog l #[.agg (encRx (f x)).toArray] W fun e W' =>
      (e = .returned (.bool true) ∧ J (pre ++ [x]) W' ∧ KpM lo hi W W') ∨ (e = .returned (.bool false) ∧ Jx (pre ++ [x]) W'))
    (W : World) (hn₀ : hi ≤ W.heap.size) (hBs : W.cell? ⟨Bs, 0, none⟩ = some (.slice (some ⟨b, off, none⟩) xs.length cap)) (hc : ∀ j (hj : j < xs.length) i u, (encRx (f xs[j]))[i]? = some u → W.cell? ⟨b, off + j * 10 + i, none⟩ = some u) (h0 : J [] W) :
    CallsIn F n Try.prog 50 #[.func (.yield l) #[] #[], .pointer (some ⟨Bs, 0, none⟩)] W fun e W' => (∃ v, e = .returned v) ∧
      ((∃ ys, ys = xs ∧ J ys W') ∨ (∃ pre, (∃ k, k < xs.length ∧ pre = xs.take (k + 1)) ∧ Jx pre W')) := by
  obtain ⟨len, hlen'⟩ : ∃ len, xs.length = len := ⟨_, rfl⟩
  have HLEN := Lib.hid hlen'
  have HC := Lib.hid hc
  rw [hlen'] at hBs hY hlen
  clear hlen' hc
  refine callsIn_of_wp Try.func50 rfl hF ?_ hro
  simp only [Try.ntmps50, List.size_toArray, List.length_cons, List.length_nil, Nat.reduceAdd, Nat.reduceSub, Array.replicate_succ, Array.replicate_zero, List.push_toArray, List.append_toArray, List.nil_append, List.cons_append]
  gi_wp2
  gi_loopw [7] (fun i wr => ∃ k : Nat, k ≤ len ∧ i = .int .i64 k ∧ J (xs.take k) wr ∧ KpM lo hi W wr)
    (fun i _ => len - (intOf i).toNat)
  case atStart => exact ⟨0, Nat.zero_le _, rfl, h0, KpM.refl _ _ _⟩
  case round =>
    obtain ⟨k, hk, rfl, hJs, hnx⟩ := hrel
    by_cases hlt : k < len
    · have hkx : k < xs.length := by rw [HLEN.out]; exact hlt
      have hel := fun i u hu => (hnx.cell (p := ⟨b, off + k * 10 + i, none⟩) hb hb2).trans (HC.out k hkx i u hu)
      obtain ⟨x, hx⟩ : ∃ x, x = xs[k] := ⟨_, rfl⟩
      rw [← hx] at hel
      have HT := Lib.hid (show xs.take (k + 1) = xs.take k ++ [x] from by rw [List.take_succ_eq_append_getElem hkx, hx])
      have c0 := hel 0 _ rfl
      have c1 := hel 1 _ rfl
      have c2 := hel 2 _ rfl
      have c3 := hel 3 _ rfl
      have c4 := hel 4 _ rfl
      have c5 := hel 5 _ rfl
      have c6 := hel 6 _ rfl
      have c7 := hel 7 _ rfl
      have c8 := hel 8 _ rfl
      have c9 := hel 9 _ rfl
      simp only [Nat.add_zero] at c0
      have hz : hi ≤ wr.heap.size := by have := hnx.1; omega
      obtain ⟨fn, tmps, assign, body, hy, hR⟩ := hY _ x (wr.alloc (.cells (encRx (f x)).toArray 27)) (abides_alloc hJ hJs _) (by rw [List.length_take, HLEN.out]; omega)
      simp only [encRx] at hy hR
      have HB := Lib.hid (hnx.trans (KpM.alloc hz (.cells (encRx (f x)).toArray 27)))
      clear hY hx hel
      gi_wp2
      refine hR.mono ?_
      rintro e W3 (⟨rfl, hJ3, hk3⟩ | ⟨rfl, hJx3⟩)
      · gi_wp2
        go_roundw
        case rel => exact ⟨k + 1, by omega, by simp, by rw [HT.out]; exact hJ3, HB.out.trans hk3⟩
        case measure => simp [intOf]; omega
      · gi_wp2
        refine bodyPost_ret (results_none rfl _ _ _) rfl ?_
        exact ⟨⟨_, rfl⟩, .inr ⟨_, ⟨k, hkx, HT.out.symm⟩, hJx3⟩⟩
    · obtain rfl : k = len := by omega
      gi_wp2
      go_end0
      exact ⟨⟨_, rfl⟩, .inl ⟨_, List.take_of_length_le (by rw [HLEN.out]; exact Nat.le_refl _), hJs⟩⟩

set_option maxRecDepth 100000 in
set_option maxHeartbeats 1000000 in
theorem values1_nil_in {α : Type} (F : Fence) (n : Nat) (hF : F.fn 50) (hro : F.round = none) (l Bs : Nat) (A : Option Addr) (c : Nat) (J : List α → World → Prop) (W : World) (hBs : W.cell? ⟨Bs, 0, none⟩ = some (.slice A 0 c)) (h0 : J [] W) :
    CallsIn F n Try.prog 50 #[.func (.yield l) #[] #[], .pointer (some ⟨Bs, 0, none⟩)] W fun e W' => (∃ v, e = .returned v) ∧ J [] W' := by
  refine callsIn_of_wp Try.func50 rfl hF ?_ hro
  simp only [Try.ntmps50, List.size_toArray, List.length_cons, List.length_nil, Nat.reduceAdd, Nat.reduceSub, Array.replicate_succ, Array.replicate_zero, List.push_toArray, List.append_toArray, List.nil_append, List.cons_append]
  gi_wp2
  gi_loopw [7] (fun i wr => i = .int .i64 0 ∧ J [] wr) (fun _ _ => 0)
  case atStart => exact ⟨rfl, h0⟩
  case round =>
    obtain ⟨rfl, hJs⟩ := hrel
    gi_wp2
    go_end0
    exact ⟨⟨_, rfl⟩, hJs⟩

/-- Tries in a row of one's own, from lo on below hi, behind a box: to range over. -/
theorem values_stops {α : Type} (f : α → Rx) (F : Fence) (n : Nat) (hF : F.fn 50) (hro : F.round = none) (hn : 1 ≤ n) (Bs lo hi : Nat) (sv : Value) (xs : List α) (hlen : xs.length ≤ 100000) (w : World) (hw : w.heap.size = hi)
    (hc : Blk w Bs 22 #[sv]) (hv : w.ownsRow lo 27 10 sv xs.length ((xs.map f).flatMap encRx)) :
    SeqStopsK F n Try.prog 50 #[.pointer (some ⟨Bs, 0, none⟩)] (fun x : α => #[.agg (encRx (f x)).toArray]) (KpM lo hi) (fun ys => ys = xs) (fun pre => ∃ k, k < xs.length ∧ pre = xs.take (k + 1)) xs.length w := by
  intro l J Jx W hW hJ _ hY h0
  have hc' := ((hW.cell (p := ⟨Bs, 0, none⟩) hc.lt).trans (hc.cell 0) : W.cell? ⟨Bs, 0, none⟩ = some sv)
  rcases Nat.eq_zero_or_pos xs.length with h | h
  · obtain rfl : xs = [] := List.eq_nil_of_length_eq_zero h
    obtain ⟨A, c, rfl, _, _⟩ := (Sl.of_own hv).form
    refine (values1_nil_in F n hF hro l Bs A c J W hc' h0).mono ?_
    rintro e W' ⟨h1, h2⟩
    exact ⟨h1, .inl ⟨_, rfl, h2⟩⟩
  · obtain ⟨g, c, cur, rfl, hg, hrow, _⟩ := own_form hv h
    refine values1_in f F n hF hro hn l Bs lo hi g 0 c W.heap.size xs hlen hg (by have := hrow.lt; omega) J Jx hJ hY W (by have := hW.size; omega) hc' (fun j hj i u hu => ?_) h0
    have hj2 : j < (xs.map f).length := by rw [List.length_map]; exact hj
    have hu2 : (encRx (xs.map f)[j])[i]? = some u := by rw [List.getElem_map]; exact hu
    have := hv.cells (g := g) rfl _ _ (flat_get encRx encRx_len (xs.map f) j hj2 i u hu2)
    rw [add_none, Nat.zero_add] at this
    rw [Nat.zero_add]
    exact (hW.cell (p := ⟨g, j * 10 + i, none⟩) hrow.lt).trans this
end Go.Proofs.Ytmcbnpeihedcaaa
