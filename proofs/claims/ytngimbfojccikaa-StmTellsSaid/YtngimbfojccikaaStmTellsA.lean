/- Several texts in one: LawKit, StRec, LkFunc, LkMay. -/
import Derived.Test.YtngimbfojccikaaRows
import Derived.Test.YtngimbfojccikaaWords
import Derived.ProofKit
import Derived.OpenShut
import Derived.Carry
import Derived.Test.YtngimbfojccikaaProg
import Derived.ChangeKeysEq
namespace Go.Proofs.Ytngimbfojccikaa
set_option linter.unusedSimpArgs false
open Go Go.ChangeShapes Go.WideShapes Go.ChangeAt Go.RowKit

theorem own : ownKnob Try.prog.godebug = none := by kernel_rfl
theorem laidOut : laidOutB Try.prog = true := by kernel_rfl

/-- Arguments of types that can be read, in a world in which nothing of old has turned. -/
theorem trodAll_below {H : Type} {enc : TypeId × Value → H} {P : Program} (hl : laidOutB P = true) {W W' : World} (hb : Below W.heap.size W W') :
    ∀ (ts : List TypeId) (vs : List Value) (ds : List (DataW H)) (ps : List MemPlace), (∀ t ∈ ts, P.readableRec t = true ∧ t < P.types.size) → (∀ x ∈ ps, x.block < W.heap.size) →
      DataW.TrodAll enc P W 0 (fun _ => true) true ts vs ds ps → DataW.TrodAll enc P W' 0 (fun b => decide (b < W.heap.size)) true ts vs ds ps
  | [], _, _, _, _, _, h => by
    obtain ⟨rfl, rfl, rfl⟩ := trodAll_nil h
    exact trodAll_mk0
  | t :: ts, _, _, _, ht, hp, h => by
    obtain ⟨v, vs, d, ds, p, q, rfl, rfl, rfl, h1, h2⟩ := trodAll_cons h
    refine trodAll_cons_mk ?_ ?_
    · exact Below.trod hl (ht t (by simp)).1 (ht t (by simp)).2 h1 hb fun x hx => hp x (by simp [hx])
    · exact trodAll_below hl hb ts vs ds q (fun t h => ht t (by simp [h])) (fun x hx => hp x (by simp [hx])) h2

/-- A law's post, behind a call that hands back true and has turned nothing of old. -/
theorem post_law {H : Type} {enc : TypeId × Value → H} {P : Program} {f : Func} {s : ChangeSpec} {W W' : World} {args : Array Value} {ds gs : List (DataW H)} {before : List MemPlace} {T : TypeId}
    (hl : laidOutB P = true) (hT : P.underlying T = some .bool) (hres : f.resultTypes = #[T]) (hts : ∀ t ∈ f.params.toList, P.readableRec t = true ∧ t < P.types.size) (hvars : s.vars = [])
    (hW : DataW.Whole enc P f.params.toList s.vars false W args.toList ds gs before) (hfn : s.fn H (ds ++ gs) = { results := [.lit (.bool true)], args := ds }) (hb : Below W.heap.size W W') :
    s.post enc P f false true false false W args (.bool true) W' := by
  have hlt := fun x hx => hW.lt x hx
  obtain ⟨p, q, hA, hV, he, hz, hn⟩ := id hW
  have hq : gs = [] ∧ q = [] := by
    rw [hvars] at hV
    cases gs with
    | nil => exact ⟨rfl, hV⟩
    | cons g gs => exact hV.elim
  obtain ⟨rfl, rfl⟩ := hq
  simp only [List.append_nil] at he hfn
  subst he
  refine ⟨ds, [], before, [], before, [], hW, ?_, ?_, ?_, ?_, fun h => by cases h⟩
  · rw [List.append_nil, hfn, hres]
    exact trodAll_cons_mk (shut_bool hT true) trodAll_mk0
  · rw [List.append_nil, hfn]
    exact trodAll_below hl hb _ _ _ _ hts hlt hA
  · rw [List.append_nil, hfn, hvars]
    rfl
  · exact hb.frame _

end Go.Proofs.Ytngimbfojccikaa
namespace Go.Proofs.Ytngimbfojccikaa
set_option linter.unusedSimpArgs false
open Go Go.RowKit

/-- A word's place, and a value. -/
structure Pr where
  at_ : Int
  v : Int
deriving DecidableEq

def encPr (p : Pr) : List Value := [.int .i64 p.at_, .int .i64 p.v]
theorem encPr_len : ∀ x : Pr, (encPr x).length = 2 := fun _ => rfl
theorem encPr_one (l : List Pr) : ∀ u ∈ l.flatMap encPr, u.oneCell' = true := by
  intro u hu
  rw [List.mem_flatMap] at hu
  obtain ⟨x, _, hx⟩ := hu
  simp [encPr] at hx
  rcases hx with rfl | rfl <;> rfl

/-- A try, as its ten cells say it. -/
structure Rx where
  who : Int
  tx : Int
  try_ : Int
  en : Int
  rv : Int
  wv : Int
  rA : Option Addr
  rc : Nat
  R : List Pr
  wA : Option Addr
  wc : Nat
  W : List Pr
  fr : Int
  to_ : Int

def encRx (x : Rx) : List Value := [.int .i64 x.who, .int .i64 x.tx, .int .i64 x.try_, .int .i64 x.en, .int .i64 x.rv, .int .i64 x.wv, .slice x.rA x.R.length x.rc, .slice x.wA x.W.length x.wc, .int .i64 x.fr, .int .i64 x.to_]
theorem encRx_len : ∀ x : Rx, (encRx x).length = 10 := fun _ => rfl
theorem encRx_one (l : List Rx) : ∀ u ∈ l.flatMap encRx, u.oneCell' = true := by
  intro u hu
  rw [List.mem_flatMap] at hu
  obtain ⟨x, _, hx⟩ := hu
  simp [encRx] at hx
  rcases hx with rfl | rfl | rfl | rfl | rfl | rfl | rfl | rfl | rfl | rfl <;> rfl

/-- Its two slices read as their pairs. -/
def RxOk (w : World) (x : Rx) : Prop := Sl w 2 (.slice x.rA x.R.length x.rc) x.R.length (x.R.flatMap encPr) ∧ Sl w 2 (.slice x.wA x.W.length x.wc) x.W.length (x.W.flatMap encPr)
theorem RxOk.below {w w' : World} {x : Rx} (h : RxOk w x) (hb : Below w.heap.size w w') : RxOk w' x := ⟨h.1.below hb, h.2.below hb⟩
/-- A slice of tries. -/
def RecsV (w : World) (v : Value) (h : List Rx) : Prop := Sl w 10 v h.length (h.flatMap encRx) ∧ ∀ x ∈ h, RxOk w x
theorem RecsV.below {w w' : World} {v : Value} {h : List Rx} (hv : RecsV w v h) (hb : Below w.heap.size w w') : RecsV w' v h := ⟨hv.1.below hb, fun x hx => (hv.2 x hx).below hb⟩
theorem RecsV.keep {w w' : World} {v : Value} {h : List Rx} (hv : RecsV w v h) (hb : Below w.heap.size w w') : RecsV w' v h := hv.below hb

def encI (x : Int) : List Value := [.int .i64 x]
theorem encI_len : ∀ x : Int, (encI x).length = 1 := fun _ => rfl
theorem encI_one (t : List Int) : ∀ u ∈ t.flatMap encI, u.oneCell' = true := by
  intro u hu
  rw [List.mem_flatMap] at hu
  obtain ⟨x, _, hx⟩ := hu
  simp [encI] at hx
  subst hx; rfl
theorem flat_encI (t : List Int) : t.flatMap encI = t.map (Value.int .i64) := by
  induction t with
  | nil => rfl
  | cons x t ih => rw [List.flatMap_cons, ih]; rfl
theorem encI_get (t : List Int) (j : Nat) (hj : j < t.length) : (t.flatMap encI)[j]? = some (.int .i64 t[j]) := by
  rw [flat_encI, List.getElem?_map, List.getElem?_eq_getElem hj]; rfl

/-- A thread, as its eleven cells say it. -/
structure Tx where
  st : Int
  tx : Int
  try_ : Int
  pc : Int
  rv : Int
  wv : Int
  sum : Int
  rA : Option Addr
  rc : Nat
  R : List Pr
  wA : Option Addr
  wc : Nat
  W : List Pr
  i : Int
  fr : Int

def encTx (x : Tx) : List Value := [.int .i64 x.st, .int .i64 x.tx, .int .i64 x.try_, .int .i64 x.pc, .int .i64 x.rv, .int .i64 x.wv, .int .i64 x.sum, .slice x.rA x.R.length x.rc, .slice x.wA x.W.length x.wc, .int .i64 x.i, .int .i64 x.fr]
theorem encTx_len : ∀ x : Tx, (encTx x).length = 11 := fun _ => rfl
theorem encTx_one (l : List Tx) : ∀ u ∈ l.flatMap encTx, u.oneCell' = true := by
  intro u hu
  rw [List.mem_flatMap] at hu
  obtain ⟨x, _, hx⟩ := hu
  simp [encTx] at hx
  rcases hx with rfl | rfl | rfl | rfl | rfl | rfl | rfl | rfl | rfl | rfl | rfl <;> rfl
end Go.Proofs.Ytngimbfojccikaa
namespace Go.Proofs.Ytngimbfojccikaa
set_option linter.unusedSimpArgs false
open Go Go.RowKit

/-- A lock: its version, and who has it. -/
structure Lk where
  v : Int
  o : Int

/-- Its two cells. -/
def encL (p : Lk) : List Value := [.int .i64 p.v, .int .i64 p.o]

theorem encL_len : ∀ x : Lk, (encL x).length = 2 := fun _ => rfl

theorem clone_lock_info : (Try.prog.info? 43).map (fun i => (i.zero, i.size, i.bytes)) = some (some (.agg #[.int .i64 0, .int .i64 0]), 2, 16) := by kernel_rfl

set_option maxHeartbeats 400000 in
theorem clone_lock (v : Value) (n : Nat) (vs : List Value) (w : World) (hv : Sl w 2 v n vs) (h1 : ∀ u ∈ vs, u.oneCell' = true) (hn : n * 16 ≤ 140737488355328) :
    Calls Try.prog 89 #[v] w fun e w' => ∃ v', e = .returned v' ∧ w'.ownsRow w.heap.size 43 2 v' n vs ∧ Below w.heap.size w w' := by
  obtain ⟨i0, hi0, hz0, hz1, hz2⟩ := info_parts clone_lock_info
  have e1 := @Lib.run_eql_slice_nil
  obtain ⟨hl, ⟨rfl, rfl⟩ | ⟨a, c, rfl, hc, hm, hr⟩⟩ := hv
  · go_enter Try.func89, Try.ntmps89
    go_wp2_with fail
    go_ret
    obtain rfl : vs = [] := List.eq_nil_of_length_eq_zero (by omega)
    exact ⟨_, rfl, World.ownsRow_nil _ _ _ _, Below.refl _ _⟩
  · have hnews : ∀ j u, vs[j]? = some u → (w.alloc (.cells #[] 43)).cell? (a.add j) = some u := by
      intro j u hu
      have hn0 : 0 < n := by
        rcases Nat.eq_zero_or_pos n with h | h
        · subst h; have := (List.getElem?_eq_some_iff.1 hu).1; omega
        · exact h
      obtain ⟨hs, hb, hC⟩ := hr hn0
      obtain ⟨b, o, s⟩ := a
      simp only at hs hb hC; subst hs
      rw [add_none, World.cell?_alloc_lt _ _ _ hb]
      exact hC j u hu
    go_enter Try.func89, Try.ntmps89
    go_wp2_with (at_builtin; refine wpList_append_own_at _ rfl (.tmp 5) (.tmp 6) _ rfl w.heap.size 43 i0 _ 2 16 Try.underlying28 hi0 hz0 hz1 hz2 rfl (by omega) (.slice (some ⟨w.heap.size, 0, none⟩) 0 0) 0 [] rfl (World.ownsRow_made w #[] 0 (Nat.le_refl _) (by unfold maxLen; omega) rfl) a n c vs rfl hl hnews h1 (by omega) (by omega) (by simp) ?_; intro v1 w1 hown hgrow _ _)
    go_ret
    simp only [Nat.zero_add, List.nil_append] at hown
    exact ⟨_, rfl, hown, ((Below.refl w.heap.size w).alloc (Nat.le_refl _) _).grown hgrow (by simp) (by simp [Value.ownBlock])⟩
set_option maxHeartbeats 1000000 in
theorem index_lock (p : Lk → Bool) (g : Nat) (lb : Array Value) (eg : ∀ args w, (callFunc g args).run Try.prog w = .ok (.enter g args) w) (v : Value) (zs : List (Lk)) (w : World)
    (hp : PredB Try.prog g lb (fun x : Lk => Value.agg (encL x).toArray) p w) (hv : Sl w 2 v zs.length (zs.flatMap encL)) :
    Calls Try.prog 59 #[v, .func (.func g) #[] lb] w fun e w' => e = .returned (.int .i64 (idxF p zs)) ∧ Below w.heap.size w w' := by
  have hk : ∀ x, (encL x).length = 2 := fun _ => rfl
  obtain ⟨hl, ⟨rfl, hz⟩ | ⟨a, c, rfl, hc, hm, hr⟩⟩ := hv
  · obtain rfl : zs = [] := List.eq_nil_of_length_eq_zero hz
    clear hl hz
    go_enter Try.func59, Try.ntmps59
    go_wp2
    refine wp_loop_rounds 1 ?_
    rw [rounds_succ]
    go_wp2
    go_ret
    exact ⟨rfl, Below.refl _ _⟩
  · obtain ⟨n, hn⟩ : ∃ n, zs.length = n := ⟨_, rfl⟩
    rw [hn] at hl hc hr ⊢
    have hbig : n ≤ 9223372036854775807 := by unfold maxLen at hm; omega
    have hrow : ∀ (W : World), Below w.heap.size w W → ∀ j (hj : j < zs.length), a.spot = none ∧ ∀ i u, (encL zs[j])[i]? = some u → W.cell? ⟨a.block, a.off + j * 2 + i, none⟩ = some u := fun W hW j hj => by
      obtain ⟨hs, hC⟩ := hr (by omega)
      refine ⟨hs, fun i u hi => ?_⟩
      rw [Nat.add_assoc]
      exact (hC.same hW).2 _ _ (flat_get encL hk zs j hj i u hi)
    clear hr
    have HN := Lib.hid hn
    clear hn hl hk hm hc
    go_enter Try.func59, Try.ntmps59
    go_wp2
    go_loopg [5, 8] n (fun gg _ s8 wr => ∃ kk : Nat, kk ≤ n ∧ n - kk ≤ gg ∧ s8 = .int .i64 kk ∧ Hid (Below w.heap.size w wr) ∧ Hid (∀ j (h : j < zs.length), j < kk → p zs[j] = false))
    case atStart => exact ⟨0, Nat.zero_le _, by omega, rfl, Below.refl _ w, fun j _ hj => absurd hj (Nat.not_lt_zero _)⟩
    case round =>
      obtain ⟨kk, hkk, hg, rfl, BW, AA⟩ := hrel
      by_cases hlt : kk < n
      · have hltz : (kk : Int) < (n : Int) := by omega
        have hlt' : kk < zs.length := by rw [HN.out]; exact hlt
        obtain ⟨hs, l2⟩ := hrow wr BW.out kk hlt'
        have hcall := hp wr zs[kk] BW.out
        clear hrow hp
        obtain ⟨b, o, s⟩ := a
        simp only at hs l2
        subst hs
        generalize hy : zs[kk] = y at l2 hcall
        have B : Hid (zs[kk] = y) := hy
        clear hy
        (have c0 := l2 0 _ rfl; have c1 := l2 1 _ rfl; simp only [Nat.add_zero] at c0)
        clear l2
        cases hq : p y with
        | true =>
          rw [hq] at hcall
          have HQ := Lib.hid hq
          clear hq
          go_wp2_with (go_at_fn g; refine hcall.mono ?_; rintro e w' ⟨rfl, hb'⟩)
          go_ret
          refine ⟨?_, BW.out.trans (hb'.mono BW.out.size)⟩
          rw [idxF_hit p zs kk hlt' (by rw [B.out]; exact HQ.out) (fun j hj => AA.out j (by omega) hj)]
          rfl
        | false =>
          rw [hq] at hcall
          have HQ := Lib.hid hq
          clear hq
          go_wp2_with (go_at_fn g; refine hcall.mono ?_; rintro e w' ⟨rfl, hb'⟩)
          go_roundg (n - (kk + 1))
          case measure => omega
          case rel =>
            refine ⟨kk + 1, by omega, by omega, by go_num, BW.out.trans (hb'.mono BW.out.size), (show Hid _ from fun j h hj => ?_)⟩
            by_cases e : j = kk
            · subst e
              rw [B.out]; exact HQ.out
            · exact AA.out j h (by omega)
      · have hltz : ¬ (kk : Int) < (n : Int) := by omega
        obtain rfl : n = kk := by omega
        go_wp2
        go_ret
        refine ⟨?_, BW.out⟩
        rw [idxF_miss p zs (fun j h => AA.out j h (by rw [HN.out] at h; exact h))]
        rfl
theorem idxF_any {α : Type} (p : α → Bool) (xs : List α) : decide (0 ≤ idxF p xs) = xs.any p := by
  unfold idxF
  by_cases h : xs.findIdx p < xs.length
  · rw [if_pos h, List.any_eq_true.2 (List.findIdx_lt_length.1 h)]
    simp
  · rw [if_neg h]
    have : ¬ ∃ x, x ∈ xs ∧ p x = true := fun hx => h (List.findIdx_lt_length.2 hx)
    rw [Bool.eq_false_iff.2 (fun hh => this (List.any_eq_true.1 hh))]
    rfl

set_option maxHeartbeats 400000 in
theorem contains_lock (p : Lk → Bool) (g : Nat) (lb : Array Value) (eg : ∀ args w, (callFunc g args).run Try.prog w = .ok (.enter g args) w) (v : Value) (zs : List (Lk)) (w : World)
    (hp : PredB Try.prog g lb (fun x : Lk => Value.agg (encL x).toArray) p w) (hv : Sl w 2 v zs.length (zs.flatMap encL)) :
    Calls Try.prog 41 #[v, .func (.func g) #[] lb] w fun e w' => e = .returned (.bool (zs.any p)) ∧ Below w.heap.size w w' := by
  rw [← idxF_any]
  have hcon := index_lock p g lb eg v zs w hp hv
  clear hp hv eg
  generalize idxF p zs = r at hcon ⊢
  go_enter Try.func41, Try.ntmps41
  go_wp2_with (go_at_call 59; refine hcon.mono ?_; rintro e w' ⟨rfl, hb'⟩)
  go_ret
  exact ⟨rfl, hb'⟩

/-- Are two locks the same? -/
def lkEq (p q : Lk) : Bool := p.v == q.v && p.o == q.o

theorem equalIn_lock (d : Nat) (x y : Lk) (w : World) :
    (Op.equalIn (d + 2) 43 (.agg (encL x).toArray) (.agg (encL y).toArray)).run Try.prog w = .ok (lkEq x y) w := by
  have hS : Try.prog.underlying 43 = some (.struct (Try.prog.fieldsOf 43)) := by kernel_rfl
  have hp : Try.prog.stoodInHeld 43 = false := by kernel_rfl
  have u3 := Try.underlying3
  have z3 := Try.sizeOf3
  have a3 := Try.isAgg3
  rw [show d + 2 = (d + 1) + 1 from rfl, run_equalIn_agg w (d + 1) 43 _ _ hS hp]
  simp only [Program.fieldsOf, Try.underlying43, encL, lkEq]
  clear hS hp
  go_simp
  by_cases h0 : x.v = y.v
  · by_cases h1 : x.o = y.o <;> simp [h0, h1]
  · simp [h0]

theorem eql_lock (x y : Lk) (w : World) : (binOp .eql 43 (.agg (encL x).toArray) (.agg (encL y).toArray)).run Try.prog w = .ok (.bool (lkEq x y)) w := by
  rw [run_eql_struct, show (10000 : Nat) = 9998 + 2 from rfl, equalIn_lock]; rfl

theorem neq_lock (x y : Lk) (w : World) : (binOp .neq 43 (.agg (encL x).toArray) (.agg (encL y).toArray)).run Try.prog w = .ok (.bool (!lkEq x y)) w := by
  rw [run_neq_struct, show (10000 : Nat) = 9998 + 2 from rfl, equalIn_lock]; rfl

theorem guard_lock (op : BinOp) (a b : Operand) (x y : Lk) (w : World) : (eqGuard op 43 a b (.agg (encL x).toArray) (.agg (encL y).toArray)).run Try.prog w = .ok () w :=
  run_eqGuard_agg w op 43 a b _ _ (by kernel_rfl)

theorem lkEq_refl (p : Lk) : lkEq p p = true := by simp [lkEq]
theorem lkEq_iff {p q : Lk} : lkEq p q = true ↔ p = q := by
  cases p; cases q; simp [lkEq]
end Go.Proofs.Ytngimbfojccikaa
namespace Go.Proofs.Ytngimbfojccikaa
set_option linter.unusedSimpArgs false
open Go Go.RowKit

set_option maxHeartbeats 2000000 in
theorem equal_lock (v1 v2 : Value) (xs ys : List (Lk)) (w : World) (hv : Sl w 2 v1 xs.length (xs.flatMap encL)) (hv2 : Sl w 2 v2 ys.length (ys.flatMap encL)) :
    Calls Try.prog 57 #[v1, v2] w fun e w' => e = .returned (.bool (eqL lkEq xs ys)) ∧ Below w.heap.size w w' := by
  have hk : ∀ x, (encL x).length = 2 := fun _ => rfl
  by_cases hlen : xs.length = ys.length
  · obtain ⟨A1, c1, rfl, hc1, hm1⟩ := hv.form
    obtain ⟨A2, c2, rfl, hc2, hm2⟩ := hv2.form
    rcases Nat.eq_zero_or_pos xs.length with h0 | h0
    · obtain rfl : xs = [] := List.eq_nil_of_length_eq_zero h0
      obtain rfl : ys = [] := List.eq_nil_of_length_eq_zero (by rw [← hlen]; rfl)
      clear hlen h0 hv hv2
      go_enter Try.func57, Try.ntmps57
      go_wp2
      refine wp_loop_rounds 1 ?_
      rw [rounds_succ]
      go_wp2
      go_ret
      exact ⟨rfl, Below.refl _ _⟩
    · have hA : ∃ a, A1 = some a := by
        rcases hv.2 with ⟨h, h'⟩ | ⟨a, c, h, _⟩
        · omega
        · injection h with h; exact ⟨a, h⟩
      obtain ⟨a1, rfl⟩ := hA
      have hA : ∃ a, A2 = some a := by
        rcases hv2.2 with ⟨h, h'⟩ | ⟨a, c, h, _⟩
        · omega
        · injection h with h; exact ⟨a, h⟩
      obtain ⟨a2, rfl⟩ := hA
      have hx := Sl.elem encL hk hv
      have hy := Sl.elem encL hk hv2
      clear hv hv2
      obtain ⟨n, hn⟩ : ∃ n, xs.length = n := ⟨_, rfl⟩
      have hn2 : ys.length = n := by rw [← hlen, hn]
      rw [hn, hn2]
      have hbig : n ≤ 9223372036854775807 := by unfold maxLen at hm1; omega
      have HN := Lib.hid hn
      have HN2 := Lib.hid hn2
      have HL := Lib.hid hlen
      clear hn hn2 hlen hc1 hc2 hm1 hm2 hk
      have s1 := (hx w (Below.refl _ _) 0 h0).1
      have s2 := (hy w (Below.refl _ _) 0 (by rw [← HL.out]; exact h0)).1
      obtain ⟨b1, o1, t1⟩ := a1
      obtain ⟨b2, o2, t2⟩ := a2
      simp only at s1 s2
      subst s1 s2
      go_enter Try.func57, Try.ntmps57
      go_wp2
      go_loopg [13] n (fun gg s13 wr => ∃ kk : Nat, kk ≤ n ∧ n - kk ≤ gg ∧ s13 = .int .i64 kk ∧ Hid (Below w.heap.size w wr) ∧ Hid (∀ j (h : j < xs.length) (h2 : j < ys.length), j < kk → lkEq xs[j] ys[j] = true))
      case atStart => exact ⟨0, Nat.zero_le _, by omega, rfl, Below.refl _ w, fun j _ _ hj => absurd hj (Nat.not_lt_zero _)⟩
      case round =>
        obtain ⟨kk, hkk, hg, rfl, BW, AA⟩ := hrel
        by_cases hlt : kk < n
        · have hltz : (kk : Int) < (n : Int) := by omega
          have hgez : (0 : Int) ≤ (kk : Int) := by omega
          have hlt1 : kk < xs.length := by rw [HN.out]; exact hlt
          have hlt2 : kk < ys.length := by rw [HN2.out]; exact hlt
          have lx := (hx wr BW.out kk hlt1).2.2
          have ly := (hy wr BW.out kk hlt2).2.2
          clear hx hy
          have hne := fun w => neq_lock xs[kk] ys[kk] w
          generalize hX : xs[kk] = x at lx hne
          generalize hY : ys[kk] = y at ly hne
          have HX := Lib.hid hX
          have HY := Lib.hid hY
          clear hX hY
          (have a0 := lx 0 _ rfl; have a1 := lx 1 _ rfl; have b0 := ly 0 _ rfl; have b1 := ly 1 _ rfl; simp only [Nat.add_zero] at a0 b0)
          clear lx ly
          simp only [encL] at hne
          cases hq : lkEq x y with
          | true =>
            rw [hq] at hne
            skip
            have HQ := Lib.hid hq
            clear hq
            go_wp2_with fail
            go_quiet (fail)
            go_wp2
            go_roundg (n - (kk + 1))
            case measure => omega
            case rel =>
              refine ⟨kk + 1, by omega, by omega, by go_num, below_drewN BW.out _, (show Hid _ from fun j h h2 hj => ?_)⟩
              by_cases e : j = kk
              · subst e
                rw [HX.out, HY.out]; exact HQ.out
              · exact AA.out j h h2 (by omega)
          | false =>
            rw [hq] at hne
            skip
            have HQ := Lib.hid hq
            clear hq
            go_wp2_with fail
            go_quiet (fail)
            go_wp2
            go_ret
            refine ⟨?_, below_drewN BW.out _⟩
            have : eqL lkEq xs ys = false := by
              cases he : eqL lkEq xs ys with
              | false => rfl
              | true =>
                have := eqL_at HL.out kk hlt1 he
                rw [HX.out, HY.out, HQ.out] at this
                exact this.symm
            rw [this]
            rfl
        · have hltz : ¬ (kk : Int) < (n : Int) := by omega
          obtain rfl : n = kk := by omega
          clear hx hy
          go_wp2
          go_ret
          refine ⟨?_, BW.out⟩
          rw [eqL_all HL.out (fun j h => AA.out j h (by rw [← HL.out]; exact h) (by rw [HN.out] at h; exact h))]
          rfl
  · have he : eqL lkEq xs ys = false := by
      cases h : eqL lkEq xs ys with
      | false => rfl
      | true => exact absurd (eqL_len h) hlen
    obtain ⟨A1, c1, rfl, hc1, hm1⟩ := hv.form
    obtain ⟨A2, c2, rfl, hc2, hm2⟩ := hv2.form
    rw [he]
    clear hv hv2 he hk
    generalize xs.length = n at *
    generalize ys.length = m at *
    have hne : ((n : Int) != (m : Int)) = true := by simp; omega
    clear hlen
    go_enter Try.func57, Try.ntmps57
    go_wp2
    go_ret
    exact ⟨rfl, Below.refl _ _⟩

/-- May a lock not be? -/
def oddL (now : Int) (x : Lk) : Bool := decide (x.v < 0) || (decide (now < x.v) || (decide (x.o < -1) || decide (4 ≤ x.o)))

set_option maxHeartbeats 400000 in
theorem lodd_any (x : Lk) (now : Int) (B : Nat) (w : World) (hc : w.cell? ⟨B, 0, none⟩ = some (.int .i64 now)) (hB : B < w.heap.size) :
    Calls Try.prog 40 #[.agg (encL x).toArray, .pointer (some ⟨B, 0, none⟩)] w fun e w' => e = .returned (.bool (oddL now x)) ∧ Below w.heap.size w w' := by
  simp only [encL]
  by_cases h1 : x.v < 0
  · rw [show oddL now x = true from by simp [oddL, h1]]
    go_enter Try.func40, Try.ntmps40
    go_wp2
    go_ret
    exact ⟨rfl, (Below.refl _ _).alloc (Nat.le_refl _) _⟩
  · by_cases h2 : now < x.v
    · rw [show oddL now x = true from by simp [oddL, h2]]
      go_enter Try.func40, Try.ntmps40
      go_wp2
      go_ret
      exact ⟨rfl, (Below.refl _ _).alloc (Nat.le_refl _) _⟩
    · by_cases h3 : x.o < -1
      · rw [show oddL now x = true from by simp [oddL, h3]]
        go_enter Try.func40, Try.ntmps40
        go_wp2
        go_ret
        exact ⟨rfl, (Below.refl _ _).alloc (Nat.le_refl _) _⟩
      · by_cases h4 : 4 ≤ x.o
        · rw [show oddL now x = true from by simp [oddL, h4]]
          go_enter Try.func40, Try.ntmps40
          go_wp2
          go_ret
          exact ⟨rfl, (Below.refl _ _).alloc (Nat.le_refl _) _⟩
        · rw [show oddL now x = false from by simp [oddL, h1, h2, h3, h4]]
          go_enter Try.func40, Try.ntmps40
          go_wp2
          go_ret
          exact ⟨rfl, (Below.refl _ _).alloc (Nat.le_refl _) _⟩

/-- May locks be? -/
def mayL (now mx : Int) (ls : List Lk) : Bool := decide (mx ≤ 1000) && (decide (0 ≤ now) && (decide (now ≤ mx) && (decide (0 < ls.length) && (decide (ls.length ≤ 8) && !ls.any (oddL now)))))

theorem lodd_pred (now : Int) (B : Nat) (w : World) (hc : w.cell? ⟨B, 0, none⟩ = some (.int .i64 now)) (hB : B < w.heap.size) :
    PredB Try.prog 40 #[.pointer (some ⟨B, 0, none⟩)] (fun x : Lk => Value.agg (encL x).toArray) (oddL now) w :=
  fun W x hb => lodd_any x now B W ((hb.cell (p := ⟨B, 0, none⟩) hB).trans hc) (Nat.lt_of_lt_of_le hB hb.size)

set_option maxHeartbeats 1000000 in
theorem lmay_any (now mx : Int) (sv : Value) (ls : List Lk) (w : World) (hv : Sl w 2 sv ls.length (ls.flatMap encL)) :
    Calls Try.prog 22 #[.agg #[.int .i64 now, .int .i64 mx, sv]] w fun e w' => e = .returned (.bool (mayL now mx ls)) ∧ Below w.heap.size w w' := by
  have eg : ∀ args w, (callFunc 40 args).run Try.prog w = .ok (.enter 40 args) w := enters_of Try.func40 (by kernel_rfl) rfl
  have hb0 : Below w.heap.size w (w.alloc (.cells #[.int .i64 now, .int .i64 mx, sv] 30)) := (Below.refl _ w).alloc (Nat.le_refl _) _
  have hcon := contains_lock (oddL now) 40 #[.pointer (some ⟨w.heap.size, 0, none⟩)] eg sv ls _ (lodd_pred now w.heap.size (w.alloc (.cells #[.int .i64 now, .int .i64 mx, sv] 30)) (by simp) (by simp)) (hv.below hb0)
  obtain ⟨A, c, rfl, hc, hm⟩ := hv.form
  clear hv eg
  generalize hq : ls.any (oddL now) = q at hcon
  have HQ := Lib.hid hq
  clear hq
  generalize hn : ls.length = n at *
  have HN := Lib.hid hn
  clear hn
  have hmm : mayL now mx ls = (decide (mx ≤ 1000) && (decide (0 ≤ now) && (decide (now ≤ mx) && (decide (0 < n) && (decide (n ≤ 8) && !q))))) := by rw [mayL, HN.out, HQ.out]
  rw [hmm]
  clear hmm HQ HN
  by_cases h1 : mx ≤ 1000
  · by_cases h2 : 0 ≤ now
    · by_cases h3 : now ≤ mx
      · by_cases h4 : 0 < n
        · by_cases h5 : n ≤ 8
          · simp only [h1, h2, h3, h4, h5, decide_true, Bool.true_and]
            have h4' : (0 : Int) < (n : Int) := by omega
            have h5' : (n : Int) ≤ 8 := by omega
            go_enter Try.func22, Try.ntmps22
            go_wp2_with (go_at_call 41; refine hcon.mono ?_; rintro e w' ⟨rfl, hb'⟩)
            go_ret
            exact ⟨rfl, hb0.trans (hb'.mono (by simp))⟩
          · simp only [h5, decide_false, Bool.false_and, Bool.and_false]
            have h4' : (0 : Int) < (n : Int) := by omega
            have h5' : ¬ (n : Int) ≤ 8 := by omega
            clear hcon
            go_enter Try.func22, Try.ntmps22
            go_wp2
            go_ret
            exact ⟨rfl, hb0⟩
        · simp only [h4, decide_false, Bool.false_and, Bool.and_false]
          obtain rfl : n = 0 := by omega
          clear hcon
          go_enter Try.func22, Try.ntmps22
          go_wp2
          go_ret
          exact ⟨rfl, hb0⟩
      · simp only [h3, decide_false, Bool.false_and, Bool.and_false]
        clear hcon
        go_enter Try.func22, Try.ntmps22
        go_wp2
        go_ret
        exact ⟨rfl, hb0⟩
    · simp only [h2, decide_false, Bool.false_and, Bool.and_false]
      clear hcon
      go_enter Try.func22, Try.ntmps22
      go_wp2
      go_ret
      exact ⟨rfl, hb0⟩
  · simp only [h1, decide_false, Bool.false_and]
    clear hcon
    go_enter Try.func22, Try.ntmps22
    go_wp2
    go_ret
    exact ⟨rfl, hb0⟩
end Go.Proofs.Ytngimbfojccikaa
