/- table.May. -/
import Derived.Test.YtoogobenjhmjjaaTbMayP
import Derived.Test.YtoogobenjhmjjaaRfKit
import Derived.Laws.OwnMore
namespace Go.Proofs.Ytoogobenjhmjjaa
open Go Go.RowKit Go.Shelf
set_option linter.unusedVariables false
attribute [local go_sem] Oper.semAt_some

/-- A row of counts. -/
def cntA (n : Nat) (xs : List Int) : Array Value := ((cnts n xs).flatMap encI).toArray
theorem flat_encI (l : List Int) : l.flatMap encI = l.map (.int .i64 ·) := by
  induction l with
  | nil => rfl
  | cons x l ih => rw [List.flatMap_cons, ih]; rfl
theorem cntA_size (n : Nat) (xs : List Int) : (cntA n xs).size = n := by
  unfold cntA; rw [flat_encI, List.size_toArray, List.length_map, cnts_len]
theorem made_cnt (n : Nat) : madeCells (Value.int .i64 0).cells (n * 1) = cntA n [] := by
  apply Array.toList_inj.1
  rw [Nat.mul_one, show (Value.int .i64 0).cells = #[.int .i64 0] from rfl, toList_madeCells_one]
  unfold cntA
  rw [cnts_nil, flat_encI, List.map_replicate]

theorem cntA_set {n p v : Nat} {xs : List Int} (hp : p < n) (hv : xs.count (p : Int) = v) : (cntA n xs).setIfInBounds p (.int .i64 ((v : Int) + 1)) = cntA n (xs ++ [(p : Int)]) := by
  apply Array.toList_inj.1
  unfold cntA
  rw [cnts_snoc n xs p hp, hv]
  simp only [List.setIfInBounds_toArray, flat_encI, List.map_set]
theorem cntA_tables {n k : Nat} {ts : List (List Int)} {t : List Int} (hk : k < ts.length) (ht : ts[k] = t) : cntA n ((ts.take k).flatten ++ (prs t).map (·.2)) = cntA n (ts.take (k + 1)).flatten := by
  unfold cntA
  rw [cnts_congr (ys := (ts.take (k + 1)).flatten) fun p hp => ?_]
  rw [List.take_succ_eq_append_getElem hk, List.flatten_append, List.count_append, List.count_append, prs_count, ht]
  simp

theorem flat_small {ts : List (List Int)} {k : Nat} (h : ∀ j (h : j < ts.length), j < k → ts[j].length = 0 ∨ ts[j].length = 4) (hk : k ≤ 5) : (ts.take k).flatten.length ≤ 20 := by
  have h2 : ∀ (l : List (List Int)), (∀ t ∈ l, t.length ≤ 4) → l.flatten.length ≤ 4 * l.length := by
    intro l
    induction l with
    | nil => intro _; simp
    | cons x l ih =>
      intro hx
      have := ih fun t ht => hx t (by simp [ht])
      have := hx x (by simp)
      simp only [List.flatten_cons, List.length_append, List.length_cons]
      omega
  have := h2 (ts.take k) fun t ht => by
    obtain ⟨j, hj, rfl⟩ := List.getElem_of_mem ht
    rw [List.length_take] at hj
    rw [List.getElem_take]
    have := h j (by omega) (by omega)
    omega
  rw [List.length_take] at this
  omega

/-- What holds between two rounds of the loop over tables. -/
def MayI (w : World) (BR : Nat) (cap : Int) (pv tv : Value) (ps : List Pg) (ts : List (List Int)) (k : Nat) (Ds : List Nat) (W : World) : Prop :=
  Blk W w.heap.size 28 #[.int .i64 cap, pv, tv] ∧ Blk W (w.heap.size + 1) 4 #[.bool false] ∧ Blk W (BR + 1) 47 #[.slice (some ⟨BR, 0, none⟩) ps.length ps.length] ∧
    Blk W BR 3 (cntA ps.length (ts.take k).flatten) ∧ Below w.heap.size w W ∧ (∀ D ∈ Ds, BR + 1 < D ∧ W.heap[D]? = some (.deferred (some []))) ∧ Ds.Nodup ∧
    (∀ j (h : j < ts.length), j < k → okTb ps.length ts[j] = true)

/-- What holds between two rounds over a table's pages. -/
def MayJ (w : World) (BR : Nat) (cap : Int) (pv tv : Value) (ps : List Pg) (ts : List (List Int)) (k : Nat) (Ds : List Nat) (pre : List (Nat × Int)) (W : World) : Prop :=
  (Blk W w.heap.size 28 #[.int .i64 cap, pv, tv] ∧ Blk W (w.heap.size + 1) 4 #[.bool false] ∧ Blk W (BR + 1) 47 #[.slice (some ⟨BR, 0, none⟩) ps.length ps.length] ∧
    Blk W BR 3 (cntA ps.length ((ts.take k).flatten ++ pre.map (·.2)))) ∧ Below w.heap.size w W ∧ (∀ D, D ∈ Ds → W.heap[D]? = some (.deferred (some []))) ∧ (∀ x ∈ pre, 0 ≤ x.2 ∧ x.2 < ps.length)
/-- A round has left: there is a page that is none. -/
def MayX (w : World) (BR : Nat) (ps : List Pg) (Ds : List Nat) (c : Code) (pre : List (Nat × Int)) (W : World) : Prop :=
  Blk W (w.heap.size + 1) 4 #[.bool false] ∧ Below w.heap.size w W ∧ (∀ D, D ∈ Ds → W.heap[D]? = some (.deferred (some []))) ∧ (c = .ret ∧ ∃ x ∈ pre, x.2 < 0 ∨ (ps.length : Int) ≤ x.2)

theorem mayJ_own {w : World} {BR : Nat} {cap : Int} {pv tv : Value} {ps : List Pg} {ts : List (List Int)} {k : Nat} {Ds : List Nat} {B : Nat} (h1 : w.heap.size ≤ B) (h2 : BR + 1 < B) (h3 : ∀ D ∈ Ds, D < B) : OwnFrom B (MayJ w BR cap pv tv ps ts k Ds) :=
  OwnFrom.and (OwnFrom.and ((blk_own (fun _ => w.heap.size) (fun _ => _) (fun _ => _)).from B) (OwnFrom.and ((blk_own (fun _ => w.heap.size + 1) (fun _ => _) (fun _ => _)).from B) (OwnFrom.and ((blk_own (fun _ => BR + 1) (fun _ => _) (fun _ => _)).from B) ((blk_own (fun _ => BR) (fun _ => _) (fun pre : List (Nat × Int) => cntA ps.length ((ts.take k).flatten ++ pre.map (·.2)))).from B))))
    (OwnFrom.and (ownFrom_below (Nat.le_refl _) h1) (OwnFrom.and (mark_own (fun _ D => D ∈ Ds) (fun _ D h => h3 D h)) (ownFrom_pure B (fun pre : List (Nat × Int) => ∀ x ∈ pre, 0 ≤ x.2 ∧ x.2 < ps.length))))
theorem mayX_own {w : World} {BR : Nat} {ps : List Pg} {Ds : List Nat} {B : Nat} (h1 : w.heap.size ≤ B) (h2 : BR + 1 < B) (h3 : ∀ D ∈ Ds, D < B) (c : Code) : OwnFrom B (MayX w BR ps Ds c) :=
  OwnFrom.and ((blk_own (fun _ => w.heap.size + 1) (fun _ => _) (fun _ => _)).from B)
    (OwnFrom.and (ownFrom_below (Nat.le_refl _) h1) (OwnFrom.and (mark_own (fun _ D => D ∈ Ds) (fun _ D h => h3 D h)) (ownFrom_pure B (fun pre : List (Nat × Int) => c = .ret ∧ ∃ x ∈ pre, x.2 < 0 ∨ (ps.length : Int) ≤ x.2))))
theorem mayJ_start {w : World} {BR : Nat} {cap : Int} {pv tv : Value} {ps : List Pg} {ts : List (List Int)} {k : Nat} {Ds : List Nat} {W : World} (h : MayI w BR cap pv tv ps ts k Ds W) (o : Obj) : MayJ w BR cap pv tv ps ts k Ds [] (W.alloc o) := by
  obtain ⟨i0, i1, i3, iR, iB, iD, iN, iO⟩ := h
  refine ⟨⟨i0.alloc _, i1.alloc _, i3.alloc _, ?_⟩, iB.alloc (by have := i0.lt; omega) _, fun D hD => (Below.heap_alloc W _ D (Array.getElem?_eq_some_iff.1 (iD D hD).2).1).trans (iD D hD).2, fun x h => absurd h (by simp)⟩
  rw [List.map_nil, List.append_nil]
  exact iR.alloc _

set_option maxRecDepth 100000 in
set_option maxHeartbeats 4000000 in
theorem tmay_main (A A2 : Option Addr) (c c2 : Nat) (cap : Int) (ps : List Pg) (ts : List (List Int)) (w : World) (hv : HpV w (.agg #[.int .i64 cap, .slice A ps.length c, .slice A2 ts.length c2]) cap ps ts) (hm : mayP cap ps = true) (h5 : ts.length ≤ 5) (hps : ps.length ≤ 1000) :
    Calls Try.prog 13 #[.agg #[.int .i64 cap, .slice A ps.length c, .slice A2 ts.length c2]] w fun e w' => e = .returned (.bool (mayH cap ps ts)) ∧ Below w.heap.size w w' := by
  have cM := fun W h => may_any cap (.slice A ps.length c) ps W h
  rw [hm] at cM
  have hpg := hv.pages
  have HV := Lib.hid hv
  have h5' : ¬ (5 : Int) < (ts.length : Int) := by omega
  have HMY := Lib.hid hm
  clear hv hm
  refine (callsIn_wide (n := 6)).1 ?_
  refine callsIn_of_wp_marks Try.func13 rfl trivial ?_ rfl
  simp only [Try.ntmps13, List.size_toArray, List.length_cons, List.length_nil, Nat.reduceAdd, Nat.reduceSub, Array.replicate_succ, Array.replicate_zero, List.push_toArray, List.append_toArray, List.nil_append, List.cons_append]
  obtain ⟨i0, hi0, hz0, hz1, hz2⟩ := info_parts clone_ints_info
  have hmk : ∀ (w : World) (kl kc : IntKind), (Instr.makeSlice 47 (.int kl (ps.length : Int)) (.int kc (ps.length : Int))).run Try.prog w = .ok (.slice (some ⟨w.heap.size, 0, none⟩) ps.length ps.length) (w.alloc (.cells (cntA ps.length []) 3)) := fun w kl kc => by
    have := run_make (P := Try.prog) w 47 3 i0 _ Try.underlying47 hi0 hz0 kl kc (ps.length : Int) (ps.length : Int) (by omega) (Int.le_refl _) (by rw [hz2]; omega) (by omega)
    rw [this, Int.toNat_natCast, hz1, made_cnt]
  clear hi0 hz0 hz1 hz2
  gi_wp2_with (refine ⟨trivial, ?_⟩; gi_at_call 29; refine (callsIn_wide.2 (cM _ (hpg.below (((Below.refl w.heap.size w).alloc (Nat.le_refl _) _).alloc (by simp) _)))).mono ?_; rintro e w1 ⟨rfl, hb1⟩; have hz1 := hb1.size; simp at hz1; have z0 : w.heap.size < w1.heap.size := (by omega); have z1 : w.heap.size + 1 < w1.heap.size := (by omega); have k0 : Blk w1 w.heap.size 28 #[.int .i64 cap, .slice A ps.length c, .slice A2 ts.length c2] := ((Blk.new_ w _ _ _ rfl).alloc _).keep hb1; have k1 : Blk w1 (w.heap.size + 1) 4 #[.bool false] := (Blk.new_ _ _ _ _ (by simp)).keep hb1; have p0 : w1.cell? ⟨w.heap.size, 0, none⟩ = some (.int .i64 cap) := (by rw [k0.cell]; rfl); have p1 : w1.cell? ⟨w.heap.size, 1, none⟩ = some (.slice A ps.length c) := (by rw [k0.cell]; rfl); have p2 : w1.cell? ⟨w.heap.size, 2, none⟩ = some (.slice A2 ts.length c2) := (by rw [k0.cell]; rfl); have HB1 := Lib.hid hb1; have HK0 := Lib.hid k0; have HK1 := Lib.hid k1; clear hb1 k0 k1)
  --MAIN
  obtain ⟨m, hm⟩ : ∃ m, ts.length = m := ⟨_, rfl⟩
  have HM := Lib.hid hm
  rw [hm] at p2 h5 h5' ⊢
  have HP2 := Lib.hid p2
  have k3 := Blk.new_ (w1.alloc (.cells (cntA ps.length []) 3)) 47 #[.slice (some ⟨w1.heap.size, 0, none⟩) ps.length ps.length] (w1.heap.size + 1) (by simp)
  have kR := (Blk.new w1 3 (cntA ps.length [])).alloc (.cells #[.slice (some ⟨w1.heap.size, 0, none⟩) ps.length ps.length] 47)
  have hBB : Below w.heap.size w ((w1.alloc (.cells (cntA ps.length []) 3)).alloc (.cells #[.slice (some ⟨w1.heap.size, 0, none⟩) ps.length ps.length] 47)) :=
    (((((Below.refl w.heap.size w).alloc (Nat.le_refl _) _).alloc (by simp) _).trans (HB1.out.mono (by simp; omega))).alloc (by omega) _).alloc (by simp; omega) _
  have hI0 : MayI w w1.heap.size cap (.slice A ps.length c) (.slice A2 m c2) ps ts 0 [] ((w1.alloc (.cells (cntA ps.length []) 3)).alloc (.cells #[.slice (some ⟨w1.heap.size, 0, none⟩) ps.length ps.length] 47)) :=
    ⟨(hm ▸ HK0.out).alloc _ |>.alloc _, (HK1.out.alloc _).alloc _, k3, kR, hBB, fun D h => absurd h (by simp), List.nodup_nil, fun j h h2 => absurd h2 (Nat.not_lt_zero _)⟩
  have HI0 := Lib.hid hI0
  clear hm k3 kR hBB hI0 p0 p1 p2
  refine wpIn_loop_k (fun a W => ∃ (k : Nat) (Ds : List Nat) (u4 u5 u6 u7 u27 u28 u29 u30 u31 u32 u33 u34 u35 u36 u37 u38 u39 u40 u41 u42 u43 u44 u45 u46 u47 u48 u49 u50 u51 u52 u53 u54 u55 u56 u57 u58 u59 u60 u61 : Value), a = { tmps := #[.agg #[.int .i64 cap, .slice A ps.length c, .slice A2 m c2], .pointer (some ⟨w.heap.size, 0, none⟩), .pointer (some ⟨w.heap.size + 1, 0, none⟩), .pointer (some ⟨w1.heap.size + 1, 0, none⟩), u4, u5, u6, u7, .pointer (some ⟨w.heap.size, 0, none⟩), .agg #[.int .i64 cap, .slice A ps.length c], .bool true, .bool false, .bool false, .pointer (some ⟨w.heap.size, 2, none⟩), .slice A2 m c2, .int .i64 (m : Int), .bool (decide ((5 : Int) < (m : Int))), .bool (decide ((5 : Int) < (m : Int))), .pointer (some ⟨w.heap.size, 0, none⟩), .pointer (some ⟨w.heap.size, 1, none⟩), .slice A ps.length c, .int .i64 (ps.length : Int), .slice (some ⟨w1.heap.size, 0, none⟩) ps.length ps.length, .pointer (some ⟨w.heap.size, 2, none⟩), .slice A2 m c2, .int .i64 (m : Int), .int .i64 (k : Int), u27, u28, u29, u30, u31, u32, u33, u34, u35, u36, u37, u38, u39, u40, u41, u42, u43, u44, u45, u46, u47, u48, u49, u50, u51, u52, u53, u54, u55, u56, u57, u58, u59, u60, u61], defers := Ds.map markD } ∧ k ≤ m ∧ Hid (MayI w w1.heap.size cap (.slice A ps.length c) (.slice A2 m c2) ps ts k Ds W)) (fun a _ => m - (intOf (a.tmps.getD 26 undef)).toNat) ⟨0, [], undef, undef, undef, undef, undef, undef, undef, undef, undef, undef, undef, undef, undef, undef, undef, undef, undef, undef, undef, undef, undef, undef, undef, undef, undef, undef, undef, undef, undef, undef, undef, undef, undef, undef, undef, undef, undef, undef, undef, rfl, Nat.zero_le _, HI0.out⟩ ?_
  rintro a W ⟨k, Ds, u4, u5, u6, u7, u27, u28, u29, u30, u31, u32, u33, u34, u35, u36, u37, u38, u39, u40, u41, u42, u43, u44, u45, u46, u47, u48, u49, u50, u51, u52, u53, u54, u55, u56, u57, u58, u59, u60, u61, rfl, hk, HI⟩ K HK
  by_cases hlt : k < m
  · have hltz : (k : Int) < (m : Int) := by omega
    have hgez : (0 : Int) ≤ (k : Int) := by omega
    have hkt : k < ts.length := by rw [HM.out]; exact hlt
    obtain ⟨i0, i1, i3, iR, iB, iD, iN, iO⟩ := HI.out
    obtain ⟨b, o, rfl, hbl, hel⟩ := (HV.out.tabs).elem (by omega)
    obtain ⟨Ak, ck, e0, hsl⟩ := hel k hkt
    have x0 := (iB.cell (p := ⟨b, o + k, none⟩) hbl).trans e0
    obtain ⟨t, ht⟩ : ∃ t, ts[k] = t := ⟨_, rfl⟩
    have HT := Lib.hid ht
    rw [ht] at x0 hsl
    have HSL := Lib.hid hsl
    clear hel e0 ht hsl
    have q0 : W.cell? ⟨w.heap.size + 1, 0, none⟩ = some (.bool false) := by rw [i1.cell]; rfl
    have qf : W.frozen? ⟨w.heap.size + 1, 0, none⟩ = false := i1.free 0
    by_cases hl : t.length = 0 ∨ t.length = 4
    · have h4 : t.length ≤ 4 := by omega
      have HLN := Lib.hid hl
      have hIB : IntsB w.heap.size w (.slice Ak t.length ck) t := ⟨HSL.out, fun a n c e h => by
        injection e with e1 _ _
        obtain ⟨b', o', e2, hb', _⟩ := ints_elem HSL.out h
        rw [e1] at e2
        injection e2 with e2
        subst e2
        exact hb'⟩
      have HIB := Lib.hid hIB
      have z1 : w.heap.size + 1 < W.heap.size := i1.lt
      have hflat : (ts.take k).flatten.length ≤ 20 := flat_small (fun j h h2 => okTb_len (iO j h h2)) (by omega)
      have HI2 := Lib.hid (And.intro i0 (And.intro i1 (And.intro i3 (And.intro iR (And.intro iB (And.intro iD (And.intro iN iO)))))))
      have hzR : w1.heap.size + 1 < W.heap.size := i3.lt
      clear i0 i1 i3 iR iB iD iN iO HI hIB HSL
      by_cases hl0 : t.length = 0
      all_goals
        first
        | (have n0 : ((t.length : Int) != 0) = false := by rw [bne_eq_false_iff_eq]; omega)
        | (have n0 : ((t.length : Int) != 0) = true := by rw [bne_iff_ne]; omega)
        have n4 : ((t.length : Int) != 0) = true → ((t.length : Int) != 4) = false := fun h => by rw [bne_eq_false_iff_eq]; rw [bne_iff_ne] at h; omega
        clear hl0 hl
        gi_wp2_with (refine ⟨trivial, ?_⟩; gi_at_call 30; refine (callsIn_wide.2 (pages_any _ _ _ W)).mono ?_; rintro e w' ⟨rfl, rfl⟩)
        refine' wpIn_rangeFunc_ownG rfl (by omega) (gf := 55) (lb := #[.pointer (some ⟨W.heap.size, 0, none⟩)]) rfl trivial (enters_of Try.func55 (by kernel_rfl) rfl)
          (pages_stops Fence.wide 5 trivial rfl (by omega) W.heap.size w.heap.size (.slice Ak t.length ck) t (by omega) (W.alloc (.cells #[.slice Ak t.length ck] 47)) (by simp) (by simp; omega) (by simp) (HIB.out.below (HI2.out.2.2.2.2.1.alloc (by omega) _))) belowK_t (belowK_b (by simp; omega)) (Below.refl _ _) (fun _ => rfl)
          (MayJ w w1.heap.size cap (.slice A ps.length c) (.slice (some ⟨b, o, none⟩) m c2) ps ts k Ds) (MayX w w1.heap.size ps Ds) ?hI ?hIx ?h0 _ ?assign ?body ?done ?stop
        case assign =>
          intro l x W2 K2 hK2
          gi_wp2
          exact hK2
        case hI => exact mayJ_own (by simp; omega) (by simp; omega) (fun D hD => by have := (Array.getElem?_eq_some_iff.1 (HI2.out.2.2.2.2.2.1 D hD).2).1; simp; omega)
        case hIx => exact mayX_own (by simp; omega) (by simp; omega) (fun D hD => by have := (Array.getElem?_eq_some_iff.1 (HI2.out.2.2.2.2.2.1 D hD).2).1; simp; omega)
        case h0 => exact mayJ_start HI2.out _
        case body =>
          rintro l pre ⟨x1, y⟩ W2 hJ hlen
          obtain ⟨⟨j0, j1, j3, jR⟩, jB, jD, jP⟩ := hJ
          have f0 : W2.cell? ⟨w.heap.size + 1, 0, none⟩ = some (.bool false) := by rw [j1.cell]; rfl
          have ff : W2.frozen? ⟨w.heap.size + 1, 0, none⟩ = false := j1.free 0
          have f3 : W2.cell? ⟨w1.heap.size + 1, 0, none⟩ = some (.slice (some ⟨w1.heap.size, 0, none⟩) ps.length ps.length) := by rw [j3.cell]; rfl
          have HJ := Lib.hid (And.intro j0 (And.intro j1 (And.intro j3 (And.intro jR (And.intro jB (And.intro jD jP))))))
          clear j0 j1 j3 jB jD jP
          by_cases y0 : y < 0
          · clear jR
            gi_wp2
            obtain ⟨j0, j1, j3, jR, jB, jD, jP⟩ := HJ.out
            exact ⟨keeps_setCell _ _ _ _, j1.set_ 0 (.bool false), jB.setCell (by simp) _, fun D hD => mark_far (jD D hD) (by have := (HI2.out.2.2.2.2.2.1 D hD).1; omega), rfl, (x1, y), by simp, .inl y0⟩
          · by_cases yn : (ps.length : Int) ≤ y
            · clear jR
              gi_wp2
              obtain ⟨j0, j1, j3, jR, jB, jD, jP⟩ := HJ.out
              exact ⟨keeps_setCell _ _ _ _, j1.set_ 0 (.bool false), jB.setCell (by simp) _, fun D hD => mark_far (jD D hD) (by have := (HI2.out.2.2.2.2.2.1 D hD).1; omega), rfl, (x1, y), by simp, .inr yn⟩
            · obtain ⟨p, rfl⟩ : ∃ p : Nat, y = (p : Int) := ⟨y.toNat, by omega⟩
              have hp : p < ps.length := by omega
              obtain ⟨v, hv⟩ : ∃ v, ((ts.take k).flatten ++ pre.map (·.2)).count (p : Int) = v := ⟨_, rfl⟩
              have hvb : v ≤ 1000 := by
                have h1 := List.count_le_length (a := (p : Int)) (l := (ts.take k).flatten ++ pre.map (·.2))
                rw [hv, List.length_append, List.length_map] at h1
                omega
              have r0 : W2.cell? ⟨w1.heap.size, p, none⟩ = some (.int .i64 (v : Int)) := by
                rw [jR.cell]
                unfold cntA
                rw [List.getElem?_toArray, encI_get _ p (by rw [cnts_len]; exact hp), cnts_at _ _ p hp, hv]
              have rf : W2.frozen? ⟨w1.heap.size, p, none⟩ = false := jR.free p
              have HVV := Lib.hid hv
              clear jR hv
              gi_wp2
              obtain ⟨j0, j1, j3, jR, jB, jD, jP⟩ := HJ.out
              refine ⟨keeps_setCell _ _ _ _, (Below.refl _ _).setCell (by simp; omega) _, ⟨j0.far (by simp; omega) _, j1.far (by simp; omega) _, j3.far (by simp) _, ?_⟩, jB.setCell (by simp; omega) _, fun D hD => mark_far (jD D hD) (by have := (HI2.out.2.2.2.2.2.1 D hD).1; omega), ?_⟩
              · have := jR.set_ p (.int .i64 ((v : Int) + 1))
                rw [cntA_set hp HVV.out] at this
                rw [List.map_append, ← List.append_assoc]
                exact this
              · intro x hx
                rw [List.mem_append] at hx
                rcases hx with hx | hx
                · exact jP x hx
                · simp at hx; subst hx; exact ⟨by simp, by simp; omega⟩
        case done =>
          rintro D ys W2 hD rfl hJ hK
          gi_wp2
          refine HK.out _ _ ⟨k + 1, D :: Ds, _, _, _, _, _, _, _, _, _, _, _, _, _, _, _, _, _, _, _, _, _, _, _, _, _, _, _, _, _, _, _, _, _, _, _, _, _, _, _, rfl, by omega, ?_⟩ (by simp [intOf]; omega)
          obtain ⟨⟨j0, j1, j3, jR⟩, jB, jD, jP⟩ := hJ
          obtain ⟨_, _, _, _, _, iD, iN, iO⟩ := HI2.out
          refine ⟨j0, j1, j3, ?_, jB, ?_, ?_, ?_⟩
          · rw [cntA_tables hkt HT.out] at jR
            exact jR
          · intro D' hD'
            rw [List.mem_cons] at hD'
            rcases hD' with rfl | hD'
            · exact ⟨by simp at hD; omega, hK⟩
            · exact ⟨(iD D' hD').1, jD D' hD'⟩
          · rw [List.nodup_cons]
            refine ⟨fun hm => ?_, iN⟩
            have := (Array.getElem?_eq_some_iff.1 (iD D hm).2).1
            simp at hD
            omega
          · intro j h h2
            by_cases e : j = k
            · subst e
              rw [HT.out]
              exact okTb_of _ _ HLN.out jP
            · exact iO j h (by omega)
        case stop =>
          rintro D c2 pre W2 hD ⟨j, hj1, hj2, rfl⟩ ⟨j1, jB, jD, rfl, x, hx, hxb⟩ hK
          obtain ⟨_, _, _, _, _, iD, iN, iO⟩ := HI2.out
          have HF := Lib.hid (show mayH cap ps ts = false from mayH_bad hkt (by rw [HT.out]; exact okTb_bad _ _ x (prsK_mem t (j + 1) (by omega) x hx) hxb))
          gi_wp2
          show LeavesInM _ _ _ _ _ _ ((D :: Ds).map markD) _ _
          refine leaves_marks (B := w.heap.size) (D :: Ds) _ ?_ ?_ ?_
          · rw [List.nodup_cons]
            refine ⟨fun hm => ?_, iN⟩
            have := (Array.getElem?_eq_some_iff.1 (iD D hm).2).1
            simp at hD
            omega
          · intro D' hD'
            rw [List.mem_cons] at hD'
            rcases hD' with rfl | hD'
            · exact ⟨by simp at hD; omega, hK⟩
            · exact ⟨by have := (iD D' hD').1; omega, jD D' hD'⟩
          · intro W' hq
            have hc := (hq.1 _ _ _ j1).cell 0
            have hc' : W'.cell? ⟨w.heap.size + 1, 0, none⟩ = some (.bool false) := hc
            exact ⟨.bool false, by simp [results, Try.results13, go_sem, hc'], by rw [HF.out], jB.trans hq.2⟩
    · have n0 : ((t.length : Int) != 0) = true := by rw [bne_iff_ne]; omega
      have n4 : ((t.length : Int) != 4) = true := by rw [bne_iff_ne]; omega
      have HF := Lib.hid (show mayH cap ps ts = false from mayH_bad hkt (by rw [HT.out, Bool.eq_false_iff]; intro h; exact hl (okTb_len h)))
      have HI2 := Lib.hid (And.intro i1 (And.intro iB (And.intro iD iN)))
      clear i0 i1 i3 iR iB iD iN iO HI HK HSL hl
      gi_wp2
      obtain ⟨i1, iB, iD, iN⟩ := HI2.out
      refine leaves_marks (B := w.heap.size) Ds _ iN (fun D hD => ⟨by have := (iD D hD).1; omega, mark_far (iD D hD).2 (by have := (iD D hD).1; omega)⟩) fun W' hq => ?_
      have hc := (hq.1 _ _ _ (i1.set_ 0 (.bool false))).cell 0
      have hc' : W'.cell? ⟨w.heap.size + 1, 0, none⟩ = some (.bool false) := hc
      refine ⟨.bool false, by simp [results, Try.results13, go_sem, hc'], by rw [HF.out], (iB.setCell (by simp) _).trans hq.2⟩
  · obtain rfl : k = m := by omega
    obtain ⟨i0, i1, i3, iR, iB, iD, iN, iO⟩ := HI.out
    have q0 : W.cell? ⟨w.heap.size + 1, 0, none⟩ = some (.bool false) := by rw [i1.cell]; rfl
    have qf : W.frozen? ⟨w.heap.size + 1, 0, none⟩ = false := i1.free 0
    have q1 : W.cell? ⟨w.heap.size, 1, none⟩ = some (.slice A ps.length c) := by rw [i0.cell]; rfl
    have q3 : W.cell? ⟨w1.heap.size + 1, 0, none⟩ = some (.slice (some ⟨w1.heap.size, 0, none⟩) ps.length ps.length) := by rw [i3.cell]; rfl
    have hR : Sl W 1 (.slice (some ⟨w1.heap.size, 0, none⟩) ps.length ps.length) (cnts ps.length (ts.take k).flatten).length ((cnts ps.length (ts.take k).flatten).flatMap encI) := by
      refine ⟨by rw [flat_len encI encI_len], .inr ⟨_, ps.length, by rw [cnts_len], by rw [cnts_len]; exact Nat.le_refl _, by unfold maxLen; omega, fun _ => ⟨rfl, iR.lt, fun j u hu => ?_⟩⟩⟩
      rw [Nat.zero_add, iR.cell]
      unfold cntA
      rw [List.getElem?_toArray]
      exact hu
    have cE := callsIn_wide (n := 5).2 (eqf_refs _ _ _ ps W hR (HV.out.pages.below iB))
    have HE := Lib.hid (show mayH cap ps ts = eqR isRefs (cnts ps.length (ts.take k).flatten) ps from by
      have h1 : ts.all (okTb ps.length) = true := by
        rw [List.all_eq_true]
        intro t ht
        obtain ⟨j, hj, rfl⟩ := List.getElem_of_mem ht
        exact iO j hj (by rw [HM.out] at hj; exact hj)
      unfold mayH
      rw [HMY.out, h1, decide_eq_true (by rw [HM.out]; exact h5), List.take_of_length_le (by rw [HM.out]; exact Nat.le_refl _)]
      simp)
    have HI2 := Lib.hid (And.intro i1 (And.intro iB (And.intro iD iN)))
    generalize eqR isRefs (cnts ps.length (ts.take k).flatten) ps = q at *
    have z1 : w.heap.size + 1 < W.heap.size := i1.lt
    clear i0 i1 i3 iR iB iD iN iO HI HK hR
    gi_wp2_with (refine ⟨trivial, ?_⟩; gi_at_call 31; refine cE.mono ?_; rintro e w2 ⟨rfl, hb2⟩; obtain ⟨hc2, hf2⟩ := bcell hb2; have HB2 := Lib.hid hb2; clear hb2)
    obtain ⟨i1, iB, iD, iN⟩ := HI2.out
    refine leaves_marks (B := w.heap.size) Ds _ iN (fun D hD => ⟨by have := (iD D hD).1; omega, mark_far ((HB2.out.block D (Array.getElem?_eq_some_iff.1 (iD D hD).2).1).trans (iD D hD).2) (by have := (iD D hD).1; omega)⟩) fun W' hq => ?_
    have hc := (hq.1 _ _ _ ((i1.keep HB2.out).set_ 0 (.bool q))).cell 0
    have hc' : W'.cell? ⟨w.heap.size + 1, 0, none⟩ = some (.bool q) := hc
    refine ⟨.bool q, by simp [results, Try.results13, go_sem, hc'], by rw [HE.out], ((iB.trans (HB2.out.mono iB.size)).setCell (by simp) _).trans hq.2⟩
end Go.Proofs.Ytoogobenjhmjjaa
