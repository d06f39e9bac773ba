/- '==' and '!=' between two pages. -/
import Derived.Test.YtoogobenjhmjjaaPgFunc
import Derived.ChangeKeysEq
namespace Go.Proofs.Ytoogobenjhmjjaa
open Go Go.RowKit

/-- Are two pages the same? -/
def pgEq (p q : Pg) : Bool := p.r == q.r && (p.a == q.a && (p.b == q.b && (p.c == q.c && p.d == q.d)))

theorem equalIn_words (d : Nat) (a b c e a' b' c' e' : Int) (w : World) :
    (Op.equalIn (d + 2) 52 (.agg #[.int .i64 a, .int .i64 b, .int .i64 c, .int .i64 e]) (.agg #[.int .i64 a', .int .i64 b', .int .i64 c', .int .i64 e'])).run Try.prog w =
      .ok (a == a' && (b == b' && (c == c' && e == e'))) w := by
  have hi : ∃ i, Try.prog.info? 3 = some i := by
    have h : (Try.prog.info? 3).isSome = true := by kernel_rfl
    exact Option.isSome_iff_exists.1 h
  obtain ⟨i, hi⟩ := hi
  rw [show d + 2 = (d + 1) + 1 from rfl, run_equalIn_array w (d + 1) _ _ Try.underlying52 hi, show Try.prog.cellsOf 3 = 1 from by kernel_rfl]
  clear hi
  have u3 := Try.underlying3
  have z3 := Try.sizeOf3
  have a3 := Try.isAgg3
  simp only [show List.range 4 = [0, 1, 2, 3] from rfl, Op.eqItems]
  go_simp
  by_cases h1 : a = a'
  · by_cases h2 : b = b'
    · by_cases h3 : c = c'
      · by_cases h4 : e = e' <;> simp [h1, h2, h3, h4]
      · simp [h1, h2, h3]
    · simp [h1, h2]
  · simp [h1]

theorem equalIn_page (d : Nat) (x y : Pg) (w : World) :
    (Op.equalIn (d + 3) 54 (.agg (encP x).toArray) (.agg (encP y).toArray)).run Try.prog w = .ok (pgEq x y) w := by
  have hS : Try.prog.underlying 54 = some (.struct (Try.prog.fieldsOf 54)) := by kernel_rfl
  have hp : Try.prog.stoodInHeld 54 = false := by kernel_rfl
  have hu := fun w => equalIn_words d x.a x.b x.c x.d y.a y.b y.c y.d w
  have u3 := Try.underlying3
  have z3 := Try.sizeOf3
  have a3 := Try.isAgg3
  have z4 := Try.sizeOf52
  have a4 := Try.isAgg52
  rw [show d + 3 = (d + 2) + 1 from rfl, run_equalIn_agg w (d + 2) 54 _ _ hS hp]
  simp only [Program.fieldsOf, Try.underlying54, encP, pgEq]
  clear hS hp
  go_simp
  by_cases h0 : x.r = y.r
  · by_cases h1 : x.a = y.a
    · by_cases h2 : x.b = y.b
      · by_cases h3 : x.c = y.c
        · by_cases h4 : x.d = y.d <;> simp [h0, h1, h2, h3, h4]
        · simp [h0, h1, h2, h3]
      · simp [h0, h1, h2]
    · simp [h0, h1]
  · simp [h0]

theorem eql_page (x y : Pg) (w : World) : (binOp .eql 54 (.agg (encP x).toArray) (.agg (encP y).toArray)).run Try.prog w = .ok (.bool (pgEq x y)) w := by
  rw [run_eql_struct, show (10000 : Nat) = 9997 + 3 from rfl, equalIn_page]; rfl

theorem neq_page (x y : Pg) (w : World) : (binOp .neq 54 (.agg (encP x).toArray) (.agg (encP y).toArray)).run Try.prog w = .ok (.bool (!pgEq x y)) w := by
  rw [run_neq_struct, show (10000 : Nat) = 9997 + 3 from rfl, equalIn_page]; rfl

theorem guard_page (op : BinOp) (a b : Operand) (x y : Pg) (w : World) : (eqGuard op 54 a b (.agg (encP x).toArray) (.agg (encP y).toArray)).run Try.prog w = .ok () w :=
  run_eqGuard_agg w op 54 a b _ _ (by kernel_rfl)

end Go.Proofs.Ytoogobenjhmjjaa
