/-
  Memory that is only read; numbers turned.
-/
import Derived.Test.YtdcoflglkfbpcaaV12
set_option linter.unusedVariables false
set_option linter.unusedSimpArgs false
namespace Go.Sl

/-- This memory, as it stands. -/
def own (g : Hp) : Asrt := fun h => h = g

theorem own_cell {g : Hp} {F : Asrt} {h : Hp} {a : Addr} {v : Value} (hh : (own g * F) h) (hg : g.cell a = some v) : h.cell a = some v := by
  obtain ⟨x, y, d, rfl, rfl, _⟩ := hh
  exact Hp.cell_add hg

theorem own_ld1 {g : Hp} {F : Asrt} {h : Hp} {p v : Value} (hh : (own g * F) h) (hg : ld1 p g = some v) : ld1 p h = some v := by
  obtain ⟨x, y, d, rfl, rfl, _⟩ := hh
  exact ld1_mono _ _ _ _ hg

/-- A slice of numbers in memory that is only read. -/
structure IntsAt (g : Hp) (sv : Value) (xs : List Int) : Prop where
  len : lenV sv = some (.int .i64 xs.length)
  lt : xs.length < 9223372036854775808
  get : ∀ (j : Nat) (x : Int) (k : IntKind), xs[j]? = some x → ∃ p, iaS 1 sv (.int k (j : Int)) = some p ∧ ld1 p g = some (.int .i64 x)

theorem eq_refl_int (k : IntKind) (a : Int) : eqV 1 false (.int k a) (.int k a) = some (.bool true) := by rw [eq_int, decide_eq_true rfl]
theorem ne_refl_int (k : IntKind) (a : Int) : eqV 1 true (.int k a) (.int k a) = some (.bool false) := by rw [ne_int, decide_eq_false (fun h => h rfl)]

theorem bin_rem_u {a b : Int} (ha : 0 ≤ a) (hb : 1 ≤ b) : binV .rem (.int .u64 a) (.int .u64 b) = some (.int .u64 (a % b)) := by
  show (if b = 0 then none else some (Value.int .u64 (a.tmod b))) = _
  rw [if_neg (by omega), Int.tmod_eq_emod_of_nonneg ha]

/-- A number taken as one without sign. -/
theorem conv_u (k : IntKind) (x : Int) : convV .u64 (.int k x) = some (.int .u64 (IntKind.u64.wrap x)) := rfl
theorem wrap_u (x : Int) : IntKind.u64.wrap x = x % 18446744073709551616 := by simp [IntKind.wrap, IntKind.bits, IntKind.signed]
theorem wrap_u_nonneg (x : Int) : 0 ≤ IntKind.u64.wrap x ∧ IntKind.u64.wrap x < 18446744073709551616 := by
  rw [wrap_u]; omega
theorem wrap_u_id {x : Int} (h : 0 ≤ x ∧ x < 18446744073709551616) : IntKind.u64.wrap x = x := by
  rw [wrap_u]; omega
theorem conv_i {k : IntKind} {x : Int} (h : -9223372036854775808 ≤ x ∧ x ≤ 9223372036854775807) : convV .i64 (.int k x) = some (.int .i64 x) := by
  show some (Value.int .i64 (IntKind.i64.wrap x)) = _
  rw [wrap_i64 h]

/-- What is left when a number, taken as one without sign, is divided. -/
def urem (x b : Int) : Int := IntKind.u64.wrap x % b
theorem urem_lt {x b : Int} (h : 1 ≤ b) : 0 ≤ urem x b ∧ urem x b < b := ⟨Int.emod_nonneg _ (by omega), Int.emod_lt_of_pos _ (by omega)⟩

end Go.Sl
