/-
  The walk's steps: each one alone, what follows is left as it stands; comparisons decided by what is known.
-/
import Derived.Test.YtdcoflglkfbpcaaV14
set_option linter.unusedVariables false
set_option linter.unusedSimpArgs false
namespace Go.Sl

theorem vP_to {a : Option Value} {x : Value} {K : Value → Prop} (e : a = some x) (k : K x) : vP a K := by rw [e]; exact k
theorem vP_so {x : Value} {K : Value → Prop} (k : K x) : vP (some x) K := k
theorem so_so {x : Value} : some x = some x := rfl
theorem vB_t {p q : Prop} (k : p) : vB (.bool true) p q := k
theorem vB_f {p q : Prop} (k : q) : vB (.bool false) p q := k
theorem vE_t {w : Bool} {T : (Value → Hp → Prop) → Hp → Prop} {K : Value → Hp → Prop} {h : Hp} (e : w = true) (k : T K h) : vE w T K h := by subst e; exact k
theorem vE_f {w : Bool} {T : (Value → Hp → Prop) → Hp → Prop} {K : Value → Hp → Prop} {h : Hp} (e : w = false) (k : K undef h) : vE w T K h := by subst e; exact k

theorem vE_tt {T : (Value → Hp → Prop) → Hp → Prop} {K : Value → Hp → Prop} {h : Hp} (k : T K h) : vE (gB (.bool true) true) T K h := k
theorem vE_ff {T : (Value → Hp → Prop) → Hp → Prop} {K : Value → Hp → Prop} {h : Hp} (k : T K h) : vE (gB (.bool false) false) T K h := k
theorem vE_tf {T : (Value → Hp → Prop) → Hp → Prop} {K : Value → Hp → Prop} {h : Hp} (k : K undef h) : vE (gB (.bool true) false) T K h := k
theorem vE_ft {T : (Value → Hp → Prop) → Hp → Prop} {K : Value → Hp → Prop} {h : Hp} (k : K undef h) : vE (gB (.bool false) true) T K h := k
theorem vE_u {w : Bool} {T : (Value → Hp → Prop) → Hp → Prop} {K : Value → Hp → Prop} {h : Hp} (k : K undef h) : vE (gB undef w) T K h := by cases w <;> exact k

theorem lss_t {k : IntKind} {a b : Int} (h : a < b) : binV .lss (.int k a) (.int k b) = some (.bool true) := by rw [bin_lss, decide_eq_true h]
theorem lss_f {k : IntKind} {a b : Int} (h : b ≤ a) : binV .lss (.int k a) (.int k b) = some (.bool false) := by rw [bin_lss, decide_eq_false (by omega)]
theorem leq_t {k : IntKind} {a b : Int} (h : a ≤ b) : binV .leq (.int k a) (.int k b) = some (.bool true) := by rw [bin_leq, decide_eq_true h]
theorem leq_f {k : IntKind} {a b : Int} (h : b < a) : binV .leq (.int k a) (.int k b) = some (.bool false) := by rw [bin_leq, decide_eq_false (by omega)]
theorem gtr_t {k : IntKind} {a b : Int} (h : b < a) : binV .gtr (.int k a) (.int k b) = some (.bool true) := by rw [bin_gtr, decide_eq_true h]
theorem gtr_f {k : IntKind} {a b : Int} (h : a ≤ b) : binV .gtr (.int k a) (.int k b) = some (.bool false) := by rw [bin_gtr, decide_eq_false (by omega)]
theorem geq_t {k : IntKind} {a b : Int} (h : b ≤ a) : binV .geq (.int k a) (.int k b) = some (.bool true) := by rw [bin_geq, decide_eq_true h]
theorem geq_f {k : IntKind} {a b : Int} (h : a < b) : binV .geq (.int k a) (.int k b) = some (.bool false) := by rw [bin_geq, decide_eq_false (by omega)]
theorem eqi_t {k : IntKind} {a b : Int} (h : a = b) : eqV 1 false (.int k a) (.int k b) = some (.bool true) := by rw [eq_int, decide_eq_true h]
theorem eqi_f {k : IntKind} {a b : Int} (h : a ≠ b) : eqV 1 false (.int k a) (.int k b) = some (.bool false) := by rw [eq_int, decide_eq_false h]
theorem nei_t {k : IntKind} {a b : Int} (h : a ≠ b) : eqV 1 true (.int k a) (.int k b) = some (.bool true) := by rw [ne_int, decide_eq_true h]
theorem nei_f {k : IntKind} {a b : Int} (h : a = b) : eqV 1 true (.int k a) (.int k b) = some (.bool false) := by rw [ne_int, decide_eq_false (fun q => q h)]

/-- 'uint(x) % b'; a number without sign taken as one with. -/
theorem rem_uw {x b : Int} (h : 1 ≤ b) : binV .rem (.int .u64 (IntKind.u64.wrap x)) (.int .u64 b) = some (.int .u64 (urem x b)) := bin_rem_u (wrap_u_nonneg x).1 h
theorem conv_ui {x : Int} (h : 0 ≤ x ∧ x ≤ 9223372036854775807) : convV .i64 (.int .u64 x) = some (.int .i64 x) := conv_i (by omega)
theorem conv_ii {x : Int} (h : 0 ≤ x ∧ x ≤ 9223372036854775807) : convV .i64 (.int .i64 x) = some (.int .i64 x) := conv_i (by omega)
/-- A number that is not below 0. -/
theorem conv_iu {k : IntKind} {x : Int} (h : 0 ≤ x ∧ x ≤ 18446744073709551615) : convV .u64 (.int k x) = some (.int .u64 x) := by rw [conv_u, wrap_u_id (by omega)]

theorem exV_mk0 (a : Value) (l : List Value) : exV (.tuple (a :: l).toArray) 0 = some a := rfl
theorem ia_1 {b off len cap : Nat} {k : IntKind} {n : Int} (h : 0 ≤ n ∧ n < (len : Int)) {sz : Nat} : iaS sz (.slice (some ⟨b, off, none⟩) len cap) (.int k n) = some (.pointer (some ⟨b, off + n.toNat * sz, none⟩)) := ia_mk h.1 h.2

end Go.Sl
