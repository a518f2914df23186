/-
  Assertions on owned memory, and the walk's rules.
-/
import Derived.Test.YtdcoflglkfbpcaaV5
set_option linter.unusedVariables false
set_option linter.unusedSimpArgs false
namespace Go.Sl

/-! ### Assertions -/

abbrev Asrt := Hp → Prop

theorem Asrt.ext {P Q : Asrt} (h : ∀ x, P x ↔ Q x) : P = Q := funext fun x => propext (h x)

def star (P Q : Asrt) : Asrt := fun h => ∃ h1 h2, Disj h1 h2 ∧ h = h1.add h2 ∧ P h1 ∧ Q h2

instance : Mul Asrt := ⟨star⟩

theorem star_def (P Q : Asrt) (h : Hp) : (P * Q) h ↔ ∃ h1 h2, Disj h1 h2 ∧ h = h1.add h2 ∧ P h1 ∧ Q h2 := Iff.rfl

theorem star_comm (P Q : Asrt) : P * Q = Q * P := Asrt.ext fun x => by
  simp only [star_def]
  constructor
  · rintro ⟨a, b, d, rfl, p, q⟩; exact ⟨b, a, d.symm, Hp.add_comm d, q, p⟩
  · rintro ⟨a, b, d, rfl, p, q⟩; exact ⟨b, a, d.symm, Hp.add_comm d, q, p⟩

theorem star_assoc (P Q R : Asrt) : P * Q * R = P * (Q * R) := Asrt.ext fun x => by
  simp only [star_def]
  constructor
  · rintro ⟨_, c, d, rfl, ⟨a, b, d', rfl, p, q⟩, r⟩
    obtain ⟨d1, d2⟩ := Disj.add_left.1 d
    exact ⟨a, b.add c, Disj.add_right.2 ⟨d', d1⟩, by rw [Hp.add_assoc], p, b, c, d2, rfl, q, r⟩
  · rintro ⟨a, _, d, rfl, p, b, c, d', rfl, q, r⟩
    obtain ⟨d1, d2⟩ := Disj.add_right.1 d
    exact ⟨a.add b, c, Disj.add_left.2 ⟨d2, d'⟩, by rw [Hp.add_assoc], ⟨a, b, d1, rfl, p, q⟩, r⟩

instance : Std.Commutative (α := Asrt) (· * ·) := ⟨star_comm⟩
instance : Std.Associative (α := Asrt) (· * ·) := ⟨star_assoc⟩

/-- Nothing is owned. -/
def emp : Asrt := fun h => h = Hp.emp
/-- Whatever. -/
def tt : Asrt := fun _ => True
/-- A block. -/
def pt (b : Nat) (o : Obj) : Asrt := fun h => h = Hp.emp.upd b o
/-- A plain fact. -/
def pr (p : Prop) : Asrt := fun h => p ∧ h = Hp.emp
/-- There is one. -/
def ex {α : Type} (P : α → Asrt) : Asrt := fun h => ∃ a, P a h

theorem emp_star (P : Asrt) : emp * P = P := Asrt.ext fun x => by
  simp only [star_def, emp]
  constructor
  · rintro ⟨a, b, d, rfl, rfl, p⟩; rwa [Hp.emp_add]
  · exact fun p => ⟨_, x, Disj.emp_left x, by rw [Hp.emp_add], rfl, p⟩

theorem star_emp (P : Asrt) : P * emp = P := by rw [star_comm, emp_star]

theorem pr_star {p : Prop} {P : Asrt} {h : Hp} : (pr p * P) h ↔ p ∧ P h := by
  simp only [star_def, pr]
  constructor
  · rintro ⟨a, b, d, rfl, ⟨hp, rfl⟩, q⟩; exact ⟨hp, by rwa [Hp.emp_add]⟩
  · rintro ⟨hp, q⟩; exact ⟨_, h, Disj.emp_left h, by rw [Hp.emp_add], ⟨hp, rfl⟩, q⟩

theorem star_pr {p : Prop} {P : Asrt} {h : Hp} : (P * pr p) h ↔ p ∧ P h := by rw [star_comm, pr_star]

theorem ex_star {α : Type} {P : α → Asrt} {Q : Asrt} {h : Hp} : (ex P * Q) h ↔ ∃ a, (P a * Q) h := by
  simp only [star_def, ex]
  constructor
  · rintro ⟨a, b, d, e, ⟨x, p⟩, q⟩; exact ⟨x, a, b, d, e, p, q⟩
  · rintro ⟨x, a, b, d, e, p, q⟩; exact ⟨a, b, d, e, ⟨x, p⟩, q⟩

theorem star_mono {P P' Q Q' : Asrt} {h : Hp} (hp : ∀ x, P x → P' x) (hq : ∀ x, Q x → Q' x) (hh : (P * Q) h) : (P' * Q') h := by
  obtain ⟨a, b, d, e, p, q⟩ := hh
  exact ⟨a, b, d, e, hp _ p, hq _ q⟩

theorem star_left {P P' Q : Asrt} {h : Hp} (hp : ∀ x, P x → P' x) (hh : (P * Q) h) : (P' * Q) h := star_mono hp (fun _ q => q) hh
theorem star_right {P Q Q' : Asrt} {h : Hp} (hq : ∀ x, Q x → Q' x) (hh : (P * Q) h) : (P * Q') h := star_mono (fun _ p => p) hq hh

theorem to_tt {P Q : Asrt} {h : Hp} (hh : (P * Q) h) : (P * tt) h := star_right (fun _ _ => trivial) hh
theorem tt_intro {P : Asrt} {h : Hp} (hh : P h) : (P * tt) h := to_tt (Q := emp) (by rwa [star_emp])
theorem tt_tt (P : Asrt) : P * tt * tt = P * tt := by
  rw [star_assoc]
  congr 1
  exact Asrt.ext fun x => ⟨fun _ => trivial, fun _ => ⟨x, Hp.emp, Disj.emp x, (Hp.add_emp x).symm, trivial, trivial⟩⟩

/-- Change of places: by 'ac_rfl'. -/
theorem asr {P Q : Asrt} {h : Hp} (e : P = Q) (hh : P h) : Q h := e ▸ hh

theorem pt_get {b : Nat} {o : Obj} {F : Asrt} {h : Hp} (hh : (pt b o * F) h) : h b = some o := by
  obtain ⟨a, c, d, rfl, e, q⟩ := hh
  rw [show a = Hp.emp.upd b o from e]
  exact Hp.add_of_left (Hp.upd_self _ _ _)

theorem pt_upd {b : Nat} {o o' : Obj} {F : Asrt} {h : Hp} (hh : (pt b o * F) h) : (pt b o' * F) (h.upd b o') := by
  obtain ⟨a, c, d, rfl, e, q⟩ := hh
  have e : a = Hp.emp.upd b o := e
  subst e
  refine ⟨Hp.emp.upd b o', c, ?_, ?_, rfl, q⟩
  · have := d.upd_mem (o' := o') (Hp.upd_self _ _ _)
    rwa [upd_upd] at this
  · rw [← Hp.upd_mem_add, upd_upd]

theorem pt_new {r : Nat} {o : Obj} {F : Asrt} {h : Hp} (hh : F h) (hr : h r = none) : (pt r o * F) (h.upd r o) := by
  refine ⟨Hp.emp.upd r o, h, (Disj.one o hr).symm, ?_, rfl, hh⟩
  rw [← Hp.add_one o hr, Hp.add_comm (Disj.one o hr)]

theorem pt_ne {a b : Nat} {o q : Obj} {F : Asrt} {h : Hp} (hh : (pt a o * (pt b q * F)) h) : a ≠ b := by
  rintro rfl
  obtain ⟨x, y, d, rfl, e, z, w, d', rfl, e', _⟩ := hh
  have e : x = Hp.emp.upd a o := e
  have e' : z = Hp.emp.upd a q := e'
  subst e; subst e'
  rcases d a with h | h
  · rw [Hp.upd_self] at h; cases h
  · rw [Hp.add_of_left (Hp.upd_self _ _ _)] at h; cases h

/-! ### Contracts -/

/-- Owning 'pre' it returns 'v' owning 'post v'. -/
def Tr (P : Program) (f : FuncId) (args : Array Value) (pre : Asrt) (post : Value → Asrt) : Prop :=
  ∀ h, pre h → CallH P f args (fun v h' => post v h') h

theorem CallH.drop {P : Program} {f : FuncId} {args : Array Value} {K : Value → Hp → Prop} {h : Hp}
    (hh : CallH P f args (fun v h' => ∃ h1 h2, Disj h1 h2 ∧ h' = h1.add h2 ∧ K v h1) h) : CallH P f args K h := by
  intro w fr tg d e
  refine (hh w fr tg d e).mono ?_
  rintro en w' ⟨v, h', fr', he, d', ⟨e', et⟩, g, h1, h2, d12, rfl, hk⟩
  obtain ⟨d1, d2⟩ := Disj.add_left.1 d'
  refine ⟨v, h1, h2.add fr', he, Disj.add_right.2 ⟨d12, d1⟩, ⟨by rw [e', Hp.add_assoc], et⟩, fun b o hb => ?_, hk⟩
  have := g b o hb
  rcases d2 b with x | x
  · simp [Hp.add_apply, x, this]
  · rw [this] at x; cases x

theorem Tr.of {P : Program} {f : FuncId} {args : Array Value} {pre : Asrt} {post : Value → Asrt} (hh : ∀ h, (pre * tt) h → CallH P f args (fun v h' => (post v * tt) h') h) : Tr P f args pre post :=
  fun h hp => ((hh h (tt_intro hp)).mono (fun v h' ⟨h1, h2, d, e, p, _⟩ => (⟨h1, h2, d, e, p⟩ : ∃ h1 h2, Disj h1 h2 ∧ h' = h1.add h2 ∧ post v h1))).drop

/-- At a call: what it needs, and whatever else stays. -/
theorem Tr.use {P : Program} {f : FuncId} {args : Array Value} {pre F : Asrt} {post : Value → Asrt} {K : Value → Hp → Prop} {h : Hp} (t : Tr P f args pre post) (hh : (pre * F) h)
    (hk : ∀ v h', (post v * F) h' → K v h') : CallH P f args K h := by
  obtain ⟨h1, h2, d, rfl, p, q⟩ := hh
  refine ((t h1 p).frame h2 d).mono ?_
  rintro v h' ⟨h1', d', rfl, pv⟩
  exact hk v _ ⟨h1', h2, d', rfl, pv, q⟩

theorem Tr.weaken {P : Program} {f : FuncId} {args : Array Value} {pre pre' : Asrt} {post post' : Value → Asrt} (t : Tr P f args pre post) (h1 : ∀ h, pre' h → pre h) (h2 : ∀ v h, post v h → post' v h) : Tr P f args pre' post' :=
  fun h hp => (t h (h1 h hp)).mono fun v h' => h2 v h'

theorem Tr.frame {P : Program} {f : FuncId} {args : Array Value} {pre : Asrt} {post : Value → Asrt} (t : Tr P f args pre post) (F : Asrt) : Tr P f args (pre * F) (fun v => post v * F) :=
  fun _ hp => t.use hp fun _ _ q => q

/-! ### The walk's rules -/

/-- Keeps simp from leaving the step to the kernel's own reckoning. -/
theorem nr {α : Sort _} {a b : α} (h : a = b) : a = b := h

abbrev I64 (n : Int) : Value := .int .i64 n

theorem vP_some (x : Value) (K : Value → Prop) : vP (some x) K = K x := nr rfl
theorem vB_true (p q : Prop) : vB (.bool true) p q = p := nr rfl
theorem vB_false (p q : Prop) : vB (.bool false) p q = q := nr rfl
theorem vB_dec {c : Prop} [Decidable c] (p q : Prop) : vB (.bool (decide c)) p q = if c then p else q := by
  by_cases h : c <;> simp [h, vB]
theorem vB_bool (b : Bool) (p q : Prop) : vB (.bool b) p q = if b = true then p else q := by cases b <;> rfl
theorem gdW_true (v : Option Value) : gdW true v = v := nr rfl
theorem gdW_false (v : Option Value) : gdW false v = some undef := nr rfl
theorem gB_true (b : Bool) : gB (.bool b) true = b := by cases b <;> rfl
theorem gB_false (b : Bool) : gB (.bool b) false = !b := by cases b <;> rfl
theorem vE_true (T : (Value → Hp → Prop) → Hp → Prop) (K : Value → Hp → Prop) (h : Hp) : vE true T K h = T K h := nr rfl
theorem vE_false (T : (Value → Hp → Prop) → Hp → Prop) (K : Value → Hp → Prop) (h : Hp) : vE false T K h = K undef h := nr rfl
theorem pickV_true (a b : Value) : pickV (.bool true) a b = some a := nr rfl
theorem pickV_false (a b : Value) : pickV (.bool false) a b = some b := nr rfl
theorem vA_some (o : Obj) (f : Nat → Value) (K : Value → Hp → Prop) (h : Hp) : vA (some (o, f)) K h = ∀ r, h r = none → K (f r) (h.upd r o) := nr rfl

/-- A made block, in assertions. -/
theorem vA_new {o : Obj} {f : Nat → Value} {K : Value → Hp → Prop} {h : Hp} {F : Asrt} (hF : F h) (hk : ∀ r h', (pt r o * F) h' → K (f r) h') : vA (some (o, f)) K h :=
  fun r hr => hk r _ (pt_new hF hr)

theorem wrap_i64 {n : Int} (h : -9223372036854775808 ≤ n ∧ n ≤ 9223372036854775807) : IntKind.i64.wrap n = n := by rw [IntKind.wrap_i64]; omega

theorem bin_add {a b : Int} (h : -9223372036854775808 ≤ a + b ∧ a + b ≤ 9223372036854775807) : binV .add (.int .i64 a) (.int .i64 b) = some (.int .i64 (a + b)) := by
  show some (Value.int .i64 (IntKind.i64.wrap (a + b))) = _; rw [wrap_i64 h]
theorem bin_sub {a b : Int} (h : -9223372036854775808 ≤ a - b ∧ a - b ≤ 9223372036854775807) : binV .sub (.int .i64 a) (.int .i64 b) = some (.int .i64 (a - b)) := by
  show some (Value.int .i64 (IntKind.i64.wrap (a - b))) = _; rw [wrap_i64 h]
theorem bin_mul {a b : Int} (h : -9223372036854775808 ≤ a * b ∧ a * b ≤ 9223372036854775807) : binV .mul (.int .i64 a) (.int .i64 b) = some (.int .i64 (a * b)) := by
  show some (Value.int .i64 (IntKind.i64.wrap (a * b))) = _; rw [wrap_i64 h]
theorem bin_quo {a b : Int} (ha : 0 ≤ a) (ha' : a ≤ 9223372036854775807) (hb : 1 ≤ b) : binV .quo (.int .i64 a) (.int .i64 b) = some (.int .i64 (a / b)) := by
  show (if b = 0 then none else some (Value.int .i64 (IntKind.i64.wrap (a.tdiv b)))) = _
  rw [if_neg (by omega), Int.tdiv_eq_ediv_of_nonneg ha]
  have h1 : 0 ≤ a / b := Int.ediv_nonneg ha (by omega)
  have h2 : a / b ≤ a := Int.ediv_le_self _ ha
  rw [wrap_i64 (by omega)]
theorem bin_rem {a b : Int} (ha : 0 ≤ a) (hb : 1 ≤ b) : binV .rem (.int .i64 a) (.int .i64 b) = some (.int .i64 (a % b)) := by
  show (if b = 0 then none else some (Value.int .i64 (a.tmod b))) = _
  rw [if_neg (by omega), Int.tmod_eq_emod_of_nonneg ha]
theorem bin_lss (k : IntKind) (a b : Int) : binV .lss (.int k a) (.int k b) = some (.bool (decide (a < b))) := by cases k <;> rfl
theorem bin_leq (k : IntKind) (a b : Int) : binV .leq (.int k a) (.int k b) = some (.bool (decide (a ≤ b))) := by cases k <;> rfl
theorem bin_gtr (k : IntKind) (a b : Int) : binV .gtr (.int k a) (.int k b) = some (.bool (decide (b < a))) := by cases k <;> rfl
theorem bin_geq (k : IntKind) (a b : Int) : binV .geq (.int k a) (.int k b) = some (.bool (decide (b ≤ a))) := by cases k <;> rfl

theorem eq_int (k : IntKind) (a b : Int) : eqV 1 false (.int k a) (.int k b) = some (.bool (decide (a = b))) := by
  show Option.map _ (if k = k then some (a == b) else none) = _
  rw [if_pos rfl]
  show some (Value.bool (a == b)) = _
  rw [show (a == b) = decide (a = b) from rfl]
theorem ne_int (k : IntKind) (a b : Int) : eqV 1 true (.int k a) (.int k b) = some (.bool (decide (a ≠ b))) := by
  show Option.map _ (if k = k then some (a == b) else none) = _
  rw [if_pos rfl]
  show some (Value.bool (!(a == b))) = _
  by_cases h : a = b <;> simp [h]
theorem eq_bool (a b : Bool) : eqV 2 false (.bool a) (.bool b) = some (.bool (decide (a = b))) := by cases a <;> cases b <;> rfl
theorem ne_bool (a b : Bool) : eqV 2 true (.bool a) (.bool b) = some (.bool (decide (a ≠ b))) := by cases a <;> cases b <;> rfl
theorem eq_ptr_nil (a : Addr) : eqV 4 false (.pointer (some a)) (.pointer none) = some (.bool false) := nr rfl
theorem ne_ptr_nil (a : Addr) : eqV 4 true (.pointer (some a)) (.pointer none) = some (.bool true) := nr rfl
theorem eq_nil_nil : eqV 4 false (.pointer none) (.pointer none) = some (.bool true) := nr rfl
theorem ne_nil_nil : eqV 4 true (.pointer none) (.pointer none) = some (.bool false) := nr rfl
theorem eq_slice_nil (a : Addr) (n c : Nat) : eqV 5 false (.slice (some a) n c) (.slice none 0 0) = some (.bool false) := nr rfl
theorem eq_nil_slice : eqV 5 false (.slice none 0 0) (.slice none 0 0) = some (.bool true) := nr rfl

theorem not_bool (b : Bool) : unV .not (.bool b) = some (.bool !b) := nr rfl
theorem nil_ptr (a : Addr) : nilV (.pointer (some a)) = some (.pointer (some a)) := nr rfl
theorem add_mk (b off n : Nat) : (⟨b, off, none⟩ : Addr).add n = ⟨b, off + n, none⟩ := by
  unfold Addr.add; split
  · rename_i h; subst h; rfl
  · rfl
theorem fa_mk (b off n : Nat) : faV n (.pointer (some ⟨b, off, none⟩)) = some (.pointer (some ⟨b, off + n, none⟩)) := by
  show some (Value.pointer (some (Addr.add _ n))) = _; rw [add_mk]
theorem ia_mk {sz : Nat} {b off len cap : Nat} {k : IntKind} {n : Int} (h0 : 0 ≤ n) (h1 : n < (len : Int)) : iaS sz (.slice (some ⟨b, off, none⟩) len cap) (.int k n) = some (.pointer (some ⟨b, off + n.toNat * sz, none⟩)) := by
  show (if 0 ≤ n ∧ n < (len : Int) then _ else none) = _
  rw [if_pos ⟨h0, h1⟩, add_mk]
theorem len_mk (a : Option Addr) (n c : Nat) : lenV (.slice a n c) = some (.int .i64 n) := nr rfl
theorem cap_mk (a : Option Addr) (n c : Nat) : capV (.slice a n c) = some (.int .i64 c) := nr rfl

theorem ld1_mk {b off : Nat} {h : Hp} {c : Array Value} {e : TypeId} {fz : Nat × Nat} {v : Value} (hb : h b = some (.cells c e fz)) (hc : c[off]? = some v) : ld1 (.pointer (some ⟨b, off, none⟩)) h = some v := by
  unfold ld1 Hp.cell
  simp only [hb, Option.bind_some, Obj.cellAt, Option.isSome_none, Bool.false_eq_true, if_false, hc]

theorem ldN_mk {n b off : Nat} {h : Hp} {c : Array Value} {e : TypeId} {fz : Nat × Nat} (hb : h b = some (.cells c e fz)) (hc : off + n ≤ c.size) : ldN n (.pointer (some ⟨b, off, none⟩)) h = some (.agg (c.extract off (off + n))) := by
  unfold ldN Hp.row
  simp only [hb, Option.bind_some, rowIn, Option.isNone_none, Bool.true_and, decide_eq_true hc, if_true, Option.map_some]

theorem st1_mk {b off : Nat} {c : Array Value} {e : TypeId} {v : Value} {K : Value → Hp → Prop} {h : Hp} {F : Asrt} (hF : (pt b (.cells c e (0, 0)) * F) h) (hv : one v = true) (ho : off < c.size)
    (hk : ∀ h', (pt b (.cells (c.setIfInBounds off v) e (0, 0)) * F) h' → K undef h') : st1 (.pointer (some ⟨b, off, none⟩)) v K h :=
  ⟨hv, rfl, c, e, pt_get hF, ho, hk _ (pt_upd hF)⟩

theorem stN_mk {n b off : Nat} {c : Array Value} {e : TypeId} {cs : Array Value} {K : Value → Hp → Prop} {h : Hp} {F : Asrt} (hF : (pt b (.cells c e (0, 0)) * F) h) (hv : cs.toList.all one = true) (hn : cs.size = n) (ho : off + n ≤ c.size)
    (hk : ∀ h', (pt b (.cells (putL c off cs.toList) e (0, 0)) * F) h' → K undef h') : stN n (.pointer (some ⟨b, off, none⟩)) (.agg cs) K h :=
  ⟨hn, hv, rfl, c, e, pt_get hF, ho, hk _ (pt_upd hF)⟩

end Go.Sl
