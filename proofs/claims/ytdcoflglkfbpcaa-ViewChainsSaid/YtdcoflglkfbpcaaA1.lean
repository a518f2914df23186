/-
  Which rules of chapter 30 a view breaks, plainly; sizes of objects.
-/
import Derived.Test.YtdcoflglkfbpcaaVr2
import Derived.Test.YtdcoflglkfbpcaaVwD4
set_option linter.unusedVariables false
set_option linter.unusedSimpArgs false
set_option maxRecDepth 100000
namespace Go.Proofs
open Go.Sl

/-- A proposition as a truth value. -/
noncomputable def cb (p : Prop) : Bool := @decide p (Classical.propDecidable p)
theorem cb_t {p : Prop} (h : p) : cb p = true := by unfold cb; exact @decide_eq_true p (Classical.propDecidable p) h
theorem cb_f {p : Prop} (h : ¬ p) : cb p = false := by unfold cb; exact @decide_eq_false p (Classical.propDecidable p) h
theorem cb_of {p : Prop} {b : Bool} (h : b = true ↔ p) : b = cb p := by
  cases b with
  | true => exact (cb_t (h.1 rfl)).symm
  | false => exact (cb_f fun q => by have := h.2 q; cases this).symm

def szO (o : Ob) : Int := szS (ofS o.slots.length)

def B1 (w : VW) : Prop := ∃ x, Rch w x ∧ w.at x = none
def badO (w : VW) (i : Nat) (o : Ob) : Prop := o.addr < 64 ∨ szO o = 0 ∨ (0 < i ∧ ∃ p, w.objs[i - 1]? = some p ∧ (o.addr ≤ p.addr ∨ o.addr - p.addr < szO p))
def B2 (w : VW) : Prop := ∃ (i : Nat) (o : Ob), w.objs[i]? = some o ∧ badO w i o
def B3 (w : VW) : Prop := ∃ (i k : Nat) (a b : Gr), k < i ∧ w.gs[i]? = some a ∧ w.gs[k]? = some b ∧ a.st = 2 ∧ b.st = 2 ∧ a.p = b.p
def okG (ps : Int) (r : Gr) : Prop := (r.st = 2 ∧ 0 ≤ r.p ∧ r.p < ps) ∨ (r.st = 1 ∧ -1 ≤ r.p ∧ r.p < ps) ∨ (r.st ≠ 2 ∧ r.st ≠ 1 ∧ r.p = -1)
def B4 (w : VW) (ps : Int) : Prop := ∃ (i : Nat) (r : Gr), w.gs[i]? = some r ∧ ¬ okG ps r
def B5 (w : VW) : Prop := w.grey < 0 ∨ w.notes < 0 ∨ w.roots < 0 ∨ (w.phase ≠ 1 ∧ (w.grey ≠ 0 ∨ w.notes ≠ 0 ∨ w.roots ≠ 0))
def B6 (w : VW) : Prop := w.phase = 2 ∧ ∃ x, Rch w x ∧ ∃ k o, w.at x = some k ∧ w.objs[k]? = some o ∧ o.marked = false
def B7 (w : VW) : Prop := (∃ (i : Nat) (r : Gr), w.gs[i]? = some r ∧ r.stack.length ≠ 16) ∨ w.phase < 0 ∨ 3 < w.phase ∨ w.cycle < 0 ∨ w.clock < 0
def B8 (w : VW) : Prop := w.phase = 0 ∧ ∃ (i : Nat) (o : Ob), w.objs[i]? = some o ∧ o.marked = true

theorem ob_val (o : Ob) : (Value.agg #[.int .i64 o.addr, o.sv, .bool o.marked]) = .agg #[.int .i64 o.addr, o.sv, .bool o.marked] := rfl

theorem use_asize {o : Ob} {g : Hp} {F : Asrt} {K : Value → Hp → Prop} {h : Hp} (hs : IntsAt g o.sv o.slots) (hh : (F * tt) h)
    (hK : ∀ h', (F * tt) h' → K (.int .i64 (szO o)) h') : CallH Try.prog 86 #[.agg #[.int .i64 o.addr, o.sv, .bool o.marked]] K h := by
  refine C86 ?_
  unfold D86
  refine vA_new (o := .cells #[.int .i64 o.addr, o.sv, .bool o.marked] 30 (0, 0)) hh fun r1 h1 hh1 => ?_
  have l1 : ld1 (.pointer (some ⟨r1, 0 + 1, none⟩)) h1 = some o.sv := ld1_mk (pt_get hh1) rfl
  repeat (with_reducible first | refine vP_so ?_ | refine vB_t ?_ | refine vB_f ?_ | refine vE_tt ?_ | refine vE_ff ?_ | refine vE_tf ?_ | refine vE_ft ?_ | refine vE_u ?_ | refine vP_to (by simp (disch := omega) only [gdW_true, gdW_false, gB_true, gB_false, gB_undef, pickV_true, pickV_false, Bool.not_true, Bool.not_false, Option.map_some, bin_add, bin_sub, bin_mul, bin_quo, bin_rem, lss_t, lss_f, leq_t, leq_f, gtr_t, gtr_f, geq_t, geq_f, eqi_t, eqi_f, nei_t, nei_f, rem_uw, conv_ui, conv_iu, conv_ii, not_bool, nil_ptr, fa_mk, ptrV, len_mk, cap_mk, eq_ptr_nil, ne_ptr_nil, eq_nil_nil, ne_nil_nil, eq_slice_nil, eq_nil_slice, ia_1, l1, hs.len]; exact so_so) ?_)
  refine use_of (F := F) (dropL hh1) fun h2 hh2 => ?_
  by_cases hk : 0 ≤ ofS o.slots.length
  · repeat (with_reducible first | refine vP_so ?_ | refine vB_t ?_ | refine vB_f ?_ | refine vE_tt ?_ | refine vE_ff ?_ | refine vE_tf ?_ | refine vE_ft ?_ | refine vE_u ?_ | refine vP_to (by simp (disch := omega) only [gdW_true, gdW_false, gB_true, gB_false, gB_undef, pickV_true, pickV_false, Bool.not_true, Bool.not_false, Option.map_some, bin_add, bin_sub, bin_mul, bin_quo, bin_rem, lss_t, lss_f, leq_t, leq_f, gtr_t, gtr_f, geq_t, geq_f, eqi_t, eqi_f, nei_t, nei_f, rem_uw, conv_ui, conv_iu, conv_ii, not_bool, nil_ptr, fa_mk, ptrV, len_mk, cap_mk, eq_ptr_nil, ne_ptr_nil, eq_nil_nil, ne_nil_nil, eq_slice_nil, eq_nil_slice, ia_1]; exact so_so) ?_)
    exact use_size hh2 fun h3 hh3 => hK h3 hh3
  · repeat (with_reducible first | refine vP_so ?_ | refine vB_t ?_ | refine vB_f ?_ | refine vE_tt ?_ | refine vE_ff ?_ | refine vE_tf ?_ | refine vE_ft ?_ | refine vE_u ?_ | refine vP_to (by simp (disch := omega) only [gdW_true, gdW_false, gB_true, gB_false, gB_undef, pickV_true, pickV_false, Bool.not_true, Bool.not_false, Option.map_some, bin_add, bin_sub, bin_mul, bin_quo, bin_rem, lss_t, lss_f, leq_t, leq_f, gtr_t, gtr_f, geq_t, geq_f, eqi_t, eqi_f, nei_t, nei_f, rem_uw, conv_ui, conv_iu, conv_ii, not_bool, nil_ptr, fa_mk, ptrV, len_mk, cap_mk, eq_ptr_nil, ne_ptr_nil, eq_nil_nil, ne_nil_nil, eq_slice_nil, eq_nil_slice, ia_1]; exact so_so) ?_)
    have : szO o = 0 := by unfold szO; exact szS_out (by omega)
    rw [this] at hK
    exact hK h2 hh2

theorem use_rsizeO {o : Ob} {g : Hp} {F : Asrt} {K : Value → Hp → Prop} {h : Hp} (hs : IntsAt g o.sv o.slots) (hh : (F * tt) h)
    (hK : ∀ h', (F * tt) h' → K (.int .i64 (szO o)) h') : CallH Try.prog 61 #[.agg #[.int .i64 o.addr, o.sv, .bool o.marked]] K h := by
  refine C61 ?_
  unfold D61
  refine vA_new (o := .cells #[.int .i64 o.addr, o.sv, .bool o.marked] 30 (0, 0)) hh fun r1 h1 hh1 => ?_
  have l1 : ld1 (.pointer (some ⟨r1, 0 + 1, none⟩)) h1 = some o.sv := ld1_mk (pt_get hh1) rfl
  repeat (with_reducible first | refine vP_so ?_ | refine vB_t ?_ | refine vB_f ?_ | refine vE_tt ?_ | refine vE_ff ?_ | refine vE_tf ?_ | refine vE_ft ?_ | refine vE_u ?_ | refine vP_to (by simp (disch := omega) only [gdW_true, gdW_false, gB_true, gB_false, gB_undef, pickV_true, pickV_false, Bool.not_true, Bool.not_false, Option.map_some, bin_add, bin_sub, bin_mul, bin_quo, bin_rem, lss_t, lss_f, leq_t, leq_f, gtr_t, gtr_f, geq_t, geq_f, eqi_t, eqi_f, nei_t, nei_f, rem_uw, conv_ui, conv_iu, conv_ii, not_bool, nil_ptr, fa_mk, ptrV, len_mk, cap_mk, eq_ptr_nil, ne_ptr_nil, eq_nil_nil, ne_nil_nil, eq_slice_nil, eq_nil_slice, ia_1, l1, hs.len]; exact so_so) ?_)
  refine use_rof (F := F) (dropL hh1) fun h2 hh2 => ?_
  exact use_rsize hh2 fun h3 hh3 => hK h3 hh3

theorem use_index {sv : Value} {xs : List Int} {x : Int} {K : Value → Hp → Prop} {h : Hp} (hx : IntsAt h sv xs) (hK : ∀ i : Int, (0 ≤ i ↔ x ∈ xs) → K (.int .i64 i) h) : CallH Try.prog 70 #[sv, .int .i64 x] K h := by
  refine C70 ?_
  unfold D70
  have h1 := hx.lt
  repeat (with_reducible first | refine vP_so ?_ | refine vB_t ?_ | refine vB_f ?_ | refine vE_tt ?_ | refine vE_ff ?_ | refine vE_tf ?_ | refine vE_ft ?_ | refine vE_u ?_ | refine vP_to (by simp (disch := omega) only [gdW_true, gdW_false, gB_true, gB_false, gB_undef, pickV_true, pickV_false, Bool.not_true, Bool.not_false, Option.map_some, bin_add, bin_sub, bin_mul, bin_quo, bin_rem, lss_t, lss_f, leq_t, leq_f, gtr_t, gtr_f, geq_t, geq_f, eqi_t, eqi_f, nei_t, nei_f, rem_uw, conv_ui, conv_iu, conv_ii, not_bool, nil_ptr, fa_mk, ptrV, len_mk, cap_mk, eq_ptr_nil, ne_ptr_nil, eq_nil_nil, ne_nil_nil, eq_slice_nil, eq_nil_slice, ia_1, hx.len]; exact so_so) ?_)
  refine ⟨fun m zs h' => ∃ i : Nat, zs = [.int .i64 i] ∧ m = xs.length - i ∧ i ≤ xs.length ∧ x ∉ xs.take i ∧ h' = h, ⟨_, 0, rfl, rfl, by omega, by simp, rfl⟩, ?_⟩
  rintro m v5 h3 ⟨i, hzs, rfl, hi, ht, rfl⟩ _
  obtain rfl : v5 = .int .i64 i := by simpa using hzs
  by_cases hil : i < xs.length
  · obtain ⟨p, f1, f2⟩ := hx.get i xs[i] .i64 (List.getElem?_eq_getElem hil)
    have hmem : xs[i] ∈ xs := List.getElem_mem hil
    have h4 : x ∉ xs.take (i + 1) ↔ x ≠ xs[i] := by
      rw [List.take_succ_eq_append_getElem hil, List.mem_append, List.mem_singleton]
      exact ⟨fun q e => q (.inr e), fun q r => r.elim ht q⟩
    generalize xs[i] = y at *
    by_cases hxy : x = y
    · repeat (with_reducible first | refine vP_so ?_ | refine vB_t ?_ | refine vB_f ?_ | refine vE_tt ?_ | refine vE_ff ?_ | refine vE_tf ?_ | refine vE_ft ?_ | refine vE_u ?_ | refine vP_to (by simp (disch := omega) only [gdW_true, gdW_false, gB_true, gB_false, gB_undef, pickV_true, pickV_false, Bool.not_true, Bool.not_false, Option.map_some, bin_add, bin_sub, bin_mul, bin_quo, bin_rem, lss_t, lss_f, leq_t, leq_f, gtr_t, gtr_f, geq_t, geq_f, eqi_t, eqi_f, nei_t, nei_f, rem_uw, conv_ui, conv_iu, conv_ii, not_bool, nil_ptr, fa_mk, ptrV, len_mk, cap_mk, eq_ptr_nil, ne_ptr_nil, eq_nil_nil, ne_nil_nil, eq_slice_nil, eq_nil_slice, ia_1, f1, f2]; exact so_so) ?_)
      exact hK i ⟨fun _ => hxy ▸ hmem, fun _ => by omega⟩
    · repeat (with_reducible first | refine vP_so ?_ | refine vB_t ?_ | refine vB_f ?_ | refine vE_tt ?_ | refine vE_ff ?_ | refine vE_tf ?_ | refine vE_ft ?_ | refine vE_u ?_ | refine vP_to (by simp (disch := omega) only [gdW_true, gdW_false, gB_true, gB_false, gB_undef, pickV_true, pickV_false, Bool.not_true, Bool.not_false, Option.map_some, bin_add, bin_sub, bin_mul, bin_quo, bin_rem, lss_t, lss_f, leq_t, leq_f, gtr_t, gtr_f, geq_t, geq_f, eqi_t, eqi_f, nei_t, nei_f, rem_uw, conv_ui, conv_iu, conv_ii, not_bool, nil_ptr, fa_mk, ptrV, len_mk, cap_mk, eq_ptr_nil, ne_ptr_nil, eq_nil_nil, ne_nil_nil, eq_slice_nil, eq_nil_slice, ia_1, f1, f2]; exact so_so) ?_)
      exact ⟨xs.length - (i + 1), by omega, i + 1, by simp, rfl, by omega, h4.2 hxy, rfl⟩
  · repeat (with_reducible first | refine vP_so ?_ | refine vB_t ?_ | refine vB_f ?_ | refine vE_tt ?_ | refine vE_ff ?_ | refine vE_tf ?_ | refine vE_ft ?_ | refine vE_u ?_ | refine vP_to (by simp (disch := omega) only [gdW_true, gdW_false, gB_true, gB_false, gB_undef, pickV_true, pickV_false, Bool.not_true, Bool.not_false, Option.map_some, bin_add, bin_sub, bin_mul, bin_quo, bin_rem, lss_t, lss_f, leq_t, leq_f, gtr_t, gtr_f, geq_t, geq_f, eqi_t, eqi_f, nei_t, nei_f, rem_uw, conv_ui, conv_iu, conv_ii, not_bool, nil_ptr, fa_mk, ptrV, len_mk, cap_mk, eq_ptr_nil, ne_ptr_nil, eq_nil_nil, ne_nil_nil, eq_slice_nil, eq_nil_slice, ia_1]; exact so_so) ?_)
    obtain rfl : i = xs.length := by omega
    rw [List.take_length] at ht
    exact hK (-1) ⟨fun q => by omega, fun q => (ht q).elim⟩

theorem use_contains {sv : Value} {xs : List Int} {x : Int} {K : Value → Hp → Prop} {h : Hp} (hx : IntsAt h sv xs) (hK : K (.bool (decide (x ∈ xs))) h) : CallH Try.prog 44 #[sv, .int .i64 x] K h := by
  refine C44 ?_
  unfold D44
  refine use_index hx fun i hi => ?_
  by_cases hin : x ∈ xs
  · rw [decide_eq_true hin] at hK
    have := hi.2 hin
    repeat (with_reducible first | refine vP_so ?_ | refine vB_t ?_ | refine vB_f ?_ | refine vE_tt ?_ | refine vE_ff ?_ | refine vE_tf ?_ | refine vE_ft ?_ | refine vE_u ?_ | refine vP_to (by simp (disch := omega) only [gdW_true, gdW_false, gB_true, gB_false, gB_undef, pickV_true, pickV_false, Bool.not_true, Bool.not_false, Option.map_some, bin_add, bin_sub, bin_mul, bin_quo, bin_rem, lss_t, lss_f, leq_t, leq_f, gtr_t, gtr_f, geq_t, geq_f, eqi_t, eqi_f, nei_t, nei_f, rem_uw, conv_ui, conv_iu, conv_ii, not_bool, nil_ptr, fa_mk, ptrV, len_mk, cap_mk, eq_ptr_nil, ne_ptr_nil, eq_nil_nil, ne_nil_nil, eq_slice_nil, eq_nil_slice, ia_1]; exact so_so) ?_)
    exact hK
  · rw [decide_eq_false hin] at hK
    have : ¬ 0 ≤ i := fun q => hin (hi.1 q)
    repeat (with_reducible first | refine vP_so ?_ | refine vB_t ?_ | refine vB_f ?_ | refine vE_tt ?_ | refine vE_ff ?_ | refine vE_tf ?_ | refine vE_ft ?_ | refine vE_u ?_ | refine vP_to (by simp (disch := omega) only [gdW_true, gdW_false, gB_true, gB_false, gB_undef, pickV_true, pickV_false, Bool.not_true, Bool.not_false, Option.map_some, bin_add, bin_sub, bin_mul, bin_quo, bin_rem, lss_t, lss_f, leq_t, leq_f, gtr_t, gtr_f, geq_t, geq_f, eqi_t, eqi_f, nei_t, nei_f, rem_uw, conv_ui, conv_iu, conv_ii, not_bool, nil_ptr, fa_mk, ptrV, len_mk, cap_mk, eq_ptr_nil, ne_ptr_nil, eq_nil_nil, ne_nil_nil, eq_slice_nil, eq_nil_slice, ia_1]; exact so_so) ?_)
    exact hK

theorem use_idxf {g : Hp} {w : VW} {p : Ob → Bool} {fv : Value} {F : Asrt} {K : Value → Hp → Prop} {h : Hp} (hv : VAt g w) (hh : (own g * (F * tt)) h)
    (hf : ∀ o ∈ w.objs, ∀ (h : Hp) (K : Value → Hp → Prop), (own g * (F * tt)) h → (∀ h', (own g * (F * tt)) h' → K (.bool (p o)) h') → cvW Try.prog fv #[.agg #[.int .i64 o.addr, o.sv, .bool o.marked]] K h)
    (hK : ∀ h', (own g * (F * tt)) h' → K (.int .i64 (match w.objs.findIdx? p with | some i => (i : Int) | none => -1)) h') : CallH Try.prog 48 #[w.ov, fv] K h := by
  refine C48 ?_
  unfold D48
  have hol := hv.objs_len
  repeat (with_reducible first | refine vP_so ?_ | refine vB_t ?_ | refine vB_f ?_ | refine vE_tt ?_ | refine vE_ff ?_ | refine vE_tf ?_ | refine vE_ft ?_ | refine vE_u ?_ | refine vP_to (by simp (disch := omega) only [gdW_true, gdW_false, gB_true, gB_false, gB_undef, pickV_true, pickV_false, Bool.not_true, Bool.not_false, Option.map_some, bin_add, bin_sub, bin_mul, bin_quo, bin_rem, lss_t, lss_f, leq_t, leq_f, gtr_t, gtr_f, geq_t, geq_f, eqi_t, eqi_f, nei_t, nei_f, rem_uw, conv_ui, conv_iu, conv_ii, not_bool, nil_ptr, fa_mk, ptrV, len_mk, cap_mk, eq_ptr_nil, ne_ptr_nil, eq_nil_nil, ne_nil_nil, eq_slice_nil, eq_nil_slice, ia_1, hol.1]; exact so_so) ?_)
  refine ⟨fun m zs h' => ∃ i : Nat, zs = [.int .i64 i] ∧ m = w.objs.length - i ∧ i ≤ w.objs.length ∧ (∀ (j : Nat) o, j < i → w.objs[j]? = some o → p o = false) ∧ (own g * (F * tt)) h', ⟨_, 0, rfl, rfl, by omega, fun j o hj => by omega, hh⟩, ?_⟩
  rintro m v5 h3 ⟨i, hzs, rfl, hi, hno, hh3⟩ _
  obtain rfl : v5 = .int .i64 i := by simpa using hzs
  by_cases hil : i < w.objs.length
  · have hw := own_vat hh3 hv
    have hoi : w.objs[i]? = some w.objs[i] := List.getElem?_eq_getElem hil
    obtain ⟨b, q, e1, _, _, _, e5⟩ := hw.obj hoi .i64
    have hmem := List.getElem_mem hil
    generalize w.objs[i] = o at *
    repeat (with_reducible first | refine vP_so ?_ | refine vB_t ?_ | refine vB_f ?_ | refine vE_tt ?_ | refine vE_ff ?_ | refine vE_tf ?_ | refine vE_ft ?_ | refine vE_u ?_ | refine vP_to (by simp (disch := omega) only [gdW_true, gdW_false, gB_true, gB_false, gB_undef, pickV_true, pickV_false, Bool.not_true, Bool.not_false, Option.map_some, bin_add, bin_sub, bin_mul, bin_quo, bin_rem, lss_t, lss_f, leq_t, leq_f, gtr_t, gtr_f, geq_t, geq_f, eqi_t, eqi_f, nei_t, nei_f, rem_uw, conv_ui, conv_iu, conv_ii, not_bool, nil_ptr, fa_mk, ptrV, len_mk, cap_mk, eq_ptr_nil, ne_ptr_nil, eq_nil_nil, ne_nil_nil, eq_slice_nil, eq_nil_slice, ia_1, e1, e5]; exact so_so) ?_)
    refine hf o hmem h3 _ hh3 fun h4 hh4 => ?_
    cases hp : p o with
    | true =>
      repeat (with_reducible first | refine vP_so ?_ | refine vB_t ?_ | refine vB_f ?_ | refine vE_tt ?_ | refine vE_ff ?_ | refine vE_tf ?_ | refine vE_ft ?_ | refine vE_u ?_ | refine vP_to (by simp (disch := omega) only [gdW_true, gdW_false, gB_true, gB_false, gB_undef, pickV_true, pickV_false, Bool.not_true, Bool.not_false, Option.map_some, bin_add, bin_sub, bin_mul, bin_quo, bin_rem, lss_t, lss_f, leq_t, leq_f, gtr_t, gtr_f, geq_t, geq_f, eqi_t, eqi_f, nei_t, nei_f, rem_uw, conv_ui, conv_iu, conv_ii, not_bool, nil_ptr, fa_mk, ptrV, len_mk, cap_mk, eq_ptr_nil, ne_ptr_nil, eq_nil_nil, ne_nil_nil, eq_slice_nil, eq_nil_slice, ia_1]; exact so_so) ?_)
      have : w.objs.findIdx? p = some i := by
        rw [List.findIdx?_eq_some_iff_getElem]
        obtain ⟨hlt, he⟩ := List.getElem?_eq_some_iff.1 hoi
        refine ⟨hlt, by rw [he]; exact hp, fun j hj => ?_⟩
        have := hno j w.objs[j] hj (List.getElem?_eq_getElem (by omega))
        simp [this]
      rw [this] at hK
      exact hK h4 hh4
    | false =>
      repeat (with_reducible first | refine vP_so ?_ | refine vB_t ?_ | refine vB_f ?_ | refine vE_tt ?_ | refine vE_ff ?_ | refine vE_tf ?_ | refine vE_ft ?_ | refine vE_u ?_ | refine vP_to (by simp (disch := omega) only [gdW_true, gdW_false, gB_true, gB_false, gB_undef, pickV_true, pickV_false, Bool.not_true, Bool.not_false, Option.map_some, bin_add, bin_sub, bin_mul, bin_quo, bin_rem, lss_t, lss_f, leq_t, leq_f, gtr_t, gtr_f, geq_t, geq_f, eqi_t, eqi_f, nei_t, nei_f, rem_uw, conv_ui, conv_iu, conv_ii, not_bool, nil_ptr, fa_mk, ptrV, len_mk, cap_mk, eq_ptr_nil, ne_ptr_nil, eq_nil_nil, ne_nil_nil, eq_slice_nil, eq_nil_slice, ia_1]; exact so_so) ?_)
      refine ⟨w.objs.length - (i + 1), by omega, i + 1, by simp, rfl, by omega, fun j o' hj ho' => ?_, hh4⟩
      by_cases hji : j = i
      · subst hji
        obtain rfl : o = o' := Option.some.inj (hoi.symm.trans ho')
        exact hp
      · exact hno j o' (by omega) ho'
  · obtain rfl : i = w.objs.length := by omega
    repeat (with_reducible first | refine vP_so ?_ | refine vB_t ?_ | refine vB_f ?_ | refine vE_tt ?_ | refine vE_ff ?_ | refine vE_tf ?_ | refine vE_ft ?_ | refine vE_u ?_ | refine vP_to (by simp (disch := omega) only [gdW_true, gdW_false, gB_true, gB_false, gB_undef, pickV_true, pickV_false, Bool.not_true, Bool.not_false, Option.map_some, bin_add, bin_sub, bin_mul, bin_quo, bin_rem, lss_t, lss_f, leq_t, leq_f, gtr_t, gtr_f, geq_t, geq_f, eqi_t, eqi_f, nei_t, nei_f, rem_uw, conv_ui, conv_iu, conv_ii, not_bool, nil_ptr, fa_mk, ptrV, len_mk, cap_mk, eq_ptr_nil, ne_ptr_nil, eq_nil_nil, ne_nil_nil, eq_slice_nil, eq_nil_slice, ia_1]; exact so_so) ?_)
    have : w.objs.findIdx? p = none := by
      rw [List.findIdx?_eq_none_iff]
      intro o ho
      obtain ⟨j, hj, e⟩ := List.getElem_of_mem ho
      exact hno j o hj (by rw [List.getElem?_eq_getElem hj, e])
    rw [this] at hK
    exact hK h3 hh3

end Go.Proofs
