/-
  Contracts of package view: places, Roots.
-/
import Derived.Test.YtdcoflglkfbpcaaR1
import Derived.Test.YtdcoflglkfbpcaaVwD2
import Derived.Test.YtdcoflglkfbpcaaVw0
set_option linter.unusedVariables false
set_option linter.unusedSimpArgs false
set_option maxRecDepth 100000
namespace Go.Proofs
open Go.Sl

theorem mapII : Try.prog.underlying 51 = some (.map 3 3) := Try.underlying51
theorem intU : Try.prog.underlying 3 = some (.int .i64) := Try.underlying3
theorem zInt : zOf Try.prog 3 = some (.int .i64 0) := by kernel_rfl

/-- A view's own copy: its cells. -/
theorem vw_ld {r : Nat} {w : VW} {F : Asrt} {h : Hp} {E : Nat} (hh : (pt r (.cells w.cells E (0, 0)) * F) h) :
    ld1 (.pointer (some ⟨r, 0 + 0, none⟩)) h = some (.int .i64 w.phase) ∧ ld1 (.pointer (some ⟨r, 0 + 1, none⟩)) h = some (.int .i64 w.cycle) ∧ ld1 (.pointer (some ⟨r, 0 + 2, none⟩)) h = some (.int .i64 w.clock) ∧
    ld1 (.pointer (some ⟨r, 0 + 3, none⟩)) h = some w.gv ∧ ld1 (.pointer (some ⟨r, 0 + 4, none⟩)) h = some w.sv ∧ ld1 (.pointer (some ⟨r, 0 + 5, none⟩)) h = some w.ov ∧
    ld1 (.pointer (some ⟨r, 0 + 6, none⟩)) h = some (.int .i64 w.grey) ∧ ld1 (.pointer (some ⟨r, 0 + 7, none⟩)) h = some (.int .i64 w.notes) ∧ ld1 (.pointer (some ⟨r, 0 + 8, none⟩)) h = some (.int .i64 w.roots) ∧
    ldN 9 (.pointer (some ⟨r, 0, none⟩)) h = some w.val := by
  have hb := pt_get hh
  refine ⟨ld1_mk hb rfl, ld1_mk hb rfl, ld1_mk hb rfl, ld1_mk hb rfl, ld1_mk hb rfl, ld1_mk hb rfl, ld1_mk hb rfl, ld1_mk hb rfl, ld1_mk hb rfl, ?_⟩
  rw [ldN_mk hb (by simp [VW.cells])]
  rfl

/-- The first place of each address. -/
def atM (os : List Ob) : Int → Option Value := fun x => (os.findIdx? fun o => o.addr == x).map fun (i : Nat) => Value.int .i64 (i : Int)

theorem atM_snoc (os : List Ob) (o : Ob) : atM (os ++ [o]) = (if (os.findIdx? fun q => q.addr == o.addr).isSome then atM os else fun x => if x = o.addr then some (.int .i64 os.length) else atM os x) := by
  funext x
  unfold atM
  rw [List.findIdx?_append]
  split
  · rename_i h
    cases hx : os.findIdx? (fun q => q.addr == x) with
    | some i => simp [hx]
    | none =>
      by_cases e : x = o.addr
      · subst e; rw [hx] at h; simp at h
      · have : (o.addr == x) = false := by simpa using fun q => e q.symm
        simp [hx, List.findIdx?_cons, this]
  · rename_i h
    by_cases e : x = o.addr
    · subst e
      have hx : os.findIdx? (fun q => q.addr == o.addr) = none := by simpa using h
      simp [hx, List.findIdx?_cons]
    · have : (o.addr == x) = false := by simpa using fun q => e q.symm
      cases hx : os.findIdx? (fun q => q.addr == x) <;> simp [hx, List.findIdx?_cons, this, e]

theorem use_places {g : Hp} {w : VW} {F : Asrt} {K : Value → Hp → Prop} {h : Hp} (hv : VAt g w) (hh : (own g * (F * tt)) h)
    (hK : ∀ r h', (MP r (atM w.objs) * (own g * (F * tt))) h' → K (.map (some r)) h') : CallH Try.prog 41 #[w.val] K h := by
  refine C41 ?_
  unfold D41
  have hol := hv.objs_len
  refine vA_new (o := .cells w.cells 26 (0, 0)) hh fun r1 h1 hh1 => ?_
  refine vA_new (f := fun r => .map (some r)) hh1 fun r8 h2 hh2 => ?_
  have hh2 : (MP r8 (fun _ => none) * (pt r1 (.cells w.cells 26 (0, 0)) * (own g * (F * tt)))) h2 := MP_new hh2
  have l5 := (vw_ld (r := r1) (w := w) (E := 26) (F := MP r8 (fun _ => none) * (own g * (F * tt))) (asr (by ac_rfl) hh2)).2.2.2.2.2.1
  repeat (with_reducible first | refine vP_so ?_ | refine vB_t ?_ | refine vB_f ?_ | refine vE_tt ?_ | refine vE_ff ?_ | refine vE_tf ?_ | refine vE_ft ?_ | refine vE_u ?_ | refine vP_to (by simp (disch := omega) only [gdW_true, gdW_false, gB_true, gB_false, gB_undef, pickV_true, pickV_false, Bool.not_true, Bool.not_false, Option.map_some, bin_add, bin_sub, bin_mul, bin_quo, bin_rem, lss_t, lss_f, leq_t, leq_f, gtr_t, gtr_f, geq_t, geq_f, eqi_t, eqi_f, nei_t, nei_f, rem_uw, conv_ui, conv_iu, conv_ii, not_bool, nil_ptr, fa_mk, ptrV, len_mk, cap_mk, eq_ptr_nil, ne_ptr_nil, eq_nil_nil, ne_nil_nil, eq_slice_nil, eq_nil_slice, ia_1, l5, hol.1]; exact so_so) ?_)
  refine ⟨fun m zs h' => ∃ i : Nat, zs = [.int .i64 i] ∧ m = w.objs.length - i ∧ i ≤ w.objs.length ∧ (MP r8 (atM (w.objs.take i)) * (pt r1 (.cells w.cells 26 (0, 0)) * (own g * (F * tt)))) h', ⟨_, 0, rfl, rfl, by omega, hh2⟩, ?_⟩
  rintro m v12 h3 ⟨i, hzs, rfl, hi, hh3⟩ _
  obtain rfl : v12 = .int .i64 i := by simpa using hzs
  by_cases hil : i < w.objs.length
  · have hw := own_vat (F := MP r8 (atM (w.objs.take i)) * (pt r1 (.cells w.cells 26 (0, 0)) * (F * tt))) (asr (by ac_rfl) hh3) hv
    obtain ⟨b, q, e1, _, _, _, e5⟩ := hw.obj (List.getElem?_eq_getElem hil) .i64
    have hsn := atM_snoc (w.objs.take i) w.objs[i]
    rw [← List.take_succ_eq_append_getElem hil, List.length_take, Nat.min_eq_left hi] at hsn
    have ho := List.getElem_mem hil
    generalize w.objs[i] = o at *
    repeat (with_reducible first | refine vP_so ?_ | refine vB_t ?_ | refine vB_f ?_ | refine vE_tt ?_ | refine vE_ff ?_ | refine vE_tf ?_ | refine vE_ft ?_ | refine vE_u ?_ | refine vP_to (by simp (disch := omega) only [gdW_true, gdW_false, gB_true, gB_false, gB_undef, pickV_true, pickV_false, Bool.not_true, Bool.not_false, Option.map_some, bin_add, bin_sub, bin_mul, bin_quo, bin_rem, lss_t, lss_f, leq_t, leq_f, gtr_t, gtr_f, geq_t, geq_f, eqi_t, eqi_f, nei_t, nei_f, rem_uw, conv_ui, conv_iu, conv_ii, not_bool, nil_ptr, fa_mk, ptrV, len_mk, cap_mk, eq_ptr_nil, ne_ptr_nil, eq_nil_nil, ne_nil_nil, eq_slice_nil, eq_nil_slice, ia_1, e1, e5]; exact so_so) ?_)
    intro J2 hJ2
    have hJ : ∀ h', (MP r8 (atM (w.objs.take (i + 1))) * (pt r1 (.cells w.cells 26 (0, 0)) * (own g * (F * tt)))) h' → J2 [] h' := fun h' q => by
      refine hJ2 _ fun _ => ?_
      repeat (with_reducible first | refine vP_so ?_ | refine vB_t ?_ | refine vB_f ?_ | refine vE_tt ?_ | refine vE_ff ?_ | refine vE_tf ?_ | refine vE_ft ?_ | refine vE_u ?_ | refine vP_to (by simp (disch := omega) only [gdW_true, gdW_false, gB_true, gB_false, gB_undef, pickV_true, pickV_false, Bool.not_true, Bool.not_false, Option.map_some, bin_add, bin_sub, bin_mul, bin_quo, bin_rem, lss_t, lss_f, leq_t, leq_f, gtr_t, gtr_f, geq_t, geq_f, eqi_t, eqi_f, nei_t, nei_f, rem_uw, conv_ui, conv_iu, conv_ii, not_bool, nil_ptr, fa_mk, ptrV, len_mk, cap_mk, eq_ptr_nil, ne_ptr_nil, eq_nil_nil, ne_nil_nil, eq_slice_nil, eq_nil_slice, ia_1]; exact so_so) ?_)
      exact ⟨w.objs.length - (i + 1), by omega, i + 1, rfl, rfl, by omega, q⟩
    repeat (with_reducible first | refine vP_so ?_ | refine vB_t ?_ | refine vB_f ?_ | refine vE_tt ?_ | refine vE_ff ?_ | refine vE_tf ?_ | refine vE_ft ?_ | refine vE_u ?_ | refine vP_to (by simp (disch := omega) only [gdW_true, gdW_false, gB_true, gB_false, gB_undef, pickV_true, pickV_false, Bool.not_true, Bool.not_false, Option.map_some, bin_add, bin_sub, bin_mul, bin_quo, bin_rem, lss_t, lss_f, leq_t, leq_f, gtr_t, gtr_f, geq_t, geq_f, eqi_t, eqi_f, nei_t, nei_f, rem_uw, conv_ui, conv_iu, conv_ii, not_bool, nil_ptr, fa_mk, ptrV, len_mk, cap_mk, eq_ptr_nil, ne_ptr_nil, eq_nil_nil, ne_nil_nil, eq_slice_nil, eq_nil_slice, ia_1, e1, e5]; exact so_so) ?_)
    refine vA_new hh3 fun r5 h5 hh5 => ?_
    refine stN_mk (cs := #[.int .i64 o.addr, o.sv, .bool o.marked]) hh5 (one_ob (hw.slots o ho)) rfl (by simp) fun h6 hh6 => ?_
    have hc0 : ld1 (.pointer (some ⟨r5, 0 + 0, none⟩)) h6 = some (.int .i64 o.addr) := ld1_mk (pt_get hh6) rfl
    have hm6 : (MP r8 (atM (w.objs.take i)) * (pt r5 (.cells #[.int .i64 o.addr, o.sv, .bool o.marked] 30 (0, 0)) * (pt r1 (.cells w.cells 26 (0, 0)) * (own g * (F * tt))))) h6 := asr (by ac_rfl) hh6
    obtain ⟨_, hlk⟩ := lk_MP (k := o.addr) mapII intU zInt hm6
    have drop5 : ∀ {f h}, (MP r8 f * (pt r5 (.cells #[.int .i64 o.addr, o.sv, .bool o.marked] 30 (0, 0)) * (pt r1 (.cells w.cells 26 (0, 0)) * (own g * (F * tt))))) h → (MP r8 f * (pt r1 (.cells w.cells 26 (0, 0)) * (own g * (F * tt)))) h := fun {f h} q =>
      dropL (P := pt r5 (.cells #[.int .i64 o.addr, o.sv, .bool o.marked] 30 (0, 0))) (Q := MP r8 f * (pt r1 (.cells w.cells 26 (0, 0)) * (own g * F))) (asr (by ac_rfl) q) |> asr (by ac_rfl)
    have hsome : (atM (w.objs.take i) o.addr).isSome = ((w.objs.take i).findIdx? fun q => q.addr == o.addr).isSome := by
      unfold atM
      cases (w.objs.take i).findIdx? (fun q => q.addr == o.addr) <;> rfl
    have x0 : ∀ a b : Value, exV (.tuple #[a, b]) 0 = some a := fun _ _ => rfl
    have x1 : ∀ a b : Value, exV (.tuple #[a, b]) 1 = some b := fun _ _ => rfl
    rw [hsome] at hlk
    by_cases hf : ((w.objs.take i).findIdx? fun q => q.addr == o.addr).isSome = true
    · rw [if_pos hf] at hsn
      rw [hf] at hlk
      repeat (with_reducible first | refine vP_so ?_ | refine vB_t ?_ | refine vB_f ?_ | refine vE_tt ?_ | refine vE_ff ?_ | refine vE_tf ?_ | refine vE_ft ?_ | refine vE_u ?_ | refine vP_to (by simp (disch := omega) only [gdW_true, gdW_false, gB_true, gB_false, gB_undef, pickV_true, pickV_false, Bool.not_true, Bool.not_false, Option.map_some, bin_add, bin_sub, bin_mul, bin_quo, bin_rem, lss_t, lss_f, leq_t, leq_f, gtr_t, gtr_f, geq_t, geq_f, eqi_t, eqi_f, nei_t, nei_f, rem_uw, conv_ui, conv_iu, conv_ii, not_bool, nil_ptr, fa_mk, ptrV, len_mk, cap_mk, eq_ptr_nil, ne_ptr_nil, eq_nil_nil, ne_nil_nil, eq_slice_nil, eq_nil_slice, ia_1, hc0, hlk, x0, x1]; exact so_so) ?_)
      rw [← hsn] at hm6
      exact hJ h6 (drop5 hm6)
    · rw [if_neg hf] at hsn
      rw [Bool.not_eq_true] at hf
      rw [hf] at hlk
      repeat (with_reducible first | refine vP_so ?_ | refine vB_t ?_ | refine vB_f ?_ | refine vE_tt ?_ | refine vE_ff ?_ | refine vE_tf ?_ | refine vE_ft ?_ | refine vE_u ?_ | refine vP_to (by simp (disch := omega) only [gdW_true, gdW_false, gB_true, gB_false, gB_undef, pickV_true, pickV_false, Bool.not_true, Bool.not_false, Option.map_some, bin_add, bin_sub, bin_mul, bin_quo, bin_rem, lss_t, lss_f, leq_t, leq_f, gtr_t, gtr_f, geq_t, geq_f, eqi_t, eqi_f, nei_t, nei_f, rem_uw, conv_ui, conv_iu, conv_ii, not_bool, nil_ptr, fa_mk, ptrV, len_mk, cap_mk, eq_ptr_nil, ne_ptr_nil, eq_nil_nil, ne_nil_nil, eq_slice_nil, eq_nil_slice, ia_1, hc0, hlk, x0, x1]; exact so_so) ?_)
      refine mu_MP mapII intU hm6 fun h7 hh7 => ?_
      rw [← hsn] at hh7
      exact hJ h7 (drop5 hh7)
  · repeat (with_reducible first | refine vP_so ?_ | refine vB_t ?_ | refine vB_f ?_ | refine vE_tt ?_ | refine vE_ff ?_ | refine vE_tf ?_ | refine vE_ft ?_ | refine vE_u ?_ | refine vP_to (by simp (disch := omega) only [gdW_true, gdW_false, gB_true, gB_false, gB_undef, pickV_true, pickV_false, Bool.not_true, Bool.not_false, Option.map_some, bin_add, bin_sub, bin_mul, bin_quo, bin_rem, lss_t, lss_f, leq_t, leq_f, gtr_t, gtr_f, geq_t, geq_f, eqi_t, eqi_f, nei_t, nei_f, rem_uw, conv_ui, conv_iu, conv_ii, not_bool, nil_ptr, fa_mk, ptrV, len_mk, cap_mk, eq_ptr_nil, ne_ptr_nil, eq_nil_nil, ne_nil_nil, eq_slice_nil, eq_nil_slice, ia_1]; exact so_so) ?_)
    obtain rfl : i = w.objs.length := by omega
    rw [List.take_length] at hh3
    refine hK r8 h3 (dropL (P := pt r1 (.cells w.cells 26 (0, 0))) (Q := MP r8 (atM w.objs) * (own g * F)) (asr (by ac_rfl) hh3) |> asr (by ac_rfl))

end Go.Proofs
