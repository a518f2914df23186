/-
  Contracts of package audit: the eight rules.
-/
import Derived.Test.YtdcoflglkfbpcaaA1
set_option linter.unusedVariables false
set_option linter.unusedSimpArgs false
set_option maxRecDepth 100000
namespace Go.Proofs
open Go.Sl

theorem use_alost {g : Hp} {w : VW} {ps : Int} {F : Asrt} {K : Value → Hp → Prop} {h : Hp} (hv : VAt g w) (hN : w.all.length ≤ 1000000) (hh : (own g * (F * tt)) h)
    (hK : ∀ h', (own g * (F * tt)) h' → K (.bool (cb (B1 w))) h') : CallH Try.prog 73 #[w.val, .int .i64 ps] K h := by
  refine C73 ?_
  unfold D73
  refine vA_new (o := .cells w.cells 26 (0, 0)) hh fun r1 h1 hh1 => ?_
  have l9 := (vw_ld (r := r1) (w := w) (E := 26) hh1).2.2.2.2.2.2.2.2.2
  repeat (with_reducible first | refine vP_so ?_ | refine vB_t ?_ | refine vB_f ?_ | refine vE_tt ?_ | refine vE_ff ?_ | refine vE_tf ?_ | refine vE_ft ?_ | refine vE_u ?_ | refine vP_to (by simp (disch := omega) only [gdW_true, gdW_false, gB_true, gB_false, gB_undef, pickV_true, pickV_false, Bool.not_true, Bool.not_false, Option.map_some, bin_add, bin_sub, bin_mul, bin_quo, bin_rem, lss_t, lss_f, leq_t, leq_f, gtr_t, gtr_f, geq_t, geq_f, eqi_t, eqi_f, nei_t, nei_f, rem_uw, conv_ui, conv_iu, conv_ii, not_bool, nil_ptr, fa_mk, ptrV, len_mk, cap_mk, eq_ptr_nil, ne_ptr_nil, eq_nil_nil, ne_nil_nil, eq_slice_nil, eq_nil_slice, ia_1, l9]; exact so_so) ?_)
  refine use_lost (F := pt r1 (.cells w.cells 26 (0, 0)) * F) hv hN (asr (by ac_rfl) hh1) fun v l h2 hL hl hh2 => ?_
  have hlen := SG_len iE hh2
  have hh2 : (own g * (F * tt)) h2 := dropL (P := SG iE 3 v l * pt r1 (.cells w.cells 26 (0, 0))) (Q := own g * F) (asr (by ac_rfl) hh2) |> asr (by ac_rfl)
  by_cases h0 : 0 < l.length
  · have hb : B1 w := ⟨l[0], (hL.2 _).1 (List.getElem_mem h0)⟩
    rw [cb_t hb] at hK
    repeat (with_reducible first | refine vP_so ?_ | refine vB_t ?_ | refine vB_f ?_ | refine vE_tt ?_ | refine vE_ff ?_ | refine vE_tf ?_ | refine vE_ft ?_ | refine vE_u ?_ | refine vP_to (by simp (disch := omega) only [gdW_true, gdW_false, gB_true, gB_false, gB_undef, pickV_true, pickV_false, Bool.not_true, Bool.not_false, Option.map_some, bin_add, bin_sub, bin_mul, bin_quo, bin_rem, lss_t, lss_f, leq_t, leq_f, gtr_t, gtr_f, geq_t, geq_f, eqi_t, eqi_f, nei_t, nei_f, rem_uw, conv_ui, conv_iu, conv_ii, not_bool, nil_ptr, fa_mk, ptrV, len_mk, cap_mk, eq_ptr_nil, ne_ptr_nil, eq_nil_nil, ne_nil_nil, eq_slice_nil, eq_nil_slice, ia_1, hlen]; exact so_so) ?_)
    exact hK h2 hh2
  · have hb : ¬ B1 w := fun ⟨x, hx⟩ => by
      have := List.length_pos_of_mem ((hL.2 x).2 hx); omega
    rw [cb_f hb] at hK
    repeat (with_reducible first | refine vP_so ?_ | refine vB_t ?_ | refine vB_f ?_ | refine vE_tt ?_ | refine vE_ff ?_ | refine vE_tf ?_ | refine vE_ft ?_ | refine vE_u ?_ | refine vP_to (by simp (disch := omega) only [gdW_true, gdW_false, gB_true, gB_false, gB_undef, pickV_true, pickV_false, Bool.not_true, Bool.not_false, Option.map_some, bin_add, bin_sub, bin_mul, bin_quo, bin_rem, lss_t, lss_f, leq_t, leq_f, gtr_t, gtr_f, geq_t, geq_f, eqi_t, eqi_f, nei_t, nei_f, rem_uw, conv_ui, conv_iu, conv_ii, not_bool, nil_ptr, fa_mk, ptrV, len_mk, cap_mk, eq_ptr_nil, ne_ptr_nil, eq_nil_nil, ne_nil_nil, eq_slice_nil, eq_nil_slice, ia_1, hlen]; exact so_so) ?_)
    exact hK h2 hh2

theorem use_awhite {g : Hp} {w : VW} {ps : Int} {F : Asrt} {K : Value → Hp → Prop} {h : Hp} (hv : VAt g w) (hN : w.all.length ≤ 1000000) (hh : (own g * (F * tt)) h)
    (hK : ∀ h', (own g * (F * tt)) h' → K (.bool (cb (B6 w))) h') : CallH Try.prog 78 #[w.val, .int .i64 ps] K h := by
  refine C78 ?_
  unfold D78
  refine vA_new (o := .cells w.cells 26 (0, 0)) hh fun r1 h1 hh1 => ?_
  have l0 := (vw_ld (r := r1) (w := w) (E := 26) hh1).1
  have l9 := (vw_ld (r := r1) (w := w) (E := 26) hh1).2.2.2.2.2.2.2.2.2
  by_cases hp : w.phase = 2
  · repeat (with_reducible first | refine vP_so ?_ | refine vB_t ?_ | refine vB_f ?_ | refine vE_tt ?_ | refine vE_ff ?_ | refine vE_tf ?_ | refine vE_ft ?_ | refine vE_u ?_ | refine vP_to (by simp (disch := omega) only [gdW_true, gdW_false, gB_true, gB_false, gB_undef, pickV_true, pickV_false, Bool.not_true, Bool.not_false, Option.map_some, bin_add, bin_sub, bin_mul, bin_quo, bin_rem, lss_t, lss_f, leq_t, leq_f, gtr_t, gtr_f, geq_t, geq_f, eqi_t, eqi_f, nei_t, nei_f, rem_uw, conv_ui, conv_iu, conv_ii, not_bool, nil_ptr, fa_mk, ptrV, len_mk, cap_mk, eq_ptr_nil, ne_ptr_nil, eq_nil_nil, ne_nil_nil, eq_slice_nil, eq_nil_slice, ia_1, l0, l9]; exact so_so) ?_)
    refine use_white (F := pt r1 (.cells w.cells 26 (0, 0)) * F) hv hN (asr (by ac_rfl) hh1) fun v l h2 hL hl hh2 => ?_
    have hlen := SG_len iE hh2
    have hh2 : (own g * (F * tt)) h2 := dropL (P := SG iE 3 v l * pt r1 (.cells w.cells 26 (0, 0))) (Q := own g * F) (asr (by ac_rfl) hh2) |> asr (by ac_rfl)
    by_cases h0 : 0 < l.length
    · have hb : B6 w := ⟨hp, l[0], (hL.2 _).1 (List.getElem_mem h0)⟩
      rw [cb_t hb] at hK
      repeat (with_reducible first | refine vP_so ?_ | refine vB_t ?_ | refine vB_f ?_ | refine vE_tt ?_ | refine vE_ff ?_ | refine vE_tf ?_ | refine vE_ft ?_ | refine vE_u ?_ | refine vP_to (by simp (disch := omega) only [gdW_true, gdW_false, gB_true, gB_false, gB_undef, pickV_true, pickV_false, Bool.not_true, Bool.not_false, Option.map_some, bin_add, bin_sub, bin_mul, bin_quo, bin_rem, lss_t, lss_f, leq_t, leq_f, gtr_t, gtr_f, geq_t, geq_f, eqi_t, eqi_f, nei_t, nei_f, rem_uw, conv_ui, conv_iu, conv_ii, not_bool, nil_ptr, fa_mk, ptrV, len_mk, cap_mk, eq_ptr_nil, ne_ptr_nil, eq_nil_nil, ne_nil_nil, eq_slice_nil, eq_nil_slice, ia_1, hlen]; exact so_so) ?_)
      exact hK h2 hh2
    · have hb : ¬ B6 w := fun ⟨_, x, hx⟩ => by
        have := List.length_pos_of_mem ((hL.2 x).2 hx); omega
      rw [cb_f hb] at hK
      repeat (with_reducible first | refine vP_so ?_ | refine vB_t ?_ | refine vB_f ?_ | refine vE_tt ?_ | refine vE_ff ?_ | refine vE_tf ?_ | refine vE_ft ?_ | refine vE_u ?_ | refine vP_to (by simp (disch := omega) only [gdW_true, gdW_false, gB_true, gB_false, gB_undef, pickV_true, pickV_false, Bool.not_true, Bool.not_false, Option.map_some, bin_add, bin_sub, bin_mul, bin_quo, bin_rem, lss_t, lss_f, leq_t, leq_f, gtr_t, gtr_f, geq_t, geq_f, eqi_t, eqi_f, nei_t, nei_f, rem_uw, conv_ui, conv_iu, conv_ii, not_bool, nil_ptr, fa_mk, ptrV, len_mk, cap_mk, eq_ptr_nil, ne_ptr_nil, eq_nil_nil, ne_nil_nil, eq_slice_nil, eq_nil_slice, ia_1, hlen]; exact so_so) ?_)
      exact hK h2 hh2
  · repeat (with_reducible first | refine vP_so ?_ | refine vB_t ?_ | refine vB_f ?_ | refine vE_tt ?_ | refine vE_ff ?_ | refine vE_tf ?_ | refine vE_ft ?_ | refine vE_u ?_ | refine vP_to (by simp (disch := omega) only [gdW_true, gdW_false, gB_true, gB_false, gB_undef, pickV_true, pickV_false, Bool.not_true, Bool.not_false, Option.map_some, bin_add, bin_sub, bin_mul, bin_quo, bin_rem, lss_t, lss_f, leq_t, leq_f, gtr_t, gtr_f, geq_t, geq_f, eqi_t, eqi_f, nei_t, nei_f, rem_uw, conv_ui, conv_iu, conv_ii, not_bool, nil_ptr, fa_mk, ptrV, len_mk, cap_mk, eq_ptr_nil, ne_ptr_nil, eq_nil_nil, ne_nil_nil, eq_slice_nil, eq_nil_slice, ia_1, l0, l9]; exact so_so) ?_)
    have hb : ¬ B6 w := fun q => hp q.1
    rw [cb_f hb] at hK
    exact hK h1 (dropL (P := pt r1 (.cells w.cells 26 (0, 0))) (Q := own g * F) (asr (by ac_rfl) hh1) |> asr (by ac_rfl))

theorem use_awork {g : Hp} {w : VW} {ps : Int} {F : Asrt} {K : Value → Hp → Prop} {h : Hp} (hh : (own g * (F * tt)) h)
    (hK : ∀ h', (own g * (F * tt)) h' → K (.bool (cb (B5 w))) h') : CallH Try.prog 77 #[w.val, .int .i64 ps] K h := by
  refine C77 ?_
  unfold D77
  refine vA_new (o := .cells w.cells 26 (0, 0)) hh fun r1 h1 hh1 => ?_
  obtain ⟨l0, _, _, _, _, _, l6, l7, l8, _⟩ := vw_ld (r := r1) (w := w) (E := 26) hh1
  have fin : ∀ b, (b = true ↔ B5 w) → K (.bool b) h1 := fun b hb => by
    rw [cb_of hb]
    exact hK h1 (dropL (P := pt r1 (.cells w.cells 26 (0, 0))) (Q := own g * F) (asr (by ac_rfl) hh1) |> asr (by ac_rfl))
  have ft : B5 w → K (.bool true) h1 := fun q => fin true ⟨fun _ => q, fun _ => rfl⟩
  have ff : ¬ B5 w → K (.bool false) h1 := fun q => fin false ⟨fun e => by (cases e), fun e => (q e).elim⟩
  clear fin hK
  unfold B5 at ft ff
  by_cases a1 : w.grey < 0 <;> by_cases a2 : w.notes < 0 <;> by_cases a3 : w.roots < 0 <;> by_cases a4 : w.phase = 1 <;> by_cases a5 : w.grey = 0 <;> by_cases a6 : w.notes = 0 <;> by_cases a7 : w.roots = 0 <;>
    first
      | (exfalso; omega)
      | (repeat (with_reducible first | refine vP_so ?_ | refine vB_t ?_ | refine vB_f ?_ | refine vE_tt ?_ | refine vE_ff ?_ | refine vE_tf ?_ | refine vE_ft ?_ | refine vE_u ?_ | refine vP_to (by simp (disch := omega) only [gdW_true, gdW_false, gB_true, gB_false, gB_undef, pickV_true, pickV_false, Bool.not_true, Bool.not_false, Option.map_some, bin_add, bin_sub, bin_mul, bin_quo, bin_rem, lss_t, lss_f, leq_t, leq_f, gtr_t, gtr_f, geq_t, geq_f, eqi_t, eqi_f, nei_t, nei_f, rem_uw, conv_ui, conv_iu, conv_ii, not_bool, nil_ptr, fa_mk, ptrV, len_mk, cap_mk, eq_ptr_nil, ne_ptr_nil, eq_nil_nil, ne_nil_nil, eq_slice_nil, eq_nil_slice, ia_1, l0, l6, l7, l8]; exact so_so) ?_)
         first
           | exact ft (by omega)
           | exact ff (by omega))

theorem use_anumbers {g : Hp} {w : VW} {ps : Int} {F : Asrt} {K : Value → Hp → Prop} {h : Hp} (hv : VAt g w) (hh : (own g * (F * tt)) h)
    (hK : ∀ h', (own g * (F * tt)) h' → K (.bool (cb (B7 w))) h') : CallH Try.prog 79 #[w.val, .int .i64 ps] K h := by
  refine C79 ?_
  unfold D79
  have hgl := hv.gs_len
  refine vA_new (o := .cells w.cells 26 (0, 0)) hh fun r1 h1 hh1 => ?_
  have l4 := (vw_ld (r := r1) (w := w) (E := 26) hh1).2.2.2.2.1
  repeat (with_reducible first | refine vP_so ?_ | refine vB_t ?_ | refine vB_f ?_ | refine vE_tt ?_ | refine vE_ff ?_ | refine vE_tf ?_ | refine vE_ft ?_ | refine vE_u ?_ | refine vP_to (by simp (disch := omega) only [gdW_true, gdW_false, gB_true, gB_false, gB_undef, pickV_true, pickV_false, Bool.not_true, Bool.not_false, Option.map_some, bin_add, bin_sub, bin_mul, bin_quo, bin_rem, lss_t, lss_f, leq_t, leq_f, gtr_t, gtr_f, geq_t, geq_f, eqi_t, eqi_f, nei_t, nei_f, rem_uw, conv_ui, conv_iu, conv_ii, not_bool, nil_ptr, fa_mk, ptrV, len_mk, cap_mk, eq_ptr_nil, ne_ptr_nil, eq_nil_nil, ne_nil_nil, eq_slice_nil, eq_nil_slice, ia_1, l4, hgl.1]; exact so_so) ?_)
  refine ⟨fun m zs h' => ∃ i : Nat, zs = [.int .i64 i] ∧ m = w.gs.length - i ∧ i ≤ w.gs.length ∧ (∀ (j : Nat) r, j < i → w.gs[j]? = some r → r.stack.length = 16) ∧ (pt r1 (.cells w.cells 26 (0, 0)) * (own g * (F * tt))) h', ⟨_, 0, rfl, rfl, by omega, fun j r hj => by omega, hh1⟩, ?_⟩
  rintro m v10 h2 ⟨i, hzs, rfl, hi, hok, hh2⟩ _
  obtain rfl : v10 = .int .i64 i := by simpa using hzs
  have hdrop : ∀ {h}, (pt r1 (.cells w.cells 26 (0, 0)) * (own g * (F * tt))) h → (own g * (F * tt)) h := fun q => dropL (P := pt r1 (.cells w.cells 26 (0, 0))) (Q := own g * F) (asr (by ac_rfl) q) |> asr (by ac_rfl)
  by_cases hil : i < w.gs.length
  · have hw := own_vat (F := pt r1 (.cells w.cells 26 (0, 0)) * (F * tt)) (asr (by ac_rfl) hh2) hv
    have hgi : w.gs[i]? = some w.gs[i] := List.getElem?_eq_getElem hil
    obtain ⟨b, q, e1, _, _, _, e5⟩ := hw.gor hgi .i64
    have hstk := hv.stacks w.gs[i] (List.getElem_mem hil)
    generalize w.gs[i] = r at *
    repeat (with_reducible first | refine vP_so ?_ | refine vB_t ?_ | refine vB_f ?_ | refine vE_tt ?_ | refine vE_ff ?_ | refine vE_tf ?_ | refine vE_ft ?_ | refine vE_u ?_ | refine vP_to (by simp (disch := omega) only [gdW_true, gdW_false, gB_true, gB_false, gB_undef, pickV_true, pickV_false, Bool.not_true, Bool.not_false, Option.map_some, bin_add, bin_sub, bin_mul, bin_quo, bin_rem, lss_t, lss_f, leq_t, leq_f, gtr_t, gtr_f, geq_t, geq_f, eqi_t, eqi_f, nei_t, nei_f, rem_uw, conv_ui, conv_iu, conv_ii, not_bool, nil_ptr, fa_mk, ptrV, len_mk, cap_mk, eq_ptr_nil, ne_ptr_nil, eq_nil_nil, ne_nil_nil, eq_slice_nil, eq_nil_slice, ia_1, e1, e5]; exact so_so) ?_)
    refine vA_new hh2 fun r6 h3 hh3 => ?_
    refine stN_mk (cs := #[.int .i64 r.st, .int .i64 r.p, r.sv]) hh3 (one_gr hstk) rfl (by simp) fun h4 hh4 => ?_
    have hc2 : ld1 (.pointer (some ⟨r6, 0 + 2, none⟩)) h4 = some r.sv := ld1_mk (pt_get hh4) rfl
    have hh4 : (pt r1 (.cells w.cells 26 (0, 0)) * (own g * (F * tt))) h4 := dropL (P := pt r6 (.cells #[.int .i64 r.st, .int .i64 r.p, r.sv] 41 (0, 0))) (Q := pt r1 (.cells w.cells 26 (0, 0)) * (own g * F)) (asr (by ac_rfl) hh4) |> asr (by ac_rfl)
    have hslt := hstk.lt
    by_cases h16 : r.stack.length = 16
    · repeat (with_reducible first | refine vP_so ?_ | refine vB_t ?_ | refine vB_f ?_ | refine vE_tt ?_ | refine vE_ff ?_ | refine vE_tf ?_ | refine vE_ft ?_ | refine vE_u ?_ | refine vP_to (by simp (disch := omega) only [gdW_true, gdW_false, gB_true, gB_false, gB_undef, pickV_true, pickV_false, Bool.not_true, Bool.not_false, Option.map_some, bin_add, bin_sub, bin_mul, bin_quo, bin_rem, lss_t, lss_f, leq_t, leq_f, gtr_t, gtr_f, geq_t, geq_f, eqi_t, eqi_f, nei_t, nei_f, rem_uw, conv_ui, conv_iu, conv_ii, not_bool, nil_ptr, fa_mk, ptrV, len_mk, cap_mk, eq_ptr_nil, ne_ptr_nil, eq_nil_nil, ne_nil_nil, eq_slice_nil, eq_nil_slice, ia_1, hc2, hstk.len]; exact so_so) ?_)
      refine ⟨w.gs.length - (i + 1), by omega, i + 1, by simp, rfl, by omega, fun j r' hj hr' => ?_, hh4⟩
      by_cases hji : j = i
      · subst hji
        obtain rfl : r = r' := Option.some.inj (hgi.symm.trans hr')
        exact h16
      · exact hok j r' (by omega) hr'
    · have hb : B7 w := .inl ⟨i, r, hgi, h16⟩
      rw [cb_t hb] at hK
      repeat (with_reducible first | refine vP_so ?_ | refine vB_t ?_ | refine vB_f ?_ | refine vE_tt ?_ | refine vE_ff ?_ | refine vE_tf ?_ | refine vE_ft ?_ | refine vE_u ?_ | refine vP_to (by simp (disch := omega) only [gdW_true, gdW_false, gB_true, gB_false, gB_undef, pickV_true, pickV_false, Bool.not_true, Bool.not_false, Option.map_some, bin_add, bin_sub, bin_mul, bin_quo, bin_rem, lss_t, lss_f, leq_t, leq_f, gtr_t, gtr_f, geq_t, geq_f, eqi_t, eqi_f, nei_t, nei_f, rem_uw, conv_ui, conv_iu, conv_ii, not_bool, nil_ptr, fa_mk, ptrV, len_mk, cap_mk, eq_ptr_nil, ne_ptr_nil, eq_nil_nil, ne_nil_nil, eq_slice_nil, eq_nil_slice, ia_1, hc2, hstk.len]; exact so_so) ?_)
      exact hK h4 (hdrop hh4)
  · obtain rfl : i = w.gs.length := by omega
    obtain ⟨l0, l1, l2, _⟩ := vw_ld (r := r1) (w := w) (E := 26) hh2
    have hn : ¬ ∃ (i : Nat) (r : Gr), w.gs[i]? = some r ∧ r.stack.length ≠ 16 := fun ⟨i, r, h1, h2⟩ => h2 (hok i r (List.getElem?_eq_some_iff.1 h1).1 h1)
    have fin : ∀ b, (b = true ↔ B7 w) → K (.bool b) h2 := fun b hb => by
      rw [cb_of hb]; exact hK h2 (hdrop hh2)
    have hB : B7 w ↔ w.phase < 0 ∨ 3 < w.phase ∨ w.cycle < 0 ∨ w.clock < 0 := ⟨fun q => q.resolve_left hn, .inr⟩
    have ft : (w.phase < 0 ∨ 3 < w.phase ∨ w.cycle < 0 ∨ w.clock < 0) → K (.bool true) h2 := fun q => fin true ⟨fun _ => hB.2 q, fun _ => rfl⟩
    have ff : ¬ (w.phase < 0 ∨ 3 < w.phase ∨ w.cycle < 0 ∨ w.clock < 0) → K (.bool false) h2 := fun q => fin false ⟨fun e => by (cases e), fun e => (q (hB.1 e)).elim⟩
    clear fin hK hB
    by_cases a1 : w.phase < 0 <;> by_cases a2 : 3 < w.phase <;> by_cases a3 : w.cycle < 0 <;> by_cases a4 : w.clock < 0 <;>
      first
        | (exfalso; omega)
        | (repeat (with_reducible first | refine vP_so ?_ | refine vB_t ?_ | refine vB_f ?_ | refine vE_tt ?_ | refine vE_ff ?_ | refine vE_tf ?_ | refine vE_ft ?_ | refine vE_u ?_ | refine vP_to (by simp (disch := omega) only [gdW_true, gdW_false, gB_true, gB_false, gB_undef, pickV_true, pickV_false, Bool.not_true, Bool.not_false, Option.map_some, bin_add, bin_sub, bin_mul, bin_quo, bin_rem, lss_t, lss_f, leq_t, leq_f, gtr_t, gtr_f, geq_t, geq_f, eqi_t, eqi_f, nei_t, nei_f, rem_uw, conv_ui, conv_iu, conv_ii, not_bool, nil_ptr, fa_mk, ptrV, len_mk, cap_mk, eq_ptr_nil, ne_ptr_nil, eq_nil_nil, ne_nil_nil, eq_slice_nil, eq_nil_slice, ia_1, l0, l1, l2]; exact so_so) ?_)
           first
             | exact ft (by omega)
             | exact ff (by omega))

theorem use_amarked {g : Hp} {w : VW} {ps : Int} {F : Asrt} {K : Value → Hp → Prop} {h : Hp} (hv : VAt g w) (hh : (own g * (F * tt)) h)
    (hK : ∀ h', (own g * (F * tt)) h' → K (.bool (cb (B8 w))) h') : CallH Try.prog 80 #[w.val, .int .i64 ps] K h := by
  refine C80 ?_
  unfold D80
  refine vA_new (o := .cells w.cells 26 (0, 0)) hh fun r1 h1 hh1 => ?_
  have l0 := (vw_ld (r := r1) (w := w) (E := 26) hh1).1
  have l5 := (vw_ld (r := r1) (w := w) (E := 26) hh1).2.2.2.2.2.1
  have hh1 : (own g * (F * tt)) h1 := dropL (P := pt r1 (.cells w.cells 26 (0, 0))) (Q := own g * F) (asr (by ac_rfl) hh1) |> asr (by ac_rfl)
  by_cases hp : w.phase = 0
  · repeat (with_reducible first | refine vP_so ?_ | refine vB_t ?_ | refine vB_f ?_ | refine vE_tt ?_ | refine vE_ff ?_ | refine vE_tf ?_ | refine vE_ft ?_ | refine vE_u ?_ | refine vP_to (by simp (disch := omega) only [gdW_true, gdW_false, gB_true, gB_false, gB_undef, pickV_true, pickV_false, Bool.not_true, Bool.not_false, Option.map_some, bin_add, bin_sub, bin_mul, bin_quo, bin_rem, lss_t, lss_f, leq_t, leq_f, gtr_t, gtr_f, geq_t, geq_f, eqi_t, eqi_f, nei_t, nei_f, rem_uw, conv_ui, conv_iu, conv_ii, not_bool, nil_ptr, fa_mk, ptrV, len_mk, cap_mk, eq_ptr_nil, ne_ptr_nil, eq_nil_nil, ne_nil_nil, eq_slice_nil, eq_nil_slice, ia_1, l0, l5]; exact so_so) ?_)
    refine C87 ?_
    unfold D87
    refine use_idxf (p := fun o => o.marked) hv hh1 (fun o ho h K hh hK => ?_) fun h2 hh2 => ?_
    · refine cv_fn (by kernel_rfl) ?_
      show CallH Try.prog 88 #[.agg #[.int .i64 o.addr, o.sv, .bool o.marked]] K h
      refine C88 ?_
      unfold D88
      refine vA_new (o := .cells #[.int .i64 o.addr, o.sv, .bool o.marked] 30 (0, 0)) hh fun r h' hh' => ?_
      have lm : ld1 (.pointer (some ⟨r, 0 + 2, none⟩)) h' = some (.bool o.marked) := ld1_mk (pt_get hh') rfl
      repeat (with_reducible first | refine vP_so ?_ | refine vB_t ?_ | refine vB_f ?_ | refine vE_tt ?_ | refine vE_ff ?_ | refine vE_tf ?_ | refine vE_ft ?_ | refine vE_u ?_ | refine vP_to (by simp (disch := omega) only [gdW_true, gdW_false, gB_true, gB_false, gB_undef, pickV_true, pickV_false, Bool.not_true, Bool.not_false, Option.map_some, bin_add, bin_sub, bin_mul, bin_quo, bin_rem, lss_t, lss_f, leq_t, leq_f, gtr_t, gtr_f, geq_t, geq_f, eqi_t, eqi_f, nei_t, nei_f, rem_uw, conv_ui, conv_iu, conv_ii, not_bool, nil_ptr, fa_mk, ptrV, len_mk, cap_mk, eq_ptr_nil, ne_ptr_nil, eq_nil_nil, ne_nil_nil, eq_slice_nil, eq_nil_slice, ia_1, lm]; exact so_so) ?_)
      exact hK h' (dropL (P := pt r (.cells #[.int .i64 o.addr, o.sv, .bool o.marked] 30 (0, 0))) (Q := own g * F) (asr (by ac_rfl) hh') |> asr (by ac_rfl))
    · cases hi : w.objs.findIdx? (fun o => o.marked) with
      | none =>
        simp only
        have hb : ¬ B8 w := fun ⟨_, i, o, ho, hm⟩ => by
          rw [List.findIdx?_eq_none_iff] at hi
          have := hi o (List.mem_of_getElem? ho)
          rw [hm] at this; cases this
        rw [cb_f hb] at hK
        repeat (with_reducible first | refine vP_so ?_ | refine vB_t ?_ | refine vB_f ?_ | refine vE_tt ?_ | refine vE_ff ?_ | refine vE_tf ?_ | refine vE_ft ?_ | refine vE_u ?_ | refine vP_to (by simp (disch := omega) only [gdW_true, gdW_false, gB_true, gB_false, gB_undef, pickV_true, pickV_false, Bool.not_true, Bool.not_false, Option.map_some, bin_add, bin_sub, bin_mul, bin_quo, bin_rem, lss_t, lss_f, leq_t, leq_f, gtr_t, gtr_f, geq_t, geq_f, eqi_t, eqi_f, nei_t, nei_f, rem_uw, conv_ui, conv_iu, conv_ii, not_bool, nil_ptr, fa_mk, ptrV, len_mk, cap_mk, eq_ptr_nil, ne_ptr_nil, eq_nil_nil, ne_nil_nil, eq_slice_nil, eq_nil_slice, ia_1]; exact so_so) ?_)
        exact hK h2 hh2
      | some i =>
        simp only
        obtain ⟨h3, h4, _⟩ := List.findIdx?_eq_some_iff_getElem.1 hi
        have hb : B8 w := ⟨hp, i, _, List.getElem?_eq_getElem h3, h4⟩
        rw [cb_t hb] at hK
        repeat (with_reducible first | refine vP_so ?_ | refine vB_t ?_ | refine vB_f ?_ | refine vE_tt ?_ | refine vE_ff ?_ | refine vE_tf ?_ | refine vE_ft ?_ | refine vE_u ?_ | refine vP_to (by simp (disch := omega) only [gdW_true, gdW_false, gB_true, gB_false, gB_undef, pickV_true, pickV_false, Bool.not_true, Bool.not_false, Option.map_some, bin_add, bin_sub, bin_mul, bin_quo, bin_rem, lss_t, lss_f, leq_t, leq_f, gtr_t, gtr_f, geq_t, geq_f, eqi_t, eqi_f, nei_t, nei_f, rem_uw, conv_ui, conv_iu, conv_ii, not_bool, nil_ptr, fa_mk, ptrV, len_mk, cap_mk, eq_ptr_nil, ne_ptr_nil, eq_nil_nil, ne_nil_nil, eq_slice_nil, eq_nil_slice, ia_1]; exact so_so) ?_)
        exact hK h2 hh2
  · repeat (with_reducible first | refine vP_so ?_ | refine vB_t ?_ | refine vB_f ?_ | refine vE_tt ?_ | refine vE_ff ?_ | refine vE_tf ?_ | refine vE_ft ?_ | refine vE_u ?_ | refine vP_to (by simp (disch := omega) only [gdW_true, gdW_false, gB_true, gB_false, gB_undef, pickV_true, pickV_false, Bool.not_true, Bool.not_false, Option.map_some, bin_add, bin_sub, bin_mul, bin_quo, bin_rem, lss_t, lss_f, leq_t, leq_f, gtr_t, gtr_f, geq_t, geq_f, eqi_t, eqi_f, nei_t, nei_f, rem_uw, conv_ui, conv_iu, conv_ii, not_bool, nil_ptr, fa_mk, ptrV, len_mk, cap_mk, eq_ptr_nil, ne_ptr_nil, eq_nil_nil, ne_nil_nil, eq_slice_nil, eq_nil_slice, ia_1, l0, l5]; exact so_so) ?_)
    have hb : ¬ B8 w := fun q => hp q.1
    rw [cb_f hb] at hK
    exact hK h1 hh1

theorem use_aplaces {g : Hp} {w : VW} {ps : Int} {F : Asrt} {K : Value → Hp → Prop} {h : Hp} (hv : VAt g w) (hh : (own g * (F * tt)) h)
    (hK : ∀ h', (own g * (F * tt)) h' → K (.bool (cb (B4 w ps))) h') : CallH Try.prog 76 #[w.val, .int .i64 ps] K h := by
  refine C76 ?_
  unfold D76
  have hgl := hv.gs_len
  refine vA_new (o := .cells w.cells 26 (0, 0)) hh fun r1 h1 hh1 => ?_
  have l4 := (vw_ld (r := r1) (w := w) (E := 26) hh1).2.2.2.2.1
  have hdrop : ∀ {h}, (pt r1 (.cells w.cells 26 (0, 0)) * (own g * (F * tt))) h → (own g * (F * tt)) h := fun q => dropL (P := pt r1 (.cells w.cells 26 (0, 0))) (Q := own g * F) (asr (by ac_rfl) q) |> asr (by ac_rfl)
  repeat (with_reducible first | refine vP_so ?_ | refine vB_t ?_ | refine vB_f ?_ | refine vE_tt ?_ | refine vE_ff ?_ | refine vE_tf ?_ | refine vE_ft ?_ | refine vE_u ?_ | refine vP_to (by simp (disch := omega) only [gdW_true, gdW_false, gB_true, gB_false, gB_undef, pickV_true, pickV_false, Bool.not_true, Bool.not_false, Option.map_some, bin_add, bin_sub, bin_mul, bin_quo, bin_rem, lss_t, lss_f, leq_t, leq_f, gtr_t, gtr_f, geq_t, geq_f, eqi_t, eqi_f, nei_t, nei_f, rem_uw, conv_ui, conv_iu, conv_ii, not_bool, nil_ptr, fa_mk, ptrV, len_mk, cap_mk, eq_ptr_nil, ne_ptr_nil, eq_nil_nil, ne_nil_nil, eq_slice_nil, eq_nil_slice, ia_1, l4, hgl.1]; exact so_so) ?_)
  refine ⟨fun m zs h' => ∃ i : Nat, zs = [.int .i64 i] ∧ m = w.gs.length - i ∧ i ≤ w.gs.length ∧ (∀ (j : Nat) r, j < i → w.gs[j]? = some r → okG ps r) ∧ (own g * (F * tt)) h', ⟨_, 0, rfl, rfl, by omega, fun j r hj => by omega, hdrop hh1⟩, ?_⟩
  rintro m v11 h2 ⟨i, hzs, rfl, hi, hok, hh2⟩ _
  obtain rfl : v11 = .int .i64 i := by simpa using hzs
  by_cases hil : i < w.gs.length
  · have hw := own_vat hh2 hv
    have hgi : w.gs[i]? = some w.gs[i] := List.getElem?_eq_getElem hil
    obtain ⟨b, q, e1, _, _, _, e5⟩ := hw.gor hgi .i64
    have hstk := hv.stacks w.gs[i] (List.getElem_mem hil)
    generalize w.gs[i] = r at *
    repeat (with_reducible first | refine vP_so ?_ | refine vB_t ?_ | refine vB_f ?_ | refine vE_tt ?_ | refine vE_ff ?_ | refine vE_tf ?_ | refine vE_ft ?_ | refine vE_u ?_ | refine vP_to (by simp (disch := omega) only [gdW_true, gdW_false, gB_true, gB_false, gB_undef, pickV_true, pickV_false, Bool.not_true, Bool.not_false, Option.map_some, bin_add, bin_sub, bin_mul, bin_quo, bin_rem, lss_t, lss_f, leq_t, leq_f, gtr_t, gtr_f, geq_t, geq_f, eqi_t, eqi_f, nei_t, nei_f, rem_uw, conv_ui, conv_iu, conv_ii, not_bool, nil_ptr, fa_mk, ptrV, len_mk, cap_mk, eq_ptr_nil, ne_ptr_nil, eq_nil_nil, ne_nil_nil, eq_slice_nil, eq_nil_slice, ia_1, e1, e5]; exact so_so) ?_)
    refine vA_new hh2 fun r6 h3 hh3 => ?_
    refine stN_mk (cs := #[.int .i64 r.st, .int .i64 r.p, r.sv]) hh3 (one_gr hstk) rfl (by simp) fun h4 hh4 => ?_
    have hc0 : ld1 (.pointer (some ⟨r6, 0 + 0, none⟩)) h4 = some (.int .i64 r.st) := ld1_mk (pt_get hh4) rfl
    have hc1 : ld1 (.pointer (some ⟨r6, 0 + 1, none⟩)) h4 = some (.int .i64 r.p) := ld1_mk (pt_get hh4) rfl
    have hh4 : (own g * (F * tt)) h4 := dropL (P := pt r6 (.cells #[.int .i64 r.st, .int .i64 r.p, r.sv] 41 (0, 0))) (Q := own g * F) (asr (by ac_rfl) hh4) |> asr (by ac_rfl)
    by_cases hP : r.p = -1
    all_goals
      repeat (with_reducible first | refine vP_so ?_ | refine vB_t ?_ | refine vB_f ?_ | refine vE_tt ?_ | refine vE_ff ?_ | refine vE_tf ?_ | refine vE_ft ?_ | refine vE_u ?_ | refine vP_to (by simp (disch := omega) only [gdW_true, gdW_false, gB_true, gB_false, gB_undef, pickV_true, pickV_false, Bool.not_true, Bool.not_false, Option.map_some, bin_add, bin_sub, bin_mul, bin_quo, bin_rem, lss_t, lss_f, leq_t, leq_f, gtr_t, gtr_f, geq_t, geq_f, eqi_t, eqi_f, nei_t, nei_f, rem_uw, conv_ui, conv_iu, conv_ii, not_bool, nil_ptr, fa_mk, ptrV, len_mk, cap_mk, eq_ptr_nil, ne_ptr_nil, eq_nil_nil, ne_nil_nil, eq_slice_nil, eq_nil_slice, ia_1, hc1]; exact so_so) ?_)
      intro J2 hJ2
      have jt : okG ps r → J2 [.bool true] h4 := fun hq => by
        refine hJ2 _ _ fun _ => ?_
        repeat (with_reducible first | refine vP_so ?_ | refine vB_t ?_ | refine vB_f ?_ | refine vE_tt ?_ | refine vE_ff ?_ | refine vE_tf ?_ | refine vE_ft ?_ | refine vE_u ?_ | refine vP_to (by simp (disch := omega) only [gdW_true, gdW_false, gB_true, gB_false, gB_undef, pickV_true, pickV_false, Bool.not_true, Bool.not_false, Option.map_some, bin_add, bin_sub, bin_mul, bin_quo, bin_rem, lss_t, lss_f, leq_t, leq_f, gtr_t, gtr_f, geq_t, geq_f, eqi_t, eqi_f, nei_t, nei_f, rem_uw, conv_ui, conv_iu, conv_ii, not_bool, nil_ptr, fa_mk, ptrV, len_mk, cap_mk, eq_ptr_nil, ne_ptr_nil, eq_nil_nil, ne_nil_nil, eq_slice_nil, eq_nil_slice, ia_1]; exact so_so) ?_)
        refine ⟨w.gs.length - (i + 1), by omega, i + 1, by simp, rfl, by omega, fun j r' hj hr' => ?_, hh4⟩
        by_cases hji : j = i
        · subst hji
          obtain rfl : r = r' := Option.some.inj (hgi.symm.trans hr')
          exact hq
        · exact hok j r' (by omega) hr'
      have jf : ¬ okG ps r → J2 [.bool false] h4 := fun hq => by
        refine hJ2 _ _ fun _ => ?_
        have hb : B4 w ps := ⟨i, r, hgi, hq⟩
        rw [cb_t hb] at hK
        repeat (with_reducible first | refine vP_so ?_ | refine vB_t ?_ | refine vB_f ?_ | refine vE_tt ?_ | refine vE_ff ?_ | refine vE_tf ?_ | refine vE_ft ?_ | refine vE_u ?_ | refine vP_to (by simp (disch := omega) only [gdW_true, gdW_false, gB_true, gB_false, gB_undef, pickV_true, pickV_false, Bool.not_true, Bool.not_false, Option.map_some, bin_add, bin_sub, bin_mul, bin_quo, bin_rem, lss_t, lss_f, leq_t, leq_f, gtr_t, gtr_f, geq_t, geq_f, eqi_t, eqi_f, nei_t, nei_f, rem_uw, conv_ui, conv_iu, conv_ii, not_bool, nil_ptr, fa_mk, ptrV, len_mk, cap_mk, eq_ptr_nil, ne_ptr_nil, eq_nil_nil, ne_nil_nil, eq_slice_nil, eq_nil_slice, ia_1]; exact so_so) ?_)
        exact hK h4 hh4
      unfold okG at jt jf
      by_cases s2 : r.st = 2
      · by_cases c1 : 0 ≤ r.p <;> by_cases c2 : r.p < ps <;>
          (repeat (with_reducible first | refine vP_so ?_ | refine vB_t ?_ | refine vB_f ?_ | refine vE_tt ?_ | refine vE_ff ?_ | refine vE_tf ?_ | refine vE_ft ?_ | refine vE_u ?_ | refine vP_to (by simp (disch := omega) only [gdW_true, gdW_false, gB_true, gB_false, gB_undef, pickV_true, pickV_false, Bool.not_true, Bool.not_false, Option.map_some, bin_add, bin_sub, bin_mul, bin_quo, bin_rem, lss_t, lss_f, leq_t, leq_f, gtr_t, gtr_f, geq_t, geq_f, eqi_t, eqi_f, nei_t, nei_f, rem_uw, conv_ui, conv_iu, conv_ii, not_bool, nil_ptr, fa_mk, ptrV, len_mk, cap_mk, eq_ptr_nil, ne_ptr_nil, eq_nil_nil, ne_nil_nil, eq_slice_nil, eq_nil_slice, ia_1, hc0, hc1]; exact so_so) ?_)
           first
             | exact jt (by omega)
             | exact jf (by omega))
      · by_cases s1 : r.st = 1
        · by_cases c1 : -1 ≤ r.p <;> by_cases c2 : r.p < ps <;>
            (repeat (with_reducible first | refine vP_so ?_ | refine vB_t ?_ | refine vB_f ?_ | refine vE_tt ?_ | refine vE_ff ?_ | refine vE_tf ?_ | refine vE_ft ?_ | refine vE_u ?_ | refine vP_to (by simp (disch := omega) only [gdW_true, gdW_false, gB_true, gB_false, gB_undef, pickV_true, pickV_false, Bool.not_true, Bool.not_false, Option.map_some, bin_add, bin_sub, bin_mul, bin_quo, bin_rem, lss_t, lss_f, leq_t, leq_f, gtr_t, gtr_f, geq_t, geq_f, eqi_t, eqi_f, nei_t, nei_f, rem_uw, conv_ui, conv_iu, conv_ii, not_bool, nil_ptr, fa_mk, ptrV, len_mk, cap_mk, eq_ptr_nil, ne_ptr_nil, eq_nil_nil, ne_nil_nil, eq_slice_nil, eq_nil_slice, ia_1, hc0, hc1]; exact so_so) ?_)
             first
               | exact jt (by omega)
               | exact jf (by omega))
        · repeat (with_reducible first | refine vP_so ?_ | refine vB_t ?_ | refine vB_f ?_ | refine vE_tt ?_ | refine vE_ff ?_ | refine vE_tf ?_ | refine vE_ft ?_ | refine vE_u ?_ | refine vP_to (by simp (disch := omega) only [gdW_true, gdW_false, gB_true, gB_false, gB_undef, pickV_true, pickV_false, Bool.not_true, Bool.not_false, Option.map_some, bin_add, bin_sub, bin_mul, bin_quo, bin_rem, lss_t, lss_f, leq_t, leq_f, gtr_t, gtr_f, geq_t, geq_f, eqi_t, eqi_f, nei_t, nei_f, rem_uw, conv_ui, conv_iu, conv_ii, not_bool, nil_ptr, fa_mk, ptrV, len_mk, cap_mk, eq_ptr_nil, ne_ptr_nil, eq_nil_nil, ne_nil_nil, eq_slice_nil, eq_nil_slice, ia_1, hc0, hc1]; exact so_so) ?_)
          first
            | exact jt (by omega)
            | exact jf (by omega)
  · obtain rfl : i = w.gs.length := by omega
    have hb : ¬ B4 w ps := fun ⟨i, r, h1, h2⟩ => h2 (hok i r (List.getElem?_eq_some_iff.1 h1).1 h1)
    rw [cb_f hb] at hK
    repeat (with_reducible first | refine vP_so ?_ | refine vB_t ?_ | refine vB_f ?_ | refine vE_tt ?_ | refine vE_ff ?_ | refine vE_tf ?_ | refine vE_ft ?_ | refine vE_u ?_ | refine vP_to (by simp (disch := omega) only [gdW_true, gdW_false, gB_true, gB_false, gB_undef, pickV_true, pickV_false, Bool.not_true, Bool.not_false, Option.map_some, bin_add, bin_sub, bin_mul, bin_quo, bin_rem, lss_t, lss_f, leq_t, leq_f, gtr_t, gtr_f, geq_t, geq_f, eqi_t, eqi_f, nei_t, nei_f, rem_uw, conv_ui, conv_iu, conv_ii, not_bool, nil_ptr, fa_mk, ptrV, len_mk, cap_mk, eq_ptr_nil, ne_ptr_nil, eq_nil_nil, ne_nil_nil, eq_slice_nil, eq_nil_slice, ia_1]; exact so_so) ?_)
    exact hK h2 hh2

end Go.Proofs
