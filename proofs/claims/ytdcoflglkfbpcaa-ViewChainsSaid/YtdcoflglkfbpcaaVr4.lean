/-
  Contracts of treadmillref29: the rules.
-/
import Derived.Test.YtdcoflglkfbpcaaVr3
set_option linter.unusedVariables false
set_option linter.unusedSimpArgs false
set_option maxRecDepth 100000
namespace Go.Proofs
open Go.Sl

theorem use_rapart {g : Hp} {w : VW} {F : Asrt} {K : Value → Hp → Prop} {h : Hp} (hv : VAt g w) (hA : ∀ o ∈ w.objs, o.addr ≤ 9223372036854775807) (hh : (own g * (F * tt)) h)
    (hK : ∀ h', (own g * (F * tt)) h' → K (.bool (!cb (B2 w))) h') : CallH Try.prog 52 #[w.val] K h := by
  refine C52 ?_
  unfold D52
  have hol := hv.objs_len
  refine vA_new (o := .cells w.cells 26 (0, 0)) hh fun r1 h1 hh1 => ?_
  have hdrop : ∀ {h}, (pt r1 (.cells w.cells 26 (0, 0)) * (own g * (F * tt))) h → (own g * (F * tt)) h := fun q => dropL (P := pt r1 (.cells w.cells 26 (0, 0))) (Q := own g * F) (asr (by ac_rfl) q) |> asr (by ac_rfl)
  refine ⟨fun m zs h' => ∃ i : Nat, zs = [.int .i64 i] ∧ m = w.objs.length - i ∧ i ≤ w.objs.length ∧ (∀ (j : Nat) o, j < i → w.objs[j]? = some o → ¬ badO w j o) ∧ (pt r1 (.cells w.cells 26 (0, 0)) * (own g * (F * tt))) h', ⟨_, 0, rfl, rfl, by omega, fun j r hj => by omega, hh1⟩, ?_⟩
  rintro m v3 h2 ⟨i, hzs, rfl, hi, hok, hh2⟩ _
  obtain rfl : v3 = .int .i64 i := by simpa using hzs
  have l5 := (vw_ld (r := r1) (w := w) (E := 26) hh2).2.2.2.2.2.1
  by_cases hil : i < w.objs.length
  · have hw := own_vat (F := pt r1 (.cells w.cells 26 (0, 0)) * (F * tt)) (asr (by ac_rfl) hh2) hv
    have hoi : w.objs[i]? = some w.objs[i] := List.getElem?_eq_getElem hil
    obtain ⟨b, q, e1, _, _, _, e5⟩ := hw.obj hoi .i64
    have hsl := hv.slots w.objs[i] (List.getElem_mem hil)
    have hoa := hA w.objs[i] (List.getElem_mem hil)
    generalize w.objs[i] = o at *
    have fin : badO w i o → ∀ h', (own g * (F * tt)) h' → K (.bool false) h' := fun hb h' hq => by
      have hb : B2 w := ⟨i, o, hoi, hb⟩
      rw [cb_t hb] at hK
      exact hK h' hq
    repeat (with_reducible first | refine vP_so ?_ | refine vB_t ?_ | refine vB_f ?_ | refine vE_tt ?_ | refine vE_ff ?_ | refine vE_tf ?_ | refine vE_ft ?_ | refine vE_u ?_ | refine vP_to (by simp (disch := omega) only [gdW_true, gdW_false, gB_true, gB_false, gB_undef, pickV_true, pickV_false, Bool.not_true, Bool.not_false, Option.map_some, bin_add, bin_sub, bin_mul, bin_quo, bin_rem, lss_t, lss_f, leq_t, leq_f, gtr_t, gtr_f, geq_t, geq_f, eqi_t, eqi_f, nei_t, nei_f, rem_uw, conv_ui, conv_iu, conv_ii, not_bool, nil_ptr, fa_mk, ptrV, len_mk, cap_mk, eq_ptr_nil, ne_ptr_nil, eq_nil_nil, ne_nil_nil, eq_slice_nil, eq_nil_slice, ia_1, l5, hol.1]; exact so_so) ?_)
    intro J2 hJ2
    have nxt : ¬ badO w i o → ∀ h', (pt r1 (.cells w.cells 26 (0, 0)) * (own g * (F * tt))) h' → J2 [] h' := fun hn h' hq => by
      refine hJ2 _ fun _ => ?_
      repeat (with_reducible first | refine vP_so ?_ | refine vB_t ?_ | refine vB_f ?_ | refine vE_tt ?_ | refine vE_ff ?_ | refine vE_tf ?_ | refine vE_ft ?_ | refine vE_u ?_ | refine vP_to (by simp (disch := omega) only [gdW_true, gdW_false, gB_true, gB_false, gB_undef, pickV_true, pickV_false, Bool.not_true, Bool.not_false, Option.map_some, bin_add, bin_sub, bin_mul, bin_quo, bin_rem, lss_t, lss_f, leq_t, leq_f, gtr_t, gtr_f, geq_t, geq_f, eqi_t, eqi_f, nei_t, nei_f, rem_uw, conv_ui, conv_iu, conv_ii, not_bool, nil_ptr, fa_mk, ptrV, len_mk, cap_mk, eq_ptr_nil, ne_ptr_nil, eq_nil_nil, ne_nil_nil, eq_slice_nil, eq_nil_slice, ia_1]; exact so_so) ?_)
      refine ⟨w.objs.length - (i + 1), by omega, i + 1, by simp, rfl, by omega, fun j o' hj ho' => ?_, hq⟩
      by_cases hji : j = i
      · subst hji
        obtain rfl : o = o' := Option.some.inj (hoi.symm.trans ho')
        exact hn
      · exact hok j o' (by omega) ho'
    repeat (with_reducible first | refine vP_so ?_ | refine vB_t ?_ | refine vB_f ?_ | refine vE_tt ?_ | refine vE_ff ?_ | refine vE_tf ?_ | refine vE_ft ?_ | refine vE_u ?_ | refine vP_to (by simp (disch := omega) only [gdW_true, gdW_false, gB_true, gB_false, gB_undef, pickV_true, pickV_false, Bool.not_true, Bool.not_false, Option.map_some, bin_add, bin_sub, bin_mul, bin_quo, bin_rem, lss_t, lss_f, leq_t, leq_f, gtr_t, gtr_f, geq_t, geq_f, eqi_t, eqi_f, nei_t, nei_f, rem_uw, conv_ui, conv_iu, conv_ii, not_bool, nil_ptr, fa_mk, ptrV, len_mk, cap_mk, eq_ptr_nil, ne_ptr_nil, eq_nil_nil, ne_nil_nil, eq_slice_nil, eq_nil_slice, ia_1, l5, e1, e5]; exact so_so) ?_)
    refine vA_new hh2 fun r6 h3 hh3 => ?_
    refine stN_mk (cs := #[.int .i64 o.addr, o.sv, .bool o.marked]) hh3 (one_ob hsl) rfl (by simp) fun h4 hh4 => ?_
    have hh4 : (pt r6 (.cells #[.int .i64 o.addr, o.sv, .bool o.marked] 30 (0, 0)) * (pt r1 (.cells w.cells 26 (0, 0)) * (own g * (F * tt)))) h4 := hh4
    have hc : ∀ {h : Hp} {G : Asrt}, (pt r6 (.cells #[.int .i64 o.addr, o.sv, .bool o.marked] 30 (0, 0)) * G) h → ld1 (.pointer (some ⟨r6, 0 + 0, none⟩)) h = some (.int .i64 o.addr) ∧ ldN 3 (.pointer (some ⟨r6, 0, none⟩)) h = some (.agg #[.int .i64 o.addr, o.sv, .bool o.marked]) := fun q => ⟨ld1_mk (pt_get q) rfl, by rw [ldN_mk (pt_get q) (by simp)]; rfl⟩
    have d6 : ∀ {h}, (pt r6 (.cells #[.int .i64 o.addr, o.sv, .bool o.marked] 30 (0, 0)) * (pt r1 (.cells w.cells 26 (0, 0)) * (own g * (F * tt)))) h → (pt r1 (.cells w.cells 26 (0, 0)) * (own g * (F * tt))) h := fun q =>
      dropL (P := pt r6 (.cells #[.int .i64 o.addr, o.sv, .bool o.marked] 30 (0, 0))) (Q := pt r1 (.cells w.cells 26 (0, 0)) * (own g * F)) (asr (by ac_rfl) q) |> asr (by ac_rfl)
    repeat (with_reducible first | refine vP_so ?_ | refine vB_t ?_ | refine vB_f ?_ | refine vE_tt ?_ | refine vE_ff ?_ | refine vE_tf ?_ | refine vE_ft ?_ | refine vE_u ?_ | refine vP_to (by simp (disch := omega) only [gdW_true, gdW_false, gB_true, gB_false, gB_undef, pickV_true, pickV_false, Bool.not_true, Bool.not_false, Option.map_some, bin_add, bin_sub, bin_mul, bin_quo, bin_rem, lss_t, lss_f, leq_t, leq_f, gtr_t, gtr_f, geq_t, geq_f, eqi_t, eqi_f, nei_t, nei_f, rem_uw, conv_ui, conv_iu, conv_ii, not_bool, nil_ptr, fa_mk, ptrV, len_mk, cap_mk, eq_ptr_nil, ne_ptr_nil, eq_nil_nil, ne_nil_nil, eq_slice_nil, eq_nil_slice, ia_1, (hc hh4).2]; exact so_so) ?_)
    refine use_rsizeO (F := pt r6 (.cells #[.int .i64 o.addr, o.sv, .bool o.marked] 30 (0, 0)) * (pt r1 (.cells w.cells 26 (0, 0)) * (own g * F))) hsl (asr (by ac_rfl) hh4) fun h5 hh5 => ?_
    have hh5 : (pt r6 (.cells #[.int .i64 o.addr, o.sv, .bool o.marked] 30 (0, 0)) * (pt r1 (.cells w.cells 26 (0, 0)) * (own g * (F * tt)))) h5 := asr (by ac_rfl) hh5
    by_cases hs0 : szO o = 0
    · repeat (with_reducible first | refine vP_so ?_ | refine vB_t ?_ | refine vB_f ?_ | refine vE_tt ?_ | refine vE_ff ?_ | refine vE_tf ?_ | refine vE_ft ?_ | refine vE_u ?_ | refine vP_to (by simp (disch := omega) only [gdW_true, gdW_false, gB_true, gB_false, gB_undef, pickV_true, pickV_false, Bool.not_true, Bool.not_false, Option.map_some, bin_add, bin_sub, bin_mul, bin_quo, bin_rem, lss_t, lss_f, leq_t, leq_f, gtr_t, gtr_f, geq_t, geq_f, eqi_t, eqi_f, nei_t, nei_f, rem_uw, conv_ui, conv_iu, conv_ii, not_bool, nil_ptr, fa_mk, ptrV, len_mk, cap_mk, eq_ptr_nil, ne_ptr_nil, eq_nil_nil, ne_nil_nil, eq_slice_nil, eq_nil_slice, ia_1]; exact so_so) ?_)
      exact fin (.inr (.inl hs0)) h5 (hdrop (d6 hh5))
    by_cases h64 : o.addr < 64
    · repeat (with_reducible first | refine vP_so ?_ | refine vB_t ?_ | refine vB_f ?_ | refine vE_tt ?_ | refine vE_ff ?_ | refine vE_tf ?_ | refine vE_ft ?_ | refine vE_u ?_ | refine vP_to (by simp (disch := omega) only [gdW_true, gdW_false, gB_true, gB_false, gB_undef, pickV_true, pickV_false, Bool.not_true, Bool.not_false, Option.map_some, bin_add, bin_sub, bin_mul, bin_quo, bin_rem, lss_t, lss_f, leq_t, leq_f, gtr_t, gtr_f, geq_t, geq_f, eqi_t, eqi_f, nei_t, nei_f, rem_uw, conv_ui, conv_iu, conv_ii, not_bool, nil_ptr, fa_mk, ptrV, len_mk, cap_mk, eq_ptr_nil, ne_ptr_nil, eq_nil_nil, ne_nil_nil, eq_slice_nil, eq_nil_slice, ia_1, (hc hh5).1]; exact so_so) ?_)
      exact fin (.inl h64) h5 (hdrop (d6 hh5))
    by_cases hi0 : i = 0
    · subst hi0
      repeat (with_reducible first | refine vP_so ?_ | refine vB_t ?_ | refine vB_f ?_ | refine vE_tt ?_ | refine vE_ff ?_ | refine vE_tf ?_ | refine vE_ft ?_ | refine vE_u ?_ | refine vP_to (by simp (disch := omega) only [gdW_true, gdW_false, gB_true, gB_false, gB_undef, pickV_true, pickV_false, Bool.not_true, Bool.not_false, Option.map_some, bin_add, bin_sub, bin_mul, bin_quo, bin_rem, lss_t, lss_f, leq_t, leq_f, gtr_t, gtr_f, geq_t, geq_f, eqi_t, eqi_f, nei_t, nei_f, rem_uw, conv_ui, conv_iu, conv_ii, not_bool, nil_ptr, fa_mk, ptrV, len_mk, cap_mk, eq_ptr_nil, ne_ptr_nil, eq_nil_nil, ne_nil_nil, eq_slice_nil, eq_nil_slice, ia_1, (hc hh5).1]; exact so_so) ?_)
      exact nxt (fun q => by rcases q with q | q | ⟨q, _⟩ <;> omega) h5 (d6 hh5)
    · have hpg : w.objs[i - 1]? = some w.objs[i - 1] := List.getElem?_eq_getElem (by omega)
      have hpl := hv.slots w.objs[i - 1] (List.getElem_mem (by omega))
      have hpok := hok (i - 1) _ (by omega) hpg
      have hw5 := own_vat (F := pt r6 (.cells #[.int .i64 o.addr, o.sv, .bool o.marked] 30 (0, 0)) * (pt r1 (.cells w.cells 26 (0, 0)) * (F * tt))) (asr (by ac_rfl) hh5) hv
      obtain ⟨b', q', f1, f2, _, _, f5⟩ := hw5.obj hpg .i64
      rw [show ((i - 1 : Nat) : Int) = (i : Int) - 1 by omega] at f1
      generalize w.objs[i - 1] = p at *
      have hp64 : 64 ≤ p.addr := by
        rcases Int.lt_or_le p.addr 64 with q | q
        · exact (hpok (.inl q)).elim
        · exact q
      have l5 := (vw_ld (r := r1) (w := w) (E := 26) (F := pt r6 (.cells #[.int .i64 o.addr, o.sv, .bool o.marked] 30 (0, 0)) * (own g * (F * tt))) (asr (by ac_rfl) hh5)).2.2.2.2.2.1
      repeat (with_reducible first | refine vP_so ?_ | refine vB_t ?_ | refine vB_f ?_ | refine vE_tt ?_ | refine vE_ff ?_ | refine vE_tf ?_ | refine vE_ft ?_ | refine vE_u ?_ | refine vP_to (by simp (disch := omega) only [gdW_true, gdW_false, gB_true, gB_false, gB_undef, pickV_true, pickV_false, Bool.not_true, Bool.not_false, Option.map_some, bin_add, bin_sub, bin_mul, bin_quo, bin_rem, lss_t, lss_f, leq_t, leq_f, gtr_t, gtr_f, geq_t, geq_f, eqi_t, eqi_f, nei_t, nei_f, rem_uw, conv_ui, conv_iu, conv_ii, not_bool, nil_ptr, fa_mk, ptrV, len_mk, cap_mk, eq_ptr_nil, ne_ptr_nil, eq_nil_nil, ne_nil_nil, eq_slice_nil, eq_nil_slice, ia_1, (hc hh5).1, l5, f1, f5]; exact so_so) ?_)
      refine vA_new hh5 fun r7 h7 hh7 => ?_
      refine stN_mk (cs := #[.int .i64 p.addr, p.sv, .bool p.marked]) hh7 (one_ob hpl) rfl (by simp) fun h8 hh8 => ?_
      have hh8 : (pt r7 (.cells #[.int .i64 p.addr, p.sv, .bool p.marked] 30 (0, 0)) * (pt r6 (.cells #[.int .i64 o.addr, o.sv, .bool o.marked] 30 (0, 0)) * (pt r1 (.cells w.cells 26 (0, 0)) * (own g * (F * tt))))) h8 := hh8
      have hcp : ∀ {h : Hp} {G : Asrt}, (pt r7 (.cells #[.int .i64 p.addr, p.sv, .bool p.marked] 30 (0, 0)) * G) h → ld1 (.pointer (some ⟨r7, 0 + 0, none⟩)) h = some (.int .i64 p.addr) ∧ ldN 3 (.pointer (some ⟨r7, 0, none⟩)) h = some (.agg #[.int .i64 p.addr, p.sv, .bool p.marked]) := fun q => ⟨ld1_mk (pt_get q) rfl, by rw [ldN_mk (pt_get q) (by simp)]; rfl⟩
      have h6of : ∀ {h}, (pt r7 (.cells #[.int .i64 p.addr, p.sv, .bool p.marked] 30 (0, 0)) * (pt r6 (.cells #[.int .i64 o.addr, o.sv, .bool o.marked] 30 (0, 0)) * (pt r1 (.cells w.cells 26 (0, 0)) * (own g * (F * tt))))) h → (pt r6 (.cells #[.int .i64 o.addr, o.sv, .bool o.marked] 30 (0, 0)) * (pt r1 (.cells w.cells 26 (0, 0)) * (own g * (F * tt)))) h := fun q =>
        dropL (P := pt r7 (.cells #[.int .i64 p.addr, p.sv, .bool p.marked] 30 (0, 0))) (Q := pt r6 (.cells #[.int .i64 o.addr, o.sv, .bool o.marked] 30 (0, 0)) * (pt r1 (.cells w.cells 26 (0, 0)) * (own g * F))) (asr (by ac_rfl) q) |> asr (by ac_rfl)
      have c6 := (hc (h6of hh8)).1
      by_cases hle : o.addr ≤ p.addr
      · repeat (with_reducible first | refine vP_so ?_ | refine vB_t ?_ | refine vB_f ?_ | refine vE_tt ?_ | refine vE_ff ?_ | refine vE_tf ?_ | refine vE_ft ?_ | refine vE_u ?_ | refine vP_to (by simp (disch := omega) only [gdW_true, gdW_false, gB_true, gB_false, gB_undef, pickV_true, pickV_false, Bool.not_true, Bool.not_false, Option.map_some, bin_add, bin_sub, bin_mul, bin_quo, bin_rem, lss_t, lss_f, leq_t, leq_f, gtr_t, gtr_f, geq_t, geq_f, eqi_t, eqi_f, nei_t, nei_f, rem_uw, conv_ui, conv_iu, conv_ii, not_bool, nil_ptr, fa_mk, ptrV, len_mk, cap_mk, eq_ptr_nil, ne_ptr_nil, eq_nil_nil, ne_nil_nil, eq_slice_nil, eq_nil_slice, ia_1, c6, (hcp hh8).1]; exact so_so) ?_)
        refine ⟨rfl, rfl, ?_⟩
        repeat (with_reducible first | refine vP_so ?_ | refine vB_t ?_ | refine vB_f ?_ | refine vE_tt ?_ | refine vE_ff ?_ | refine vE_tf ?_ | refine vE_ft ?_ | refine vE_u ?_ | refine vP_to (by simp (disch := omega) only [gdW_true, gdW_false, gB_true, gB_false, gB_undef, pickV_true, pickV_false, Bool.not_true, Bool.not_false, Option.map_some, bin_add, bin_sub, bin_mul, bin_quo, bin_rem, lss_t, lss_f, leq_t, leq_f, gtr_t, gtr_f, geq_t, geq_f, eqi_t, eqi_f, nei_t, nei_f, rem_uw, conv_ui, conv_iu, conv_ii, not_bool, nil_ptr, fa_mk, ptrV, len_mk, cap_mk, eq_ptr_nil, ne_ptr_nil, eq_nil_nil, ne_nil_nil, eq_slice_nil, eq_nil_slice, ia_1]; exact so_so) ?_)
        exact fin (.inr (.inr ⟨by omega, p, hpg, .inl hle⟩)) h8 (hdrop (d6 (h6of hh8)))
      repeat (with_reducible first | refine vP_so ?_ | refine vB_t ?_ | refine vB_f ?_ | refine vE_tt ?_ | refine vE_ff ?_ | refine vE_tf ?_ | refine vE_ft ?_ | refine vE_u ?_ | refine vP_to (by simp (disch := omega) only [gdW_true, gdW_false, gB_true, gB_false, gB_undef, pickV_true, pickV_false, Bool.not_true, Bool.not_false, Option.map_some, bin_add, bin_sub, bin_mul, bin_quo, bin_rem, lss_t, lss_f, leq_t, leq_f, gtr_t, gtr_f, geq_t, geq_f, eqi_t, eqi_f, nei_t, nei_f, rem_uw, conv_ui, conv_iu, conv_ii, not_bool, nil_ptr, fa_mk, ptrV, len_mk, cap_mk, eq_ptr_nil, ne_ptr_nil, eq_nil_nil, ne_nil_nil, eq_slice_nil, eq_nil_slice, ia_1, c6, (hcp hh8).1, (hcp hh8).2]; exact so_so) ?_)
      refine use_rsizeO (F := pt r7 (.cells #[.int .i64 p.addr, p.sv, .bool p.marked] 30 (0, 0)) * (pt r6 (.cells #[.int .i64 o.addr, o.sv, .bool o.marked] 30 (0, 0)) * (pt r1 (.cells w.cells 26 (0, 0)) * (own g * F)))) hpl (asr (by ac_rfl) hh8) fun h9 hh9 => ?_
      have hh9 : (pt r7 (.cells #[.int .i64 p.addr, p.sv, .bool p.marked] 30 (0, 0)) * (pt r6 (.cells #[.int .i64 o.addr, o.sv, .bool o.marked] 30 (0, 0)) * (pt r1 (.cells w.cells 26 (0, 0)) * (own g * (F * tt))))) h9 := asr (by ac_rfl) hh9
      refine ⟨?_, ?_, ?_⟩
      · rw [show gB (.bool false) false = true from rfl, gdW_true]; exact (hcp hh9).1
      · rw [show gB (.bool false) false = true from rfl, gdW_true]; exact (hc (h6of hh9)).1
      by_cases hlt : o.addr - p.addr < szO p
      · repeat (with_reducible first | refine vP_so ?_ | refine vB_t ?_ | refine vB_f ?_ | refine vE_tt ?_ | refine vE_ff ?_ | refine vE_tf ?_ | refine vE_ft ?_ | refine vE_u ?_ | refine vP_to (by simp (disch := omega) only [gdW_true, gdW_false, gB_true, gB_false, gB_undef, pickV_true, pickV_false, Bool.not_true, Bool.not_false, Option.map_some, bin_add, bin_sub, bin_mul, bin_quo, bin_rem, lss_t, lss_f, leq_t, leq_f, gtr_t, gtr_f, geq_t, geq_f, eqi_t, eqi_f, nei_t, nei_f, rem_uw, conv_ui, conv_iu, conv_ii, not_bool, nil_ptr, fa_mk, ptrV, len_mk, cap_mk, eq_ptr_nil, ne_ptr_nil, eq_nil_nil, ne_nil_nil, eq_slice_nil, eq_nil_slice, ia_1]; exact so_so) ?_)
        exact fin (.inr (.inr ⟨by omega, p, hpg, .inr hlt⟩)) h9 (hdrop (d6 (h6of hh9)))
      · repeat (with_reducible first | refine vP_so ?_ | refine vB_t ?_ | refine vB_f ?_ | refine vE_tt ?_ | refine vE_ff ?_ | refine vE_tf ?_ | refine vE_ft ?_ | refine vE_u ?_ | refine vP_to (by simp (disch := omega) only [gdW_true, gdW_false, gB_true, gB_false, gB_undef, pickV_true, pickV_false, Bool.not_true, Bool.not_false, Option.map_some, bin_add, bin_sub, bin_mul, bin_quo, bin_rem, lss_t, lss_f, leq_t, leq_f, gtr_t, gtr_f, geq_t, geq_f, eqi_t, eqi_f, nei_t, nei_f, rem_uw, conv_ui, conv_iu, conv_ii, not_bool, nil_ptr, fa_mk, ptrV, len_mk, cap_mk, eq_ptr_nil, ne_ptr_nil, eq_nil_nil, ne_nil_nil, eq_slice_nil, eq_nil_slice, ia_1]; exact so_so) ?_)
        refine nxt (fun q => ?_) h9 (d6 (h6of hh9))
        rcases q with q | q | ⟨_, p', hp', q⟩
        · exact h64 q
        · exact hs0 q
        · obtain rfl : p = p' := Option.some.inj (hpg.symm.trans hp')
          omega
  · obtain rfl : i = w.objs.length := by omega
    have hb : ¬ B2 w := fun ⟨i, o, h1, h2⟩ => hok i o (List.getElem?_eq_some_iff.1 h1).1 h1 h2
    rw [cb_f hb] at hK
    repeat (with_reducible first | refine vP_so ?_ | refine vB_t ?_ | refine vB_f ?_ | refine vE_tt ?_ | refine vE_ff ?_ | refine vE_tf ?_ | refine vE_ft ?_ | refine vE_u ?_ | refine vP_to (by simp (disch := omega) only [gdW_true, gdW_false, gB_true, gB_false, gB_undef, pickV_true, pickV_false, Bool.not_true, Bool.not_false, Option.map_some, bin_add, bin_sub, bin_mul, bin_quo, bin_rem, lss_t, lss_f, leq_t, leq_f, gtr_t, gtr_f, geq_t, geq_f, eqi_t, eqi_f, nei_t, nei_f, rem_uw, conv_ui, conv_iu, conv_ii, not_bool, nil_ptr, fa_mk, ptrV, len_mk, cap_mk, eq_ptr_nil, ne_ptr_nil, eq_nil_nil, ne_nil_nil, eq_slice_nil, eq_nil_slice, ia_1, l5, hol.1]; exact so_so) ?_)
    exact hK h2 (hdrop hh2)

theorem use_rtwice {g : Hp} {w : VW} {F : Asrt} {K : Value → Hp → Prop} {h : Hp} (hv : VAt g w) (hh : (own g * (F * tt)) h)
    (hK : ∀ h', (own g * (F * tt)) h' → K (.bool (cb (B3 w))) h') : CallH Try.prog 53 #[w.val] K h := by
  refine C53 ?_
  unfold D53
  have hgl := hv.gs_len
  refine vA_new (o := .cells w.cells 26 (0, 0)) hh fun r1 h1 hh1 => ?_
  have l4 := (vw_ld (r := r1) (w := w) (E := 26) hh1).2.2.2.2.1
  have hw := own_vat (F := pt r1 (.cells w.cells 26 (0, 0)) * (F * tt)) (asr (by ac_rfl) hh1) hv
  have hd : (own g * (F * tt)) h1 := dropL (P := pt r1 (.cells w.cells 26 (0, 0))) (Q := own g * F) (asr (by ac_rfl) hh1) |> asr (by ac_rfl)
  refine ⟨fun m zs h' => ∃ i : Nat, zs = [.int .i64 i] ∧ m = w.gs.length - i ∧ i ≤ w.gs.length ∧ (∀ (j k : Nat) (a b : Gr), j < i → k < j → w.gs[j]? = some a → w.gs[k]? = some b → a.st = 2 → b.st = 2 → a.p ≠ b.p) ∧ h' = h1, ⟨_, 0, rfl, rfl, by omega, fun j k a b hj => by omega, rfl⟩, ?_⟩
  rintro m v3 h2 ⟨i, hzs, rfl, hi, hno, rfl⟩ _
  obtain rfl : v3 = .int .i64 i := by simpa using hzs
  by_cases hil : i < w.gs.length
  · have hgi : w.gs[i]? = some w.gs[i] := List.getElem?_eq_getElem hil
    obtain ⟨b, q, e1, e2, e3, _, _⟩ := hw.gor hgi .i64
    generalize w.gs[i] = r at *
    repeat (with_reducible first | refine vP_so ?_ | refine vB_t ?_ | refine vB_f ?_ | refine vE_tt ?_ | refine vE_ff ?_ | refine vE_tf ?_ | refine vE_ft ?_ | refine vE_u ?_ | refine vP_to (by simp (disch := omega) only [gdW_true, gdW_false, gB_true, gB_false, gB_undef, pickV_true, pickV_false, Bool.not_true, Bool.not_false, Option.map_some, bin_add, bin_sub, bin_mul, bin_quo, bin_rem, lss_t, lss_f, leq_t, leq_f, gtr_t, gtr_f, geq_t, geq_f, eqi_t, eqi_f, nei_t, nei_f, rem_uw, conv_ui, conv_iu, conv_ii, not_bool, nil_ptr, fa_mk, ptrV, len_mk, cap_mk, eq_ptr_nil, ne_ptr_nil, eq_nil_nil, ne_nil_nil, eq_slice_nil, eq_nil_slice, ia_1, l4, hgl.1]; exact so_so) ?_)
    refine ⟨fun m zs h' => ∃ k : Nat, zs = [.int .i64 k] ∧ m = i - k ∧ k ≤ i ∧ (∀ (k' : Nat) (b : Gr), k' < k → w.gs[k']? = some b → r.st = 2 → b.st = 2 → r.p ≠ b.p) ∧ h' = h2, ⟨_, 0, rfl, rfl, by omega, fun k b hk => by omega, rfl⟩, ?_⟩
    rintro m v4 h3 ⟨k, hzs, rfl, hk, hno2, rfl⟩ _
    obtain rfl : v4 = .int .i64 k := by simpa using hzs
    by_cases hki : k < i
    · have hgk : w.gs[k]? = some w.gs[k] := List.getElem?_eq_getElem (by omega)
      obtain ⟨b', q', f1, f2, f3, _, _⟩ := hw.gor hgk .i64
      generalize w.gs[k] = s at *
      have nxt : ¬ (r.st = 2 ∧ s.st = 2 ∧ r.p = s.p) → ∃ m2, m2 < i - k ∧ ∃ k' : Nat, [Value.int .i64 ((k : Int) + 1)] = [.int .i64 k'] ∧ m2 = i - k' ∧ k' ≤ i ∧ (∀ (k'' : Nat) (b : Gr), k'' < k' → w.gs[k'']? = some b → r.st = 2 → b.st = 2 → r.p ≠ b.p) ∧ h3 = h3 := fun hn => by
        refine ⟨i - (k + 1), by omega, k + 1, by simp, rfl, by omega, fun k' b hk' hb sr sb => ?_, rfl⟩
        by_cases hkk : k' = k
        · subst hkk
          obtain rfl : s = b := Option.some.inj (hgk.symm.trans hb)
          exact fun e => hn ⟨sr, sb, e⟩
        · exact hno2 k' b (by omega) hb sr sb
      by_cases s1 : r.st = 2
      · by_cases s2 : s.st = 2
        · by_cases s3 : r.p = s.p
          · have hb : B3 w := ⟨i, k, r, s, hki, hgi, hgk, s1, s2, s3⟩
            rw [cb_t hb] at hK
            repeat (with_reducible first | refine vP_so ?_ | refine vB_t ?_ | refine vB_f ?_ | refine vE_tt ?_ | refine vE_ff ?_ | refine vE_tf ?_ | refine vE_ft ?_ | refine vE_u ?_ | refine vP_to (by simp (disch := omega) only [gdW_true, gdW_false, gB_true, gB_false, gB_undef, pickV_true, pickV_false, Bool.not_true, Bool.not_false, Option.map_some, bin_add, bin_sub, bin_mul, bin_quo, bin_rem, lss_t, lss_f, leq_t, leq_f, gtr_t, gtr_f, geq_t, geq_f, eqi_t, eqi_f, nei_t, nei_f, rem_uw, conv_ui, conv_iu, conv_ii, not_bool, nil_ptr, fa_mk, ptrV, len_mk, cap_mk, eq_ptr_nil, ne_ptr_nil, eq_nil_nil, ne_nil_nil, eq_slice_nil, eq_nil_slice, ia_1, l4, e1, e2, e3, f1, f2, f3]; exact so_so) ?_)
            exact hK h3 hd
          · repeat (with_reducible first | refine vP_so ?_ | refine vB_t ?_ | refine vB_f ?_ | refine vE_tt ?_ | refine vE_ff ?_ | refine vE_tf ?_ | refine vE_ft ?_ | refine vE_u ?_ | refine vP_to (by simp (disch := omega) only [gdW_true, gdW_false, gB_true, gB_false, gB_undef, pickV_true, pickV_false, Bool.not_true, Bool.not_false, Option.map_some, bin_add, bin_sub, bin_mul, bin_quo, bin_rem, lss_t, lss_f, leq_t, leq_f, gtr_t, gtr_f, geq_t, geq_f, eqi_t, eqi_f, nei_t, nei_f, rem_uw, conv_ui, conv_iu, conv_ii, not_bool, nil_ptr, fa_mk, ptrV, len_mk, cap_mk, eq_ptr_nil, ne_ptr_nil, eq_nil_nil, ne_nil_nil, eq_slice_nil, eq_nil_slice, ia_1, l4, e1, e2, e3, f1, f2, f3]; exact so_so) ?_)
            exact nxt (fun q => s3 q.2.2)
        · repeat (with_reducible first | refine vP_so ?_ | refine vB_t ?_ | refine vB_f ?_ | refine vE_tt ?_ | refine vE_ff ?_ | refine vE_tf ?_ | refine vE_ft ?_ | refine vE_u ?_ | refine vP_to (by simp (disch := omega) only [gdW_true, gdW_false, gB_true, gB_false, gB_undef, pickV_true, pickV_false, Bool.not_true, Bool.not_false, Option.map_some, bin_add, bin_sub, bin_mul, bin_quo, bin_rem, lss_t, lss_f, leq_t, leq_f, gtr_t, gtr_f, geq_t, geq_f, eqi_t, eqi_f, nei_t, nei_f, rem_uw, conv_ui, conv_iu, conv_ii, not_bool, nil_ptr, fa_mk, ptrV, len_mk, cap_mk, eq_ptr_nil, ne_ptr_nil, eq_nil_nil, ne_nil_nil, eq_slice_nil, eq_nil_slice, ia_1, l4, e1, e2, e3, f1, f2, f3]; exact so_so) ?_)
          exact nxt (fun q => s2 q.2.1)
      · repeat (with_reducible first | refine vP_so ?_ | refine vB_t ?_ | refine vB_f ?_ | refine vE_tt ?_ | refine vE_ff ?_ | refine vE_tf ?_ | refine vE_ft ?_ | refine vE_u ?_ | refine vP_to (by simp (disch := omega) only [gdW_true, gdW_false, gB_true, gB_false, gB_undef, pickV_true, pickV_false, Bool.not_true, Bool.not_false, Option.map_some, bin_add, bin_sub, bin_mul, bin_quo, bin_rem, lss_t, lss_f, leq_t, leq_f, gtr_t, gtr_f, geq_t, geq_f, eqi_t, eqi_f, nei_t, nei_f, rem_uw, conv_ui, conv_iu, conv_ii, not_bool, nil_ptr, fa_mk, ptrV, len_mk, cap_mk, eq_ptr_nil, ne_ptr_nil, eq_nil_nil, ne_nil_nil, eq_slice_nil, eq_nil_slice, ia_1, l4, e1, e2, e3, f1, f2, f3]; exact so_so) ?_)
        exact nxt (fun q => s1 q.1)
    · obtain rfl : k = i := by omega
      repeat (with_reducible first | refine vP_so ?_ | refine vB_t ?_ | refine vB_f ?_ | refine vE_tt ?_ | refine vE_ff ?_ | refine vE_tf ?_ | refine vE_ft ?_ | refine vE_u ?_ | refine vP_to (by simp (disch := omega) only [gdW_true, gdW_false, gB_true, gB_false, gB_undef, pickV_true, pickV_false, Bool.not_true, Bool.not_false, Option.map_some, bin_add, bin_sub, bin_mul, bin_quo, bin_rem, lss_t, lss_f, leq_t, leq_f, gtr_t, gtr_f, geq_t, geq_f, eqi_t, eqi_f, nei_t, nei_f, rem_uw, conv_ui, conv_iu, conv_ii, not_bool, nil_ptr, fa_mk, ptrV, len_mk, cap_mk, eq_ptr_nil, ne_ptr_nil, eq_nil_nil, ne_nil_nil, eq_slice_nil, eq_nil_slice, ia_1]; exact so_so) ?_)
      refine ⟨w.gs.length - (k + 1), by omega, k + 1, by simp, rfl, by omega, fun j k' a b hj hk' ha hb sa sb => ?_, rfl⟩
      by_cases hjk : j = k
      · subst hjk
        obtain rfl : r = a := Option.some.inj (hgi.symm.trans ha)
        exact hno2 k' b hk' hb sa sb
      · exact hno j k' a b (by omega) hk' ha hb sa sb
  · obtain rfl : i = w.gs.length := by omega
    have hb : ¬ B3 w := fun ⟨i, k, a, b, h1, h2, h3, h4, h5, h6⟩ => hno i k a b (List.getElem?_eq_some_iff.1 h2).1 h1 h2 h3 h4 h5 h6
    rw [cb_f hb] at hK
    repeat (with_reducible first | refine vP_so ?_ | refine vB_t ?_ | refine vB_f ?_ | refine vE_tt ?_ | refine vE_ff ?_ | refine vE_tf ?_ | refine vE_ft ?_ | refine vE_u ?_ | refine vP_to (by simp (disch := omega) only [gdW_true, gdW_false, gB_true, gB_false, gB_undef, pickV_true, pickV_false, Bool.not_true, Bool.not_false, Option.map_some, bin_add, bin_sub, bin_mul, bin_quo, bin_rem, lss_t, lss_f, leq_t, leq_f, gtr_t, gtr_f, geq_t, geq_f, eqi_t, eqi_f, nei_t, nei_f, rem_uw, conv_ui, conv_iu, conv_ii, not_bool, nil_ptr, fa_mk, ptrV, len_mk, cap_mk, eq_ptr_nil, ne_ptr_nil, eq_nil_nil, ne_nil_nil, eq_slice_nil, eq_nil_slice, ia_1, l4, hgl.1]; exact so_so) ?_)
    exact hK h2 hd

theorem use_rplaced {g : Hp} {w : VW} {ps : Int} {F : Asrt} {K : Value → Hp → Prop} {h : Hp} (hv : VAt g w) (hh : (own g * (F * tt)) h)
    (hK : ∀ h', (own g * (F * tt)) h' → K (.bool (!cb (B4 w ps))) h') : CallH Try.prog 54 #[w.val, .int .i64 ps] K h := by
  refine C54 ?_
  unfold D54
  have hgl := hv.gs_len
  refine vA_new (o := .cells w.cells 26 (0, 0)) hh fun r1 h1 hh1 => ?_
  have l4 := (vw_ld (r := r1) (w := w) (E := 26) hh1).2.2.2.2.1
  have hw := own_vat (F := pt r1 (.cells w.cells 26 (0, 0)) * (F * tt)) (asr (by ac_rfl) hh1) hv
  have hd : (own g * (F * tt)) h1 := dropL (P := pt r1 (.cells w.cells 26 (0, 0))) (Q := own g * F) (asr (by ac_rfl) hh1) |> asr (by ac_rfl)
  refine ⟨fun m zs h' => ∃ i : Nat, zs = [.int .i64 i] ∧ m = w.gs.length - i ∧ i ≤ w.gs.length ∧ (∀ (j : Nat) r, j < i → w.gs[j]? = some r → okG ps r) ∧ h' = h1, ⟨_, 0, rfl, rfl, by omega, fun j r hj => by omega, rfl⟩, ?_⟩
  rintro m v5 h2 ⟨i, hzs, rfl, hi, hok, rfl⟩ _
  obtain rfl : v5 = .int .i64 i := by simpa using hzs
  by_cases hil : i < w.gs.length
  · have hgi : w.gs[i]? = some w.gs[i] := List.getElem?_eq_getElem hil
    obtain ⟨b, q, e1, e2, e3, _, _⟩ := hw.gor hgi .i64
    generalize w.gs[i] = r at *
    repeat (with_reducible first | refine vP_so ?_ | refine vB_t ?_ | refine vB_f ?_ | refine vE_tt ?_ | refine vE_ff ?_ | refine vE_tf ?_ | refine vE_ft ?_ | refine vE_u ?_ | refine vP_to (by simp (disch := omega) only [gdW_true, gdW_false, gB_true, gB_false, gB_undef, pickV_true, pickV_false, Bool.not_true, Bool.not_false, Option.map_some, bin_add, bin_sub, bin_mul, bin_quo, bin_rem, lss_t, lss_f, leq_t, leq_f, gtr_t, gtr_f, geq_t, geq_f, eqi_t, eqi_f, nei_t, nei_f, rem_uw, conv_ui, conv_iu, conv_ii, not_bool, nil_ptr, fa_mk, ptrV, len_mk, cap_mk, eq_ptr_nil, ne_ptr_nil, eq_nil_nil, ne_nil_nil, eq_slice_nil, eq_nil_slice, ia_1, l4, hgl.1]; exact so_so) ?_)
    intro J2 hJ2
    have jt : okG ps r → J2 [] h2 := fun hq => by
      refine hJ2 _ fun _ => ?_
      repeat (with_reducible first | refine vP_so ?_ | refine vB_t ?_ | refine vB_f ?_ | refine vE_tt ?_ | refine vE_ff ?_ | refine vE_tf ?_ | refine vE_ft ?_ | refine vE_u ?_ | refine vP_to (by simp (disch := omega) only [gdW_true, gdW_false, gB_true, gB_false, gB_undef, pickV_true, pickV_false, Bool.not_true, Bool.not_false, Option.map_some, bin_add, bin_sub, bin_mul, bin_quo, bin_rem, lss_t, lss_f, leq_t, leq_f, gtr_t, gtr_f, geq_t, geq_f, eqi_t, eqi_f, nei_t, nei_f, rem_uw, conv_ui, conv_iu, conv_ii, not_bool, nil_ptr, fa_mk, ptrV, len_mk, cap_mk, eq_ptr_nil, ne_ptr_nil, eq_nil_nil, ne_nil_nil, eq_slice_nil, eq_nil_slice, ia_1]; exact so_so) ?_)
      refine ⟨w.gs.length - (i + 1), by omega, i + 1, by simp, rfl, by omega, fun j r' hj hr' => ?_, rfl⟩
      by_cases hji : j = i
      · subst hji
        obtain rfl : r = r' := Option.some.inj (hgi.symm.trans hr')
        exact hq
      · exact hok j r' (by omega) hr'
    have jf : ¬ okG ps r → K (.bool false) h2 := fun hq => by
      have hb : B4 w ps := ⟨i, r, hgi, hq⟩
      rw [cb_t hb] at hK
      exact hK h2 hd
    unfold okG at jt jf
    by_cases s2 : r.st = 2
    · by_cases c1 : r.p < 0 <;> by_cases c2 : ps ≤ r.p <;>
        (repeat (with_reducible first | refine vP_so ?_ | refine vB_t ?_ | refine vB_f ?_ | refine vE_tt ?_ | refine vE_ff ?_ | refine vE_tf ?_ | refine vE_ft ?_ | refine vE_u ?_ | refine vP_to (by simp (disch := omega) only [gdW_true, gdW_false, gB_true, gB_false, gB_undef, pickV_true, pickV_false, Bool.not_true, Bool.not_false, Option.map_some, bin_add, bin_sub, bin_mul, bin_quo, bin_rem, lss_t, lss_f, leq_t, leq_f, gtr_t, gtr_f, geq_t, geq_f, eqi_t, eqi_f, nei_t, nei_f, rem_uw, conv_ui, conv_iu, conv_ii, not_bool, nil_ptr, fa_mk, ptrV, len_mk, cap_mk, eq_ptr_nil, ne_ptr_nil, eq_nil_nil, ne_nil_nil, eq_slice_nil, eq_nil_slice, ia_1, l4, e1, e2, e3]; exact so_so) ?_)
         first
           | exact jt (by omega)
           | exact jf (by omega))
    · by_cases s1 : r.st = 1
      · by_cases c1 : r.p < -1 <;> by_cases c2 : ps ≤ r.p <;>
          (repeat (with_reducible first | refine vP_so ?_ | refine vB_t ?_ | refine vB_f ?_ | refine vE_tt ?_ | refine vE_ff ?_ | refine vE_tf ?_ | refine vE_ft ?_ | refine vE_u ?_ | refine vP_to (by simp (disch := omega) only [gdW_true, gdW_false, gB_true, gB_false, gB_undef, pickV_true, pickV_false, Bool.not_true, Bool.not_false, Option.map_some, bin_add, bin_sub, bin_mul, bin_quo, bin_rem, lss_t, lss_f, leq_t, leq_f, gtr_t, gtr_f, geq_t, geq_f, eqi_t, eqi_f, nei_t, nei_f, rem_uw, conv_ui, conv_iu, conv_ii, not_bool, nil_ptr, fa_mk, ptrV, len_mk, cap_mk, eq_ptr_nil, ne_ptr_nil, eq_nil_nil, ne_nil_nil, eq_slice_nil, eq_nil_slice, ia_1, l4, e1, e2, e3]; exact so_so) ?_)
           first
             | exact jt (by omega)
             | exact jf (by omega))
      · by_cases c1 : r.p = -1 <;>
          (repeat (with_reducible first | refine vP_so ?_ | refine vB_t ?_ | refine vB_f ?_ | refine vE_tt ?_ | refine vE_ff ?_ | refine vE_tf ?_ | refine vE_ft ?_ | refine vE_u ?_ | refine vP_to (by simp (disch := omega) only [gdW_true, gdW_false, gB_true, gB_false, gB_undef, pickV_true, pickV_false, Bool.not_true, Bool.not_false, Option.map_some, bin_add, bin_sub, bin_mul, bin_quo, bin_rem, lss_t, lss_f, leq_t, leq_f, gtr_t, gtr_f, geq_t, geq_f, eqi_t, eqi_f, nei_t, nei_f, rem_uw, conv_ui, conv_iu, conv_ii, not_bool, nil_ptr, fa_mk, ptrV, len_mk, cap_mk, eq_ptr_nil, ne_ptr_nil, eq_nil_nil, ne_nil_nil, eq_slice_nil, eq_nil_slice, ia_1, l4, e1, e2, e3]; exact so_so) ?_)
           first
             | exact jt (by omega)
             | exact jf (by omega))
  · obtain rfl : i = w.gs.length := by omega
    have hb : ¬ B4 w ps := fun ⟨i, r, h1, h2⟩ => h2 (hok i r (List.getElem?_eq_some_iff.1 h1).1 h1)
    rw [cb_f hb] at hK
    repeat (with_reducible first | refine vP_so ?_ | refine vB_t ?_ | refine vB_f ?_ | refine vE_tt ?_ | refine vE_ff ?_ | refine vE_tf ?_ | refine vE_ft ?_ | refine vE_u ?_ | refine vP_to (by simp (disch := omega) only [gdW_true, gdW_false, gB_true, gB_false, gB_undef, pickV_true, pickV_false, Bool.not_true, Bool.not_false, Option.map_some, bin_add, bin_sub, bin_mul, bin_quo, bin_rem, lss_t, lss_f, leq_t, leq_f, gtr_t, gtr_f, geq_t, geq_f, eqi_t, eqi_f, nei_t, nei_f, rem_uw, conv_ui, conv_iu, conv_ii, not_bool, nil_ptr, fa_mk, ptrV, len_mk, cap_mk, eq_ptr_nil, ne_ptr_nil, eq_nil_nil, ne_nil_nil, eq_slice_nil, eq_nil_slice, ia_1, l4, hgl.1]; exact so_so) ?_)
    exact hK h2 hd

theorem use_rnumbers {g : Hp} {w : VW} {F : Asrt} {K : Value → Hp → Prop} {h : Hp} (hv : VAt g w) (hh : (own g * (F * tt)) h)
    (hK : ∀ h', (own g * (F * tt)) h' → K (.bool (!cb (B7 w))) h') : CallH Try.prog 55 #[w.val] K h := by
  refine C55 ?_
  unfold D55
  have hgl := hv.gs_len
  refine vA_new (o := .cells w.cells 26 (0, 0)) hh fun r1 h1 hh1 => ?_
  obtain ⟨l0, l1, l2, _, l4, _⟩ := vw_ld (r := r1) (w := w) (E := 26) hh1
  have hw := own_vat (F := pt r1 (.cells w.cells 26 (0, 0)) * (F * tt)) (asr (by ac_rfl) hh1) hv
  have hd : (own g * (F * tt)) h1 := dropL (P := pt r1 (.cells w.cells 26 (0, 0))) (Q := own g * F) (asr (by ac_rfl) hh1) |> asr (by ac_rfl)
  refine ⟨fun m zs h' => ∃ i : Nat, zs = [.int .i64 i] ∧ m = w.gs.length - i ∧ i ≤ w.gs.length ∧ (∀ (j : Nat) r, j < i → w.gs[j]? = some r → r.stack.length = 16) ∧ h' = h1, ⟨_, 0, rfl, rfl, by omega, fun j r hj => by omega, rfl⟩, ?_⟩
  rintro m v3 h2 ⟨i, hzs, rfl, hi, hok, rfl⟩ _
  obtain rfl : v3 = .int .i64 i := by simpa using hzs
  by_cases hil : i < w.gs.length
  · have hgi : w.gs[i]? = some w.gs[i] := List.getElem?_eq_getElem hil
    obtain ⟨b, q, e1, _, _, e4, _⟩ := hw.gor hgi .i64
    have hstk := hv.stacks w.gs[i] (List.getElem_mem hil)
    generalize w.gs[i] = r at *
    have hslt := hstk.lt
    by_cases h16 : r.stack.length = 16
    · repeat (with_reducible first | refine vP_so ?_ | refine vB_t ?_ | refine vB_f ?_ | refine vE_tt ?_ | refine vE_ff ?_ | refine vE_tf ?_ | refine vE_ft ?_ | refine vE_u ?_ | refine vP_to (by simp (disch := omega) only [gdW_true, gdW_false, gB_true, gB_false, gB_undef, pickV_true, pickV_false, Bool.not_true, Bool.not_false, Option.map_some, bin_add, bin_sub, bin_mul, bin_quo, bin_rem, lss_t, lss_f, leq_t, leq_f, gtr_t, gtr_f, geq_t, geq_f, eqi_t, eqi_f, nei_t, nei_f, rem_uw, conv_ui, conv_iu, conv_ii, not_bool, nil_ptr, fa_mk, ptrV, len_mk, cap_mk, eq_ptr_nil, ne_ptr_nil, eq_nil_nil, ne_nil_nil, eq_slice_nil, eq_nil_slice, ia_1, l4, hgl.1, e1, e4, hstk.len]; exact so_so) ?_)
      refine ⟨w.gs.length - (i + 1), by omega, i + 1, by simp, rfl, by omega, fun j r' hj hr' => ?_, rfl⟩
      by_cases hji : j = i
      · subst hji
        obtain rfl : r = r' := Option.some.inj (hgi.symm.trans hr')
        exact h16
      · exact hok j r' (by omega) hr'
    · have hb : B7 w := .inl ⟨i, r, hgi, h16⟩
      rw [cb_t hb] at hK
      repeat (with_reducible first | refine vP_so ?_ | refine vB_t ?_ | refine vB_f ?_ | refine vE_tt ?_ | refine vE_ff ?_ | refine vE_tf ?_ | refine vE_ft ?_ | refine vE_u ?_ | refine vP_to (by simp (disch := omega) only [gdW_true, gdW_false, gB_true, gB_false, gB_undef, pickV_true, pickV_false, Bool.not_true, Bool.not_false, Option.map_some, bin_add, bin_sub, bin_mul, bin_quo, bin_rem, lss_t, lss_f, leq_t, leq_f, gtr_t, gtr_f, geq_t, geq_f, eqi_t, eqi_f, nei_t, nei_f, rem_uw, conv_ui, conv_iu, conv_ii, not_bool, nil_ptr, fa_mk, ptrV, len_mk, cap_mk, eq_ptr_nil, ne_ptr_nil, eq_nil_nil, ne_nil_nil, eq_slice_nil, eq_nil_slice, ia_1, l4, hgl.1, e1, e4, hstk.len]; exact so_so) ?_)
      exact hK h2 hd
  · obtain rfl : i = w.gs.length := by omega
    have hn : ¬ ∃ (i : Nat) (r : Gr), w.gs[i]? = some r ∧ r.stack.length ≠ 16 := fun ⟨i, r, h1, h2⟩ => h2 (hok i r (List.getElem?_eq_some_iff.1 h1).1 h1)
    have hB : B7 w ↔ w.phase < 0 ∨ 3 < w.phase ∨ w.cycle < 0 ∨ w.clock < 0 := ⟨fun q => q.resolve_left hn, .inr⟩
    have ft : (w.phase < 0 ∨ 3 < w.phase ∨ w.cycle < 0 ∨ w.clock < 0) → K (.bool false) h2 := fun q => by
      rw [cb_t (hB.2 q)] at hK
      exact hK h2 hd
    have ff : ¬ (w.phase < 0 ∨ 3 < w.phase ∨ w.cycle < 0 ∨ w.clock < 0) → K (.bool true) h2 := fun q => by
      rw [cb_f (fun e => q (hB.1 e))] at hK
      exact hK h2 hd
    clear hK hB
    by_cases a1 : w.phase < 0 <;> by_cases a2 : 3 < w.phase <;> by_cases a3 : w.cycle < 0 <;> by_cases a4 : w.clock < 0 <;>
      first
        | (exfalso; omega)
        | (repeat (with_reducible first | refine vP_so ?_ | refine vB_t ?_ | refine vB_f ?_ | refine vE_tt ?_ | refine vE_ff ?_ | refine vE_tf ?_ | refine vE_ft ?_ | refine vE_u ?_ | refine vP_to (by simp (disch := omega) only [gdW_true, gdW_false, gB_true, gB_false, gB_undef, pickV_true, pickV_false, Bool.not_true, Bool.not_false, Option.map_some, bin_add, bin_sub, bin_mul, bin_quo, bin_rem, lss_t, lss_f, leq_t, leq_f, gtr_t, gtr_f, geq_t, geq_f, eqi_t, eqi_f, nei_t, nei_f, rem_uw, conv_ui, conv_iu, conv_ii, not_bool, nil_ptr, fa_mk, ptrV, len_mk, cap_mk, eq_ptr_nil, ne_ptr_nil, eq_nil_nil, ne_nil_nil, eq_slice_nil, eq_nil_slice, ia_1, l0, l1, l2, l4, hgl.1]; exact so_so) ?_)
           first
             | exact ft (by omega)
             | exact ff (by omega))

theorem use_rclean {g : Hp} {w : VW} {F : Asrt} {K : Value → Hp → Prop} {h : Hp} (hv : VAt g w) (hh : (own g * (F * tt)) h)
    (hK : ∀ h', (own g * (F * tt)) h' → K (.bool (!cb (B8 w))) h') : CallH Try.prog 56 #[w.val] K h := by
  refine C56 ?_
  unfold D56
  have hol := hv.objs_len
  refine vA_new (o := .cells w.cells 26 (0, 0)) hh fun r1 h1 hh1 => ?_
  obtain ⟨l0, _, _, _, _, l5, _⟩ := vw_ld (r := r1) (w := w) (E := 26) hh1
  have hw := own_vat (F := pt r1 (.cells w.cells 26 (0, 0)) * (F * tt)) (asr (by ac_rfl) hh1) hv
  have hd : (own g * (F * tt)) h1 := dropL (P := pt r1 (.cells w.cells 26 (0, 0))) (Q := own g * F) (asr (by ac_rfl) hh1) |> asr (by ac_rfl)
  refine ⟨fun m zs h' => ∃ i : Nat, zs = [.int .i64 i] ∧ m = w.objs.length - i ∧ i ≤ w.objs.length ∧ (∀ (j : Nat) o, j < i → w.objs[j]? = some o → ¬ (w.phase = 0 ∧ o.marked = true)) ∧ h' = h1, ⟨_, 0, rfl, rfl, by omega, fun j r hj => by omega, rfl⟩, ?_⟩
  rintro m v3 h2 ⟨i, hzs, rfl, hi, hok, rfl⟩ _
  obtain rfl : v3 = .int .i64 i := by simpa using hzs
  by_cases hil : i < w.objs.length
  · have hoi : w.objs[i]? = some w.objs[i] := List.getElem?_eq_getElem hil
    obtain ⟨b, q, e1, _, _, e4, _⟩ := hw.obj hoi .i64
    generalize w.objs[i] = o at *
    have nxt : ¬ (w.phase = 0 ∧ o.marked = true) → ∃ m1, m1 < w.objs.length - i ∧ ∃ i' : Nat, [Value.int .i64 ((i : Int) + 1)] = [.int .i64 i'] ∧ m1 = w.objs.length - i' ∧ i' ≤ w.objs.length ∧ (∀ (j : Nat) o, j < i' → w.objs[j]? = some o → ¬ (w.phase = 0 ∧ o.marked = true)) ∧ h2 = h2 := fun hn => by
      refine ⟨w.objs.length - (i + 1), by omega, i + 1, by simp, rfl, by omega, fun j o' hj ho' => ?_, rfl⟩
      by_cases hji : j = i
      · subst hji
        obtain rfl : o = o' := Option.some.inj (hoi.symm.trans ho')
        exact hn
      · exact hok j o' (by omega) ho'
    by_cases hp : w.phase = 0
    · cases hm : o.marked with
      | true =>
        rw [hm] at e4
        have hb : B8 w := ⟨hp, i, o, hoi, hm⟩
        rw [cb_t hb] at hK
        repeat (with_reducible first | refine vP_so ?_ | refine vB_t ?_ | refine vB_f ?_ | refine vE_tt ?_ | refine vE_ff ?_ | refine vE_tf ?_ | refine vE_ft ?_ | refine vE_u ?_ | refine vP_to (by simp (disch := omega) only [gdW_true, gdW_false, gB_true, gB_false, gB_undef, pickV_true, pickV_false, Bool.not_true, Bool.not_false, Option.map_some, bin_add, bin_sub, bin_mul, bin_quo, bin_rem, lss_t, lss_f, leq_t, leq_f, gtr_t, gtr_f, geq_t, geq_f, eqi_t, eqi_f, nei_t, nei_f, rem_uw, conv_ui, conv_iu, conv_ii, not_bool, nil_ptr, fa_mk, ptrV, len_mk, cap_mk, eq_ptr_nil, ne_ptr_nil, eq_nil_nil, ne_nil_nil, eq_slice_nil, eq_nil_slice, ia_1, l0, l5, hol.1, e1, e4]; exact so_so) ?_)
        exact hK h2 hd
      | false =>
        rw [hm] at e4
        repeat (with_reducible first | refine vP_so ?_ | refine vB_t ?_ | refine vB_f ?_ | refine vE_tt ?_ | refine vE_ff ?_ | refine vE_tf ?_ | refine vE_ft ?_ | refine vE_u ?_ | refine vP_to (by simp (disch := omega) only [gdW_true, gdW_false, gB_true, gB_false, gB_undef, pickV_true, pickV_false, Bool.not_true, Bool.not_false, Option.map_some, bin_add, bin_sub, bin_mul, bin_quo, bin_rem, lss_t, lss_f, leq_t, leq_f, gtr_t, gtr_f, geq_t, geq_f, eqi_t, eqi_f, nei_t, nei_f, rem_uw, conv_ui, conv_iu, conv_ii, not_bool, nil_ptr, fa_mk, ptrV, len_mk, cap_mk, eq_ptr_nil, ne_ptr_nil, eq_nil_nil, ne_nil_nil, eq_slice_nil, eq_nil_slice, ia_1, l0, l5, hol.1, e1, e4]; exact so_so) ?_)
        exact nxt (fun q => by rw [hm] at q; cases q.2)
    · repeat (with_reducible first | refine vP_so ?_ | refine vB_t ?_ | refine vB_f ?_ | refine vE_tt ?_ | refine vE_ff ?_ | refine vE_tf ?_ | refine vE_ft ?_ | refine vE_u ?_ | refine vP_to (by simp (disch := omega) only [gdW_true, gdW_false, gB_true, gB_false, gB_undef, pickV_true, pickV_false, Bool.not_true, Bool.not_false, Option.map_some, bin_add, bin_sub, bin_mul, bin_quo, bin_rem, lss_t, lss_f, leq_t, leq_f, gtr_t, gtr_f, geq_t, geq_f, eqi_t, eqi_f, nei_t, nei_f, rem_uw, conv_ui, conv_iu, conv_ii, not_bool, nil_ptr, fa_mk, ptrV, len_mk, cap_mk, eq_ptr_nil, ne_ptr_nil, eq_nil_nil, ne_nil_nil, eq_slice_nil, eq_nil_slice, ia_1, l0, l5, hol.1, e1, e4]; exact so_so) ?_)
      exact nxt (fun q => hp q.1)
  · obtain rfl : i = w.objs.length := by omega
    have hb : ¬ B8 w := fun ⟨hp, i, o, h1, h2⟩ => hok i o (List.getElem?_eq_some_iff.1 h1).1 h1 ⟨hp, h2⟩
    rw [cb_f hb] at hK
    repeat (with_reducible first | refine vP_so ?_ | refine vB_t ?_ | refine vB_f ?_ | refine vE_tt ?_ | refine vE_ff ?_ | refine vE_tf ?_ | refine vE_ft ?_ | refine vE_u ?_ | refine vP_to (by simp (disch := omega) only [gdW_true, gdW_false, gB_true, gB_false, gB_undef, pickV_true, pickV_false, Bool.not_true, Bool.not_false, Option.map_some, bin_add, bin_sub, bin_mul, bin_quo, bin_rem, lss_t, lss_f, leq_t, leq_f, gtr_t, gtr_f, geq_t, geq_f, eqi_t, eqi_f, nei_t, nei_f, rem_uw, conv_ui, conv_iu, conv_ii, not_bool, nil_ptr, fa_mk, ptrV, len_mk, cap_mk, eq_ptr_nil, ne_ptr_nil, eq_nil_nil, ne_nil_nil, eq_slice_nil, eq_nil_slice, ia_1, l5, hol.1]; exact so_so) ?_)
    exact hK h2 hd

end Go.Proofs
