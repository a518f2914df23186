/-
  Texts of the proof, in one file: Vr4, Vr5, L1.
-/
import Derived.Test.YtdcoflglkfbpcaaB8
set_option linter.unusedVariables false
set_option linter.unusedSimpArgs false
/-
  Contracts of treadmillref29: the rules.
-/
set_option maxRecDepth 100000
namespace Go.Proofs
open Go.Sl

theorem use_rapart {g : Hp} {w : VW} {F : Asrt} {K : Value → Hp → Prop} {h : Hp} (hv : VAt g w) (hA : ∀ o ∈ w.objs, o.addr ≤ 9223372036854775807) (hh : (own g * (F * tt)) h)
    (hK : ∀ h', (own g * (F * tt)) h' → K (.bool (!cb (B2 w))) h') : CallH Try.prog 52 #[w.val] K h := by
  refine C52 ?_
  unfold D52
  have hol := hv.objs_len
  refine vA_new (o := .cells w.cells 26 (0, 0)) hh fun r1 h1 hh1 => ?_
  have hdrop : ∀ {h}, (pt r1 (.cells w.cells 26 (0, 0)) * (own g * (F * tt))) h → (own g * (F * tt)) h := fun q => dropL (P := pt r1 (.cells w.cells 26 (0, 0))) (Q := own g * F) (asr (by ac_rfl) q) |> asr (by ac_rfl)
  refine ⟨fun m zs h' => ∃ i : Nat, zs = [.int .i64 i] ∧ m = w.objs.length - i ∧ i ≤ w.objs.length ∧ (∀ (j : Nat) o, j < i → w.objs[j]? = some o → ¬ badO w j o) ∧ (pt r1 (.cells w.cells 26 (0, 0)) * (own g * (F * tt))) h', ⟨_, 0, rfl, rfl, by omega, fun j r hj => by omega, hh1⟩, ?_⟩
  rintro m v3 h2 ⟨i, hzs, rfl, hi, hok, hh2⟩ _
  obtain rfl : v3 = .int .i64 i := by simpa using hzs
  have l5 := (vw_ld (r := r1) (w := w) (E := 26) hh2).2.2.2.2.2.1
  by_cases hil : i < w.objs.length
  · have hw := own_vat (F := pt r1 (.cells w.cells 26 (0, 0)) * (F * tt)) (asr (by ac_rfl) hh2) hv
    have hoi : w.objs[i]? = some w.objs[i] := List.getElem?_eq_getElem hil
    obtain ⟨b, q, e1, _, _, _, e5⟩ := hw.obj hoi .i64
    have hsl := hv.slots w.objs[i] (List.getElem_mem hil)
    have hoa := hA w.objs[i] (List.getElem_mem hil)
    generalize w.objs[i] = o at *
    have fin : badO w i o → ∀ h', (own g * (F * tt)) h' → K (.bool false) h' := fun hb h' hq => by
      have hb : B2 w := ⟨i, o, hoi, hb⟩
      rw [cb_t hb] at hK
      exact hK h' hq
    repeat (with_reducible first | refine vP_so ?_ | refine vB_t ?_ | refine vB_f ?_ | refine vE_tt ?_ | refine vE_ff ?_ | refine vE_tf ?_ | refine vE_ft ?_ | refine vE_u ?_ | refine vP_to (by simp (disch := omega) only [gdW_true, gdW_false, gB_true, gB_false, gB_undef, pickV_true, pickV_false, Bool.not_true, Bool.not_false, Option.map_some, bin_add, bin_sub, bin_mul, bin_quo, bin_rem, lss_t, lss_f, leq_t, leq_f, gtr_t, gtr_f, geq_t, geq_f, eqi_t, eqi_f, nei_t, nei_f, rem_uw, conv_ui, conv_iu, conv_ii, not_bool, nil_ptr, fa_mk, ptrV, len_mk, cap_mk, eq_ptr_nil, ne_ptr_nil, eq_nil_nil, ne_nil_nil, eq_slice_nil, eq_nil_slice, ia_1, l5, hol.1]; exact so_so) ?_)
    intro J2 hJ2
    have nxt : ¬ badO w i o → ∀ h', (pt r1 (.cells w.cells 26 (0, 0)) * (own g * (F * tt))) h' → J2 [] h' := fun hn h' hq => by
      refine hJ2 _ fun _ => ?_
      repeat (with_reducible first | refine vP_so ?_ | refine vB_t ?_ | refine vB_f ?_ | refine vE_tt ?_ | refine vE_ff ?_ | refine vE_tf ?_ | refine vE_ft ?_ | refine vE_u ?_ | refine vP_to (by simp (disch := omega) only [gdW_true, gdW_false, gB_true, gB_false, gB_undef, pickV_true, pickV_false, Bool.not_true, Bool.not_false, Option.map_some, bin_add, bin_sub, bin_mul, bin_quo, bin_rem, lss_t, lss_f, leq_t, leq_f, gtr_t, gtr_f, geq_t, geq_f, eqi_t, eqi_f, nei_t, nei_f, rem_uw, conv_ui, conv_iu, conv_ii, not_bool, nil_ptr, fa_mk, ptrV, len_mk, cap_mk, eq_ptr_nil, ne_ptr_nil, eq_nil_nil, ne_nil_nil, eq_slice_nil, eq_nil_slice, ia_1]; exact so_so) ?_)
      refine ⟨w.objs.length - (i + 1), by omega, i + 1, by simp, rfl, by omega, fun j o' hj ho' => ?_, hq⟩
      by_cases hji : j = i
      · subst hji
        obtain rfl : o = o' := Option.some.inj (hoi.symm.trans ho')
        exact hn
      · exact hok j o' (by omega) ho'
    repeat (with_reducible first | refine vP_so ?_ | refine vB_t ?_ | refine vB_f ?_ | refine vE_tt ?_ | refine vE_ff ?_ | refine vE_tf ?_ | refine vE_ft ?_ | refine vE_u ?_ | refine vP_to (by simp (disch := omega) only [gdW_true, gdW_false, gB_true, gB_false, gB_undef, pickV_true, pickV_false, Bool.not_true, Bool.not_false, Option.map_some, bin_add, bin_sub, bin_mul, bin_quo, bin_rem, lss_t, lss_f, leq_t, leq_f, gtr_t, gtr_f, geq_t, geq_f, eqi_t, eqi_f, nei_t, nei_f, rem_uw, conv_ui, conv_iu, conv_ii, not_bool, nil_ptr, fa_mk, ptrV, len_mk, cap_mk, eq_ptr_nil, ne_ptr_nil, eq_nil_nil, ne_nil_nil, eq_slice_nil, eq_nil_slice, ia_1, l5, e1, e5]; exact so_so) ?_)
    refine vA_new hh2 fun r6 h3 hh3 => ?_
    refine stN_mk (cs := #[.int .i64 o.addr, o.sv, .bool o.marked]) hh3 (one_ob hsl) rfl (by simp) fun h4 hh4 => ?_
    have hh4 : (pt r6 (.cells #[.int .i64 o.addr, o.sv, .bool o.marked] 30 (0, 0)) * (pt r1 (.cells w.cells 26 (0, 0)) * (own g * (F * tt)))) h4 := hh4
    have hc : ∀ {h : Hp} {G : Asrt}, (pt r6 (.cells #[.int .i64 o.addr, o.sv, .bool o.marked] 30 (0, 0)) * G) h → ld1 (.pointer (some ⟨r6, 0 + 0, none⟩)) h = some (.int .i64 o.addr) ∧ ldN 3 (.pointer (some ⟨r6, 0, none⟩)) h = some (.agg #[.int .i64 o.addr, o.sv, .bool o.marked]) := fun q => ⟨ld1_mk (pt_get q) rfl, by rw [ldN_mk (pt_get q) (by simp)]; rfl⟩
    have d6 : ∀ {h}, (pt r6 (.cells #[.int .i64 o.addr, o.sv, .bool o.marked] 30 (0, 0)) * (pt r1 (.cells w.cells 26 (0, 0)) * (own g * (F * tt)))) h → (pt r1 (.cells w.cells 26 (0, 0)) * (own g * (F * tt))) h := fun q =>
      dropL (P := pt r6 (.cells #[.int .i64 o.addr, o.sv, .bool o.marked] 30 (0, 0))) (Q := pt r1 (.cells w.cells 26 (0, 0)) * (own g * F)) (asr (by ac_rfl) q) |> asr (by ac_rfl)
    repeat (with_reducible first | refine vP_so ?_ | refine vB_t ?_ | refine vB_f ?_ | refine vE_tt ?_ | refine vE_ff ?_ | refine vE_tf ?_ | refine vE_ft ?_ | refine vE_u ?_ | refine vP_to (by simp (disch := omega) only [gdW_true, gdW_false, gB_true, gB_false, gB_undef, pickV_true, pickV_false, Bool.not_true, Bool.not_false, Option.map_some, bin_add, bin_sub, bin_mul, bin_quo, bin_rem, lss_t, lss_f, leq_t, leq_f, gtr_t, gtr_f, geq_t, geq_f, eqi_t, eqi_f, nei_t, nei_f, rem_uw, conv_ui, conv_iu, conv_ii, not_bool, nil_ptr, fa_mk, ptrV, len_mk, cap_mk, eq_ptr_nil, ne_ptr_nil, eq_nil_nil, ne_nil_nil, eq_slice_nil, eq_nil_slice, ia_1, (hc hh4).2]; exact so_so) ?_)
    refine use_rsizeO (F := pt r6 (.cells #[.int .i64 o.addr, o.sv, .bool o.marked] 30 (0, 0)) * (pt r1 (.cells w.cells 26 (0, 0)) * (own g * F))) hsl (asr (by ac_rfl) hh4) fun h5 hh5 => ?_
    have hh5 : (pt r6 (.cells #[.int .i64 o.addr, o.sv, .bool o.marked] 30 (0, 0)) * (pt r1 (.cells w.cells 26 (0, 0)) * (own g * (F * tt)))) h5 := asr (by ac_rfl) hh5
    by_cases hs0 : szO o = 0
    · repeat (with_reducible first | refine vP_so ?_ | refine vB_t ?_ | refine vB_f ?_ | refine vE_tt ?_ | refine vE_ff ?_ | refine vE_tf ?_ | refine vE_ft ?_ | refine vE_u ?_ | refine vP_to (by simp (disch := omega) only [gdW_true, gdW_false, gB_true, gB_false, gB_undef, pickV_true, pickV_false, Bool.not_true, Bool.not_false, Option.map_some, bin_add, bin_sub, bin_mul, bin_quo, bin_rem, lss_t, lss_f, leq_t, leq_f, gtr_t, gtr_f, geq_t, geq_f, eqi_t, eqi_f, nei_t, nei_f, rem_uw, conv_ui, conv_iu, conv_ii, not_bool, nil_ptr, fa_mk, ptrV, len_mk, cap_mk, eq_ptr_nil, ne_ptr_nil, eq_nil_nil, ne_nil_nil, eq_slice_nil, eq_nil_slice, ia_1]; exact so_so) ?_)
      exact fin (.inr (.inl hs0)) h5 (hdrop (d6 hh5))
    by_cases h64 : o.addr < 64
    · repeat (with_reducible first | refine vP_so ?_ | refine vB_t ?_ | refine vB_f ?_ | refine vE_tt ?_ | refine vE_ff ?_ | refine vE_tf ?_ | refine vE_ft ?_ | refine vE_u ?_ | refine vP_to (by simp (disch := omega) only [gdW_true, gdW_false, gB_true, gB_false, gB_undef, pickV_true, pickV_false, Bool.not_true, Bool.not_false, Option.map_some, bin_add, bin_sub, bin_mul, bin_quo, bin_rem, lss_t, lss_f, leq_t, leq_f, gtr_t, gtr_f, geq_t, geq_f, eqi_t, eqi_f, nei_t, nei_f, rem_uw, conv_ui, conv_iu, conv_ii, not_bool, nil_ptr, fa_mk, ptrV, len_mk, cap_mk, eq_ptr_nil, ne_ptr_nil, eq_nil_nil, ne_nil_nil, eq_slice_nil, eq_nil_slice, ia_1, (hc hh5).1]; exact so_so) ?_)
      exact fin (.inl h64) h5 (hdrop (d6 hh5))
    by_cases hi0 : i = 0
    · subst hi0
      repeat (with_reducible first | refine vP_so ?_ | refine vB_t ?_ | refine vB_f ?_ | refine vE_tt ?_ | refine vE_ff ?_ | refine vE_tf ?_ | refine vE_ft ?_ | refine vE_u ?_ | refine vP_to (by simp (disch := omega) only [gdW_true, gdW_false, gB_true, gB_false, gB_undef, pickV_true, pickV_false, Bool.not_true, Bool.not_false, Option.map_some, bin_add, bin_sub, bin_mul, bin_quo, bin_rem, lss_t, lss_f, leq_t, leq_f, gtr_t, gtr_f, geq_t, geq_f, eqi_t, eqi_f, nei_t, nei_f, rem_uw, conv_ui, conv_iu, conv_ii, not_bool, nil_ptr, fa_mk, ptrV, len_mk, cap_mk, eq_ptr_nil, ne_ptr_nil, eq_nil_nil, ne_nil_nil, eq_slice_nil, eq_nil_slice, ia_1, (hc hh5).1]; exact so_so) ?_)
      exact nxt (fun q => by rcases q with q | q | ⟨q, _⟩ <;> omega) h5 (d6 hh5)
    · have hpg : w.objs[i - 1]? = some w.objs[i - 1] := List.getElem?_eq_getElem (by omega)
      have hpl := hv.slots w.objs[i - 1] (List.getElem_mem (by omega))
      have hpok := hok (i - 1) _ (by omega) hpg
      have hw5 := own_vat (F := pt r6 (.cells #[.int .i64 o.addr, o.sv, .bool o.marked] 30 (0, 0)) * (pt r1 (.cells w.cells 26 (0, 0)) * (F * tt))) (asr (by ac_rfl) hh5) hv
      obtain ⟨b', q', f1, f2, _, _, f5⟩ := hw5.obj hpg .i64
      rw [show ((i - 1 : Nat) : Int) = (i : Int) - 1 by omega] at f1
      generalize w.objs[i - 1] = p at *
      have hp64 : 64 ≤ p.addr := by
        rcases Int.lt_or_le p.addr 64 with q | q
        · exact (hpok (.inl q)).elim
        · exact q
      have l5 := (vw_ld (r := r1) (w := w) (E := 26) (F := pt r6 (.cells #[.int .i64 o.addr, o.sv, .bool o.marked] 30 (0, 0)) * (own g * (F * tt))) (asr (by ac_rfl) hh5)).2.2.2.2.2.1
      repeat (with_reducible first | refine vP_so ?_ | refine vB_t ?_ | refine vB_f ?_ | refine vE_tt ?_ | refine vE_ff ?_ | refine vE_tf ?_ | refine vE_ft ?_ | refine vE_u ?_ | refine vP_to (by simp (disch := omega) only [gdW_true, gdW_false, gB_true, gB_false, gB_undef, pickV_true, pickV_false, Bool.not_true, Bool.not_false, Option.map_some, bin_add, bin_sub, bin_mul, bin_quo, bin_rem, lss_t, lss_f, leq_t, leq_f, gtr_t, gtr_f, geq_t, geq_f, eqi_t, eqi_f, nei_t, nei_f, rem_uw, conv_ui, conv_iu, conv_ii, not_bool, nil_ptr, fa_mk, ptrV, len_mk, cap_mk, eq_ptr_nil, ne_ptr_nil, eq_nil_nil, ne_nil_nil, eq_slice_nil, eq_nil_slice, ia_1, (hc hh5).1, l5, f1, f5]; exact so_so) ?_)
      refine vA_new hh5 fun r7 h7 hh7 => ?_
      refine stN_mk (cs := #[.int .i64 p.addr, p.sv, .bool p.marked]) hh7 (one_ob hpl) rfl (by simp) fun h8 hh8 => ?_
      have hh8 : (pt r7 (.cells #[.int .i64 p.addr, p.sv, .bool p.marked] 30 (0, 0)) * (pt r6 (.cells #[.int .i64 o.addr, o.sv, .bool o.marked] 30 (0, 0)) * (pt r1 (.cells w.cells 26 (0, 0)) * (own g * (F * tt))))) h8 := hh8
      have hcp : ∀ {h : Hp} {G : Asrt}, (pt r7 (.cells #[.int .i64 p.addr, p.sv, .bool p.marked] 30 (0, 0)) * G) h → ld1 (.pointer (some ⟨r7, 0 + 0, none⟩)) h = some (.int .i64 p.addr) ∧ ldN 3 (.pointer (some ⟨r7, 0, none⟩)) h = some (.agg #[.int .i64 p.addr, p.sv, .bool p.marked]) := fun q => ⟨ld1_mk (pt_get q) rfl, by rw [ldN_mk (pt_get q) (by simp)]; rfl⟩
      have h6of : ∀ {h}, (pt r7 (.cells #[.int .i64 p.addr, p.sv, .bool p.marked] 30 (0, 0)) * (pt r6 (.cells #[.int .i64 o.addr, o.sv, .bool o.marked] 30 (0, 0)) * (pt r1 (.cells w.cells 26 (0, 0)) * (own g * (F * tt))))) h → (pt r6 (.cells #[.int .i64 o.addr, o.sv, .bool o.marked] 30 (0, 0)) * (pt r1 (.cells w.cells 26 (0, 0)) * (own g * (F * tt)))) h := fun q =>
        dropL (P := pt r7 (.cells #[.int .i64 p.addr, p.sv, .bool p.marked] 30 (0, 0))) (Q := pt r6 (.cells #[.int .i64 o.addr, o.sv, .bool o.marked] 30 (0, 0)) * (pt r1 (.cells w.cells 26 (0, 0)) * (own g * F))) (asr (by ac_rfl) q) |> asr (by ac_rfl)
      have c6 := (hc (h6of hh8)).1
      by_cases hle : o.addr ≤ p.addr
      · repeat (with_reducible first | refine vP_so ?_ | refine vB_t ?_ | refine vB_f ?_ | refine vE_tt ?_ | refine vE_ff ?_ | refine vE_tf ?_ | refine vE_ft ?_ | refine vE_u ?_ | refine vP_to (by simp (disch := omega) only [gdW_true, gdW_false, gB_true, gB_false, gB_undef, pickV_true, pickV_false, Bool.not_true, Bool.not_false, Option.map_some, bin_add, bin_sub, bin_mul, bin_quo, bin_rem, lss_t, lss_f, leq_t, leq_f, gtr_t, gtr_f, geq_t, geq_f, eqi_t, eqi_f, nei_t, nei_f, rem_uw, conv_ui, conv_iu, conv_ii, not_bool, nil_ptr, fa_mk, ptrV, len_mk, cap_mk, eq_ptr_nil, ne_ptr_nil, eq_nil_nil, ne_nil_nil, eq_slice_nil, eq_nil_slice, ia_1, c6, (hcp hh8).1]; exact so_so) ?_)
        refine ⟨rfl, rfl, ?_⟩
        repeat (with_reducible first | refine vP_so ?_ | refine vB_t ?_ | refine vB_f ?_ | refine vE_tt ?_ | refine vE_ff ?_ | refine vE_tf ?_ | refine vE_ft ?_ | refine vE_u ?_ | refine vP_to (by simp (disch := omega) only [gdW_true, gdW_false, gB_true, gB_false, gB_undef, pickV_true, pickV_false, Bool.not_true, Bool.not_false, Option.map_some, bin_add, bin_sub, bin_mul, bin_quo, bin_rem, lss_t, lss_f, leq_t, leq_f, gtr_t, gtr_f, geq_t, geq_f, eqi_t, eqi_f, nei_t, nei_f, rem_uw, conv_ui, conv_iu, conv_ii, not_bool, nil_ptr, fa_mk, ptrV, len_mk, cap_mk, eq_ptr_nil, ne_ptr_nil, eq_nil_nil, ne_nil_nil, eq_slice_nil, eq_nil_slice, ia_1]; exact so_so) ?_)
        exact fin (.inr (.inr ⟨by omega, p, hpg, .inl hle⟩)) h8 (hdrop (d6 (h6of hh8)))
      repeat (with_reducible first | refine vP_so ?_ | refine vB_t ?_ | refine vB_f ?_ | refine vE_tt ?_ | refine vE_ff ?_ | refine vE_tf ?_ | refine vE_ft ?_ | refine vE_u ?_ | refine vP_to (by simp (disch := omega) only [gdW_true, gdW_false, gB_true, gB_false, gB_undef, pickV_true, pickV_false, Bool.not_true, Bool.not_false, Option.map_some, bin_add, bin_sub, bin_mul, bin_quo, bin_rem, lss_t, lss_f, leq_t, leq_f, gtr_t, gtr_f, geq_t, geq_f, eqi_t, eqi_f, nei_t, nei_f, rem_uw, conv_ui, conv_iu, conv_ii, not_bool, nil_ptr, fa_mk, ptrV, len_mk, cap_mk, eq_ptr_nil, ne_ptr_nil, eq_nil_nil, ne_nil_nil, eq_slice_nil, eq_nil_slice, ia_1, c6, (hcp hh8).1, (hcp hh8).2]; exact so_so) ?_)
      refine use_rsizeO (F := pt r7 (.cells #[.int .i64 p.addr, p.sv, .bool p.marked] 30 (0, 0)) * (pt r6 (.cells #[.int .i64 o.addr, o.sv, .bool o.marked] 30 (0, 0)) * (pt r1 (.cells w.cells 26 (0, 0)) * (own g * F)))) hpl (asr (by ac_rfl) hh8) fun h9 hh9 => ?_
      have hh9 : (pt r7 (.cells #[.int .i64 p.addr, p.sv, .bool p.marked] 30 (0, 0)) * (pt r6 (.cells #[.int .i64 o.addr, o.sv, .bool o.marked] 30 (0, 0)) * (pt r1 (.cells w.cells 26 (0, 0)) * (own g * (F * tt))))) h9 := asr (by ac_rfl) hh9
      refine ⟨?_, ?_, ?_⟩
      · rw [show gB (.bool false) false = true from rfl, gdW_true]; exact (hcp hh9).1
      · rw [show gB (.bool false) false = true from rfl, gdW_true]; exact (hc (h6of hh9)).1
      by_cases hlt : o.addr - p.addr < szO p
      · repeat (with_reducible first | refine vP_so ?_ | refine vB_t ?_ | refine vB_f ?_ | refine vE_tt ?_ | refine vE_ff ?_ | refine vE_tf ?_ | refine vE_ft ?_ | refine vE_u ?_ | refine vP_to (by simp (disch := omega) only [gdW_true, gdW_false, gB_true, gB_false, gB_undef, pickV_true, pickV_false, Bool.not_true, Bool.not_false, Option.map_some, bin_add, bin_sub, bin_mul, bin_quo, bin_rem, lss_t, lss_f, leq_t, leq_f, gtr_t, gtr_f, geq_t, geq_f, eqi_t, eqi_f, nei_t, nei_f, rem_uw, conv_ui, conv_iu, conv_ii, not_bool, nil_ptr, fa_mk, ptrV, len_mk, cap_mk, eq_ptr_nil, ne_ptr_nil, eq_nil_nil, ne_nil_nil, eq_slice_nil, eq_nil_slice, ia_1]; exact so_so) ?_)
        exact fin (.inr (.inr ⟨by omega, p, hpg, .inr hlt⟩)) h9 (hdrop (d6 (h6of hh9)))
      · repeat (with_reducible first | refine vP_so ?_ | refine vB_t ?_ | refine vB_f ?_ | refine vE_tt ?_ | refine vE_ff ?_ | refine vE_tf ?_ | refine vE_ft ?_ | refine vE_u ?_ | refine vP_to (by simp (disch := omega) only [gdW_true, gdW_false, gB_true, gB_false, gB_undef, pickV_true, pickV_false, Bool.not_true, Bool.not_false, Option.map_some, bin_add, bin_sub, bin_mul, bin_quo, bin_rem, lss_t, lss_f, leq_t, leq_f, gtr_t, gtr_f, geq_t, geq_f, eqi_t, eqi_f, nei_t, nei_f, rem_uw, conv_ui, conv_iu, conv_ii, not_bool, nil_ptr, fa_mk, ptrV, len_mk, cap_mk, eq_ptr_nil, ne_ptr_nil, eq_nil_nil, ne_nil_nil, eq_slice_nil, eq_nil_slice, ia_1]; exact so_so) ?_)
        refine nxt (fun q => ?_) h9 (d6 (h6of hh9))
        rcases q with q | q | ⟨_, p', hp', q⟩
        · exact h64 q
        · exact hs0 q
        · obtain rfl : p = p' := Option.some.inj (hpg.symm.trans hp')
          omega
  · obtain rfl : i = w.objs.length := by omega
    have hb : ¬ B2 w := fun ⟨i, o, h1, h2⟩ => hok i o (List.getElem?_eq_some_iff.1 h1).1 h1 h2
    rw [cb_f hb] at hK
    repeat (with_reducible first | refine vP_so ?_ | refine vB_t ?_ | refine vB_f ?_ | refine vE_tt ?_ | refine vE_ff ?_ | refine vE_tf ?_ | refine vE_ft ?_ | refine vE_u ?_ | refine vP_to (by simp (disch := omega) only [gdW_true, gdW_false, gB_true, gB_false, gB_undef, pickV_true, pickV_false, Bool.not_true, Bool.not_false, Option.map_some, bin_add, bin_sub, bin_mul, bin_quo, bin_rem, lss_t, lss_f, leq_t, leq_f, gtr_t, gtr_f, geq_t, geq_f, eqi_t, eqi_f, nei_t, nei_f, rem_uw, conv_ui, conv_iu, conv_ii, not_bool, nil_ptr, fa_mk, ptrV, len_mk, cap_mk, eq_ptr_nil, ne_ptr_nil, eq_nil_nil, ne_nil_nil, eq_slice_nil, eq_nil_slice, ia_1, l5, hol.1]; exact so_so) ?_)
    exact hK h2 (hdrop hh2)

theorem use_rtwice {g : Hp} {w : VW} {F : Asrt} {K : Value → Hp → Prop} {h : Hp} (hv : VAt g w) (hh : (own g * (F * tt)) h)
    (hK : ∀ h', (own g * (F * tt)) h' → K (.bool (cb (B3 w))) h') : CallH Try.prog 53 #[w.val] K h := by
  refine C53 ?_
  unfold D53
  have hgl := hv.gs_len
  refine vA_new (o := .cells w.cells 26 (0, 0)) hh fun r1 h1 hh1 => ?_
  have l4 := (vw_ld (r := r1) (w := w) (E := 26) hh1).2.2.2.2.1
  have hw := own_vat (F := pt r1 (.cells w.cells 26 (0, 0)) * (F * tt)) (asr (by ac_rfl) hh1) hv
  have hd : (own g * (F * tt)) h1 := dropL (P := pt r1 (.cells w.cells 26 (0, 0))) (Q := own g * F) (asr (by ac_rfl) hh1) |> asr (by ac_rfl)
  refine ⟨fun m zs h' => ∃ i : Nat, zs = [.int .i64 i] ∧ m = w.gs.length - i ∧ i ≤ w.gs.length ∧ (∀ (j k : Nat) (a b : Gr), j < i → k < j → w.gs[j]? = some a → w.gs[k]? = some b → a.st = 2 → b.st = 2 → a.p ≠ b.p) ∧ h' = h1, ⟨_, 0, rfl, rfl, by omega, fun j k a b hj => by omega, rfl⟩, ?_⟩
  rintro m v3 h2 ⟨i, hzs, rfl, hi, hno, rfl⟩ _
  obtain rfl : v3 = .int .i64 i := by simpa using hzs
  by_cases hil : i < w.gs.length
  · have hgi : w.gs[i]? = some w.gs[i] := List.getElem?_eq_getElem hil
    obtain ⟨b, q, e1, e2, e3, _, _⟩ := hw.gor hgi .i64
    generalize w.gs[i] = r at *
    repeat (with_reducible first | refine vP_so ?_ | refine vB_t ?_ | refine vB_f ?_ | refine vE_tt ?_ | refine vE_ff ?_ | refine vE_tf ?_ | refine vE_ft ?_ | refine vE_u ?_ | refine vP_to (by simp (disch := omega) only [gdW_true, gdW_false, gB_true, gB_false, gB_undef, pickV_true, pickV_false, Bool.not_true, Bool.not_false, Option.map_some, bin_add, bin_sub, bin_mul, bin_quo, bin_rem, lss_t, lss_f, leq_t, leq_f, gtr_t, gtr_f, geq_t, geq_f, eqi_t, eqi_f, nei_t, nei_f, rem_uw, conv_ui, conv_iu, conv_ii, not_bool, nil_ptr, fa_mk, ptrV, len_mk, cap_mk, eq_ptr_nil, ne_ptr_nil, eq_nil_nil, ne_nil_nil, eq_slice_nil, eq_nil_slice, ia_1, l4, hgl.1]; exact so_so) ?_)
    refine ⟨fun m zs h' => ∃ k : Nat, zs = [.int .i64 k] ∧ m = i - k ∧ k ≤ i ∧ (∀ (k' : Nat) (b : Gr), k' < k → w.gs[k']? = some b → r.st = 2 → b.st = 2 → r.p ≠ b.p) ∧ h' = h2, ⟨_, 0, rfl, rfl, by omega, fun k b hk => by omega, rfl⟩, ?_⟩
    rintro m v4 h3 ⟨k, hzs, rfl, hk, hno2, rfl⟩ _
    obtain rfl : v4 = .int .i64 k := by simpa using hzs
    by_cases hki : k < i
    · have hgk : w.gs[k]? = some w.gs[k] := List.getElem?_eq_getElem (by omega)
      obtain ⟨b', q', f1, f2, f3, _, _⟩ := hw.gor hgk .i64
      generalize w.gs[k] = s at *
      have nxt : ¬ (r.st = 2 ∧ s.st = 2 ∧ r.p = s.p) → ∃ m2, m2 < i - k ∧ ∃ k' : Nat, [Value.int .i64 ((k : Int) + 1)] = [.int .i64 k'] ∧ m2 = i - k' ∧ k' ≤ i ∧ (∀ (k'' : Nat) (b : Gr), k'' < k' → w.gs[k'']? = some b → r.st = 2 → b.st = 2 → r.p ≠ b.p) ∧ h3 = h3 := fun hn => by
        refine ⟨i - (k + 1), by omega, k + 1, by simp, rfl, by omega, fun k' b hk' hb sr sb => ?_, rfl⟩
        by_cases hkk : k' = k
        · subst hkk
          obtain rfl : s = b := Option.some.inj (hgk.symm.trans hb)
          exact fun e => hn ⟨sr, sb, e⟩
        · exact hno2 k' b (by omega) hb sr sb
      by_cases s1 : r.st = 2
      · by_cases s2 : s.st = 2
        · by_cases s3 : r.p = s.p
          · have hb : B3 w := ⟨i, k, r, s, hki, hgi, hgk, s1, s2, s3⟩
            rw [cb_t hb] at hK
            repeat (with_reducible first | refine vP_so ?_ | refine vB_t ?_ | refine vB_f ?_ | refine vE_tt ?_ | refine vE_ff ?_ | refine vE_tf ?_ | refine vE_ft ?_ | refine vE_u ?_ | refine vP_to (by simp (disch := omega) only [gdW_true, gdW_false, gB_true, gB_false, gB_undef, pickV_true, pickV_false, Bool.not_true, Bool.not_false, Option.map_some, bin_add, bin_sub, bin_mul, bin_quo, bin_rem, lss_t, lss_f, leq_t, leq_f, gtr_t, gtr_f, geq_t, geq_f, eqi_t, eqi_f, nei_t, nei_f, rem_uw, conv_ui, conv_iu, conv_ii, not_bool, nil_ptr, fa_mk, ptrV, len_mk, cap_mk, eq_ptr_nil, ne_ptr_nil, eq_nil_nil, ne_nil_nil, eq_slice_nil, eq_nil_slice, ia_1, l4, e1, e2, e3, f1, f2, f3]; exact so_so) ?_)
            exact hK h3 hd
          · repeat (with_reducible first | refine vP_so ?_ | refine vB_t ?_ | refine vB_f ?_ | refine vE_tt ?_ | refine vE_ff ?_ | refine vE_tf ?_ | refine vE_ft ?_ | refine vE_u ?_ | refine vP_to (by simp (disch := omega) only [gdW_true, gdW_false, gB_true, gB_false, gB_undef, pickV_true, pickV_false, Bool.not_true, Bool.not_false, Option.map_some, bin_add, bin_sub, bin_mul, bin_quo, bin_rem, lss_t, lss_f, leq_t, leq_f, gtr_t, gtr_f, geq_t, geq_f, eqi_t, eqi_f, nei_t, nei_f, rem_uw, conv_ui, conv_iu, conv_ii, not_bool, nil_ptr, fa_mk, ptrV, len_mk, cap_mk, eq_ptr_nil, ne_ptr_nil, eq_nil_nil, ne_nil_nil, eq_slice_nil, eq_nil_slice, ia_1, l4, e1, e2, e3, f1, f2, f3]; exact so_so) ?_)
            exact nxt (fun q => s3 q.2.2)
        · repeat (with_reducible first | refine vP_so ?_ | refine vB_t ?_ | refine vB_f ?_ | refine vE_tt ?_ | refine vE_ff ?_ | refine vE_tf ?_ | refine vE_ft ?_ | refine vE_u ?_ | refine vP_to (by simp (disch := omega) only [gdW_true, gdW_false, gB_true, gB_false, gB_undef, pickV_true, pickV_false, Bool.not_true, Bool.not_false, Option.map_some, bin_add, bin_sub, bin_mul, bin_quo, bin_rem, lss_t, lss_f, leq_t, leq_f, gtr_t, gtr_f, geq_t, geq_f, eqi_t, eqi_f, nei_t, nei_f, rem_uw, conv_ui, conv_iu, conv_ii, not_bool, nil_ptr, fa_mk, ptrV, len_mk, cap_mk, eq_ptr_nil, ne_ptr_nil, eq_nil_nil, ne_nil_nil, eq_slice_nil, eq_nil_slice, ia_1, l4, e1, e2, e3, f1, f2, f3]; exact so_so) ?_)
          exact nxt (fun q => s2 q.2.1)
      · repeat (with_reducible first | refine vP_so ?_ | refine vB_t ?_ | refine vB_f ?_ | refine vE_tt ?_ | refine vE_ff ?_ | refine vE_tf ?_ | refine vE_ft ?_ | refine vE_u ?_ | refine vP_to (by simp (disch := omega) only [gdW_true, gdW_false, gB_true, gB_false, gB_undef, pickV_true, pickV_false, Bool.not_true, Bool.not_false, Option.map_some, bin_add, bin_sub, bin_mul, bin_quo, bin_rem, lss_t, lss_f, leq_t, leq_f, gtr_t, gtr_f, geq_t, geq_f, eqi_t, eqi_f, nei_t, nei_f, rem_uw, conv_ui, conv_iu, conv_ii, not_bool, nil_ptr, fa_mk, ptrV, len_mk, cap_mk, eq_ptr_nil, ne_ptr_nil, eq_nil_nil, ne_nil_nil, eq_slice_nil, eq_nil_slice, ia_1, l4, e1, e2, e3, f1, f2, f3]; exact so_so) ?_)
        exact nxt (fun q => s1 q.1)
    · obtain rfl : k = i := by omega
      repeat (with_reducible first | refine vP_so ?_ | refine vB_t ?_ | refine vB_f ?_ | refine vE_tt ?_ | refine vE_ff ?_ | refine vE_tf ?_ | refine vE_ft ?_ | refine vE_u ?_ | refine vP_to (by simp (disch := omega) only [gdW_true, gdW_false, gB_true, gB_false, gB_undef, pickV_true, pickV_false, Bool.not_true, Bool.not_false, Option.map_some, bin_add, bin_sub, bin_mul, bin_quo, bin_rem, lss_t, lss_f, leq_t, leq_f, gtr_t, gtr_f, geq_t, geq_f, eqi_t, eqi_f, nei_t, nei_f, rem_uw, conv_ui, conv_iu, conv_ii, not_bool, nil_ptr, fa_mk, ptrV, len_mk, cap_mk, eq_ptr_nil, ne_ptr_nil, eq_nil_nil, ne_nil_nil, eq_slice_nil, eq_nil_slice, ia_1]; exact so_so) ?_)
      refine ⟨w.gs.length - (k + 1), by omega, k + 1, by simp, rfl, by omega, fun j k' a b hj hk' ha hb sa sb => ?_, rfl⟩
      by_cases hjk : j = k
      · subst hjk
        obtain rfl : r = a := Option.some.inj (hgi.symm.trans ha)
        exact hno2 k' b hk' hb sa sb
      · exact hno j k' a b (by omega) hk' ha hb sa sb
  · obtain rfl : i = w.gs.length := by omega
    have hb : ¬ B3 w := fun ⟨i, k, a, b, h1, h2, h3, h4, h5, h6⟩ => hno i k a b (List.getElem?_eq_some_iff.1 h2).1 h1 h2 h3 h4 h5 h6
    rw [cb_f hb] at hK
    repeat (with_reducible first | refine vP_so ?_ | refine vB_t ?_ | refine vB_f ?_ | refine vE_tt ?_ | refine vE_ff ?_ | refine vE_tf ?_ | refine vE_ft ?_ | refine vE_u ?_ | refine vP_to (by simp (disch := omega) only [gdW_true, gdW_false, gB_true, gB_false, gB_undef, pickV_true, pickV_false, Bool.not_true, Bool.not_false, Option.map_some, bin_add, bin_sub, bin_mul, bin_quo, bin_rem, lss_t, lss_f, leq_t, leq_f, gtr_t, gtr_f, geq_t, geq_f, eqi_t, eqi_f, nei_t, nei_f, rem_uw, conv_ui, conv_iu, conv_ii, not_bool, nil_ptr, fa_mk, ptrV, len_mk, cap_mk, eq_ptr_nil, ne_ptr_nil, eq_nil_nil, ne_nil_nil, eq_slice_nil, eq_nil_slice, ia_1, l4, hgl.1]; exact so_so) ?_)
    exact hK h2 hd

theorem use_rplaced {g : Hp} {w : VW} {ps : Int} {F : Asrt} {K : Value → Hp → Prop} {h : Hp} (hv : VAt g w) (hh : (own g * (F * tt)) h)
    (hK : ∀ h', (own g * (F * tt)) h' → K (.bool (!cb (B4 w ps))) h') : CallH Try.prog 54 #[w.val, .int .i64 ps] K h := by
  refine C54 ?_
  unfold D54
  have hgl := hv.gs_len
  refine vA_new (o := .cells w.cells 26 (0, 0)) hh fun r1 h1 hh1 => ?_
  have l4 := (vw_ld (r := r1) (w := w) (E := 26) hh1).2.2.2.2.1
  have hw := own_vat (F := pt r1 (.cells w.cells 26 (0, 0)) * (F * tt)) (asr (by ac_rfl) hh1) hv
  have hd : (own g * (F * tt)) h1 := dropL (P := pt r1 (.cells w.cells 26 (0, 0))) (Q := own g * F) (asr (by ac_rfl) hh1) |> asr (by ac_rfl)
  refine ⟨fun m zs h' => ∃ i : Nat, zs = [.int .i64 i] ∧ m = w.gs.length - i ∧ i ≤ w.gs.length ∧ (∀ (j : Nat) r, j < i → w.gs[j]? = some r → okG ps r) ∧ h' = h1, ⟨_, 0, rfl, rfl, by omega, fun j r hj => by omega, rfl⟩, ?_⟩
  rintro m v5 h2 ⟨i, hzs, rfl, hi, hok, rfl⟩ _
  obtain rfl : v5 = .int .i64 i := by simpa using hzs
  by_cases hil : i < w.gs.length
  · have hgi : w.gs[i]? = some w.gs[i] := List.getElem?_eq_getElem hil
    obtain ⟨b, q, e1, e2, e3, _, _⟩ := hw.gor hgi .i64
    generalize w.gs[i] = r at *
    repeat (with_reducible first | refine vP_so ?_ | refine vB_t ?_ | refine vB_f ?_ | refine vE_tt ?_ | refine vE_ff ?_ | refine vE_tf ?_ | refine vE_ft ?_ | refine vE_u ?_ | refine vP_to (by simp (disch := omega) only [gdW_true, gdW_false, gB_true, gB_false, gB_undef, pickV_true, pickV_false, Bool.not_true, Bool.not_false, Option.map_some, bin_add, bin_sub, bin_mul, bin_quo, bin_rem, lss_t, lss_f, leq_t, leq_f, gtr_t, gtr_f, geq_t, geq_f, eqi_t, eqi_f, nei_t, nei_f, rem_uw, conv_ui, conv_iu, conv_ii, not_bool, nil_ptr, fa_mk, ptrV, len_mk, cap_mk, eq_ptr_nil, ne_ptr_nil, eq_nil_nil, ne_nil_nil, eq_slice_nil, eq_nil_slice, ia_1, l4, hgl.1]; exact so_so) ?_)
    intro J2 hJ2
    have jt : okG ps r → J2 [] h2 := fun hq => by
      refine hJ2 _ fun _ => ?_
      repeat (with_reducible first | refine vP_so ?_ | refine vB_t ?_ | refine vB_f ?_ | refine vE_tt ?_ | refine vE_ff ?_ | refine vE_tf ?_ | refine vE_ft ?_ | refine vE_u ?_ | refine vP_to (by simp (disch := omega) only [gdW_true, gdW_false, gB_true, gB_false, gB_undef, pickV_true, pickV_false, Bool.not_true, Bool.not_false, Option.map_some, bin_add, bin_sub, bin_mul, bin_quo, bin_rem, lss_t, lss_f, leq_t, leq_f, gtr_t, gtr_f, geq_t, geq_f, eqi_t, eqi_f, nei_t, nei_f, rem_uw, conv_ui, conv_iu, conv_ii, not_bool, nil_ptr, fa_mk, ptrV, len_mk, cap_mk, eq_ptr_nil, ne_ptr_nil, eq_nil_nil, ne_nil_nil, eq_slice_nil, eq_nil_slice, ia_1]; exact so_so) ?_)
      refine ⟨w.gs.length - (i + 1), by omega, i + 1, by simp, rfl, by omega, fun j r' hj hr' => ?_, rfl⟩
      by_cases hji : j = i
      · subst hji
        obtain rfl : r = r' := Option.some.inj (hgi.symm.trans hr')
        exact hq
      · exact hok j r' (by omega) hr'
    have jf : ¬ okG ps r → K (.bool false) h2 := fun hq => by
      have hb : B4 w ps := ⟨i, r, hgi, hq⟩
      rw [cb_t hb] at hK
      exact hK h2 hd
    unfold okG at jt jf
    by_cases s2 : r.st = 2
    · by_cases c1 : r.p < 0 <;> by_cases c2 : ps ≤ r.p <;>
        (repeat (with_reducible first | refine vP_so ?_ | refine vB_t ?_ | refine vB_f ?_ | refine vE_tt ?_ | refine vE_ff ?_ | refine vE_tf ?_ | refine vE_ft ?_ | refine vE_u ?_ | refine vP_to (by simp (disch := omega) only [gdW_true, gdW_false, gB_true, gB_false, gB_undef, pickV_true, pickV_false, Bool.not_true, Bool.not_false, Option.map_some, bin_add, bin_sub, bin_mul, bin_quo, bin_rem, lss_t, lss_f, leq_t, leq_f, gtr_t, gtr_f, geq_t, geq_f, eqi_t, eqi_f, nei_t, nei_f, rem_uw, conv_ui, conv_iu, conv_ii, not_bool, nil_ptr, fa_mk, ptrV, len_mk, cap_mk, eq_ptr_nil, ne_ptr_nil, eq_nil_nil, ne_nil_nil, eq_slice_nil, eq_nil_slice, ia_1, l4, e1, e2, e3]; exact so_so) ?_)
         first
           | exact jt (by omega)
           | exact jf (by omega))
    · by_cases s1 : r.st = 1
      · by_cases c1 : r.p < -1 <;> by_cases c2 : ps ≤ r.p <;>
          (repeat (with_reducible first | refine vP_so ?_ | refine vB_t ?_ | refine vB_f ?_ | refine vE_tt ?_ | refine vE_ff ?_ | refine vE_tf ?_ | refine vE_ft ?_ | refine vE_u ?_ | refine vP_to (by simp (disch := omega) only [gdW_true, gdW_false, gB_true, gB_false, gB_undef, pickV_true, pickV_false, Bool.not_true, Bool.not_false, Option.map_some, bin_add, bin_sub, bin_mul, bin_quo, bin_rem, lss_t, lss_f, leq_t, leq_f, gtr_t, gtr_f, geq_t, geq_f, eqi_t, eqi_f, nei_t, nei_f, rem_uw, conv_ui, conv_iu, conv_ii, not_bool, nil_ptr, fa_mk, ptrV, len_mk, cap_mk, eq_ptr_nil, ne_ptr_nil, eq_nil_nil, ne_nil_nil, eq_slice_nil, eq_nil_slice, ia_1, l4, e1, e2, e3]; exact so_so) ?_)
           first
             | exact jt (by omega)
             | exact jf (by omega))
      · by_cases c1 : r.p = -1 <;>
          (repeat (with_reducible first | refine vP_so ?_ | refine vB_t ?_ | refine vB_f ?_ | refine vE_tt ?_ | refine vE_ff ?_ | refine vE_tf ?_ | refine vE_ft ?_ | refine vE_u ?_ | refine vP_to (by simp (disch := omega) only [gdW_true, gdW_false, gB_true, gB_false, gB_undef, pickV_true, pickV_false, Bool.not_true, Bool.not_false, Option.map_some, bin_add, bin_sub, bin_mul, bin_quo, bin_rem, lss_t, lss_f, leq_t, leq_f, gtr_t, gtr_f, geq_t, geq_f, eqi_t, eqi_f, nei_t, nei_f, rem_uw, conv_ui, conv_iu, conv_ii, not_bool, nil_ptr, fa_mk, ptrV, len_mk, cap_mk, eq_ptr_nil, ne_ptr_nil, eq_nil_nil, ne_nil_nil, eq_slice_nil, eq_nil_slice, ia_1, l4, e1, e2, e3]; exact so_so) ?_)
           first
             | exact jt (by omega)
             | exact jf (by omega))
  · obtain rfl : i = w.gs.length := by omega
    have hb : ¬ B4 w ps := fun ⟨i, r, h1, h2⟩ => h2 (hok i r (List.getElem?_eq_some_iff.1 h1).1 h1)
    rw [cb_f hb] at hK
    repeat (with_reducible first | refine vP_so ?_ | refine vB_t ?_ | refine vB_f ?_ | refine vE_tt ?_ | refine vE_ff ?_ | refine vE_tf ?_ | refine vE_ft ?_ | refine vE_u ?_ | refine vP_to (by simp (disch := omega) only [gdW_true, gdW_false, gB_true, gB_false, gB_undef, pickV_true, pickV_false, Bool.not_true, Bool.not_false, Option.map_some, bin_add, bin_sub, bin_mul, bin_quo, bin_rem, lss_t, lss_f, leq_t, leq_f, gtr_t, gtr_f, geq_t, geq_f, eqi_t, eqi_f, nei_t, nei_f, rem_uw, conv_ui, conv_iu, conv_ii, not_bool, nil_ptr, fa_mk, ptrV, len_mk, cap_mk, eq_ptr_nil, ne_ptr_nil, eq_nil_nil, ne_nil_nil, eq_slice_nil, eq_nil_slice, ia_1, l4, hgl.1]; exact so_so) ?_)
    exact hK h2 hd

theorem use_rnumbers {g : Hp} {w : VW} {F : Asrt} {K : Value → Hp → Prop} {h : Hp} (hv : VAt g w) (hh : (own g * (F * tt)) h)
    (hK : ∀ h', (own g * (F * tt)) h' → K (.bool (!cb (B7 w))) h') : CallH Try.prog 55 #[w.val] K h := by
  refine C55 ?_
  unfold D55
  have hgl := hv.gs_len
  refine vA_new (o := .cells w.cells 26 (0, 0)) hh fun r1 h1 hh1 => ?_
  obtain ⟨l0, l1, l2, _, l4, _⟩ := vw_ld (r := r1) (w := w) (E := 26) hh1
  have hw := own_vat (F := pt r1 (.cells w.cells 26 (0, 0)) * (F * tt)) (asr (by ac_rfl) hh1) hv
  have hd : (own g * (F * tt)) h1 := dropL (P := pt r1 (.cells w.cells 26 (0, 0))) (Q := own g * F) (asr (by ac_rfl) hh1) |> asr (by ac_rfl)
  refine ⟨fun m zs h' => ∃ i : Nat, zs = [.int .i64 i] ∧ m = w.gs.length - i ∧ i ≤ w.gs.length ∧ (∀ (j : Nat) r, j < i → w.gs[j]? = some r → r.stack.length = 16) ∧ h' = h1, ⟨_, 0, rfl, rfl, by omega, fun j r hj => by omega, rfl⟩, ?_⟩
  rintro m v3 h2 ⟨i, hzs, rfl, hi, hok, rfl⟩ _
  obtain rfl : v3 = .int .i64 i := by simpa using hzs
  by_cases hil : i < w.gs.length
  · have hgi : w.gs[i]? = some w.gs[i] := List.getElem?_eq_getElem hil
    obtain ⟨b, q, e1, _, _, e4, _⟩ := hw.gor hgi .i64
    have hstk := hv.stacks w.gs[i] (List.getElem_mem hil)
    generalize w.gs[i] = r at *
    have hslt := hstk.lt
    by_cases h16 : r.stack.length = 16
    · repeat (with_reducible first | refine vP_so ?_ | refine vB_t ?_ | refine vB_f ?_ | refine vE_tt ?_ | refine vE_ff ?_ | refine vE_tf ?_ | refine vE_ft ?_ | refine vE_u ?_ | refine vP_to (by simp (disch := omega) only [gdW_true, gdW_false, gB_true, gB_false, gB_undef, pickV_true, pickV_false, Bool.not_true, Bool.not_false, Option.map_some, bin_add, bin_sub, bin_mul, bin_quo, bin_rem, lss_t, lss_f, leq_t, leq_f, gtr_t, gtr_f, geq_t, geq_f, eqi_t, eqi_f, nei_t, nei_f, rem_uw, conv_ui, conv_iu, conv_ii, not_bool, nil_ptr, fa_mk, ptrV, len_mk, cap_mk, eq_ptr_nil, ne_ptr_nil, eq_nil_nil, ne_nil_nil, eq_slice_nil, eq_nil_slice, ia_1, l4, hgl.1, e1, e4, hstk.len]; exact so_so) ?_)
      refine ⟨w.gs.length - (i + 1), by omega, i + 1, by simp, rfl, by omega, fun j r' hj hr' => ?_, rfl⟩
      by_cases hji : j = i
      · subst hji
        obtain rfl : r = r' := Option.some.inj (hgi.symm.trans hr')
        exact h16
      · exact hok j r' (by omega) hr'
    · have hb : B7 w := .inl ⟨i, r, hgi, h16⟩
      rw [cb_t hb] at hK
      repeat (with_reducible first | refine vP_so ?_ | refine vB_t ?_ | refine vB_f ?_ | refine vE_tt ?_ | refine vE_ff ?_ | refine vE_tf ?_ | refine vE_ft ?_ | refine vE_u ?_ | refine vP_to (by simp (disch := omega) only [gdW_true, gdW_false, gB_true, gB_false, gB_undef, pickV_true, pickV_false, Bool.not_true, Bool.not_false, Option.map_some, bin_add, bin_sub, bin_mul, bin_quo, bin_rem, lss_t, lss_f, leq_t, leq_f, gtr_t, gtr_f, geq_t, geq_f, eqi_t, eqi_f, nei_t, nei_f, rem_uw, conv_ui, conv_iu, conv_ii, not_bool, nil_ptr, fa_mk, ptrV, len_mk, cap_mk, eq_ptr_nil, ne_ptr_nil, eq_nil_nil, ne_nil_nil, eq_slice_nil, eq_nil_slice, ia_1, l4, hgl.1, e1, e4, hstk.len]; exact so_so) ?_)
      exact hK h2 hd
  · obtain rfl : i = w.gs.length := by omega
    have hn : ¬ ∃ (i : Nat) (r : Gr), w.gs[i]? = some r ∧ r.stack.length ≠ 16 := fun ⟨i, r, h1, h2⟩ => h2 (hok i r (List.getElem?_eq_some_iff.1 h1).1 h1)
    have hB : B7 w ↔ w.phase < 0 ∨ 3 < w.phase ∨ w.cycle < 0 ∨ w.clock < 0 := ⟨fun q => q.resolve_left hn, .inr⟩
    have ft : (w.phase < 0 ∨ 3 < w.phase ∨ w.cycle < 0 ∨ w.clock < 0) → K (.bool false) h2 := fun q => by
      rw [cb_t (hB.2 q)] at hK
      exact hK h2 hd
    have ff : ¬ (w.phase < 0 ∨ 3 < w.phase ∨ w.cycle < 0 ∨ w.clock < 0) → K (.bool true) h2 := fun q => by
      rw [cb_f (fun e => q (hB.1 e))] at hK
      exact hK h2 hd
    clear hK hB
    by_cases a1 : w.phase < 0 <;> by_cases a2 : 3 < w.phase <;> by_cases a3 : w.cycle < 0 <;> by_cases a4 : w.clock < 0 <;>
      first
        | (exfalso; omega)
        | (repeat (with_reducible first | refine vP_so ?_ | refine vB_t ?_ | refine vB_f ?_ | refine vE_tt ?_ | refine vE_ff ?_ | refine vE_tf ?_ | refine vE_ft ?_ | refine vE_u ?_ | refine vP_to (by simp (disch := omega) only [gdW_true, gdW_false, gB_true, gB_false, gB_undef, pickV_true, pickV_false, Bool.not_true, Bool.not_false, Option.map_some, bin_add, bin_sub, bin_mul, bin_quo, bin_rem, lss_t, lss_f, leq_t, leq_f, gtr_t, gtr_f, geq_t, geq_f, eqi_t, eqi_f, nei_t, nei_f, rem_uw, conv_ui, conv_iu, conv_ii, not_bool, nil_ptr, fa_mk, ptrV, len_mk, cap_mk, eq_ptr_nil, ne_ptr_nil, eq_nil_nil, ne_nil_nil, eq_slice_nil, eq_nil_slice, ia_1, l0, l1, l2, l4, hgl.1]; exact so_so) ?_)
           first
             | exact ft (by omega)
             | exact ff (by omega))

theorem use_rclean {g : Hp} {w : VW} {F : Asrt} {K : Value → Hp → Prop} {h : Hp} (hv : VAt g w) (hh : (own g * (F * tt)) h)
    (hK : ∀ h', (own g * (F * tt)) h' → K (.bool (!cb (B8 w))) h') : CallH Try.prog 56 #[w.val] K h := by
  refine C56 ?_
  unfold D56
  have hol := hv.objs_len
  refine vA_new (o := .cells w.cells 26 (0, 0)) hh fun r1 h1 hh1 => ?_
  obtain ⟨l0, _, _, _, _, l5, _⟩ := vw_ld (r := r1) (w := w) (E := 26) hh1
  have hw := own_vat (F := pt r1 (.cells w.cells 26 (0, 0)) * (F * tt)) (asr (by ac_rfl) hh1) hv
  have hd : (own g * (F * tt)) h1 := dropL (P := pt r1 (.cells w.cells 26 (0, 0))) (Q := own g * F) (asr (by ac_rfl) hh1) |> asr (by ac_rfl)
  refine ⟨fun m zs h' => ∃ i : Nat, zs = [.int .i64 i] ∧ m = w.objs.length - i ∧ i ≤ w.objs.length ∧ (∀ (j : Nat) o, j < i → w.objs[j]? = some o → ¬ (w.phase = 0 ∧ o.marked = true)) ∧ h' = h1, ⟨_, 0, rfl, rfl, by omega, fun j r hj => by omega, rfl⟩, ?_⟩
  rintro m v3 h2 ⟨i, hzs, rfl, hi, hok, rfl⟩ _
  obtain rfl : v3 = .int .i64 i := by simpa using hzs
  by_cases hil : i < w.objs.length
  · have hoi : w.objs[i]? = some w.objs[i] := List.getElem?_eq_getElem hil
    obtain ⟨b, q, e1, _, _, e4, _⟩ := hw.obj hoi .i64
    generalize w.objs[i] = o at *
    have nxt : ¬ (w.phase = 0 ∧ o.marked = true) → ∃ m1, m1 < w.objs.length - i ∧ ∃ i' : Nat, [Value.int .i64 ((i : Int) + 1)] = [.int .i64 i'] ∧ m1 = w.objs.length - i' ∧ i' ≤ w.objs.length ∧ (∀ (j : Nat) o, j < i' → w.objs[j]? = some o → ¬ (w.phase = 0 ∧ o.marked = true)) ∧ h2 = h2 := fun hn => by
      refine ⟨w.objs.length - (i + 1), by omega, i + 1, by simp, rfl, by omega, fun j o' hj ho' => ?_, rfl⟩
      by_cases hji : j = i
      · subst hji
        obtain rfl : o = o' := Option.some.inj (hoi.symm.trans ho')
        exact hn
      · exact hok j o' (by omega) ho'
    by_cases hp : w.phase = 0
    · cases hm : o.marked with
      | true =>
        rw [hm] at e4
        have hb : B8 w := ⟨hp, i, o, hoi, hm⟩
        rw [cb_t hb] at hK
        repeat (with_reducible first | refine vP_so ?_ | refine vB_t ?_ | refine vB_f ?_ | refine vE_tt ?_ | refine vE_ff ?_ | refine vE_tf ?_ | refine vE_ft ?_ | refine vE_u ?_ | refine vP_to (by simp (disch := omega) only [gdW_true, gdW_false, gB_true, gB_false, gB_undef, pickV_true, pickV_false, Bool.not_true, Bool.not_false, Option.map_some, bin_add, bin_sub, bin_mul, bin_quo, bin_rem, lss_t, lss_f, leq_t, leq_f, gtr_t, gtr_f, geq_t, geq_f, eqi_t, eqi_f, nei_t, nei_f, rem_uw, conv_ui, conv_iu, conv_ii, not_bool, nil_ptr, fa_mk, ptrV, len_mk, cap_mk, eq_ptr_nil, ne_ptr_nil, eq_nil_nil, ne_nil_nil, eq_slice_nil, eq_nil_slice, ia_1, l0, l5, hol.1, e1, e4]; exact so_so) ?_)
        exact hK h2 hd
      | false =>
        rw [hm] at e4
        repeat (with_reducible first | refine vP_so ?_ | refine vB_t ?_ | refine vB_f ?_ | refine vE_tt ?_ | refine vE_ff ?_ | refine vE_tf ?_ | refine vE_ft ?_ | refine vE_u ?_ | refine vP_to (by simp (disch := omega) only [gdW_true, gdW_false, gB_true, gB_false, gB_undef, pickV_true, pickV_false, Bool.not_true, Bool.not_false, Option.map_some, bin_add, bin_sub, bin_mul, bin_quo, bin_rem, lss_t, lss_f, leq_t, leq_f, gtr_t, gtr_f, geq_t, geq_f, eqi_t, eqi_f, nei_t, nei_f, rem_uw, conv_ui, conv_iu, conv_ii, not_bool, nil_ptr, fa_mk, ptrV, len_mk, cap_mk, eq_ptr_nil, ne_ptr_nil, eq_nil_nil, ne_nil_nil, eq_slice_nil, eq_nil_slice, ia_1, l0, l5, hol.1, e1, e4]; exact so_so) ?_)
        exact nxt (fun q => by rw [hm] at q; cases q.2)
    · repeat (with_reducible first | refine vP_so ?_ | refine vB_t ?_ | refine vB_f ?_ | refine vE_tt ?_ | refine vE_ff ?_ | refine vE_tf ?_ | refine vE_ft ?_ | refine vE_u ?_ | refine vP_to (by simp (disch := omega) only [gdW_true, gdW_false, gB_true, gB_false, gB_undef, pickV_true, pickV_false, Bool.not_true, Bool.not_false, Option.map_some, bin_add, bin_sub, bin_mul, bin_quo, bin_rem, lss_t, lss_f, leq_t, leq_f, gtr_t, gtr_f, geq_t, geq_f, eqi_t, eqi_f, nei_t, nei_f, rem_uw, conv_ui, conv_iu, conv_ii, not_bool, nil_ptr, fa_mk, ptrV, len_mk, cap_mk, eq_ptr_nil, ne_ptr_nil, eq_nil_nil, ne_nil_nil, eq_slice_nil, eq_nil_slice, ia_1, l0, l5, hol.1, e1, e4]; exact so_so) ?_)
      exact nxt (fun q => hp q.1)
  · obtain rfl : i = w.objs.length := by omega
    have hb : ¬ B8 w := fun ⟨hp, i, o, h1, h2⟩ => hok i o (List.getElem?_eq_some_iff.1 h1).1 h1 ⟨hp, h2⟩
    rw [cb_f hb] at hK
    repeat (with_reducible first | refine vP_so ?_ | refine vB_t ?_ | refine vB_f ?_ | refine vE_tt ?_ | refine vE_ff ?_ | refine vE_tf ?_ | refine vE_ft ?_ | refine vE_u ?_ | refine vP_to (by simp (disch := omega) only [gdW_true, gdW_false, gB_true, gB_false, gB_undef, pickV_true, pickV_false, Bool.not_true, Bool.not_false, Option.map_some, bin_add, bin_sub, bin_mul, bin_quo, bin_rem, lss_t, lss_f, leq_t, leq_f, gtr_t, gtr_f, geq_t, geq_f, eqi_t, eqi_f, nei_t, nei_f, rem_uw, conv_ui, conv_iu, conv_ii, not_bool, nil_ptr, fa_mk, ptrV, len_mk, cap_mk, eq_ptr_nil, ne_ptr_nil, eq_nil_nil, ne_nil_nil, eq_slice_nil, eq_nil_slice, ia_1, l5, hol.1]; exact so_so) ?_)
    exact hK h2 hd

end Go.Proofs

/-
  Contracts of treadmillref29: All, Text; Few.
-/
set_option maxRecDepth 100000
set_option maxHeartbeats 8000000
namespace Go.Proofs
open Go.Sl

theorem rwork {r1 : Nat} {h1 : Hp} {w : VW} {Q : Value → Prop} {F : Asrt} {E : Nat} (hh : (pt r1 (.cells w.cells E (0, 0)) * F) h1) (hQ : Q (.bool (cb (B5 w)))) :
  vP (faV 6 (ptrV r1)) fun v9 =>
  vP (ld1 v9 h1) fun v10 =>
  vP (binV .lss v10 (Value.int .i64 0)) fun v11 =>
  vP (gdW (gB v11 false) (faV 7 (ptrV r1))) fun v13 =>
  vP (gdW (gB v11 false) (ld1 v13 h1)) fun v14 =>
  vP (gdW (gB v11 false) (binV .lss v14 (Value.int .i64 0))) fun v15 =>
  vP (pickV v11 (Value.bool true) v15) fun v16 =>
  vP (gdW (gB v16 false) (faV 8 (ptrV r1))) fun v18 =>
  vP (gdW (gB v16 false) (ld1 v18 h1)) fun v19 =>
  vP (gdW (gB v16 false) (binV .lss v19 (Value.int .i64 0))) fun v20 =>
  vP (pickV v16 (Value.bool true) v20) fun v21 =>
  vP (gdW (gB v21 false) (faV 0 (ptrV r1))) fun v23 =>
  vP (gdW (gB v21 false) (ld1 v23 h1)) fun v24 =>
  vP (gdW (gB v21 false) (eqV 1 true v24 (Value.int .i64 1))) fun v25 =>
  vP (gdW (gB v21 false) (some v25)) fun v26 =>
  vP (gdW (gB v26 true) (faV 6 (ptrV r1))) fun v27 =>
  vP (gdW (gB v26 true) (ld1 v27 h1)) fun v28 =>
  vP (gdW (gB v26 true) (eqV 1 true v28 (Value.int .i64 0))) fun v29 =>
  vP (gdW (gB v26 true) (some v29)) fun v30 =>
  vP (gdW (gB v30 false) (faV 7 (ptrV r1))) fun v31 =>
  vP (gdW (gB v30 false) (ld1 v31 h1)) fun v32 =>
  vP (gdW (gB v30 false) (eqV 1 true v32 (Value.int .i64 0))) fun v33 =>
  vP (gdW (gB v26 true) (pickV v30 (Value.bool true) v33)) fun v34 =>
  vP (gdW (gB v26 true) (some v34)) fun v35 =>
  vP (gdW (gB v35 false) (faV 8 (ptrV r1))) fun v36 =>
  vP (gdW (gB v35 false) (ld1 v36 h1)) fun v37 =>
  vP (gdW (gB v35 false) (eqV 1 true v37 (Value.int .i64 0))) fun v38 =>
  vP (gdW (gB v26 true) (pickV v35 (Value.bool true) v38)) fun v39 =>
  vP (gdW (gB v21 false) (pickV v26 v39 (Value.bool false))) fun v40 =>
  vP (pickV v21 (Value.bool true) v40) fun v41 => Q v41 := by
  obtain ⟨l0, _, _, _, _, _, l6, l7, l8, _⟩ := vw_ld (r := r1) (w := w) (E := E) hh
  have ft : B5 w → Q (.bool true) := fun q => by rw [cb_t q] at hQ; exact hQ
  have ff : ¬ B5 w → Q (.bool false) := fun q => by rw [cb_f q] at hQ; exact hQ
  clear hQ hh
  unfold B5 at ft ff
  by_cases a1 : w.grey < 0 <;> by_cases a2 : w.notes < 0 <;> by_cases a3 : w.roots < 0 <;> by_cases a4 : w.phase = 1 <;> by_cases a5 : w.grey = 0 <;> by_cases a6 : w.notes = 0 <;> by_cases a7 : w.roots = 0 <;>
    first
      | (exfalso; omega)
      | (repeat (with_reducible first | refine vP_so ?_ | refine vB_t ?_ | refine vB_f ?_ | refine vE_tt ?_ | refine vE_ff ?_ | refine vE_tf ?_ | refine vE_ft ?_ | refine vE_u ?_ | refine vP_to (by simp (disch := omega) only [gdW_true, gdW_false, gB_true, gB_false, gB_undef, pickV_true, pickV_false, Bool.not_true, Bool.not_false, Option.map_some, bin_add, bin_sub, bin_mul, bin_quo, bin_rem, lss_t, lss_f, leq_t, leq_f, gtr_t, gtr_f, geq_t, geq_f, eqi_t, eqi_f, nei_t, nei_f, rem_uw, conv_ui, conv_iu, conv_ii, not_bool, nil_ptr, fa_mk, ptrV, len_mk, cap_mk, eq_ptr_nil, ne_ptr_nil, eq_nil_nil, ne_nil_nil, eq_slice_nil, eq_nil_slice, ia_1, l0, l6, l7, l8]; exact so_so) ?_)
         first
           | exact ft (by omega)
           | exact ff (by omega))

theorem use_rall {g : Hp} {w : VW} {ps : Int} {F : Asrt} {K : Value → Hp → Prop} {h : Hp} (hv : VAt g w) (hs : Small w) (hh : (own g * (F * tt)) h)
    (hK : ∀ v h', (SG iE 3 v (outN (brkF w ps) 8) * (own g * (F * tt))) h' → K v h') : CallH Try.prog 27 #[w.val, .int .i64 ps] K h := by
  refine C27 ?_
  unfold D27
  refine vA_new (o := .cells w.cells 26 (0, 0)) hh fun r1 h1 hh1 => ?_
  refine rwork hh1 ?_
  have lv : ∀ {h} {G : Asrt}, (pt r1 (.cells w.cells 26 (0, 0)) * G) h → ldN 9 (.pointer (some ⟨r1, 0, none⟩)) h = some w.val := fun q => (vw_ld (r := r1) (w := w) (E := 26) q).2.2.2.2.2.2.2.2.2
  have lp : ∀ {h} {G : Asrt}, (pt r1 (.cells w.cells 26 (0, 0)) * G) h → ld1 (.pointer (some ⟨r1, 0 + 0, none⟩)) h = some (.int .i64 w.phase) := fun q => (vw_ld (r := r1) (w := w) (E := 26) q).1
  have back : ∀ {h}, (own g * (pt r1 (.cells w.cells 26 (0, 0)) * F * tt)) h → (pt r1 (.cells w.cells 26 (0, 0)) * (own g * (F * tt))) h := fun q => asr (by ac_rfl) q
  -- the list out of the eight answers
  have tail : ∀ h8, (pt r1 (.cells w.cells 26 (0, 0)) * (own g * (F * tt))) h8 → ∀ b6 : Bool, b6 = cb (B6 w) →
      vA ((bldV #[(Value.bool false), (Value.bool false), (Value.bool false), (Value.bool false), (Value.bool false), (Value.bool false), (Value.bool false), (Value.bool false)] [(0, 1, .bool (cb (B1 w))), (1, 1, .bool (cb (B2 w))), (2, 1, .bool (cb (B3 w))), (3, 1, .bool (cb (B4 w ps))), (4, 1, .bool (cb (B5 w))), (5, 1, .bool b6), (6, 1, .bool (cb (B7 w))), (7, 1, .bool (cb (B8 w)))]).map fun c => (Obj.cells c 4 (0, 0), fun r => Value.slice (some ⟨r, 0, none⟩) 8 8)) (fun v71 h9 =>
      ∃ I1 : Nat → List Value → Hp → Prop, (∃ n, I1 n [(Value.int .i64 0), (Value.slice none 0 0)] h9) ∧
      ∀ n1 : Nat, ∀ v8 v7 : Value, ∀ h10 : Hp, I1 n1 [v8, v7] h10 → ∀ g1 : St,
        vP (lenV v71) fun v74 =>
        vP (binV .lss v8 v74) fun v75 =>
        vB v75 (∀ J2 : List Value → Hp → Prop, (∀ v7_1 : Value, ∀ h11 : Hp, (∀ g2 : St,
            vP (binV .add v8 (Value.int .i64 1)) fun v77 =>
            ∃ m1, m1 < n1 ∧ I1 m1 [v77, v7_1] h11) → J2 [v7_1] h11) →
          vP (iaS 1 v71 v8) fun v80 =>
          vP (ld1 v80 h10) fun v81 =>
          vB v81 (vP (binV .add v8 (Value.int .i64 1)) fun v84 =>
            vA ((bldV #[(Value.int .i64 0)] [(0, 1, v84)]).map fun c => (Obj.cells c 3 (0, 0), fun r => Value.slice (some ⟨r, 0, none⟩) 1 1)) (fun v85 h12 =>
            apW Try.prog #[22, 22] 22 v7 v85 (fun v86 h13 =>
            J2 [v86] h13) h12) h10)
          (J2 [v7] h10))
        (K v7 h10)) h8 := by
    intro h8 hh8 b6 hb6
    subst hb6
    have eb : bldV #[(Value.bool false), (Value.bool false), (Value.bool false), (Value.bool false), (Value.bool false), (Value.bool false), (Value.bool false), (Value.bool false)] [(0, 1, .bool (cb (B1 w))), (1, 1, .bool (cb (B2 w))), (2, 1, .bool (cb (B3 w))), (3, 1, .bool (cb (B4 w ps))), (4, 1, .bool (cb (B5 w))), (5, 1, .bool (cb (B6 w))), (6, 1, .bool (cb (B7 w))), (7, 1, .bool (cb (B8 w)))] = some #[.bool (cb (B1 w)), .bool (cb (B2 w)), .bool (cb (B3 w)), .bool (cb (B4 w ps)), .bool (cb (B5 w)), .bool (cb (B6 w)), .bool (cb (B7 w)), .bool (cb (B8 w))] := rfl
    rw [eb]
    refine vA_new (f := fun r => .slice (some ⟨r, 0, none⟩) 8 8) hh8 fun r71 h9 hh9 => ?_
    have hh9 : (SG bE 4 (.slice (some ⟨r71, 0, none⟩) 8 8) ((List.range 8).map (brkF w ps)) * (pt r1 (.cells w.cells 26 (0, 0)) * (own g * (F * tt)))) h9 :=
      SG_intro bE (pre := []) (post := []) rfl rfl (by simp) (by omega) (by simp) hh9
    refine ⟨fun m zs h' => ∃ (i : Nat) (v7 : Value), zs = [.int .i64 i, v7] ∧ m = 8 - i ∧ i ≤ 8 ∧ (SG iE 3 v7 (outN (brkF w ps) i) * (SG bE 4 (.slice (some ⟨r71, 0, none⟩) 8 8) ((List.range 8).map (brkF w ps)) * (pt r1 (.cells w.cells 26 (0, 0)) * (own g * (F * tt))))) h',
      ⟨_, 0, .slice none 0 0, rfl, rfl, by omega, SG_nil iE hh9⟩, ?_⟩
    rintro m v8 v7 h10 ⟨i, v7', hzs, rfl, hi, hh10⟩ _
    obtain ⟨rfl, rfl⟩ : v8 = .int .i64 i ∧ v7 = v7' := by simpa using hzs
    have hS : (SG bE 4 (.slice (some ⟨r71, 0, none⟩) 8 8) ((List.range 8).map (brkF w ps)) * (SG iE 3 v7 (outN (brkF w ps) i) * (pt r1 (.cells w.cells 26 (0, 0)) * (own g * (F * tt))))) h10 := asr (by ac_rfl) hh10
    have hol := outN_len (brkF w ps) i
    by_cases hil : i < 8
    · obtain ⟨p, f1, f2, _⟩ := el1 hS (i := i) (a := brkF w ps i) (by rw [List.getElem?_map, List.getElem?_range hil]; rfl) .i64
      repeat (with_reducible first | refine vP_so ?_ | refine vB_t ?_ | refine vB_f ?_ | refine vE_tt ?_ | refine vE_ff ?_ | refine vE_tf ?_ | refine vE_ft ?_ | refine vE_u ?_ | refine vP_to (by simp (disch := omega) only [gdW_true, gdW_false, gB_true, gB_false, gB_undef, pickV_true, pickV_false, Bool.not_true, Bool.not_false, Option.map_some, bin_add, bin_sub, bin_mul, bin_quo, bin_rem, lss_t, lss_f, leq_t, leq_f, gtr_t, gtr_f, geq_t, geq_f, eqi_t, eqi_f, nei_t, nei_f, rem_uw, conv_ui, conv_iu, conv_ii, not_bool, nil_ptr, fa_mk, ptrV, len_mk, cap_mk, eq_ptr_nil, ne_ptr_nil, eq_nil_nil, ne_nil_nil, eq_slice_nil, eq_nil_slice, ia_1]; exact so_so) ?_)
      intro J2 hJ2
      have hJ : ∀ v' h', (SG iE 3 v' (outN (brkF w ps) (i + 1)) * (SG bE 4 (.slice (some ⟨r71, 0, none⟩) 8 8) ((List.range 8).map (brkF w ps)) * (pt r1 (.cells w.cells 26 (0, 0)) * (own g * (F * tt))))) h' → J2 [v'] h' := fun v' h' q => by
        refine hJ2 _ _ fun _ => ?_
        repeat (with_reducible first | refine vP_so ?_ | refine vB_t ?_ | refine vB_f ?_ | refine vE_tt ?_ | refine vE_ff ?_ | refine vE_tf ?_ | refine vE_ft ?_ | refine vE_u ?_ | refine vP_to (by simp (disch := omega) only [gdW_true, gdW_false, gB_true, gB_false, gB_undef, pickV_true, pickV_false, Bool.not_true, Bool.not_false, Option.map_some, bin_add, bin_sub, bin_mul, bin_quo, bin_rem, lss_t, lss_f, leq_t, leq_f, gtr_t, gtr_f, geq_t, geq_f, eqi_t, eqi_f, nei_t, nei_f, rem_uw, conv_ui, conv_iu, conv_ii, not_bool, nil_ptr, fa_mk, ptrV, len_mk, cap_mk, eq_ptr_nil, ne_ptr_nil, eq_nil_nil, ne_nil_nil, eq_slice_nil, eq_nil_slice, ia_1]; exact so_so) ?_)
        exact ⟨8 - (i + 1), by omega, i + 1, v', rfl, rfl, by omega, q⟩
      cases hb : brkF w ps i with
      | true =>
        rw [hb] at f2
        have e : outN (brkF w ps) (i + 1) = outN (brkF w ps) i ++ [(i : Int) + 1] := by show _ ++ (if brkF w ps i then _ else _) = _; rw [hb]; rfl
        rw [e] at hJ
        have eb : bldV #[.int .i64 0] [(0, 1, .int .i64 ((i : Int) + 1))] = some #[.int .i64 ((i : Int) + 1)] := rfl
        refine vP_to f1 ?_
        repeat (with_reducible first | refine vP_so ?_ | refine vB_t ?_ | refine vB_f ?_ | refine vE_tt ?_ | refine vE_ff ?_ | refine vE_tf ?_ | refine vE_ft ?_ | refine vE_u ?_ | refine vP_to (by simp (disch := omega) only [gdW_true, gdW_false, gB_true, gB_false, gB_undef, pickV_true, pickV_false, Bool.not_true, Bool.not_false, Option.map_some, bin_add, bin_sub, bin_mul, bin_quo, bin_rem, lss_t, lss_f, leq_t, leq_f, gtr_t, gtr_f, geq_t, geq_f, eqi_t, eqi_f, nei_t, nei_f, rem_uw, conv_ui, conv_iu, conv_ii, not_bool, nil_ptr, fa_mk, ptrV, len_mk, cap_mk, eq_ptr_nil, ne_ptr_nil, eq_nil_nil, ne_nil_nil, eq_slice_nil, eq_nil_slice, ia_1, f2]; exact so_so) ?_)
        rw [eb]
        refine vA_new (f := fun r => .slice (some ⟨r, 0, none⟩) 1 1) hh10 fun r23 h8 hh8 => ?_
        refine ap_new iE (l := outN (brkF w ps) i) (m := [(i : Int) + 1]) (F := SG bE 4 (.slice (some ⟨r71, 0, none⟩) 8 8) ((List.range 8).map (brkF w ps)) * (pt r1 (.cells w.cells 26 (0, 0)) * (own g * F))) elInt rfl rfl niInts rfl (by omega) (asr (by ac_rfl) hh8) rfl rfl (by simp only [List.length_singleton]; omega) fun v24 h9 hh9 => ?_
        exact hJ v24 h9 (asr (by ac_rfl) hh9)
      | false =>
        rw [hb] at f2
        have e : outN (brkF w ps) (i + 1) = outN (brkF w ps) i := by show _ ++ (if brkF w ps i then _ else _) = _; rw [hb]; simp
        rw [e] at hJ
        refine vP_to f1 ?_
        repeat (with_reducible first | refine vP_so ?_ | refine vB_t ?_ | refine vB_f ?_ | refine vE_tt ?_ | refine vE_ff ?_ | refine vE_tf ?_ | refine vE_ft ?_ | refine vE_u ?_ | refine vP_to (by simp (disch := omega) only [gdW_true, gdW_false, gB_true, gB_false, gB_undef, pickV_true, pickV_false, Bool.not_true, Bool.not_false, Option.map_some, bin_add, bin_sub, bin_mul, bin_quo, bin_rem, lss_t, lss_f, leq_t, leq_f, gtr_t, gtr_f, geq_t, geq_f, eqi_t, eqi_f, nei_t, nei_f, rem_uw, conv_ui, conv_iu, conv_ii, not_bool, nil_ptr, fa_mk, ptrV, len_mk, cap_mk, eq_ptr_nil, ne_ptr_nil, eq_nil_nil, ne_nil_nil, eq_slice_nil, eq_nil_slice, ia_1, f2]; exact so_so) ?_)
        exact hJ v7 h10 hh10
    · obtain rfl : i = 8 := by omega
      repeat (with_reducible first | refine vP_so ?_ | refine vB_t ?_ | refine vB_f ?_ | refine vE_tt ?_ | refine vE_ff ?_ | refine vE_tf ?_ | refine vE_ft ?_ | refine vE_u ?_ | refine vP_to (by simp (disch := omega) only [gdW_true, gdW_false, gB_true, gB_false, gB_undef, pickV_true, pickV_false, Bool.not_true, Bool.not_false, Option.map_some, bin_add, bin_sub, bin_mul, bin_quo, bin_rem, lss_t, lss_f, leq_t, leq_f, gtr_t, gtr_f, geq_t, geq_f, eqi_t, eqi_f, nei_t, nei_f, rem_uw, conv_ui, conv_iu, conv_ii, not_bool, nil_ptr, fa_mk, ptrV, len_mk, cap_mk, eq_ptr_nil, ne_ptr_nil, eq_nil_nil, ne_nil_nil, eq_slice_nil, eq_nil_slice, ia_1]; exact so_so) ?_)
      exact hK v7 h10 (dropL (P := SG bE 4 (.slice (some ⟨r71, 0, none⟩) 8 8) ((List.range 8).map (brkF w ps)) * pt r1 (.cells w.cells 26 (0, 0))) (Q := SG iE 3 v7 (outN (brkF w ps) 8) * (own g * F)) (asr (by ac_rfl) hh10) |> asr (by ac_rfl))
  have len_b : ∀ {l : List Int} {B : Prop}, ((∃ x, x ∈ l) ↔ B) → binV .gtr (.int .i64 (l.length : Int)) (.int .i64 0) = some (.bool (cb B)) := fun {l B} hq => by
    rw [bin_gtr]
    congr 2
    refine cb_of ?_
    rw [decide_eq_true_eq, ← hq]
    constructor
    · intro h
      exact ⟨l[0]'(by omega), List.getElem_mem _⟩
    · rintro ⟨x, hx⟩
      have := List.length_pos_of_mem hx
      omega
  have hne : ∀ b : Bool, unV .not (.bool (!b)) = some (.bool b) := fun b => by rw [not_bool, Bool.not_not]
  by_cases hp2 : w.phase = 2
  all_goals
    repeat (with_reducible first | refine vP_so ?_ | refine vB_t ?_ | refine vB_f ?_ | refine vE_tt ?_ | refine vE_ff ?_ | refine vE_tf ?_ | refine vE_ft ?_ | refine vE_u ?_ | refine vP_to (by simp (disch := omega) only [gdW_true, gdW_false, gB_true, gB_false, gB_undef, pickV_true, pickV_false, Bool.not_true, Bool.not_false, Option.map_some, bin_add, bin_sub, bin_mul, bin_quo, bin_rem, lss_t, lss_f, leq_t, leq_f, gtr_t, gtr_f, geq_t, geq_f, eqi_t, eqi_f, nei_t, nei_f, rem_uw, conv_ui, conv_iu, conv_ii, not_bool, nil_ptr, fa_mk, ptrV, len_mk, cap_mk, eq_ptr_nil, ne_ptr_nil, eq_nil_nil, ne_nil_nil, eq_slice_nil, eq_nil_slice, ia_1, lv hh1, lp hh1]; exact so_so) ?_)
    refine use_rlost (F := pt r1 (.cells w.cells 26 (0, 0)) * F) hv hs (asr (by ac_rfl) hh1) fun v43 ll h2 hL hll hh2 => ?_
    have hb1 := len_b (l := ll) (B := B1 w) ⟨fun ⟨x, hx⟩ => ⟨x, (hL.2 x).1 hx⟩, fun ⟨x, hx⟩ => ⟨x, (hL.2 x).2 hx⟩⟩
    have hlen := SG_len iE hh2
    have hh2 : (pt r1 (.cells w.cells 26 (0, 0)) * (own g * (F * tt))) h2 := dropL (P := SG iE 3 v43 ll) (Q := pt r1 (.cells w.cells 26 (0, 0)) * (own g * F)) (asr (by ac_rfl) hh2) |> asr (by ac_rfl)
    refine ⟨lv hh2, lv hh2, lp hh2, lv hh2, lv hh2, lv hh2, ?_⟩
    refine vP_to hlen ?_
    refine vP_to hb1 ?_
    refine use_rapart (F := pt r1 (.cells w.cells 26 (0, 0)) * F) hv hs.addr (asr (by ac_rfl) hh2) fun h3 hh3 => ?_
    have hh3 := back hh3
    refine ⟨lv hh3, lv hh3, lp hh3, lv hh3, lv hh3, ?_⟩
    refine vP_to (hne _) ?_
    refine use_rtwice (F := pt r1 (.cells w.cells 26 (0, 0)) * F) hv (asr (by ac_rfl) hh3) fun h4 hh4 => ?_
    have hh4 := back hh4
    refine ⟨lv hh4, lv hh4, lp hh4, lv hh4, ?_⟩
    refine use_rplaced (F := pt r1 (.cells w.cells 26 (0, 0)) * F) hv (asr (by ac_rfl) hh4) fun h5 hh5 => ?_
    have hh5 := back hh5
    refine ⟨lv hh5, lv hh5, lp hh5, ?_⟩
    refine vP_to (hne _) ?_
  · repeat (with_reducible first | refine vP_so ?_ | refine vB_t ?_ | refine vB_f ?_ | refine vE_tt ?_ | refine vE_ff ?_ | refine vE_tf ?_ | refine vE_ft ?_ | refine vE_u ?_ | refine vP_to (by simp (disch := omega) only [gdW_true, gdW_false, gB_true, gB_false, gB_undef, pickV_true, pickV_false, Bool.not_true, Bool.not_false, Option.map_some, bin_add, bin_sub, bin_mul, bin_quo, bin_rem, lss_t, lss_f, leq_t, leq_f, gtr_t, gtr_f, geq_t, geq_f, eqi_t, eqi_f, nei_t, nei_f, rem_uw, conv_ui, conv_iu, conv_ii, not_bool, nil_ptr, fa_mk, ptrV, len_mk, cap_mk, eq_ptr_nil, ne_ptr_nil, eq_nil_nil, ne_nil_nil, eq_slice_nil, eq_nil_slice, ia_1, lv hh5]; exact so_so) ?_)
    refine use_rwhite (F := pt r1 (.cells w.cells 26 (0, 0)) * F) hv hs (asr (by ac_rfl) hh5) fun v61 wl h6 hW hwl hh6 => ?_
    have hb6 := len_b (l := wl) (B := B6 w) ⟨fun ⟨x, hx⟩ => ⟨hp2, x, (hW.2 x).1 hx⟩, fun ⟨_, x, hx⟩ => ⟨x, (hW.2 x).2 hx⟩⟩
    have hlen6 := SG_len iE hh6
    have hh6 : (pt r1 (.cells w.cells 26 (0, 0)) * (own g * (F * tt))) h6 := dropL (P := SG iE 3 v61 wl) (Q := pt r1 (.cells w.cells 26 (0, 0)) * (own g * F)) (asr (by ac_rfl) hh6) |> asr (by ac_rfl)
    refine ⟨lv hh6, lv hh6, ?_⟩
    repeat (with_reducible first | refine vP_so ?_ | refine vB_t ?_ | refine vB_f ?_ | refine vE_tt ?_ | refine vE_ff ?_ | refine vE_tf ?_ | refine vE_ft ?_ | refine vE_u ?_ | refine vP_to (by simp (disch := omega) only [gdW_true, gdW_false, gB_true, gB_false, gB_undef, pickV_true, pickV_false, Bool.not_true, Bool.not_false, Option.map_some, bin_add, bin_sub, bin_mul, bin_quo, bin_rem, lss_t, lss_f, leq_t, leq_f, gtr_t, gtr_f, geq_t, geq_f, eqi_t, eqi_f, nei_t, nei_f, rem_uw, conv_ui, conv_iu, conv_ii, not_bool, nil_ptr, fa_mk, ptrV, len_mk, cap_mk, eq_ptr_nil, ne_ptr_nil, eq_nil_nil, ne_nil_nil, eq_slice_nil, eq_nil_slice, ia_1, hlen6, hb6]; exact so_so) ?_)
    refine use_rnumbers (F := pt r1 (.cells w.cells 26 (0, 0)) * F) hv (asr (by ac_rfl) hh6) fun h7 hh7 => ?_
    have hh7 := back hh7
    refine ⟨lv hh7, ?_⟩
    refine vP_to (hne _) ?_
    refine use_rclean (F := pt r1 (.cells w.cells 26 (0, 0)) * F) hv (asr (by ac_rfl) hh7) fun h8 hh8 => ?_
    refine vP_to (hne _) ?_
    exact tail h8 (back hh8) _ rfl
  · repeat (with_reducible first | refine vP_so ?_ | refine vB_t ?_ | refine vB_f ?_ | refine vE_tt ?_ | refine vE_ff ?_ | refine vE_tf ?_ | refine vE_ft ?_ | refine vE_u ?_ | refine vP_to (by simp (disch := omega) only [gdW_true, gdW_false, gB_true, gB_false, gB_undef, pickV_true, pickV_false, Bool.not_true, Bool.not_false, Option.map_some, bin_add, bin_sub, bin_mul, bin_quo, bin_rem, lss_t, lss_f, leq_t, leq_f, gtr_t, gtr_f, geq_t, geq_f, eqi_t, eqi_f, nei_t, nei_f, rem_uw, conv_ui, conv_iu, conv_ii, not_bool, nil_ptr, fa_mk, ptrV, len_mk, cap_mk, eq_ptr_nil, ne_ptr_nil, eq_nil_nil, ne_nil_nil, eq_slice_nil, eq_nil_slice, ia_1, lv hh5]; exact so_so) ?_)
    refine ⟨lv hh5, lv hh5, ?_⟩
    repeat (with_reducible first | refine vP_so ?_ | refine vB_t ?_ | refine vB_f ?_ | refine vE_tt ?_ | refine vE_ff ?_ | refine vE_tf ?_ | refine vE_ft ?_ | refine vE_u ?_ | refine vP_to (by simp (disch := omega) only [gdW_true, gdW_false, gB_true, gB_false, gB_undef, pickV_true, pickV_false, Bool.not_true, Bool.not_false, Option.map_some, bin_add, bin_sub, bin_mul, bin_quo, bin_rem, lss_t, lss_f, leq_t, leq_f, gtr_t, gtr_f, geq_t, geq_f, eqi_t, eqi_f, nei_t, nei_f, rem_uw, conv_ui, conv_iu, conv_ii, not_bool, nil_ptr, fa_mk, ptrV, len_mk, cap_mk, eq_ptr_nil, ne_ptr_nil, eq_nil_nil, ne_nil_nil, eq_slice_nil, eq_nil_slice, ia_1]; exact so_so) ?_)
    refine use_rnumbers (F := pt r1 (.cells w.cells 26 (0, 0)) * F) hv (asr (by ac_rfl) hh5) fun h7 hh7 => ?_
    have hh7 := back hh7
    refine ⟨lv hh7, ?_⟩
    refine vP_to (hne _) ?_
    refine use_rclean (F := pt r1 (.cells w.cells 26 (0, 0)) * F) hv (asr (by ac_rfl) hh7) fun h8 hh8 => ?_
    refine vP_to (hne _) ?_
    exact tail h8 (back hh8) false (cb_f fun q => hp2 q.1).symm

theorem use_rtext {c : Int} {F : Asrt} {K : Value → Hp → Prop} {h : Hp} (hh : (F * tt) h) (hK : ∀ h', (F * tt) h' → K (txtV c) h') : CallH Try.prog 31 #[.int .i64 c] K h := by
  refine C31 ?_
  unfold D31
  have eb : bldV #[(Value.string ⟨#[]⟩), (Value.string ⟨#[]⟩), (Value.string ⟨#[]⟩), (Value.string ⟨#[]⟩), (Value.string ⟨#[]⟩), (Value.string ⟨#[]⟩), (Value.string ⟨#[]⟩), (Value.string ⟨#[]⟩), (Value.string ⟨#[]⟩)] [(0, 1, (Value.string ⟨#[]⟩)), (1, 1, (Value.string ⟨#[108, 111, 115, 116]⟩)), (2, 1, (Value.string ⟨#[111, 98, 106, 101, 99, 116, 115]⟩)), (3, 1, (Value.string ⟨#[116, 119, 105, 99, 101]⟩)), (4, 1, (Value.string ⟨#[112, 108, 97, 99, 101, 115]⟩)), (5, 1, (Value.string ⟨#[119, 111, 114, 107]⟩)), (6, 1, (Value.string ⟨#[119, 104, 105, 116, 101]⟩)), (7, 1, (Value.string ⟨#[110, 117, 109, 98, 101, 114, 115]⟩)), (8, 1, (Value.string ⟨#[109, 97, 114, 107, 101, 100]⟩))] = some (#[.string ⟨#[]⟩] ++ wordsV.toArray) := rfl
  rw [eb]
  refine vA_new (f := fun r => .slice (some ⟨r, 0, none⟩) 9 9) hh fun r h1 hh1 => ?_
  by_cases h0 : c < 0
  · have e : txtV c = .string ⟨#[]⟩ := by unfold txtV; rw [if_neg (by omega)]
    rw [e] at hK
    repeat (with_reducible first | refine vP_so ?_ | refine vB_t ?_ | refine vB_f ?_ | refine vE_tt ?_ | refine vE_ff ?_ | refine vE_tf ?_ | refine vE_ft ?_ | refine vE_u ?_ | refine vP_to (by simp (disch := omega) only [gdW_true, gdW_false, gB_true, gB_false, gB_undef, pickV_true, pickV_false, Bool.not_true, Bool.not_false, Option.map_some, bin_add, bin_sub, bin_mul, bin_quo, bin_rem, lss_t, lss_f, leq_t, leq_f, gtr_t, gtr_f, geq_t, geq_f, eqi_t, eqi_f, nei_t, nei_f, rem_uw, conv_ui, conv_iu, conv_ii, not_bool, nil_ptr, fa_mk, ptrV, len_mk, cap_mk, eq_ptr_nil, ne_ptr_nil, eq_nil_nil, ne_nil_nil, eq_slice_nil, eq_nil_slice, ia_1]; exact so_so) ?_)
    exact hK h1 (dropL hh1)
  · by_cases h9 : 9 ≤ c
    · have e : txtV c = .string ⟨#[]⟩ := by unfold txtV; rw [if_neg (by omega)]
      rw [e] at hK
      repeat (with_reducible first | refine vP_so ?_ | refine vB_t ?_ | refine vB_f ?_ | refine vE_tt ?_ | refine vE_ff ?_ | refine vE_tf ?_ | refine vE_ft ?_ | refine vE_u ?_ | refine vP_to (by simp (disch := omega) only [gdW_true, gdW_false, gB_true, gB_false, gB_undef, pickV_true, pickV_false, Bool.not_true, Bool.not_false, Option.map_some, bin_add, bin_sub, bin_mul, bin_quo, bin_rem, lss_t, lss_f, leq_t, leq_f, gtr_t, gtr_f, geq_t, geq_f, eqi_t, eqi_f, nei_t, nei_f, rem_uw, conv_ui, conv_iu, conv_ii, not_bool, nil_ptr, fa_mk, ptrV, len_mk, cap_mk, eq_ptr_nil, ne_ptr_nil, eq_nil_nil, ne_nil_nil, eq_slice_nil, eq_nil_slice, ia_1]; exact so_so) ?_)
      exact hK h1 (dropL hh1)
    · have : c = 0 ∨ c = 1 ∨ c = 2 ∨ c = 3 ∨ c = 4 ∨ c = 5 ∨ c = 6 ∨ c = 7 ∨ c = 8 := by omega
      have hb := pt_get hh1
      rcases this with rfl | rfl | rfl | rfl | rfl | rfl | rfl | rfl | rfl
      all_goals
        repeat (with_reducible first | refine vP_so ?_ | refine vB_t ?_ | refine vB_f ?_ | refine vE_tt ?_ | refine vE_ff ?_ | refine vE_tf ?_ | refine vE_ft ?_ | refine vE_u ?_ | refine vP_to (by simp (disch := omega) only [gdW_true, gdW_false, gB_true, gB_false, gB_undef, pickV_true, pickV_false, Bool.not_true, Bool.not_false, Option.map_some, bin_add, bin_sub, bin_mul, bin_quo, bin_rem, lss_t, lss_f, leq_t, leq_f, gtr_t, gtr_f, geq_t, geq_f, eqi_t, eqi_f, nei_t, nei_f, rem_uw, conv_ui, conv_iu, conv_ii, not_bool, nil_ptr, fa_mk, ptrV, len_mk, cap_mk, eq_ptr_nil, ne_ptr_nil, eq_nil_nil, ne_nil_nil, eq_slice_nil, eq_nil_slice, ia_1]; exact so_so) ?_)
        refine vP_to (ld1_mk hb rfl) ?_
        exact hK h1 (dropL hh1)

end Go.Proofs

/-
  Few; layer 30's told; AuditRules.
-/
set_option maxRecDepth 100000
set_option maxHeartbeats 4000000
namespace Go.Proofs
open Go.Sl

theorem own_emp {F : Asrt} {h : Hp} (hh : F h) : (own Hp.emp * F) h := ⟨Hp.emp, h, Disj.emp_left h, by rw [Hp.emp_add], rfl, hh⟩

theorem ints_nil (g : Hp) : IntsAt g (.slice none 0 0) [] := ⟨rfl, by simp, fun j x k h => by simp at h⟩
theorem rows_nil (g : Hp) : RowsAt g 3 (.slice none 0 0) [] := ⟨rfl, by simp, fun j x k h => by simp at h⟩

theorem flatMap_len {α : Type} {c : Nat} {f : α → List Int} : ∀ {l : List α}, (∀ a ∈ l, (f a).length ≤ c) → (l.flatMap f).length ≤ l.length * c
  | [], _ => by simp
  | a :: l, h => by
    have h1 := h a (by simp)
    have h2 := flatMap_len (l := l) fun b hb => h b (by simp [hb])
    rw [List.flatMap_cons, List.length_append, List.length_cons, Nat.add_mul]
    omega

structure FewP (w : VW) : Prop where
  slots : ∀ o ∈ w.objs, o.slots.length ≤ 300
  stacks : ∀ r ∈ w.gs, r.stack.length ≤ 40
  objs : w.objs.length ≤ 40
  gs : w.gs.length ≤ 40
  glob : w.globals.length ≤ 40

theorem FewP.small {w : VW} (h : FewP w) (ha : ∀ o ∈ w.objs, o.addr ≤ 9223372036854775807) : Small w := by
  have h1 := flatMap_len (f := fun o : Ob => o.slots) h.slots
  have h2 := flatMap_len (f := fun r : Gr => r.stack) (l := w.gs.filter live) fun r hr => h.stacks r ((List.mem_filter.1 hr).1)
  have h3 := List.length_filter_le live w.gs
  have := h.objs
  have := h.gs
  have := h.glob
  refine ⟨?_, by omega, by omega, ha⟩
  unfold VW.all VW.names
  simp only [List.length_append]
  have e1 : (w.gs.filter live).length * 40 ≤ 40 * 40 := Nat.mul_le_mul_right _ (by omega)
  have e2 : w.objs.length * 300 ≤ 40 * 300 := Nat.mul_le_mul_right _ (by omega)
  omega

theorem use_few {g : Hp} {w : VW} {F : Asrt} {K : Value → Hp → Prop} {h : Hp} (hv : VAt g w) (hh : (own g * (F * tt)) h)
    (hK : ∀ b h', (b = true → FewP w) → (own g * (F * tt)) h' → K (.bool b) h') : CallH Try.prog 11 #[w.val] K h := by
  refine C11 ?_
  unfold D11
  have hol := hv.objs_len
  have hgl := hv.gs_len
  have hbl := hv.glob.len
  have hbl' := hv.glob.lt
  refine vA_new (o := .cells w.cells 26 (0, 0)) hh fun r1 h1 hh1 => ?_
  have hdrop : ∀ {h}, (pt r1 (.cells w.cells 26 (0, 0)) * (own g * (F * tt))) h → (own g * (F * tt)) h := fun q => dropL (P := pt r1 (.cells w.cells 26 (0, 0))) (Q := own g * F) (asr (by ac_rfl) q) |> asr (by ac_rfl)
  have l := vw_ld (r := r1) (w := w) (E := 26) hh1
  have lg := l.2.2.2.1
  have ls := l.2.2.2.2.1
  have lo := l.2.2.2.2.2.1
  have hw := own_vat (F := pt r1 (.cells w.cells 26 (0, 0)) * (F * tt)) (asr (by ac_rfl) hh1) hv
  have hd := hdrop hh1
  refine ⟨fun m zs h' => ∃ i : Nat, zs = [.int .i64 i] ∧ m = w.objs.length - i ∧ i ≤ w.objs.length ∧ (∀ (j : Nat) o, j < i → w.objs[j]? = some o → o.slots.length ≤ 300) ∧ h' = h1, ⟨_, 0, rfl, rfl, by omega, fun j r hj => by omega, rfl⟩, ?_⟩
  rintro m v3 h2 ⟨i, hzs, rfl, hi, hok, rfl⟩ _
  obtain rfl : v3 = .int .i64 i := by simpa using hzs
  by_cases hil : i < w.objs.length
  · have hoi : w.objs[i]? = some w.objs[i] := List.getElem?_eq_getElem hil
    obtain ⟨b, q, e1, _, e3, _, _⟩ := hw.obj hoi .i64
    have hsl := hv.slots w.objs[i] (List.getElem_mem hil)
    have hs1 := hsl.len
    have hs2 := hsl.lt
    generalize w.objs[i] = o at *
    by_cases hc : 300 < o.slots.length
    · repeat (with_reducible first | refine vP_so ?_ | refine vB_t ?_ | refine vB_f ?_ | refine vE_tt ?_ | refine vE_ff ?_ | refine vE_tf ?_ | refine vE_ft ?_ | refine vE_u ?_ | refine vP_to (by simp (disch := omega) only [gdW_true, gdW_false, gB_true, gB_false, gB_undef, pickV_true, pickV_false, Bool.not_true, Bool.not_false, Option.map_some, bin_add, bin_sub, bin_mul, bin_quo, bin_rem, lss_t, lss_f, leq_t, leq_f, gtr_t, gtr_f, geq_t, geq_f, eqi_t, eqi_f, nei_t, nei_f, rem_uw, conv_ui, conv_iu, conv_ii, not_bool, nil_ptr, fa_mk, ptrV, len_mk, cap_mk, eq_ptr_nil, ne_ptr_nil, eq_nil_nil, ne_nil_nil, eq_slice_nil, eq_nil_slice, ia_1, lo, hol.1, e1, e3, hs1]; exact so_so) ?_)
      exact hK false h2 (fun q => by cases q) hd
    · repeat (with_reducible first | refine vP_so ?_ | refine vB_t ?_ | refine vB_f ?_ | refine vE_tt ?_ | refine vE_ff ?_ | refine vE_tf ?_ | refine vE_ft ?_ | refine vE_u ?_ | refine vP_to (by simp (disch := omega) only [gdW_true, gdW_false, gB_true, gB_false, gB_undef, pickV_true, pickV_false, Bool.not_true, Bool.not_false, Option.map_some, bin_add, bin_sub, bin_mul, bin_quo, bin_rem, lss_t, lss_f, leq_t, leq_f, gtr_t, gtr_f, geq_t, geq_f, eqi_t, eqi_f, nei_t, nei_f, rem_uw, conv_ui, conv_iu, conv_ii, not_bool, nil_ptr, fa_mk, ptrV, len_mk, cap_mk, eq_ptr_nil, ne_ptr_nil, eq_nil_nil, ne_nil_nil, eq_slice_nil, eq_nil_slice, ia_1, lo, hol.1, e1, e3, hs1]; exact so_so) ?_)
      refine ⟨w.objs.length - (i + 1), by omega, i + 1, by simp, rfl, by omega, fun j o' hj ho' => ?_, rfl⟩
      by_cases hji : j = i
      · subst hji
        obtain rfl : o = o' := Option.some.inj (hoi.symm.trans ho')
        omega
      · exact hok j o' (by omega) ho'
  · obtain rfl : i = w.objs.length := by omega
    repeat (with_reducible first | refine vP_so ?_ | refine vB_t ?_ | refine vB_f ?_ | refine vE_tt ?_ | refine vE_ff ?_ | refine vE_tf ?_ | refine vE_ft ?_ | refine vE_u ?_ | refine vP_to (by simp (disch := omega) only [gdW_true, gdW_false, gB_true, gB_false, gB_undef, pickV_true, pickV_false, Bool.not_true, Bool.not_false, Option.map_some, bin_add, bin_sub, bin_mul, bin_quo, bin_rem, lss_t, lss_f, leq_t, leq_f, gtr_t, gtr_f, geq_t, geq_f, eqi_t, eqi_f, nei_t, nei_f, rem_uw, conv_ui, conv_iu, conv_ii, not_bool, nil_ptr, fa_mk, ptrV, len_mk, cap_mk, eq_ptr_nil, ne_ptr_nil, eq_nil_nil, ne_nil_nil, eq_slice_nil, eq_nil_slice, ia_1, lo, hol.1]; exact so_so) ?_)
    have hslots : ∀ o ∈ w.objs, o.slots.length ≤ 300 := fun o ho => by
      obtain ⟨j, hj, e⟩ := List.getElem_of_mem ho
      exact hok j o hj (by rw [List.getElem?_eq_getElem hj, e])
    refine ⟨fun m zs h' => ∃ i : Nat, zs = [.int .i64 i] ∧ m = w.gs.length - i ∧ i ≤ w.gs.length ∧ (∀ (j : Nat) o, j < i → w.gs[j]? = some o → o.stack.length ≤ 40) ∧ h' = h2, ⟨_, 0, rfl, rfl, by omega, fun j r hj => by omega, rfl⟩, ?_⟩
    rintro m v4 h3 ⟨i, hzs, rfl, hi, hok, rfl⟩ _
    obtain rfl : v4 = .int .i64 i := by simpa using hzs
    by_cases hil : i < w.gs.length
    · have hoi : w.gs[i]? = some w.gs[i] := List.getElem?_eq_getElem hil
      obtain ⟨b, q, e1, _, _, e4, _⟩ := hw.gor hoi .i64
      have hsl := hv.stacks w.gs[i] (List.getElem_mem hil)
      have hs1 := hsl.len
      have hs2 := hsl.lt
      generalize w.gs[i] = o at *
      by_cases hc : 40 < o.stack.length
      · repeat (with_reducible first | refine vP_so ?_ | refine vB_t ?_ | refine vB_f ?_ | refine vE_tt ?_ | refine vE_ff ?_ | refine vE_tf ?_ | refine vE_ft ?_ | refine vE_u ?_ | refine vP_to (by simp (disch := omega) only [gdW_true, gdW_false, gB_true, gB_false, gB_undef, pickV_true, pickV_false, Bool.not_true, Bool.not_false, Option.map_some, bin_add, bin_sub, bin_mul, bin_quo, bin_rem, lss_t, lss_f, leq_t, leq_f, gtr_t, gtr_f, geq_t, geq_f, eqi_t, eqi_f, nei_t, nei_f, rem_uw, conv_ui, conv_iu, conv_ii, not_bool, nil_ptr, fa_mk, ptrV, len_mk, cap_mk, eq_ptr_nil, ne_ptr_nil, eq_nil_nil, ne_nil_nil, eq_slice_nil, eq_nil_slice, ia_1, ls, hgl.1, e1, e4, hs1]; exact so_so) ?_)
        exact hK false h3 (fun q => by cases q) hd
      · repeat (with_reducible first | refine vP_so ?_ | refine vB_t ?_ | refine vB_f ?_ | refine vE_tt ?_ | refine vE_ff ?_ | refine vE_tf ?_ | refine vE_ft ?_ | refine vE_u ?_ | refine vP_to (by simp (disch := omega) only [gdW_true, gdW_false, gB_true, gB_false, gB_undef, pickV_true, pickV_false, Bool.not_true, Bool.not_false, Option.map_some, bin_add, bin_sub, bin_mul, bin_quo, bin_rem, lss_t, lss_f, leq_t, leq_f, gtr_t, gtr_f, geq_t, geq_f, eqi_t, eqi_f, nei_t, nei_f, rem_uw, conv_ui, conv_iu, conv_ii, not_bool, nil_ptr, fa_mk, ptrV, len_mk, cap_mk, eq_ptr_nil, ne_ptr_nil, eq_nil_nil, ne_nil_nil, eq_slice_nil, eq_nil_slice, ia_1, ls, hgl.1, e1, e4, hs1]; exact so_so) ?_)
        refine ⟨w.gs.length - (i + 1), by omega, i + 1, by simp, rfl, by omega, fun j o' hj ho' => ?_, rfl⟩
        by_cases hji : j = i
        · subst hji
          obtain rfl : o = o' := Option.some.inj (hoi.symm.trans ho')
          omega
        · exact hok j o' (by omega) ho'
    · obtain rfl : i = w.gs.length := by omega
      have hstacks : ∀ o ∈ w.gs, o.stack.length ≤ 40 := fun o ho => by
        obtain ⟨j, hj, e⟩ := List.getElem_of_mem ho
        exact hok j o hj (by rw [List.getElem?_eq_getElem hj, e])
      by_cases c1 : w.objs.length ≤ 40 <;> by_cases c2 : w.gs.length ≤ 40 <;> by_cases c3 : w.globals.length ≤ 40
      all_goals
        repeat (with_reducible first | refine vP_so ?_ | refine vB_t ?_ | refine vB_f ?_ | refine vE_tt ?_ | refine vE_ff ?_ | refine vE_tf ?_ | refine vE_ft ?_ | refine vE_u ?_ | refine vP_to (by simp (disch := omega) only [gdW_true, gdW_false, gB_true, gB_false, gB_undef, pickV_true, pickV_false, Bool.not_true, Bool.not_false, Option.map_some, bin_add, bin_sub, bin_mul, bin_quo, bin_rem, lss_t, lss_f, leq_t, leq_f, gtr_t, gtr_f, geq_t, geq_f, eqi_t, eqi_f, nei_t, nei_f, rem_uw, conv_ui, conv_iu, conv_ii, not_bool, nil_ptr, fa_mk, ptrV, len_mk, cap_mk, eq_ptr_nil, ne_ptr_nil, eq_nil_nil, ne_nil_nil, eq_slice_nil, eq_nil_slice, ia_1, ls, lo, lg, hgl.1, hol.1, hbl]; exact so_so) ?_)
        first
          | exact hK true _ (fun _ => ⟨hslots, hstacks, c1, c2, c3⟩) hd
          | exact hK false _ (fun q => by cases q) hd

def wZ (ph : Int) (gv : Value) (l : List Int) : VW := ⟨ph, 0, 0, gv, l, .slice none 0 0, [], .slice none 0 0, [], 0, 0, 0⟩

theorem wZ_small {ph : Int} {gv : Value} {l : List Int} (h : l.length ≤ 10) : Small (wZ ph gv l) := by
  refine ⟨?_, by simp [wZ], by simp [wZ], by simp [wZ]⟩
  simp [VW.all, VW.names, wZ]
  omega

theorem rch_one {w : VW} {P : Int → Prop} (h1 : ∀ x ∈ w.names, x ≠ 0 → P x) (h2 : ∀ x k o y, P x → w.at x = some k → w.objs[k]? = some o → y ∈ o.slots → y ≠ 0 → P y) {x : Int} (h : Rch w x) : P x := by
  induction h with
  | root a b => exact h1 _ a b
  | step a b c d e ih => exact h2 _ _ _ _ ih b c d e

theorem first_zero {w : VW} {ps : Int} (h1 : ¬ B1 w) (h2 : ¬ B2 w) (h3 : ¬ B3 w) (h4 : ¬ B4 w ps) (h5 : ¬ B5 w) (h6 : ¬ B6 w) (h7 : ¬ B7 w) (h8 : ¬ B8 w) : outN (brkF w ps) 8 = [] := by
  simp only [outN, brkF, cb_f h1, cb_f h2, cb_f h3, cb_f h4, cb_f h5, cb_f h6, cb_f h7, cb_f h8]
  simp

theorem wZ_0 {ps : Int} : outN (brkF (wZ 0 (.slice none 0 0) []) ps) 8 = [] := by
  refine first_zero ?_ ?_ ?_ ?_ ?_ ?_ ?_ ?_
  · rintro ⟨x, hx, _⟩
    exact rch_one (P := fun _ => False) (fun x hx => by simp [VW.names, wZ] at hx) (fun _ _ _ _ h => h.elim) hx
  · rintro ⟨i, o, h, _⟩; simp [wZ] at h
  · rintro ⟨i, k, a, b, _, h, _⟩; simp [wZ] at h
  · rintro ⟨i, a, h, _⟩; simp [wZ] at h
  · simp [B5, wZ]
  · rintro ⟨h, _⟩; simp [wZ] at h
  · rintro (⟨i, a, h, _⟩ | h); simp [wZ] at h; simp [wZ] at h
  · rintro ⟨_, i, o, h, _⟩; simp [wZ] at h

theorem wZ_9 {ps : Int} : firstL (outN (brkF (wZ 9 (.slice none 0 0) []) ps) 8) = 7 := by
  have h1 : ¬ B1 (wZ 9 (.slice none 0 0) []) := by
    rintro ⟨x, hx, _⟩
    exact rch_one (P := fun _ => False) (fun x hx => by simp [VW.names, wZ] at hx) (fun _ _ _ _ h => h.elim) hx
  have h2 : ¬ B2 (wZ 9 (.slice none 0 0) []) := by rintro ⟨i, o, h, _⟩; simp [wZ] at h
  have h3 : ¬ B3 (wZ 9 (.slice none 0 0) []) := by rintro ⟨i, k, a, b, _, h, _⟩; simp [wZ] at h
  have h4 : ¬ B4 (wZ 9 (.slice none 0 0) []) ps := by rintro ⟨i, a, h, _⟩; simp [wZ] at h
  have h5 : ¬ B5 (wZ 9 (.slice none 0 0) []) := by simp [B5, wZ]
  have h6 : ¬ B6 (wZ 9 (.slice none 0 0) []) := by rintro ⟨h, _⟩; simp [wZ] at h
  have h7 : B7 (wZ 9 (.slice none 0 0) []) := .inr (by simp [wZ])
  simp only [outN, brkF, cb_f h1, cb_f h2, cb_f h3, cb_f h4, cb_f h5, cb_f h6, cb_t h7]
  simp [firstL]

theorem wZ_1 {gv : Value} {ps : Int} : firstL (outN (brkF (wZ 0 gv [64]) ps) 8) = 1 := by
  have h1 : B1 (wZ 0 gv [64]) := ⟨64, .root (by simp [VW.names, wZ]) (by decide), by simp [VW.at, wZ]⟩
  simp only [outN, brkF, cb_t h1]
  simp [firstL]

theorem use_told30 {F : Asrt} {K : Value → Hp → Prop} {h : Hp} (hh : (F * tt) h) (hK : ∀ h', (F * tt) h' → K (.bool true) h') : CallH Try.prog 26 #[] K h := by
  refine C26 ?_
  unfold D26
  have hz : ∀ ph, VAt Hp.emp (wZ ph (.slice none 0 0) []) := fun ph => ⟨ints_nil _, rows_nil _, rows_nil _, by simp [wZ], by simp [wZ]⟩
  have e0 : (bldV #[(Value.int .i64 0), (Value.int .i64 0), (Value.int .i64 0), (Value.slice none 0 0), (Value.slice none 0 0), (Value.slice none 0 0), (Value.int .i64 0), (Value.int .i64 0), (Value.int .i64 0)] []).map Value.agg = some (wZ 0 (.slice none 0 0) []).val := rfl
  have e9 : (bldV #[(Value.int .i64 0), (Value.int .i64 0), (Value.int .i64 0), (Value.slice none 0 0), (Value.slice none 0 0), (Value.slice none 0 0), (Value.int .i64 0), (Value.int .i64 0), (Value.int .i64 0)] [(0, 1, (Value.int .i64 9))]).map Value.agg = some (wZ 9 (.slice none 0 0) []).val := rfl
  have e1 : ∀ v, (bldV #[(Value.int .i64 0), (Value.int .i64 0), (Value.int .i64 0), (Value.slice none 0 0), (Value.slice none 0 0), (Value.slice none 0 0), (Value.int .i64 0), (Value.int .i64 0), (Value.int .i64 0)] [(3, 1, .slice v 1 1)]).map Value.agg = some (wZ 0 (.slice v 1 1) [64]).val := fun _ => rfl
  have eg : bldV #[(Value.int .i64 0)] [(0, 1, (Value.int .i64 64))] = some #[.int .i64 64] := rfl
  have f0 : firstL (outN (brkF (wZ 0 (.slice none 0 0) []) 4) 8) = 0 := by rw [wZ_0]; rfl
  refine vP_to e0 ?_
  refine use_acheck (g := Hp.emp) (F := F) (hz 0) (wZ_small (by simp)) (own_emp hh) fun h1 hh1 => ?_
  rw [f0]
  have hh1 : (F * tt) h1 := by obtain ⟨a, b, d, rfl, q, r⟩ := hh1; rw [show a = Hp.emp from q, Hp.emp_add]; exact r
  repeat (with_reducible first | refine vP_so ?_ | refine vB_t ?_ | refine vB_f ?_ | refine vE_tt ?_ | refine vE_ff ?_ | refine vE_tf ?_ | refine vE_ft ?_ | refine vE_u ?_ | refine vP_to (by simp (disch := omega) only [gdW_true, gdW_false, gB_true, gB_false, gB_undef, pickV_true, pickV_false, Bool.not_true, Bool.not_false, Option.map_some, bin_add, bin_sub, bin_mul, bin_quo, bin_rem, lss_t, lss_f, leq_t, leq_f, gtr_t, gtr_f, geq_t, geq_f, eqi_t, eqi_f, nei_t, nei_f, rem_uw, conv_ui, conv_iu, conv_ii, not_bool, nil_ptr, fa_mk, ptrV, len_mk, cap_mk, eq_ptr_nil, ne_ptr_nil, eq_nil_nil, ne_nil_nil, eq_slice_nil, eq_nil_slice, ia_1]; exact so_so) ?_)
  rw [eg]
  refine vA_new (f := fun r => .slice (some ⟨r, 0, none⟩) 1 1) hh1 fun r h2 hh2 => ?_
  have hh2 : (SG iE 3 (.slice (some ⟨r, 0, none⟩) 1 1) [64] * (F * tt)) h2 := SG_intro iE (pre := []) (post := []) (l := [64]) rfl rfl (by simp) (by omega) (by simp) hh2
  obtain ⟨g, hg, hh2⟩ := own_pick hh2
  have hi : IntsAt g (.slice (some ⟨r, 0, none⟩) 1 1) [64] := SG_ints (E := 3) (F := emp) ⟨g, Hp.emp, Disj.emp g, by rw [Hp.add_emp], hg, rfl⟩
  have hv : VAt g (wZ 0 (.slice (some ⟨r, 0, none⟩) 1 1) [64]) := ⟨hi, rows_nil _, rows_nil _, by simp [wZ], by simp [wZ]⟩
  repeat (with_reducible first | refine vP_so ?_ | refine vB_t ?_ | refine vB_f ?_ | refine vE_tt ?_ | refine vE_ff ?_ | refine vE_tf ?_ | refine vE_ft ?_ | refine vE_u ?_ | refine vP_to (by simp (disch := omega) only [gdW_true, gdW_false, gB_true, gB_false, gB_undef, pickV_true, pickV_false, Bool.not_true, Bool.not_false, Option.map_some, bin_add, bin_sub, bin_mul, bin_quo, bin_rem, lss_t, lss_f, leq_t, leq_f, gtr_t, gtr_f, geq_t, geq_f, eqi_t, eqi_f, nei_t, nei_f, rem_uw, conv_ui, conv_iu, conv_ii, not_bool, nil_ptr, fa_mk, ptrV, len_mk, cap_mk, eq_ptr_nil, ne_ptr_nil, eq_nil_nil, ne_nil_nil, eq_slice_nil, eq_nil_slice, ia_1]; exact so_so) ?_)
  refine vP_to (e1 _) ?_
  repeat (with_reducible first | refine vP_so ?_ | refine vB_t ?_ | refine vB_f ?_ | refine vE_tt ?_ | refine vE_ff ?_ | refine vE_tf ?_ | refine vE_ft ?_ | refine vE_u ?_ | refine vP_to (by simp (disch := omega) only [gdW_true, gdW_false, gB_true, gB_false, gB_undef, pickV_true, pickV_false, Bool.not_true, Bool.not_false, Option.map_some, bin_add, bin_sub, bin_mul, bin_quo, bin_rem, lss_t, lss_f, leq_t, leq_f, gtr_t, gtr_f, geq_t, geq_f, eqi_t, eqi_f, nei_t, nei_f, rem_uw, conv_ui, conv_iu, conv_ii, not_bool, nil_ptr, fa_mk, ptrV, len_mk, cap_mk, eq_ptr_nil, ne_ptr_nil, eq_nil_nil, ne_nil_nil, eq_slice_nil, eq_nil_slice, ia_1]; exact so_so) ?_)
  refine use_acheck (g := g) (F := F) hv (wZ_small (by simp)) hh2 fun h3 hh3 => ?_
  rw [wZ_1]
  have hh3 : (F * tt) h3 := dropL (P := own g) hh3
  repeat (with_reducible first | refine vP_so ?_ | refine vB_t ?_ | refine vB_f ?_ | refine vE_tt ?_ | refine vE_ff ?_ | refine vE_tf ?_ | refine vE_ft ?_ | refine vE_u ?_ | refine vP_to (by simp (disch := omega) only [gdW_true, gdW_false, gB_true, gB_false, gB_undef, pickV_true, pickV_false, Bool.not_true, Bool.not_false, Option.map_some, bin_add, bin_sub, bin_mul, bin_quo, bin_rem, lss_t, lss_f, leq_t, leq_f, gtr_t, gtr_f, geq_t, geq_f, eqi_t, eqi_f, nei_t, nei_f, rem_uw, conv_ui, conv_iu, conv_ii, not_bool, nil_ptr, fa_mk, ptrV, len_mk, cap_mk, eq_ptr_nil, ne_ptr_nil, eq_nil_nil, ne_nil_nil, eq_slice_nil, eq_nil_slice, ia_1]; exact so_so) ?_)
  refine vP_to e9 ?_
  repeat (with_reducible first | refine vP_so ?_ | refine vB_t ?_ | refine vB_f ?_ | refine vE_tt ?_ | refine vE_ff ?_ | refine vE_tf ?_ | refine vE_ft ?_ | refine vE_u ?_ | refine vP_to (by simp (disch := omega) only [gdW_true, gdW_false, gB_true, gB_false, gB_undef, pickV_true, pickV_false, Bool.not_true, Bool.not_false, Option.map_some, bin_add, bin_sub, bin_mul, bin_quo, bin_rem, lss_t, lss_f, leq_t, leq_f, gtr_t, gtr_f, geq_t, geq_f, eqi_t, eqi_f, nei_t, nei_f, rem_uw, conv_ui, conv_iu, conv_ii, not_bool, nil_ptr, fa_mk, ptrV, len_mk, cap_mk, eq_ptr_nil, ne_ptr_nil, eq_nil_nil, ne_nil_nil, eq_slice_nil, eq_nil_slice, ia_1]; exact so_so) ?_)
  refine use_acheck (g := Hp.emp) (F := F) (hz 9) (wZ_small (by simp)) (own_emp hh3) fun h4 hh4 => ?_
  rw [wZ_9]
  have hh4 : (F * tt) h4 := by obtain ⟨a, b, d, rfl, q, r⟩ := hh4; rw [show a = Hp.emp from q, Hp.emp_add]; exact r
  have t1 : txtV 1 = .string ⟨#[108, 111, 115, 116]⟩ := rfl
  have t8 : txtV 8 = .string ⟨#[109, 97, 114, 107, 101, 100]⟩ := rfl
  have t9 : txtV 9 = .string ⟨#[]⟩ := rfl
  repeat (with_reducible first | refine vP_so ?_ | refine vB_t ?_ | refine vB_f ?_ | refine vE_tt ?_ | refine vE_ff ?_ | refine vE_tf ?_ | refine vE_ft ?_ | refine vE_u ?_ | refine vP_to (by simp (disch := omega) only [gdW_true, gdW_false, gB_true, gB_false, gB_undef, pickV_true, pickV_false, Bool.not_true, Bool.not_false, Option.map_some, bin_add, bin_sub, bin_mul, bin_quo, bin_rem, lss_t, lss_f, leq_t, leq_f, gtr_t, gtr_f, geq_t, geq_f, eqi_t, eqi_f, nei_t, nei_f, rem_uw, conv_ui, conv_iu, conv_ii, not_bool, nil_ptr, fa_mk, ptrV, len_mk, cap_mk, eq_ptr_nil, ne_ptr_nil, eq_nil_nil, ne_nil_nil, eq_slice_nil, eq_nil_slice, ia_1]; exact so_so) ?_)
  refine use_atext hh4 fun h5 hh5 => ?_
  rw [t1]
  repeat (with_reducible first | refine vP_so ?_ | refine vB_t ?_ | refine vB_f ?_ | refine vE_tt ?_ | refine vE_ff ?_ | refine vE_tf ?_ | refine vE_ft ?_ | refine vE_u ?_ | refine vP_to (by simp (disch := omega) only [gdW_true, gdW_false, gB_true, gB_false, gB_undef, pickV_true, pickV_false, Bool.not_true, Bool.not_false, Option.map_some, bin_add, bin_sub, bin_mul, bin_quo, bin_rem, lss_t, lss_f, leq_t, leq_f, gtr_t, gtr_f, geq_t, geq_f, eqi_t, eqi_f, nei_t, nei_f, rem_uw, conv_ui, conv_iu, conv_ii, not_bool, nil_ptr, fa_mk, ptrV, len_mk, cap_mk, eq_ptr_nil, ne_ptr_nil, eq_nil_nil, ne_nil_nil, eq_slice_nil, eq_nil_slice, ia_1, eq_str]; exact so_so) ?_)
  refine use_atext hh5 fun h6 hh6 => ?_
  rw [t8]
  repeat (with_reducible first | refine vP_so ?_ | refine vB_t ?_ | refine vB_f ?_ | refine vE_tt ?_ | refine vE_ff ?_ | refine vE_tf ?_ | refine vE_ft ?_ | refine vE_u ?_ | refine vP_to (by simp (disch := omega) only [gdW_true, gdW_false, gB_true, gB_false, gB_undef, pickV_true, pickV_false, Bool.not_true, Bool.not_false, Option.map_some, bin_add, bin_sub, bin_mul, bin_quo, bin_rem, lss_t, lss_f, leq_t, leq_f, gtr_t, gtr_f, geq_t, geq_f, eqi_t, eqi_f, nei_t, nei_f, rem_uw, conv_ui, conv_iu, conv_ii, not_bool, nil_ptr, fa_mk, ptrV, len_mk, cap_mk, eq_ptr_nil, ne_ptr_nil, eq_nil_nil, ne_nil_nil, eq_slice_nil, eq_nil_slice, ia_1, eq_str]; exact so_so) ?_)
  refine use_atext hh6 fun h7 hh7 => ?_
  rw [t9]
  repeat (with_reducible first | refine vP_so ?_ | refine vB_t ?_ | refine vB_f ?_ | refine vE_tt ?_ | refine vE_ff ?_ | refine vE_tf ?_ | refine vE_ft ?_ | refine vE_u ?_ | refine vP_to (by simp (disch := omega) only [gdW_true, gdW_false, gB_true, gB_false, gB_undef, pickV_true, pickV_false, Bool.not_true, Bool.not_false, Option.map_some, bin_add, bin_sub, bin_mul, bin_quo, bin_rem, lss_t, lss_f, leq_t, leq_f, gtr_t, gtr_f, geq_t, geq_f, eqi_t, eqi_f, nei_t, nei_f, rem_uw, conv_ui, conv_iu, conv_ii, not_bool, nil_ptr, fa_mk, ptrV, len_mk, cap_mk, eq_ptr_nil, ne_ptr_nil, eq_nil_nil, ne_nil_nil, eq_slice_nil, eq_nil_slice, ia_1, eq_str]; exact so_so) ?_)
  exact hK h7 hh7

theorem bin_tmod (c : Int) : binV .rem (.int .i64 c) (.int .i64 10) = some (.int .i64 (c.tmod 10)) := rfl

theorem rules_tr (g : Hp) (w : VW) (ps code : Int) (hv : VAt g w) (ha : ∀ o ∈ w.objs, o.addr ≤ 9223372036854775807) : Tr Try.prog 8 #[w.val, .int .i64 ps, .int .i64 code] (own g) (fun v => pr (v = .bool true) * own g) := by
  refine Tr.of fun h hh => C8 ?_
  unfold D8
  have hh : (own g * (emp * tt)) h := asr (by rw [emp_star]) hh
  refine vA_new (o := .cells w.cells 26 (0, 0)) hh fun r1 h1 hh1 => ?_
  have lv : ∀ {h} {G : Asrt}, (pt r1 (.cells w.cells 26 (0, 0)) * G) h → ldN 9 (.pointer (some ⟨r1, 0, none⟩)) h = some w.val := fun q => (vw_ld (r := r1) (w := w) (E := 26) q).2.2.2.2.2.2.2.2.2
  have hh1 : (own g * (pt r1 (.cells w.cells 26 (0, 0)) * tt)) h1 := asr (by rw [emp_star]; ac_rfl) hh1
  have lx : ∀ {h}, (own g * (pt r1 (.cells w.cells 26 (0, 0)) * tt)) h → ldN 9 (.pointer (some ⟨r1, 0, none⟩)) h = some w.val := fun q => lv (G := own g * tt) (asr (by ac_rfl) q)
  have fin : ∀ h', (own g * (pt r1 (.cells w.cells 26 (0, 0)) * tt)) h' → ((pr (Value.bool true = Value.bool true) * own g) * tt) h' := fun h' q => ret rfl (dropL (P := pt r1 (.cells w.cells 26 (0, 0))) (Q := own g) (asr (by ac_rfl) q))
  repeat (with_reducible first | refine vP_so ?_ | refine vB_t ?_ | refine vB_f ?_ | refine vE_tt ?_ | refine vE_ff ?_ | refine vE_tf ?_ | refine vE_ft ?_ | refine vE_u ?_ | refine vP_to (by simp (disch := omega) only [gdW_true, gdW_false, gB_true, gB_false, gB_undef, pickV_true, pickV_false, Bool.not_true, Bool.not_false, Option.map_some, bin_add, bin_sub, bin_mul, bin_quo, bin_rem, lss_t, lss_f, leq_t, leq_f, gtr_t, gtr_f, geq_t, geq_f, eqi_t, eqi_f, nei_t, nei_f, rem_uw, conv_ui, conv_iu, conv_ii, not_bool, nil_ptr, fa_mk, ptrV, len_mk, cap_mk, eq_ptr_nil, ne_ptr_nil, eq_nil_nil, ne_nil_nil, eq_slice_nil, eq_nil_slice, ia_1, lx hh1]; exact so_so) ?_)
  refine use_few (F := pt r1 (.cells w.cells 26 (0, 0))) hv hh1 fun b h2 hb hh2 => ?_
  cases b with
  | false =>
    repeat (with_reducible first | refine vP_so ?_ | refine vB_t ?_ | refine vB_f ?_ | refine vE_tt ?_ | refine vE_ff ?_ | refine vE_tf ?_ | refine vE_ft ?_ | refine vE_u ?_ | refine vP_to (by simp (disch := omega) only [gdW_true, gdW_false, gB_true, gB_false, gB_undef, pickV_true, pickV_false, Bool.not_true, Bool.not_false, Option.map_some, bin_add, bin_sub, bin_mul, bin_quo, bin_rem, lss_t, lss_f, leq_t, leq_f, gtr_t, gtr_f, geq_t, geq_f, eqi_t, eqi_f, nei_t, nei_f, rem_uw, conv_ui, conv_iu, conv_ii, not_bool, nil_ptr, fa_mk, ptrV, len_mk, cap_mk, eq_ptr_nil, ne_ptr_nil, eq_nil_nil, ne_nil_nil, eq_slice_nil, eq_nil_slice, ia_1]; exact so_so) ?_)
    refine use_told30 (F := own g * pt r1 (.cells w.cells 26 (0, 0))) (asr (by ac_rfl) hh2) fun h3 hh3 => ?_
    exact fin h3 (asr (by ac_rfl) hh3)
  | true =>
    have hs := (hb rfl).small ha
    repeat (with_reducible first | refine vP_so ?_ | refine vB_t ?_ | refine vB_f ?_ | refine vE_tt ?_ | refine vE_ff ?_ | refine vE_tf ?_ | refine vE_ft ?_ | refine vE_u ?_ | refine vP_to (by simp (disch := omega) only [gdW_true, gdW_false, gB_true, gB_false, gB_undef, pickV_true, pickV_false, Bool.not_true, Bool.not_false, Option.map_some, bin_add, bin_sub, bin_mul, bin_quo, bin_rem, lss_t, lss_f, leq_t, leq_f, gtr_t, gtr_f, geq_t, geq_f, eqi_t, eqi_f, nei_t, nei_f, rem_uw, conv_ui, conv_iu, conv_ii, not_bool, nil_ptr, fa_mk, ptrV, len_mk, cap_mk, eq_ptr_nil, ne_ptr_nil, eq_nil_nil, ne_nil_nil, eq_slice_nil, eq_nil_slice, ia_1, lx hh2]; exact so_so) ?_)
    refine use_rall (F := pt r1 (.cells w.cells 26 (0, 0))) hv hs hh2 fun v15 h4 hh4 => ?_
    intro J1 hJ1
    have hlen := SG_len iE hh4
    have hJ : J1 [.int .i64 (firstL (outN (brkF w ps) 8))] h4 := by
      refine hJ1 _ _ fun _ => ?_
      refine use_told30 (F := SG iE 3 v15 (outN (brkF w ps) 8) * (own g * pt r1 (.cells w.cells 26 (0, 0)))) (asr (by ac_rfl) hh4) fun h6 hh6 => ?_
      have hh6 : (own g * (pt r1 (.cells w.cells 26 (0, 0)) * SG iE 3 v15 (outN (brkF w ps) 8) * tt)) h6 := asr (by ac_rfl) hh6
      have ly : ∀ {h}, (own g * (pt r1 (.cells w.cells 26 (0, 0)) * SG iE 3 v15 (outN (brkF w ps) 8) * tt)) h → ldN 9 (.pointer (some ⟨r1, 0, none⟩)) h = some w.val := fun q => lv (G := own g * (SG iE 3 v15 (outN (brkF w ps) 8) * tt)) (asr (by ac_rfl) q)
      repeat (with_reducible first | refine vP_so ?_ | refine vB_t ?_ | refine vB_f ?_ | refine vE_tt ?_ | refine vE_ff ?_ | refine vE_tf ?_ | refine vE_ft ?_ | refine vE_u ?_ | refine vP_to (by simp (disch := omega) only [gdW_true, gdW_false, gB_true, gB_false, gB_undef, pickV_true, pickV_false, Bool.not_true, Bool.not_false, Option.map_some, bin_add, bin_sub, bin_mul, bin_quo, bin_rem, lss_t, lss_f, leq_t, leq_f, gtr_t, gtr_f, geq_t, geq_f, eqi_t, eqi_f, nei_t, nei_f, rem_uw, conv_ui, conv_iu, conv_ii, not_bool, nil_ptr, fa_mk, ptrV, len_mk, cap_mk, eq_ptr_nil, ne_ptr_nil, eq_nil_nil, ne_nil_nil, eq_slice_nil, eq_nil_slice, ia_1, ly hh6]; exact so_so) ?_)
      refine use_aall hv hs hh6 fun v26 h7 hh7 => ?_
      have i1 : IntsAt h7 v26 (outN (brkF w ps) 8) := SG_ints hh7
      have hh7b : (SG iE 3 v15 (outN (brkF w ps) 8) * (SG iE 3 v26 (outN (brkF w ps) 8) * (own g * (pt r1 (.cells w.cells 26 (0, 0)) * tt)))) h7 := asr (by ac_rfl) hh7
      have i2 : IntsAt h7 v15 (outN (brkF w ps) 8) := SG_ints hh7b
      have hh7 : (own g * (pt r1 (.cells w.cells 26 (0, 0)) * tt)) h7 := dropL (P := SG iE 3 v15 (outN (brkF w ps) 8) * SG iE 3 v26 (outN (brkF w ps) 8)) (Q := own g * pt r1 (.cells w.cells 26 (0, 0))) (asr (by ac_rfl) hh7b) |> asr (by ac_rfl)
      repeat (with_reducible first | refine vP_so ?_ | refine vB_t ?_ | refine vB_f ?_ | refine vE_tt ?_ | refine vE_ff ?_ | refine vE_tf ?_ | refine vE_ft ?_ | refine vE_u ?_ | refine vP_to (by simp (disch := omega) only [gdW_true, gdW_false, gB_true, gB_false, gB_undef, pickV_true, pickV_false, Bool.not_true, Bool.not_false, Option.map_some, bin_add, bin_sub, bin_mul, bin_quo, bin_rem, lss_t, lss_f, leq_t, leq_f, gtr_t, gtr_f, geq_t, geq_f, eqi_t, eqi_f, nei_t, nei_f, rem_uw, conv_ui, conv_iu, conv_ii, not_bool, nil_ptr, fa_mk, ptrV, len_mk, cap_mk, eq_ptr_nil, ne_ptr_nil, eq_nil_nil, ne_nil_nil, eq_slice_nil, eq_nil_slice, ia_1]; exact so_so) ?_)
      refine use_ints i1 i2 ?_
      rw [decide_eq_true rfl]
      repeat (with_reducible first | refine vP_so ?_ | refine vB_t ?_ | refine vB_f ?_ | refine vE_tt ?_ | refine vE_ff ?_ | refine vE_tf ?_ | refine vE_ft ?_ | refine vE_u ?_ | refine vP_to (by simp (disch := omega) only [gdW_true, gdW_false, gB_true, gB_false, gB_undef, pickV_true, pickV_false, Bool.not_true, Bool.not_false, Option.map_some, bin_add, bin_sub, bin_mul, bin_quo, bin_rem, lss_t, lss_f, leq_t, leq_f, gtr_t, gtr_f, geq_t, geq_f, eqi_t, eqi_f, nei_t, nei_f, rem_uw, conv_ui, conv_iu, conv_ii, not_bool, nil_ptr, fa_mk, ptrV, len_mk, cap_mk, eq_ptr_nil, ne_ptr_nil, eq_nil_nil, ne_nil_nil, eq_slice_nil, eq_nil_slice, ia_1, lx hh7]; exact so_so) ?_)
      refine use_acheck hv hs hh7 fun h9 hh9 => ?_
      repeat (with_reducible first | refine vP_so ?_ | refine vB_t ?_ | refine vB_f ?_ | refine vE_tt ?_ | refine vE_ff ?_ | refine vE_tf ?_ | refine vE_ft ?_ | refine vE_u ?_ | refine vP_to (by simp (disch := omega) only [gdW_true, gdW_false, gB_true, gB_false, gB_undef, pickV_true, pickV_false, Bool.not_true, Bool.not_false, Option.map_some, bin_add, bin_sub, bin_mul, bin_quo, bin_rem, lss_t, lss_f, leq_t, leq_f, gtr_t, gtr_f, geq_t, geq_f, eqi_t, eqi_f, nei_t, nei_f, rem_uw, conv_ui, conv_iu, conv_ii, not_bool, nil_ptr, fa_mk, ptrV, len_mk, cap_mk, eq_ptr_nil, ne_ptr_nil, eq_nil_nil, ne_nil_nil, eq_slice_nil, eq_nil_slice, ia_1]; exact so_so) ?_)
      refine use_atext (F := own g * pt r1 (.cells w.cells 26 (0, 0))) (asr (by ac_rfl) hh9) fun h10 hh10 => ?_
      repeat (with_reducible first | refine vP_so ?_ | refine vB_t ?_ | refine vB_f ?_ | refine vE_tt ?_ | refine vE_ff ?_ | refine vE_tf ?_ | refine vE_ft ?_ | refine vE_u ?_ | refine vP_to (by simp (disch := omega) only [gdW_true, gdW_false, gB_true, gB_false, gB_undef, pickV_true, pickV_false, Bool.not_true, Bool.not_false, Option.map_some, bin_add, bin_sub, bin_mul, bin_quo, bin_rem, lss_t, lss_f, leq_t, leq_f, gtr_t, gtr_f, geq_t, geq_f, eqi_t, eqi_f, nei_t, nei_f, rem_uw, conv_ui, conv_iu, conv_ii, not_bool, nil_ptr, fa_mk, ptrV, len_mk, cap_mk, eq_ptr_nil, ne_ptr_nil, eq_nil_nil, ne_nil_nil, eq_slice_nil, eq_nil_slice, ia_1]; exact so_so) ?_)
      refine use_rtext hh10 fun h11 hh11 => ?_
      repeat (with_reducible first | refine vP_so ?_ | refine vB_t ?_ | refine vB_f ?_ | refine vE_tt ?_ | refine vE_ff ?_ | refine vE_tf ?_ | refine vE_ft ?_ | refine vE_u ?_ | refine vP_to (by simp (disch := omega) only [gdW_true, gdW_false, gB_true, gB_false, gB_undef, pickV_true, pickV_false, Bool.not_true, Bool.not_false, Option.map_some, bin_add, bin_sub, bin_mul, bin_quo, bin_rem, lss_t, lss_f, leq_t, leq_f, gtr_t, gtr_f, geq_t, geq_f, eqi_t, eqi_f, nei_t, nei_f, rem_uw, conv_ui, conv_iu, conv_ii, not_bool, nil_ptr, fa_mk, ptrV, len_mk, cap_mk, eq_ptr_nil, ne_ptr_nil, eq_nil_nil, ne_nil_nil, eq_slice_nil, eq_nil_slice, ia_1, eq_txt, bin_tmod]; exact so_so) ?_)
      refine use_atext hh11 fun h12 hh12 => ?_
      repeat (with_reducible first | refine vP_so ?_ | refine vB_t ?_ | refine vB_f ?_ | refine vE_tt ?_ | refine vE_ff ?_ | refine vE_tf ?_ | refine vE_ft ?_ | refine vE_u ?_ | refine vP_to (by simp (disch := omega) only [gdW_true, gdW_false, gB_true, gB_false, gB_undef, pickV_true, pickV_false, Bool.not_true, Bool.not_false, Option.map_some, bin_add, bin_sub, bin_mul, bin_quo, bin_rem, lss_t, lss_f, leq_t, leq_f, gtr_t, gtr_f, geq_t, geq_f, eqi_t, eqi_f, nei_t, nei_f, rem_uw, conv_ui, conv_iu, conv_ii, not_bool, nil_ptr, fa_mk, ptrV, len_mk, cap_mk, eq_ptr_nil, ne_ptr_nil, eq_nil_nil, ne_nil_nil, eq_slice_nil, eq_nil_slice, ia_1, bin_tmod]; exact so_so) ?_)
      refine use_rtext hh12 fun h13 hh13 => ?_
      repeat (with_reducible first | refine vP_so ?_ | refine vB_t ?_ | refine vB_f ?_ | refine vE_tt ?_ | refine vE_ff ?_ | refine vE_tf ?_ | refine vE_ft ?_ | refine vE_u ?_ | refine vP_to (by simp (disch := omega) only [gdW_true, gdW_false, gB_true, gB_false, gB_undef, pickV_true, pickV_false, Bool.not_true, Bool.not_false, Option.map_some, bin_add, bin_sub, bin_mul, bin_quo, bin_rem, lss_t, lss_f, leq_t, leq_f, gtr_t, gtr_f, geq_t, geq_f, eqi_t, eqi_f, nei_t, nei_f, rem_uw, conv_ui, conv_iu, conv_ii, not_bool, nil_ptr, fa_mk, ptrV, len_mk, cap_mk, eq_ptr_nil, ne_ptr_nil, eq_nil_nil, ne_nil_nil, eq_slice_nil, eq_nil_slice, ia_1, eq_txt]; exact so_so) ?_)
      exact fin h13 (asr (by ac_rfl) hh13)
    cases hl : outN (brkF w ps) 8 with
    | nil =>
      rw [hl] at hlen hJ
      simp only [List.length_nil] at hlen
      repeat (with_reducible first | refine vP_so ?_ | refine vB_t ?_ | refine vB_f ?_ | refine vE_tt ?_ | refine vE_ff ?_ | refine vE_tf ?_ | refine vE_ft ?_ | refine vE_u ?_ | refine vP_to (by simp (disch := omega) only [gdW_true, gdW_false, gB_true, gB_false, gB_undef, pickV_true, pickV_false, Bool.not_true, Bool.not_false, Option.map_some, bin_add, bin_sub, bin_mul, bin_quo, bin_rem, lss_t, lss_f, leq_t, leq_f, gtr_t, gtr_f, geq_t, geq_f, eqi_t, eqi_f, nei_t, nei_f, rem_uw, conv_ui, conv_iu, conv_ii, not_bool, nil_ptr, fa_mk, ptrV, len_mk, cap_mk, eq_ptr_nil, ne_ptr_nil, eq_nil_nil, ne_nil_nil, eq_slice_nil, eq_nil_slice, ia_1, hlen]; exact so_so) ?_)
      exact hJ
    | cons x l =>
      rw [hl] at hlen hJ hh4
      obtain ⟨p, f1, f2, _⟩ := el1 hh4 (i := 0) (a := x) rfl .i64
      have f1 : iaS 1 v15 (.int .i64 0) = some p := f1
      have hp : 0 < (x :: l).length := by simp
      repeat (with_reducible first | refine vP_so ?_ | refine vB_t ?_ | refine vB_f ?_ | refine vE_tt ?_ | refine vE_ff ?_ | refine vE_tf ?_ | refine vE_ft ?_ | refine vE_u ?_ | refine vP_to (by simp (disch := omega) only [gdW_true, gdW_false, gB_true, gB_false, gB_undef, pickV_true, pickV_false, Bool.not_true, Bool.not_false, Option.map_some, bin_add, bin_sub, bin_mul, bin_quo, bin_rem, lss_t, lss_f, leq_t, leq_f, gtr_t, gtr_f, geq_t, geq_f, eqi_t, eqi_f, nei_t, nei_f, rem_uw, conv_ui, conv_iu, conv_ii, not_bool, nil_ptr, fa_mk, ptrV, len_mk, cap_mk, eq_ptr_nil, ne_ptr_nil, eq_nil_nil, ne_nil_nil, eq_slice_nil, eq_nil_slice, ia_1, hlen, f1, f2]; exact so_so) ?_)
      exact hJ

end Go.Proofs
