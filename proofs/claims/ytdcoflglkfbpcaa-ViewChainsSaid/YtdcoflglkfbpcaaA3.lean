/-
  Contracts of package audit: objects, twice; all rules, the first one, their words.
-/
import Derived.Test.YtdcoflglkfbpcaaA2
set_option linter.unusedVariables false
set_option linter.unusedSimpArgs false
set_option maxRecDepth 100000
namespace Go.Proofs
open Go.Sl

theorem use_aobjects {g : Hp} {w : VW} {ps : Int} {F : Asrt} {K : Value → Hp → Prop} {h : Hp} (hv : VAt g w) (hA : ∀ o ∈ w.objs, o.addr ≤ 9223372036854775807) (hh : (own g * (F * tt)) h)
    (hK : ∀ h', (own g * (F * tt)) h' → K (.bool (cb (B2 w))) h') : CallH Try.prog 74 #[w.val, .int .i64 ps] K h := by
  refine C74 ?_
  unfold D74
  have hol := hv.objs_len
  refine vA_new (o := .cells w.cells 26 (0, 0)) hh fun r1 h1 hh1 => ?_
  have l5 := (vw_ld (r := r1) (w := w) (E := 26) hh1).2.2.2.2.2.1
  have hdrop : ∀ {h}, (pt r1 (.cells w.cells 26 (0, 0)) * (own g * (F * tt))) h → (own g * (F * tt)) h := fun q => dropL (P := pt r1 (.cells w.cells 26 (0, 0))) (Q := own g * F) (asr (by ac_rfl) q) |> asr (by ac_rfl)
  repeat (with_reducible first | refine vP_so ?_ | refine vB_t ?_ | refine vB_f ?_ | refine vE_tt ?_ | refine vE_ff ?_ | refine vE_tf ?_ | refine vE_ft ?_ | refine vE_u ?_ | refine vP_to (by simp (disch := omega) only [gdW_true, gdW_false, gB_true, gB_false, gB_undef, pickV_true, pickV_false, Bool.not_true, Bool.not_false, Option.map_some, bin_add, bin_sub, bin_mul, bin_quo, bin_rem, lss_t, lss_f, leq_t, leq_f, gtr_t, gtr_f, geq_t, geq_f, eqi_t, eqi_f, nei_t, nei_f, rem_uw, conv_ui, conv_iu, conv_ii, not_bool, nil_ptr, fa_mk, ptrV, len_mk, cap_mk, eq_ptr_nil, ne_ptr_nil, eq_nil_nil, ne_nil_nil, eq_slice_nil, eq_nil_slice, ia_1, l5, hol.1]; exact so_so) ?_)
  clear l5
  refine ⟨fun m zs h' => ∃ i : Nat, zs = [.int .i64 i] ∧ m = w.objs.length - i ∧ i ≤ w.objs.length ∧ (∀ (j : Nat) o, j < i → w.objs[j]? = some o → ¬ badO w j o) ∧ (pt r1 (.cells w.cells 26 (0, 0)) * (own g * (F * tt))) h', ⟨_, 0, rfl, rfl, by omega, fun j r hj => by omega, hh1⟩, ?_⟩
  rintro m v10 h2 ⟨i, hzs, rfl, hi, hok, hh2⟩ _
  obtain rfl : v10 = .int .i64 i := by simpa using hzs
  by_cases hil : i < w.objs.length
  · have hw := own_vat (F := pt r1 (.cells w.cells 26 (0, 0)) * (F * tt)) (asr (by ac_rfl) hh2) hv
    have hoi : w.objs[i]? = some w.objs[i] := List.getElem?_eq_getElem hil
    obtain ⟨b, q, e1, _, _, _, e5⟩ := hw.obj hoi .i64
    have hsl := hv.slots w.objs[i] (List.getElem_mem hil)
    have hoa := hA w.objs[i] (List.getElem_mem hil)
    generalize w.objs[i] = o at *
    have fin : badO w i o → ∀ h', (own g * (F * tt)) h' → K (.bool true) h' := fun hb h' hq => by
      have hb : B2 w := ⟨i, o, hoi, hb⟩
      rw [cb_t hb] at hK
      exact hK h' hq
    have nxt : ¬ badO w i o → ∀ h', (pt r1 (.cells w.cells 26 (0, 0)) * (own g * (F * tt))) h' → ∃ m1, m1 < w.objs.length - i ∧ ∃ i' : Nat, [Value.int .i64 ((i : Int) + 1)] = [.int .i64 i'] ∧ m1 = w.objs.length - i' ∧ i' ≤ w.objs.length ∧ (∀ (j : Nat) o, j < i' → w.objs[j]? = some o → ¬ badO w j o) ∧ (pt r1 (.cells w.cells 26 (0, 0)) * (own g * (F * tt))) h' := fun hn h' hq => by
      refine ⟨w.objs.length - (i + 1), by omega, i + 1, by simp, rfl, by omega, fun j o' hj ho' => ?_, hq⟩
      by_cases hji : j = i
      · subst hji
        obtain rfl : o = o' := Option.some.inj (hoi.symm.trans ho')
        exact hn
      · exact hok j o' (by omega) ho'
    repeat (with_reducible first | refine vP_so ?_ | refine vB_t ?_ | refine vB_f ?_ | refine vE_tt ?_ | refine vE_ff ?_ | refine vE_tf ?_ | refine vE_ft ?_ | refine vE_u ?_ | refine vP_to (by simp (disch := omega) only [gdW_true, gdW_false, gB_true, gB_false, gB_undef, pickV_true, pickV_false, Bool.not_true, Bool.not_false, Option.map_some, bin_add, bin_sub, bin_mul, bin_quo, bin_rem, lss_t, lss_f, leq_t, leq_f, gtr_t, gtr_f, geq_t, geq_f, eqi_t, eqi_f, nei_t, nei_f, rem_uw, conv_ui, conv_iu, conv_ii, not_bool, nil_ptr, fa_mk, ptrV, len_mk, cap_mk, eq_ptr_nil, ne_ptr_nil, eq_nil_nil, ne_nil_nil, eq_slice_nil, eq_nil_slice, ia_1, e1, e5]; exact so_so) ?_)
    refine vA_new hh2 fun r6 h3 hh3 => ?_
    refine stN_mk (cs := #[.int .i64 o.addr, o.sv, .bool o.marked]) hh3 (one_ob hsl) rfl (by simp) fun h4 hh4 => ?_
    have hh4 : (pt r6 (.cells #[.int .i64 o.addr, o.sv, .bool o.marked] 30 (0, 0)) * (pt r1 (.cells w.cells 26 (0, 0)) * (own g * (F * tt)))) h4 := hh4
    have hc : ∀ {h : Hp} {G : Asrt}, (pt r6 (.cells #[.int .i64 o.addr, o.sv, .bool o.marked] 30 (0, 0)) * G) h → ld1 (.pointer (some ⟨r6, 0 + 0, none⟩)) h = some (.int .i64 o.addr) ∧ ldN 3 (.pointer (some ⟨r6, 0, none⟩)) h = some (.agg #[.int .i64 o.addr, o.sv, .bool o.marked]) := fun q => ⟨ld1_mk (pt_get q) rfl, by rw [ldN_mk (pt_get q) (by simp)]; rfl⟩
    have d6 : ∀ {h}, (pt r6 (.cells #[.int .i64 o.addr, o.sv, .bool o.marked] 30 (0, 0)) * (pt r1 (.cells w.cells 26 (0, 0)) * (own g * (F * tt)))) h → (pt r1 (.cells w.cells 26 (0, 0)) * (own g * (F * tt))) h := fun q =>
      dropL (P := pt r6 (.cells #[.int .i64 o.addr, o.sv, .bool o.marked] 30 (0, 0))) (Q := pt r1 (.cells w.cells 26 (0, 0)) * (own g * F)) (asr (by ac_rfl) q) |> asr (by ac_rfl)
    by_cases h64 : o.addr < 64
    · repeat (with_reducible first | refine vP_so ?_ | refine vB_t ?_ | refine vB_f ?_ | refine vE_tt ?_ | refine vE_ff ?_ | refine vE_tf ?_ | refine vE_ft ?_ | refine vE_u ?_ | refine vP_to (by simp (disch := omega) only [gdW_true, gdW_false, gB_true, gB_false, gB_undef, pickV_true, pickV_false, Bool.not_true, Bool.not_false, Option.map_some, bin_add, bin_sub, bin_mul, bin_quo, bin_rem, lss_t, lss_f, leq_t, leq_f, gtr_t, gtr_f, geq_t, geq_f, eqi_t, eqi_f, nei_t, nei_f, rem_uw, conv_ui, conv_iu, conv_ii, not_bool, nil_ptr, fa_mk, ptrV, len_mk, cap_mk, eq_ptr_nil, ne_ptr_nil, eq_nil_nil, ne_nil_nil, eq_slice_nil, eq_nil_slice, ia_1, (hc hh4).1]; exact so_so) ?_)
      exact fin (.inl h64) h4 (hdrop (d6 hh4))
    repeat (with_reducible first | refine vP_so ?_ | refine vB_t ?_ | refine vB_f ?_ | refine vE_tt ?_ | refine vE_ff ?_ | refine vE_tf ?_ | refine vE_ft ?_ | refine vE_u ?_ | refine vP_to (by simp (disch := omega) only [gdW_true, gdW_false, gB_true, gB_false, gB_undef, pickV_true, pickV_false, Bool.not_true, Bool.not_false, Option.map_some, bin_add, bin_sub, bin_mul, bin_quo, bin_rem, lss_t, lss_f, leq_t, leq_f, gtr_t, gtr_f, geq_t, geq_f, eqi_t, eqi_f, nei_t, nei_f, rem_uw, conv_ui, conv_iu, conv_ii, not_bool, nil_ptr, fa_mk, ptrV, len_mk, cap_mk, eq_ptr_nil, ne_ptr_nil, eq_nil_nil, ne_nil_nil, eq_slice_nil, eq_nil_slice, ia_1, (hc hh4).1, (hc hh4).2]; exact so_so) ?_)
    refine use_asize (F := pt r6 (.cells #[.int .i64 o.addr, o.sv, .bool o.marked] 30 (0, 0)) * (pt r1 (.cells w.cells 26 (0, 0)) * (own g * F))) hsl (asr (by ac_rfl) hh4) fun h5 hh5 => ?_
    have hh5 : (pt r6 (.cells #[.int .i64 o.addr, o.sv, .bool o.marked] 30 (0, 0)) * (pt r1 (.cells w.cells 26 (0, 0)) * (own g * (F * tt)))) h5 := asr (by ac_rfl) hh5
    by_cases hs0 : szO o = 0
    · repeat (with_reducible first | refine vP_so ?_ | refine vB_t ?_ | refine vB_f ?_ | refine vE_tt ?_ | refine vE_ff ?_ | refine vE_tf ?_ | refine vE_ft ?_ | refine vE_u ?_ | refine vP_to (by simp (disch := omega) only [gdW_true, gdW_false, gB_true, gB_false, gB_undef, pickV_true, pickV_false, Bool.not_true, Bool.not_false, Option.map_some, bin_add, bin_sub, bin_mul, bin_quo, bin_rem, lss_t, lss_f, leq_t, leq_f, gtr_t, gtr_f, geq_t, geq_f, eqi_t, eqi_f, nei_t, nei_f, rem_uw, conv_ui, conv_iu, conv_ii, not_bool, nil_ptr, fa_mk, ptrV, len_mk, cap_mk, eq_ptr_nil, ne_ptr_nil, eq_nil_nil, ne_nil_nil, eq_slice_nil, eq_nil_slice, ia_1]; exact so_so) ?_)
      exact fin (.inr (.inl hs0)) h5 (hdrop (d6 hh5))
    by_cases hi0 : i = 0
    · subst hi0
      repeat (with_reducible first | refine vP_so ?_ | refine vB_t ?_ | refine vB_f ?_ | refine vE_tt ?_ | refine vE_ff ?_ | refine vE_tf ?_ | refine vE_ft ?_ | refine vE_u ?_ | refine vP_to (by simp (disch := omega) only [gdW_true, gdW_false, gB_true, gB_false, gB_undef, pickV_true, pickV_false, Bool.not_true, Bool.not_false, Option.map_some, bin_add, bin_sub, bin_mul, bin_quo, bin_rem, lss_t, lss_f, leq_t, leq_f, gtr_t, gtr_f, geq_t, geq_f, eqi_t, eqi_f, nei_t, nei_f, rem_uw, conv_ui, conv_iu, conv_ii, not_bool, nil_ptr, fa_mk, ptrV, len_mk, cap_mk, eq_ptr_nil, ne_ptr_nil, eq_nil_nil, ne_nil_nil, eq_slice_nil, eq_nil_slice, ia_1]; exact so_so) ?_)
      refine ⟨rfl, rfl, rfl, ?_⟩
      repeat (with_reducible first | refine vP_so ?_ | refine vB_t ?_ | refine vB_f ?_ | refine vE_tt ?_ | refine vE_ff ?_ | refine vE_tf ?_ | refine vE_ft ?_ | refine vE_u ?_ | refine vP_to (by simp (disch := omega) only [gdW_true, gdW_false, gB_true, gB_false, gB_undef, pickV_true, pickV_false, Bool.not_true, Bool.not_false, Option.map_some, bin_add, bin_sub, bin_mul, bin_quo, bin_rem, lss_t, lss_f, leq_t, leq_f, gtr_t, gtr_f, geq_t, geq_f, eqi_t, eqi_f, nei_t, nei_f, rem_uw, conv_ui, conv_iu, conv_ii, not_bool, nil_ptr, fa_mk, ptrV, len_mk, cap_mk, eq_ptr_nil, ne_ptr_nil, eq_nil_nil, ne_nil_nil, eq_slice_nil, eq_nil_slice, ia_1]; exact so_so) ?_)
      exact nxt (fun q => by rcases q with q | q | ⟨q, _⟩ <;> omega) h5 (d6 hh5)
    · have hpg : w.objs[i - 1]? = some w.objs[i - 1] := List.getElem?_eq_getElem (by omega)
      have hpl := hv.slots w.objs[i - 1] (List.getElem_mem (by omega))
      have hpok := hok (i - 1) _ (by omega) hpg
      have hw5 := own_vat (F := pt r6 (.cells #[.int .i64 o.addr, o.sv, .bool o.marked] 30 (0, 0)) * (pt r1 (.cells w.cells 26 (0, 0)) * (F * tt))) (asr (by ac_rfl) hh5) hv
      obtain ⟨b', q', f1, f2, _, _, f5⟩ := hw5.obj hpg .i64
      rw [show ((i - 1 : Nat) : Int) = (i : Int) - 1 by omega] at f1
      generalize w.objs[i - 1] = p at *
      have hp64 : 64 ≤ p.addr := by
        rcases Int.lt_or_le p.addr 64 with q | q
        · exact (hpok (.inl q)).elim
        · exact q
      have l5 := (vw_ld (r := r1) (w := w) (E := 26) (F := pt r6 (.cells #[.int .i64 o.addr, o.sv, .bool o.marked] 30 (0, 0)) * (own g * (F * tt))) (asr (by ac_rfl) hh5)).2.2.2.2.2.1
      by_cases hle : o.addr ≤ p.addr
      · repeat (with_reducible first | refine vP_so ?_ | refine vB_t ?_ | refine vB_f ?_ | refine vE_tt ?_ | refine vE_ff ?_ | refine vE_tf ?_ | refine vE_ft ?_ | refine vE_u ?_ | refine vP_to (by simp (disch := omega) only [gdW_true, gdW_false, gB_true, gB_false, gB_undef, pickV_true, pickV_false, Bool.not_true, Bool.not_false, Option.map_some, bin_add, bin_sub, bin_mul, bin_quo, bin_rem, lss_t, lss_f, leq_t, leq_f, gtr_t, gtr_f, geq_t, geq_f, eqi_t, eqi_f, nei_t, nei_f, rem_uw, conv_ui, conv_iu, conv_ii, not_bool, nil_ptr, fa_mk, ptrV, len_mk, cap_mk, eq_ptr_nil, ne_ptr_nil, eq_nil_nil, ne_nil_nil, eq_slice_nil, eq_nil_slice, ia_1, (hc hh5).1, l5, f1, f2]; exact so_so) ?_)
        have l5 := (vw_ld (r := r1) (w := w) (E := 26) (F := pt r6 (.cells #[.int .i64 o.addr, o.sv, .bool o.marked] 30 (0, 0)) * (own g * (F * tt))) (asr (by ac_rfl) hh5)).2.2.2.2.2.1
        refine ⟨rfl, rfl, rfl, ?_⟩
        repeat (with_reducible first | refine vP_so ?_ | refine vB_t ?_ | refine vB_f ?_ | refine vE_tt ?_ | refine vE_ff ?_ | refine vE_tf ?_ | refine vE_ft ?_ | refine vE_u ?_ | refine vP_to (by simp (disch := omega) only [gdW_true, gdW_false, gB_true, gB_false, gB_undef, pickV_true, pickV_false, Bool.not_true, Bool.not_false, Option.map_some, bin_add, bin_sub, bin_mul, bin_quo, bin_rem, lss_t, lss_f, leq_t, leq_f, gtr_t, gtr_f, geq_t, geq_f, eqi_t, eqi_f, nei_t, nei_f, rem_uw, conv_ui, conv_iu, conv_ii, not_bool, nil_ptr, fa_mk, ptrV, len_mk, cap_mk, eq_ptr_nil, ne_ptr_nil, eq_nil_nil, ne_nil_nil, eq_slice_nil, eq_nil_slice, ia_1]; exact so_so) ?_)
        exact fin (.inr (.inr ⟨by omega, p, hpg, .inl hle⟩)) h5 (hdrop (d6 hh5))
      repeat (with_reducible first | refine vP_so ?_ | refine vB_t ?_ | refine vB_f ?_ | refine vE_tt ?_ | refine vE_ff ?_ | refine vE_tf ?_ | refine vE_ft ?_ | refine vE_u ?_ | refine vP_to (by simp (disch := omega) only [gdW_true, gdW_false, gB_true, gB_false, gB_undef, pickV_true, pickV_false, Bool.not_true, Bool.not_false, Option.map_some, bin_add, bin_sub, bin_mul, bin_quo, bin_rem, lss_t, lss_f, leq_t, leq_f, gtr_t, gtr_f, geq_t, geq_f, eqi_t, eqi_f, nei_t, nei_f, rem_uw, conv_ui, conv_iu, conv_ii, not_bool, nil_ptr, fa_mk, ptrV, len_mk, cap_mk, eq_ptr_nil, ne_ptr_nil, eq_nil_nil, ne_nil_nil, eq_slice_nil, eq_nil_slice, ia_1, (hc hh5).1, l5, f1, f2, f5]; exact so_so) ?_)
      refine use_asize (F := pt r6 (.cells #[.int .i64 o.addr, o.sv, .bool o.marked] 30 (0, 0)) * (pt r1 (.cells w.cells 26 (0, 0)) * (own g * F))) hpl (asr (by ac_rfl) hh5) fun h6 hh6 => ?_
      have hh6 : (pt r6 (.cells #[.int .i64 o.addr, o.sv, .bool o.marked] 30 (0, 0)) * (pt r1 (.cells w.cells 26 (0, 0)) * (own g * (F * tt)))) h6 := asr (by ac_rfl) hh6
      have l5' := (vw_ld (r := r1) (w := w) (E := 26) (F := pt r6 (.cells #[.int .i64 o.addr, o.sv, .bool o.marked] 30 (0, 0)) * (own g * (F * tt))) (asr (by ac_rfl) hh6)).2.2.2.2.2.1
      have hw6 := own_vat (F := pt r6 (.cells #[.int .i64 o.addr, o.sv, .bool o.marked] 30 (0, 0)) * (pt r1 (.cells w.cells 26 (0, 0)) * (F * tt))) (asr (by ac_rfl) hh6) hv
      obtain ⟨b2, q2, g1, g2, _⟩ := hw6.obj hpg .i64
      rw [show ((i - 1 : Nat) : Int) = (i : Int) - 1 by omega] at g1
      obtain ⟨rfl, rfl⟩ : b' = b2 ∧ q' = q2 := by
        have := f1.symm.trans g1
        simp only [Option.some.injEq, Value.pointer.injEq, Addr.mk.injEq] at this
        exact ⟨this.1, this.2.1⟩
      refine ⟨?_, ?_, ?_, ?_⟩
      · rw [show gB (.bool false) false = true from rfl, gdW_true]; exact g2
      · rw [show gB (.bool false) false = true from rfl, gdW_true]; exact l5'
      · rw [show gB (.bool false) false = true from rfl, gdW_true]; exact (hc hh6).1
      by_cases hlt : o.addr - p.addr < szO p
      · repeat (with_reducible first | refine vP_so ?_ | refine vB_t ?_ | refine vB_f ?_ | refine vE_tt ?_ | refine vE_ff ?_ | refine vE_tf ?_ | refine vE_ft ?_ | refine vE_u ?_ | refine vP_to (by simp (disch := omega) only [gdW_true, gdW_false, gB_true, gB_false, gB_undef, pickV_true, pickV_false, Bool.not_true, Bool.not_false, Option.map_some, bin_add, bin_sub, bin_mul, bin_quo, bin_rem, lss_t, lss_f, leq_t, leq_f, gtr_t, gtr_f, geq_t, geq_f, eqi_t, eqi_f, nei_t, nei_f, rem_uw, conv_ui, conv_iu, conv_ii, not_bool, nil_ptr, fa_mk, ptrV, len_mk, cap_mk, eq_ptr_nil, ne_ptr_nil, eq_nil_nil, ne_nil_nil, eq_slice_nil, eq_nil_slice, ia_1]; exact so_so) ?_)
        exact fin (.inr (.inr ⟨by omega, p, hpg, .inr hlt⟩)) h6 (hdrop (d6 hh6))
      · repeat (with_reducible first | refine vP_so ?_ | refine vB_t ?_ | refine vB_f ?_ | refine vE_tt ?_ | refine vE_ff ?_ | refine vE_tf ?_ | refine vE_ft ?_ | refine vE_u ?_ | refine vP_to (by simp (disch := omega) only [gdW_true, gdW_false, gB_true, gB_false, gB_undef, pickV_true, pickV_false, Bool.not_true, Bool.not_false, Option.map_some, bin_add, bin_sub, bin_mul, bin_quo, bin_rem, lss_t, lss_f, leq_t, leq_f, gtr_t, gtr_f, geq_t, geq_f, eqi_t, eqi_f, nei_t, nei_f, rem_uw, conv_ui, conv_iu, conv_ii, not_bool, nil_ptr, fa_mk, ptrV, len_mk, cap_mk, eq_ptr_nil, ne_ptr_nil, eq_nil_nil, ne_nil_nil, eq_slice_nil, eq_nil_slice, ia_1]; exact so_so) ?_)
        refine nxt (fun q => ?_) h6 (d6 hh6)
        rcases q with q | q | ⟨_, p', hp', q⟩
        · exact h64 q
        · exact hs0 q
        · obtain rfl : p = p' := Option.some.inj (hpg.symm.trans hp')
          omega
  · obtain rfl : i = w.objs.length := by omega
    have hb : ¬ B2 w := fun ⟨i, o, h1, h2⟩ => hok i o (List.getElem?_eq_some_iff.1 h1).1 h1 h2
    rw [cb_f hb] at hK
    repeat (with_reducible first | refine vP_so ?_ | refine vB_t ?_ | refine vB_f ?_ | refine vE_tt ?_ | refine vE_ff ?_ | refine vE_tf ?_ | refine vE_ft ?_ | refine vE_u ?_ | refine vP_to (by simp (disch := omega) only [gdW_true, gdW_false, gB_true, gB_false, gB_undef, pickV_true, pickV_false, Bool.not_true, Bool.not_false, Option.map_some, bin_add, bin_sub, bin_mul, bin_quo, bin_rem, lss_t, lss_f, leq_t, leq_f, gtr_t, gtr_f, geq_t, geq_f, eqi_t, eqi_f, nei_t, nei_f, rem_uw, conv_ui, conv_iu, conv_ii, not_bool, nil_ptr, fa_mk, ptrV, len_mk, cap_mk, eq_ptr_nil, ne_ptr_nil, eq_nil_nil, ne_nil_nil, eq_slice_nil, eq_nil_slice, ia_1]; exact so_so) ?_)
    exact hK h2 (hdrop hh2)

theorem use_atwice {g : Hp} {w : VW} {ps : Int} {F : Asrt} {K : Value → Hp → Prop} {h : Hp} (hv : VAt g w) (hG : w.gs.length ≤ 1000000) (hh : (own g * (F * tt)) h)
    (hK : ∀ h', (own g * (F * tt)) h' → K (.bool (cb (B3 w))) h') : CallH Try.prog 75 #[w.val, .int .i64 ps] K h := by
  refine C75 ?_
  unfold D75
  have hgl := hv.gs_len
  refine vA_new (o := .cells w.cells 26 (0, 0)) hh fun r1 h1 hh1 => ?_
  have l4 := (vw_ld (r := r1) (w := w) (E := 26) hh1).2.2.2.2.1
  have hh1 : (own g * (F * tt)) h1 := dropL (P := pt r1 (.cells w.cells 26 (0, 0))) (Q := own g * F) (asr (by ac_rfl) hh1) |> asr (by ac_rfl)
  repeat (with_reducible first | refine vP_so ?_ | refine vB_t ?_ | refine vB_f ?_ | refine vE_tt ?_ | refine vE_ff ?_ | refine vE_tf ?_ | refine vE_ft ?_ | refine vE_u ?_ | refine vP_to (by simp (disch := omega) only [gdW_true, gdW_false, gB_true, gB_false, gB_undef, pickV_true, pickV_false, Bool.not_true, Bool.not_false, Option.map_some, bin_add, bin_sub, bin_mul, bin_quo, bin_rem, lss_t, lss_f, leq_t, leq_f, gtr_t, gtr_f, geq_t, geq_f, eqi_t, eqi_f, nei_t, nei_f, rem_uw, conv_ui, conv_iu, conv_ii, not_bool, nil_ptr, fa_mk, ptrV, len_mk, cap_mk, eq_ptr_nil, ne_ptr_nil, eq_nil_nil, ne_nil_nil, eq_slice_nil, eq_nil_slice, ia_1, l4, hgl.1]; exact so_so) ?_)
  refine ⟨fun m zs h' => ∃ (i : Nat) (v5 : Value) (l : List Int), zs = [.int .i64 i, v5] ∧ m = w.gs.length - i ∧ i ≤ w.gs.length ∧ l.length ≤ i ∧ (∀ x, x ∈ l ↔ ∃ (j : Nat) (r : Gr), j < i ∧ w.gs[j]? = some r ∧ r.st = 2 ∧ r.p = x) ∧
      (∀ (j k : Nat) (a b : Gr), j < i → k < j → w.gs[j]? = some a → w.gs[k]? = some b → a.st = 2 → b.st = 2 → a.p ≠ b.p) ∧ (SG iE 3 v5 l * (own g * (F * tt))) h',
    ⟨_, 0, .slice none 0 0, [], rfl, rfl, by omega, by simp, fun x => ⟨fun q => by simp at q, fun ⟨j, _, hj, _⟩ => by omega⟩, fun j k a b hj => by omega, SG_nil iE hh1⟩, ?_⟩
  rintro m v11 v5 h2 ⟨i, v5', l, hzs, rfl, hi, hll, hmem, hno, hh2⟩ _
  obtain ⟨rfl, rfl⟩ : v11 = .int .i64 i ∧ v5 = v5' := by simpa using hzs
  by_cases hil : i < w.gs.length
  · have hw := own_vat (F := SG iE 3 v5 l * (F * tt)) (asr (by ac_rfl) hh2) hv
    have hgi : w.gs[i]? = some w.gs[i] := List.getElem?_eq_getElem hil
    obtain ⟨b, q, e1, _, _, _, e5⟩ := hw.gor hgi .i64
    have hstk := hv.stacks w.gs[i] (List.getElem_mem hil)
    generalize w.gs[i] = r at *
    repeat (with_reducible first | refine vP_so ?_ | refine vB_t ?_ | refine vB_f ?_ | refine vE_tt ?_ | refine vE_ff ?_ | refine vE_tf ?_ | refine vE_ft ?_ | refine vE_u ?_ | refine vP_to (by simp (disch := omega) only [gdW_true, gdW_false, gB_true, gB_false, gB_undef, pickV_true, pickV_false, Bool.not_true, Bool.not_false, Option.map_some, bin_add, bin_sub, bin_mul, bin_quo, bin_rem, lss_t, lss_f, leq_t, leq_f, gtr_t, gtr_f, geq_t, geq_f, eqi_t, eqi_f, nei_t, nei_f, rem_uw, conv_ui, conv_iu, conv_ii, not_bool, nil_ptr, fa_mk, ptrV, len_mk, cap_mk, eq_ptr_nil, ne_ptr_nil, eq_nil_nil, ne_nil_nil, eq_slice_nil, eq_nil_slice, ia_1]; exact so_so) ?_)
    intro J2 hJ2
    have hJ : ∀ v' l' h', l'.length ≤ i + 1 → (∀ x, x ∈ l' ↔ ∃ (j : Nat) (r : Gr), j < i + 1 ∧ w.gs[j]? = some r ∧ r.st = 2 ∧ r.p = x) →
      (∀ (j k : Nat) (a b : Gr), j < i + 1 → k < j → w.gs[j]? = some a → w.gs[k]? = some b → a.st = 2 → b.st = 2 → a.p ≠ b.p) → (SG iE 3 v' l' * (own g * (F * tt))) h' → J2 [v'] h' := fun v' l' h' a1 a2 a3 a4 => by
      refine hJ2 _ _ fun _ => ?_
      repeat (with_reducible first | refine vP_so ?_ | refine vB_t ?_ | refine vB_f ?_ | refine vE_tt ?_ | refine vE_ff ?_ | refine vE_tf ?_ | refine vE_ft ?_ | refine vE_u ?_ | refine vP_to (by simp (disch := omega) only [gdW_true, gdW_false, gB_true, gB_false, gB_undef, pickV_true, pickV_false, Bool.not_true, Bool.not_false, Option.map_some, bin_add, bin_sub, bin_mul, bin_quo, bin_rem, lss_t, lss_f, leq_t, leq_f, gtr_t, gtr_f, geq_t, geq_f, eqi_t, eqi_f, nei_t, nei_f, rem_uw, conv_ui, conv_iu, conv_ii, not_bool, nil_ptr, fa_mk, ptrV, len_mk, cap_mk, eq_ptr_nil, ne_ptr_nil, eq_nil_nil, ne_nil_nil, eq_slice_nil, eq_nil_slice, ia_1]; exact so_so) ?_)
      exact ⟨w.gs.length - (i + 1), by omega, i + 1, v', l', rfl, rfl, by omega, a1, a2, a3, a4⟩
    repeat (with_reducible first | refine vP_so ?_ | refine vB_t ?_ | refine vB_f ?_ | refine vE_tt ?_ | refine vE_ff ?_ | refine vE_tf ?_ | refine vE_ft ?_ | refine vE_u ?_ | refine vP_to (by simp (disch := omega) only [gdW_true, gdW_false, gB_true, gB_false, gB_undef, pickV_true, pickV_false, Bool.not_true, Bool.not_false, Option.map_some, bin_add, bin_sub, bin_mul, bin_quo, bin_rem, lss_t, lss_f, leq_t, leq_f, gtr_t, gtr_f, geq_t, geq_f, eqi_t, eqi_f, nei_t, nei_f, rem_uw, conv_ui, conv_iu, conv_ii, not_bool, nil_ptr, fa_mk, ptrV, len_mk, cap_mk, eq_ptr_nil, ne_ptr_nil, eq_nil_nil, ne_nil_nil, eq_slice_nil, eq_nil_slice, ia_1, e1, e5]; exact so_so) ?_)
    refine vA_new hh2 fun r6 h3 hh3 => ?_
    refine stN_mk (cs := #[.int .i64 r.st, .int .i64 r.p, r.sv]) hh3 (one_gr hstk) rfl (by simp) fun h4 hh4 => ?_
    have hh4 : (pt r6 (.cells #[.int .i64 r.st, .int .i64 r.p, r.sv] 41 (0, 0)) * (SG iE 3 v5 l * (own g * (F * tt)))) h4 := hh4
    have hc0 : ld1 (.pointer (some ⟨r6, 0 + 0, none⟩)) h4 = some (.int .i64 r.st) := ld1_mk (pt_get hh4) rfl
    have hc1 : ld1 (.pointer (some ⟨r6, 0 + 1, none⟩)) h4 = some (.int .i64 r.p) := ld1_mk (pt_get hh4) rfl
    have hS4 : (SG iE 3 v5 l * (own g * (F * tt))) h4 := dropL (P := pt r6 (.cells #[.int .i64 r.st, .int .i64 r.p, r.sv] 41 (0, 0))) (Q := SG iE 3 v5 l * (own g * F)) (asr (by ac_rfl) hh4) |> asr (by ac_rfl)
    by_cases hst : r.st = 2
    · repeat (with_reducible first | refine vP_so ?_ | refine vB_t ?_ | refine vB_f ?_ | refine vE_tt ?_ | refine vE_ff ?_ | refine vE_tf ?_ | refine vE_ft ?_ | refine vE_u ?_ | refine vP_to (by simp (disch := omega) only [gdW_true, gdW_false, gB_true, gB_false, gB_undef, pickV_true, pickV_false, Bool.not_true, Bool.not_false, Option.map_some, bin_add, bin_sub, bin_mul, bin_quo, bin_rem, lss_t, lss_f, leq_t, leq_f, gtr_t, gtr_f, geq_t, geq_f, eqi_t, eqi_f, nei_t, nei_f, rem_uw, conv_ui, conv_iu, conv_ii, not_bool, nil_ptr, fa_mk, ptrV, len_mk, cap_mk, eq_ptr_nil, ne_ptr_nil, eq_nil_nil, ne_nil_nil, eq_slice_nil, eq_nil_slice, ia_1, hc0, hc1]; exact so_so) ?_)
      refine use_contains (SG_ints hS4) ?_
      by_cases hin : r.p ∈ l
      · rw [decide_eq_true hin]
        obtain ⟨j, r', hj, hr', hs', hp'⟩ := (hmem r.p).1 hin
        have hb : B3 w := ⟨i, j, r, r', hj, hgi, hr', hst, hs', hp'.symm⟩
        rw [cb_t hb] at hK
        repeat (with_reducible first | refine vP_so ?_ | refine vB_t ?_ | refine vB_f ?_ | refine vE_tt ?_ | refine vE_ff ?_ | refine vE_tf ?_ | refine vE_ft ?_ | refine vE_u ?_ | refine vP_to (by simp (disch := omega) only [gdW_true, gdW_false, gB_true, gB_false, gB_undef, pickV_true, pickV_false, Bool.not_true, Bool.not_false, Option.map_some, bin_add, bin_sub, bin_mul, bin_quo, bin_rem, lss_t, lss_f, leq_t, leq_f, gtr_t, gtr_f, geq_t, geq_f, eqi_t, eqi_f, nei_t, nei_f, rem_uw, conv_ui, conv_iu, conv_ii, not_bool, nil_ptr, fa_mk, ptrV, len_mk, cap_mk, eq_ptr_nil, ne_ptr_nil, eq_nil_nil, ne_nil_nil, eq_slice_nil, eq_nil_slice, ia_1]; exact so_so) ?_)
        exact hK h4 (dropL (P := SG iE 3 v5 l) (Q := own g * F) (asr (by ac_rfl) hS4) |> asr (by ac_rfl))
      · rw [decide_eq_false hin]
        have eb : bldV #[.int .i64 0] [(0, 1, .int .i64 r.p)] = some #[.int .i64 r.p] := rfl
        repeat (with_reducible first | refine vP_so ?_ | refine vB_t ?_ | refine vB_f ?_ | refine vE_tt ?_ | refine vE_ff ?_ | refine vE_tf ?_ | refine vE_ft ?_ | refine vE_u ?_ | refine vP_to (by simp (disch := omega) only [gdW_true, gdW_false, gB_true, gB_false, gB_undef, pickV_true, pickV_false, Bool.not_true, Bool.not_false, Option.map_some, bin_add, bin_sub, bin_mul, bin_quo, bin_rem, lss_t, lss_f, leq_t, leq_f, gtr_t, gtr_f, geq_t, geq_f, eqi_t, eqi_f, nei_t, nei_f, rem_uw, conv_ui, conv_iu, conv_ii, not_bool, nil_ptr, fa_mk, ptrV, len_mk, cap_mk, eq_ptr_nil, ne_ptr_nil, eq_nil_nil, ne_nil_nil, eq_slice_nil, eq_nil_slice, ia_1, hc1]; exact so_so) ?_)
        rw [eb]
        refine vA_new (f := fun r => .slice (some ⟨r, 0, none⟩) 1 1) hS4 fun r25 h7 hh7 => ?_
        refine ap_new iE (l := l) (m := [r.p]) (F := own g * F) elInt rfl rfl niInts rfl (by omega) (asr (by ac_rfl) hh7) rfl rfl (by simp only [List.length_singleton]; omega) fun v26 h8 hh8 => ?_
        refine hJ v26 (l ++ [r.p]) h8 (by simp; omega) (fun x => ?_) (fun j k a b hj hk ha hb sa sb => ?_) (asr (by ac_rfl) hh8)
        · rw [List.mem_append, List.mem_singleton, hmem]
          constructor
          · rintro (⟨j, r', hj, hr', hs', hp'⟩ | rfl)
            · exact ⟨j, r', by omega, hr', hs', hp'⟩
            · exact ⟨i, r, by omega, hgi, hst, rfl⟩
          · rintro ⟨j, r', hj, hr', hs', hp'⟩
            by_cases hji : j = i
            · subst hji
              obtain rfl : r = r' := Option.some.inj (hgi.symm.trans hr')
              exact .inr hp'.symm
            · exact .inl ⟨j, r', by omega, hr', hs', hp'⟩
        · by_cases hji : j = i
          · subst hji
            obtain rfl : r = a := Option.some.inj (hgi.symm.trans ha)
            exact fun e => hin ((hmem _).2 ⟨k, b, hk, hb, sb, e.symm⟩)
          · exact hno j k a b (by omega) hk ha hb sa sb
    · repeat (with_reducible first | refine vP_so ?_ | refine vB_t ?_ | refine vB_f ?_ | refine vE_tt ?_ | refine vE_ff ?_ | refine vE_tf ?_ | refine vE_ft ?_ | refine vE_u ?_ | refine vP_to (by simp (disch := omega) only [gdW_true, gdW_false, gB_true, gB_false, gB_undef, pickV_true, pickV_false, Bool.not_true, Bool.not_false, Option.map_some, bin_add, bin_sub, bin_mul, bin_quo, bin_rem, lss_t, lss_f, leq_t, leq_f, gtr_t, gtr_f, geq_t, geq_f, eqi_t, eqi_f, nei_t, nei_f, rem_uw, conv_ui, conv_iu, conv_ii, not_bool, nil_ptr, fa_mk, ptrV, len_mk, cap_mk, eq_ptr_nil, ne_ptr_nil, eq_nil_nil, ne_nil_nil, eq_slice_nil, eq_nil_slice, ia_1, hc0]; exact so_so) ?_)
      refine hJ v5 l h4 (by omega) (fun x => ?_) (fun j k a b hj hk ha hb sa sb => ?_) hS4
      · rw [hmem]
        constructor
        · rintro ⟨j, r', hj, hr', hs', hp'⟩
          exact ⟨j, r', by omega, hr', hs', hp'⟩
        · rintro ⟨j, r', hj, hr', hs', hp'⟩
          by_cases hji : j = i
          · subst hji
            obtain rfl : r = r' := Option.some.inj (hgi.symm.trans hr')
            exact (hst hs').elim
          · exact ⟨j, r', by omega, hr', hs', hp'⟩
      · by_cases hji : j = i
        · subst hji
          obtain rfl : r = a := Option.some.inj (hgi.symm.trans ha)
          exact (hst sa).elim
        · exact hno j k a b (by omega) hk ha hb sa sb
  · obtain rfl : i = w.gs.length := by omega
    have hb : ¬ B3 w := fun ⟨i, k, a, b, h1, h2, h3, h4, h5, h6⟩ => hno i k a b (List.getElem?_eq_some_iff.1 h2).1 h1 h2 h3 h4 h5 h6
    rw [cb_f hb] at hK
    repeat (with_reducible first | refine vP_so ?_ | refine vB_t ?_ | refine vB_f ?_ | refine vE_tt ?_ | refine vE_ff ?_ | refine vE_tf ?_ | refine vE_ft ?_ | refine vE_u ?_ | refine vP_to (by simp (disch := omega) only [gdW_true, gdW_false, gB_true, gB_false, gB_undef, pickV_true, pickV_false, Bool.not_true, Bool.not_false, Option.map_some, bin_add, bin_sub, bin_mul, bin_quo, bin_rem, lss_t, lss_f, leq_t, leq_f, gtr_t, gtr_f, geq_t, geq_f, eqi_t, eqi_f, nei_t, nei_f, rem_uw, conv_ui, conv_iu, conv_ii, not_bool, nil_ptr, fa_mk, ptrV, len_mk, cap_mk, eq_ptr_nil, ne_ptr_nil, eq_nil_nil, ne_nil_nil, eq_slice_nil, eq_nil_slice, ia_1]; exact so_so) ?_)
    exact hK h2 (dropL (P := SG iE 3 v5 l) (Q := own g * F) (asr (by ac_rfl) hh2) |> asr (by ac_rfl))

end Go.Proofs
