/-
  Contracts of treadmillref29: Lost, White, Reach.
-/
import Derived.Test.YtdcoflglkfbpcaaA4
set_option linter.unusedVariables false
set_option linter.unusedSimpArgs false
set_option maxRecDepth 100000
namespace Go.Proofs
open Go.Sl

theorem use_rlost {g : Hp} {w : VW} {F : Asrt} {K : Value → Hp → Prop} {h : Hp} (hv : VAt g w) (hs : Small w) (hh : (own g * (F * tt)) h)
    (hK : ∀ v l h', LostL w l → l.length ≤ 1000000 → (SG iE 3 v l * (own g * (F * tt))) h' → K v h') : CallH Try.prog 37 #[w.val] K h := by
  refine C37 ?_
  unfold D37
  refine vA_new (o := .cells w.cells 26 (0, 0)) hh fun r1 h1 hh1 => ?_
  have l9 := (vw_ld (r := r1) (w := w) (E := 26) hh1).2.2.2.2.2.2.2.2.2
  repeat (with_reducible first | refine vP_so ?_ | refine vB_t ?_ | refine vB_f ?_ | refine vE_tt ?_ | refine vE_ff ?_ | refine vE_tf ?_ | refine vE_ft ?_ | refine vE_u ?_ | refine vP_to (by simp (disch := omega) only [gdW_true, gdW_false, gB_true, gB_false, gB_undef, pickV_true, pickV_false, Bool.not_true, Bool.not_false, Option.map_some, bin_add, bin_sub, bin_mul, bin_quo, bin_rem, lss_t, lss_f, leq_t, leq_f, gtr_t, gtr_f, geq_t, geq_f, eqi_t, eqi_f, nei_t, nei_f, rem_uw, conv_ui, conv_iu, conv_ii, not_bool, nil_ptr, fa_mk, ptrV, len_mk, cap_mk, eq_ptr_nil, ne_ptr_nil, eq_nil_nil, ne_nil_nil, eq_slice_nil, eq_nil_slice, ia_1, l9]; exact so_so) ?_)
  refine use_rwalk (F := pt r1 (.cells w.cells 26 (0, 0)) * F) hv hs.all hs.objs (asr (by ac_rfl) hh1) fun v8 v9 l lost h2 a1 a2 a3 a4 a5 hh2 => ?_
  repeat (with_reducible first | refine vP_so ?_ | refine vB_t ?_ | refine vB_f ?_ | refine vE_tt ?_ | refine vE_ff ?_ | refine vE_tf ?_ | refine vE_ft ?_ | refine vE_u ?_ | refine vP_to (by simp (disch := omega) only [gdW_true, gdW_false, gB_true, gB_false, gB_undef, pickV_true, pickV_false, Bool.not_true, Bool.not_false, Option.map_some, bin_add, bin_sub, bin_mul, bin_quo, bin_rem, lss_t, lss_f, leq_t, leq_f, gtr_t, gtr_f, geq_t, geq_f, eqi_t, eqi_f, nei_t, nei_f, rem_uw, conv_ui, conv_iu, conv_ii, not_bool, nil_ptr, fa_mk, ptrV, len_mk, cap_mk, eq_ptr_nil, ne_ptr_nil, eq_nil_nil, ne_nil_nil, eq_slice_nil, eq_nil_slice, ia_1, tx0, tx1]; exact so_so) ?_)
  exact hK v9 lost h2 a3 a5 (dropL (P := SG iE 3 v8 (natL l) * pt r1 (.cells w.cells 26 (0, 0))) (Q := SG iE 3 v9 lost * (own g * F)) (asr (by ac_rfl) hh2) |> asr (by ac_rfl))

theorem use_rwhite {g : Hp} {w : VW} {F : Asrt} {K : Value → Hp → Prop} {h : Hp} (hv : VAt g w) (hs : Small w) (hh : (own g * (F * tt)) h)
    (hK : ∀ v l h', WhiteL w l → l.length ≤ 1000000 → (SG iE 3 v l * (own g * (F * tt))) h' → K v h') : CallH Try.prog 36 #[w.val] K h := by
  refine C36 ?_
  unfold D36
  refine vA_new (o := .cells w.cells 26 (0, 0)) hh fun r1 h1 hh1 => ?_
  have l9 := (vw_ld (r := r1) (w := w) (E := 26) hh1).2.2.2.2.2.2.2.2.2
  repeat (with_reducible first | refine vP_so ?_ | refine vB_t ?_ | refine vB_f ?_ | refine vE_tt ?_ | refine vE_ff ?_ | refine vE_tf ?_ | refine vE_ft ?_ | refine vE_u ?_ | refine vP_to (by simp (disch := omega) only [gdW_true, gdW_false, gB_true, gB_false, gB_undef, pickV_true, pickV_false, Bool.not_true, Bool.not_false, Option.map_some, bin_add, bin_sub, bin_mul, bin_quo, bin_rem, lss_t, lss_f, leq_t, leq_f, gtr_t, gtr_f, geq_t, geq_f, eqi_t, eqi_f, nei_t, nei_f, rem_uw, conv_ui, conv_iu, conv_ii, not_bool, nil_ptr, fa_mk, ptrV, len_mk, cap_mk, eq_ptr_nil, ne_ptr_nil, eq_nil_nil, ne_nil_nil, eq_slice_nil, eq_nil_slice, ia_1, l9]; exact so_so) ?_)
  refine use_rwalk (F := pt r1 (.cells w.cells 26 (0, 0)) * F) hv hs.all hs.objs (asr (by ac_rfl) hh1) fun v10 v11 l lost h2 a1 a2 a3 a4 a5 hh2 => ?_
  have hh2 : (SG iE 3 v10 (natL l) * (pt r1 (.cells w.cells 26 (0, 0)) * (own g * (F * tt)))) h2 := dropL (P := SG iE 3 v11 lost) (Q := SG iE 3 v10 (natL l) * (pt r1 (.cells w.cells 26 (0, 0)) * (own g * F))) (asr (by ac_rfl) hh2) |> asr (by ac_rfl)
  repeat (with_reducible first | refine vP_so ?_ | refine vB_t ?_ | refine vB_f ?_ | refine vE_tt ?_ | refine vE_ff ?_ | refine vE_tf ?_ | refine vE_ft ?_ | refine vE_u ?_ | refine vP_to (by simp (disch := omega) only [gdW_true, gdW_false, gB_true, gB_false, gB_undef, pickV_true, pickV_false, Bool.not_true, Bool.not_false, Option.map_some, bin_add, bin_sub, bin_mul, bin_quo, bin_rem, lss_t, lss_f, leq_t, leq_f, gtr_t, gtr_f, geq_t, geq_f, eqi_t, eqi_f, nei_t, nei_f, rem_uw, conv_ui, conv_iu, conv_ii, not_bool, nil_ptr, fa_mk, ptrV, len_mk, cap_mk, eq_ptr_nil, ne_ptr_nil, eq_nil_nil, ne_nil_nil, eq_slice_nil, eq_nil_slice, ia_1, tx0, tx1]; exact so_so) ?_)
  refine ⟨fun m zs h' => ∃ (i : Nat) (v5 : Value) (out : List Int), zs = [.int .i64 i, v5] ∧ m = l.length - i ∧ i ≤ l.length ∧ Rise out ∧ out.length ≤ i ∧ (∀ x, x ∈ out ↔ ∃ n o, n ∈ l.take i ∧ w.objs[n]? = some o ∧ o.marked = false ∧ o.addr = x) ∧
      (SG iE 3 v5 out * (SG iE 3 v10 (natL l) * (pt r1 (.cells w.cells 26 (0, 0)) * (own g * (F * tt))))) h',
    ⟨_, 0, .slice none 0 0, [], rfl, rfl, by omega, by simp [Rise], by simp, by simp, SG_nil iE hh2⟩, ?_⟩
  clear hh2
  rintro m v6 v5 h3 ⟨i, v5', out, hzs, rfl, hi, hri, hol, hmem, hh3⟩ _
  obtain ⟨rfl, rfl⟩ : v6 = .int .i64 i ∧ v5 = v5' := by simpa using hzs
  have hS : (SG iE 3 v10 (natL l) * (SG iE 3 v5 out * (pt r1 (.cells w.cells 26 (0, 0)) * (own g * (F * tt))))) h3 := asr (by ac_rfl) hh3
  have hlen := SG_len iE hS
  rw [show (natL l).length = l.length by simp [natL]] at hlen
  by_cases hil : i < l.length
  · have hkg : l[i]? = some l[i] := List.getElem?_eq_getElem hil
    obtain ⟨x, hrx, hat⟩ := (a2 l[i]).1 (List.getElem_mem hil)
    have htk := List.take_succ_eq_append_getElem hil
    generalize l[i] = n at *
    obtain ⟨o, ho, hoa⟩ := at_some hat
    obtain ⟨p7, c1, c2, _⟩ := el1 (i := i) (a := (n : Int)) hS (by simp [natL, hkg]) .i64
    have l5 := (vw_ld (r := r1) (w := w) (E := 26) (F := SG iE 3 v5 out * (SG iE 3 v10 (natL l) * (own g * (F * tt)))) (asr (by ac_rfl) hh3)).2.2.2.2.2.1
    have hw := own_vat (F := SG iE 3 v5 out * (SG iE 3 v10 (natL l) * (pt r1 (.cells w.cells 26 (0, 0)) * (F * tt)))) (asr (by ac_rfl) hh3) hv
    obtain ⟨b, q, e1, e2, _, e4, _⟩ := hw.obj ho .i64
    repeat (with_reducible first | refine vP_so ?_ | refine vB_t ?_ | refine vB_f ?_ | refine vE_tt ?_ | refine vE_ff ?_ | refine vE_tf ?_ | refine vE_ft ?_ | refine vE_u ?_ | refine vP_to (by simp (disch := omega) only [gdW_true, gdW_false, gB_true, gB_false, gB_undef, pickV_true, pickV_false, Bool.not_true, Bool.not_false, Option.map_some, bin_add, bin_sub, bin_mul, bin_quo, bin_rem, lss_t, lss_f, leq_t, leq_f, gtr_t, gtr_f, geq_t, geq_f, eqi_t, eqi_f, nei_t, nei_f, rem_uw, conv_ui, conv_iu, conv_ii, not_bool, nil_ptr, fa_mk, ptrV, len_mk, cap_mk, eq_ptr_nil, ne_ptr_nil, eq_nil_nil, ne_nil_nil, eq_slice_nil, eq_nil_slice, ia_1, hlen]; exact so_so) ?_)
    intro J2 hJ2
    have hJ : ∀ v' out' h', Rise out' → out'.length ≤ i + 1 → (∀ x, x ∈ out' ↔ ∃ n o, n ∈ l.take (i + 1) ∧ w.objs[n]? = some o ∧ o.marked = false ∧ o.addr = x) → (SG iE 3 v' out' * (SG iE 3 v10 (natL l) * (pt r1 (.cells w.cells 26 (0, 0)) * (own g * (F * tt))))) h' → J2 [v'] h' := fun v' out' h' b1 b2 b3 b4 => by
      refine hJ2 _ _ fun _ => ?_
      repeat (with_reducible first | refine vP_so ?_ | refine vB_t ?_ | refine vB_f ?_ | refine vE_tt ?_ | refine vE_ff ?_ | refine vE_tf ?_ | refine vE_ft ?_ | refine vE_u ?_ | refine vP_to (by simp (disch := omega) only [gdW_true, gdW_false, gB_true, gB_false, gB_undef, pickV_true, pickV_false, Bool.not_true, Bool.not_false, Option.map_some, bin_add, bin_sub, bin_mul, bin_quo, bin_rem, lss_t, lss_f, leq_t, leq_f, gtr_t, gtr_f, geq_t, geq_f, eqi_t, eqi_f, nei_t, nei_f, rem_uw, conv_ui, conv_iu, conv_ii, not_bool, nil_ptr, fa_mk, ptrV, len_mk, cap_mk, eq_ptr_nil, ne_ptr_nil, eq_nil_nil, ne_nil_nil, eq_slice_nil, eq_nil_slice, ia_1]; exact so_so) ?_)
      exact ⟨l.length - (i + 1), by omega, i + 1, v', out', rfl, rfl, by omega, b1, b2, b3, b4⟩
    have hstep : ∀ y, (∃ n' o, n' ∈ l.take (i + 1) ∧ w.objs[n']? = some o ∧ o.marked = false ∧ o.addr = y) ↔ y ∈ out ∨ (o.marked = false ∧ o.addr = y) := fun y => by
      rw [htk, hmem]
      constructor
      · rintro ⟨n', o', h1, h2, h3, h4⟩
        rw [List.mem_append, List.mem_singleton] at h1
        rcases h1 with h1 | rfl
        · exact .inl ⟨n', o', h1, h2, h3, h4⟩
        · obtain rfl : o = o' := Option.some.inj (ho.symm.trans h2)
          exact .inr ⟨h3, h4⟩
      · rintro (⟨n', o', h1, h2, h3, h4⟩ | ⟨h3, h4⟩)
        · exact ⟨n', o', List.mem_append.2 (.inl h1), h2, h3, h4⟩
        · exact ⟨n, o, by simp, ho, h3, h4⟩
    cases hom : o.marked with
    | true =>
      rw [hom] at e4
      repeat (with_reducible first | refine vP_so ?_ | refine vB_t ?_ | refine vB_f ?_ | refine vE_tt ?_ | refine vE_ff ?_ | refine vE_tf ?_ | refine vE_ft ?_ | refine vE_u ?_ | refine vP_to (by simp (disch := omega) only [gdW_true, gdW_false, gB_true, gB_false, gB_undef, pickV_true, pickV_false, Bool.not_true, Bool.not_false, Option.map_some, bin_add, bin_sub, bin_mul, bin_quo, bin_rem, lss_t, lss_f, leq_t, leq_f, gtr_t, gtr_f, geq_t, geq_f, eqi_t, eqi_f, nei_t, nei_f, rem_uw, conv_ui, conv_iu, conv_ii, not_bool, nil_ptr, fa_mk, ptrV, len_mk, cap_mk, eq_ptr_nil, ne_ptr_nil, eq_nil_nil, ne_nil_nil, eq_slice_nil, eq_nil_slice, ia_1, l5, c1, c2, e1, e4]; exact so_so) ?_)
      refine hJ v5 out h3 hri (by omega) (fun y => ?_) hh3
      rw [hstep, hom]; simp
    | false =>
      rw [hom] at e4
      repeat (with_reducible first | refine vP_so ?_ | refine vB_t ?_ | refine vB_f ?_ | refine vE_tt ?_ | refine vE_ff ?_ | refine vE_tf ?_ | refine vE_ft ?_ | refine vE_u ?_ | refine vP_to (by simp (disch := omega) only [gdW_true, gdW_false, gB_true, gB_false, gB_undef, pickV_true, pickV_false, Bool.not_true, Bool.not_false, Option.map_some, bin_add, bin_sub, bin_mul, bin_quo, bin_rem, lss_t, lss_f, leq_t, leq_f, gtr_t, gtr_f, geq_t, geq_f, eqi_t, eqi_f, nei_t, nei_f, rem_uw, conv_ui, conv_iu, conv_ii, not_bool, nil_ptr, fa_mk, ptrV, len_mk, cap_mk, eq_ptr_nil, ne_ptr_nil, eq_nil_nil, ne_nil_nil, eq_slice_nil, eq_nil_slice, ia_1, l5, c1, c2, e1, e2, e4]; exact so_so) ?_)
      refine use_put (l := out) (F := SG iE 3 v10 (natL l) * (pt r1 (.cells w.cells 26 (0, 0)) * (own g * F))) (by omega) hri (asr (by ac_rfl) hh3) fun v38 out' h5 b1 b2 b3 hh5 => ?_
      refine hJ v38 out' h5 b1 (by omega) (fun y => ?_) (asr (by ac_rfl) hh5)
      rw [hstep, hom, b2]
      simp [eq_comm]
  · obtain rfl : i = l.length := by omega
    rw [List.take_length] at hmem
    repeat (with_reducible first | refine vP_so ?_ | refine vB_t ?_ | refine vB_f ?_ | refine vE_tt ?_ | refine vE_ff ?_ | refine vE_tf ?_ | refine vE_ft ?_ | refine vE_u ?_ | refine vP_to (by simp (disch := omega) only [gdW_true, gdW_false, gB_true, gB_false, gB_undef, pickV_true, pickV_false, Bool.not_true, Bool.not_false, Option.map_some, bin_add, bin_sub, bin_mul, bin_quo, bin_rem, lss_t, lss_f, leq_t, leq_f, gtr_t, gtr_f, geq_t, geq_f, eqi_t, eqi_f, nei_t, nei_f, rem_uw, conv_ui, conv_iu, conv_ii, not_bool, nil_ptr, fa_mk, ptrV, len_mk, cap_mk, eq_ptr_nil, ne_ptr_nil, eq_nil_nil, ne_nil_nil, eq_slice_nil, eq_nil_slice, ia_1, hlen]; exact so_so) ?_)
    refine hK v5 out h3 ⟨hri, fun x => ?_⟩ (by omega) (dropL (P := SG iE 3 v10 (natL l) * pt r1 (.cells w.cells 26 (0, 0))) (Q := SG iE 3 v5 out * (own g * F)) (asr (by ac_rfl) hh3) |> asr (by ac_rfl))
    rw [hmem]
    constructor
    · rintro ⟨n, o, h1, h2, h3, rfl⟩
      obtain ⟨x, hx, hat⟩ := (a2 n).1 h1
      obtain ⟨o', ho', hoa⟩ := at_some hat
      obtain rfl : o = o' := Option.some.inj (h2.symm.trans ho')
      rw [hoa]
      exact ⟨hx, n, o, hat, h2, h3⟩
    · rintro ⟨hx, n, o, hat, h2, h3⟩
      obtain ⟨o', ho', hoa⟩ := at_some hat
      obtain rfl : o = o' := Option.some.inj (h2.symm.trans ho')
      exact ⟨n, o, (a2 n).2 ⟨x, hx, hat⟩, h2, h3, hoa⟩

end Go.Proofs
