/-
  Contracts of treadmillref29: Reach.
-/
import Derived.Test.YtdcoflglkfbpcaaVq2
import Derived.Test.YtdcoflglkfbpcaaVb1
set_option linter.unusedVariables false
set_option linter.unusedSimpArgs false
set_option maxRecDepth 100000
set_option maxHeartbeats 1000000
namespace Go.Proofs
open Go.Sl

theorem use_rreach {g : Hp} {w : VW} {F : Asrt} {K : Value → Hp → Prop} {h : Hp} (hv : VAt g w) (hs : Small w) (hh : (own g * (F * tt)) h)
    (hK : ∀ v l h', ReachL w l → l.length ≤ 1000000 → (SG iE 3 v l * (own g * (F * tt))) h' → K v h') : CallH Try.prog 35 #[w.val] K h := by
  refine C35 ?_
  unfold D35
  have hol := hv.objs_len
  have hsO := hs.objs
  refine vA_new (o := .cells w.cells 26 (0, 0)) hh fun r1 h1 hh1 => ?_
  have l9 := (vw_ld (r := r1) (w := w) (E := 26) hh1).2.2.2.2.2.2.2.2.2
  repeat (with_reducible first | refine vP_so ?_ | refine vB_t ?_ | refine vB_f ?_ | refine vE_tt ?_ | refine vE_ff ?_ | refine vE_tf ?_ | refine vE_ft ?_ | refine vE_u ?_ | refine vP_to (by simp (disch := omega) only [gdW_true, gdW_false, gB_true, gB_false, gB_undef, pickV_true, pickV_false, Bool.not_true, Bool.not_false, Option.map_some, bin_add, bin_sub, bin_mul, bin_quo, bin_rem, lss_t, lss_f, leq_t, leq_f, gtr_t, gtr_f, geq_t, geq_f, eqi_t, eqi_f, nei_t, nei_f, rem_uw, conv_ui, conv_iu, conv_ii, not_bool, nil_ptr, fa_mk, ptrV, len_mk, cap_mk, eq_ptr_nil, ne_ptr_nil, eq_nil_nil, ne_nil_nil, eq_slice_nil, eq_nil_slice, ia_1, l9]; exact so_so) ?_)
  refine use_rwalk (F := pt r1 (.cells w.cells 26 (0, 0)) * F) hv hs.all hs.objs (asr (by ac_rfl) hh1) fun v10 v11 l lost h2 a1 a2 a3 a4 a5 hh2 => ?_
  have hh2 : (SG iE 3 v10 (natL l) * (pt r1 (.cells w.cells 26 (0, 0)) * (own g * (F * tt)))) h2 := dropL (P := SG iE 3 v11 lost) (Q := SG iE 3 v10 (natL l) * (pt r1 (.cells w.cells 26 (0, 0)) * (own g * F))) (asr (by ac_rfl) hh2) |> asr (by ac_rfl)
  have lo : ∀ {h} {G : Asrt}, (G * (pt r1 (.cells w.cells 26 (0, 0)) * (own g * (F * tt)))) h → ld1 (.pointer (some ⟨r1, 0 + 5, none⟩)) h = some w.ov := fun {h G} q =>
    (vw_ld (r := r1) (w := w) (E := 26) (F := G * (own g * (F * tt))) (asr (by ac_rfl) q)).2.2.2.2.2.1
  have lo2 := lo hh2
  have hin : ∀ n, n ∈ l → n < w.objs.length := fun n hn => by
    obtain ⟨x, _, hat⟩ := (a2 n).1 hn
    obtain ⟨o, ho, _⟩ := at_some hat
    exact (List.getElem?_eq_some_iff.1 ho).1
  repeat (with_reducible first | refine vP_so ?_ | refine vB_t ?_ | refine vB_f ?_ | refine vE_tt ?_ | refine vE_ff ?_ | refine vE_tf ?_ | refine vE_ft ?_ | refine vE_u ?_ | refine vP_to (by simp (disch := omega) only [gdW_true, gdW_false, gB_true, gB_false, gB_undef, pickV_true, pickV_false, Bool.not_true, Bool.not_false, Option.map_some, bin_add, bin_sub, bin_mul, bin_quo, bin_rem, lss_t, lss_f, leq_t, leq_f, gtr_t, gtr_f, geq_t, geq_f, eqi_t, eqi_f, nei_t, nei_f, rem_uw, conv_ui, conv_iu, conv_ii, not_bool, nil_ptr, fa_mk, ptrV, len_mk, cap_mk, eq_ptr_nil, ne_ptr_nil, eq_nil_nil, ne_nil_nil, eq_slice_nil, eq_nil_slice, ia_1, tx0, tx1, lo2, hol.1]; exact so_so) ?_)
  refine ms_SG bE (E := 4) (z := false) (n := w.objs.length) hh2 rfl rfl (by omega) (by omega) fun v17 h3 hh3 => ?_
  refine ⟨fun m zs h' => ∃ (i : Nat) (hb : List Bool), zs = [.int .i64 i] ∧ m = l.length - i ∧ i ≤ l.length ∧ hb.length = w.objs.length ∧ (∀ n, hb[n]? = some true ↔ n ∈ l.take i) ∧
      (SG bE 4 v17 hb * (SG iE 3 v10 (natL l) * (pt r1 (.cells w.cells 26 (0, 0)) * (own g * (F * tt))))) h',
    ⟨_, 0, _, rfl, rfl, by omega, by simp, fun n => by simp [List.getElem?_replicate], hh3⟩, ?_⟩
  clear hh3 hh2 lo2 hh1 l9 hh
  rintro m v6 h4 ⟨i, hb, hzs, rfl, hi, hbl, hbm, hh4⟩ _
  obtain rfl : v6 = .int .i64 i := by simpa using hzs
  have hS : (SG iE 3 v10 (natL l) * (SG bE 4 v17 hb * (pt r1 (.cells w.cells 26 (0, 0)) * (own g * (F * tt))))) h4 := asr (by ac_rfl) hh4
  have hlen := SG_len iE hS
  rw [show (natL l).length = l.length by simp [natL]] at hlen
  by_cases hil : i < l.length
  · have hkg : l[i]? = some l[i] := List.getElem?_eq_getElem hil
    have hnl := hin l[i] (List.getElem_mem hil)
    have htk := List.take_succ_eq_append_getElem hil
    generalize l[i] = n at *
    obtain ⟨p7, c1, c2, _⟩ := el1 (i := i) (a := (n : Int)) hS (by simp [natL, hkg]) .i64
    obtain ⟨p8, d1, _, d3⟩ := el1 (i := n) hh4 (List.getElem?_eq_getElem (show n < hb.length by omega)) .i64
    repeat (with_reducible first | refine vP_so ?_ | refine vB_t ?_ | refine vB_f ?_ | refine vE_tt ?_ | refine vE_ff ?_ | refine vE_tf ?_ | refine vE_ft ?_ | refine vE_u ?_ | refine vP_to (by simp (disch := omega) only [gdW_true, gdW_false, gB_true, gB_false, gB_undef, pickV_true, pickV_false, Bool.not_true, Bool.not_false, Option.map_some, bin_add, bin_sub, bin_mul, bin_quo, bin_rem, lss_t, lss_f, leq_t, leq_f, gtr_t, gtr_f, geq_t, geq_f, eqi_t, eqi_f, nei_t, nei_f, rem_uw, conv_ui, conv_iu, conv_ii, not_bool, nil_ptr, fa_mk, ptrV, len_mk, cap_mk, eq_ptr_nil, ne_ptr_nil, eq_nil_nil, ne_nil_nil, eq_slice_nil, eq_nil_slice, ia_1, hlen, c1, c2, d1]; exact so_so) ?_)
    refine d3 true _ fun h5 hh5 => ?_
    repeat (with_reducible first | refine vP_so ?_ | refine vB_t ?_ | refine vB_f ?_ | refine vE_tt ?_ | refine vE_ff ?_ | refine vE_tf ?_ | refine vE_ft ?_ | refine vE_u ?_ | refine vP_to (by simp (disch := omega) only [gdW_true, gdW_false, gB_true, gB_false, gB_undef, pickV_true, pickV_false, Bool.not_true, Bool.not_false, Option.map_some, bin_add, bin_sub, bin_mul, bin_quo, bin_rem, lss_t, lss_f, leq_t, leq_f, gtr_t, gtr_f, geq_t, geq_f, eqi_t, eqi_f, nei_t, nei_f, rem_uw, conv_ui, conv_iu, conv_ii, not_bool, nil_ptr, fa_mk, ptrV, len_mk, cap_mk, eq_ptr_nil, ne_ptr_nil, eq_nil_nil, ne_nil_nil, eq_slice_nil, eq_nil_slice, ia_1]; exact so_so) ?_)
    refine ⟨l.length - (i + 1), by omega, i + 1, hb.set n true, by simp, rfl, by omega, by rw [List.length_set]; exact hbl, fun q => ?_, hh5⟩
    rw [htk, List.mem_append, List.mem_singleton]
    by_cases hq : n = q
    · subst hq
      rw [List.getElem?_set_self (by omega)]
      simp
    · rw [List.getElem?_set_ne hq, hbm]
      exact ⟨.inl, fun h => h.resolve_right fun e => hq e.symm⟩
  obtain rfl : i = l.length := by omega
  rw [List.take_length] at hbm
  repeat (with_reducible first | refine vP_so ?_ | refine vB_t ?_ | refine vB_f ?_ | refine vE_tt ?_ | refine vE_ff ?_ | refine vE_tf ?_ | refine vE_ft ?_ | refine vE_u ?_ | refine vP_to (by simp (disch := omega) only [gdW_true, gdW_false, gB_true, gB_false, gB_undef, pickV_true, pickV_false, Bool.not_true, Bool.not_false, Option.map_some, bin_add, bin_sub, bin_mul, bin_quo, bin_rem, lss_t, lss_f, leq_t, leq_f, gtr_t, gtr_f, geq_t, geq_f, eqi_t, eqi_f, nei_t, nei_f, rem_uw, conv_ui, conv_iu, conv_ii, not_bool, nil_ptr, fa_mk, ptrV, len_mk, cap_mk, eq_ptr_nil, ne_ptr_nil, eq_nil_nil, ne_nil_nil, eq_slice_nil, eq_nil_slice, ia_1, hlen]; exact so_so) ?_)
  refine ⟨fun m zs h' => ∃ (i : Nat) (v5 : Value) (out : List Int), zs = [.int .i64 i, v5] ∧ m = w.objs.length - i ∧ i ≤ w.objs.length ∧ Rise out ∧ out.length ≤ i ∧ (∀ x, x ∈ out ↔ ∃ n o, n < i ∧ n ∈ l ∧ w.objs[n]? = some o ∧ o.addr = x) ∧
      (SG iE 3 v5 out * (SG bE 4 v17 hb * (SG iE 3 v10 (natL l) * (pt r1 (.cells w.cells 26 (0, 0)) * (own g * (F * tt)))))) h',
    ⟨_, 0, .slice none 0 0, [], rfl, rfl, by omega, by simp [Rise], by simp, by simp, SG_nil iE hh4⟩, ?_⟩
  clear hh4 hS hi hzs hlen
  rintro m v8 v7 h6 ⟨i, v7', out, hzs, rfl, hi, hri, hol2, hmem, hh6⟩ _
  obtain ⟨rfl, rfl⟩ : v8 = .int .i64 i ∧ v7 = v7' := by simpa using hzs
  have hB : (SG bE 4 v17 hb * (SG iE 3 v7 out * (SG iE 3 v10 (natL l) * (pt r1 (.cells w.cells 26 (0, 0)) * (own g * (F * tt)))))) h6 := asr (by ac_rfl) hh6
  have hlenB := SG_len bE hB
  rw [hbl] at hlenB
  by_cases hil : i < w.objs.length
  · have hoi : w.objs[i]? = some w.objs[i] := List.getElem?_eq_getElem hil
    have hbi := hbm i
    obtain ⟨p8, d1, d2, _⟩ := el1 (i := i) hB (List.getElem?_eq_getElem (show i < hb.length by omega)) .i64
    rw [List.getElem?_eq_getElem (show i < hb.length by omega)] at hbi
    generalize hb[i]'(by omega) = b at *
    generalize w.objs[i] = o at *
    have l5 := lo (G := SG iE 3 v7 out * (SG bE 4 v17 hb * SG iE 3 v10 (natL l))) (asr (by ac_rfl) hh6)
    have hw := own_vat (F := SG iE 3 v7 out * (SG bE 4 v17 hb * (SG iE 3 v10 (natL l) * (pt r1 (.cells w.cells 26 (0, 0)) * (F * tt))))) (asr (by ac_rfl) hh6) hv
    obtain ⟨bb, q, e1, e2, _, _, _⟩ := hw.obj hoi .i64
    repeat (with_reducible first | refine vP_so ?_ | refine vB_t ?_ | refine vB_f ?_ | refine vE_tt ?_ | refine vE_ff ?_ | refine vE_tf ?_ | refine vE_ft ?_ | refine vE_u ?_ | refine vP_to (by simp (disch := omega) only [gdW_true, gdW_false, gB_true, gB_false, gB_undef, pickV_true, pickV_false, Bool.not_true, Bool.not_false, Option.map_some, bin_add, bin_sub, bin_mul, bin_quo, bin_rem, lss_t, lss_f, leq_t, leq_f, gtr_t, gtr_f, geq_t, geq_f, eqi_t, eqi_f, nei_t, nei_f, rem_uw, conv_ui, conv_iu, conv_ii, not_bool, nil_ptr, fa_mk, ptrV, len_mk, cap_mk, eq_ptr_nil, ne_ptr_nil, eq_nil_nil, ne_nil_nil, eq_slice_nil, eq_nil_slice, ia_1, hlenB]; exact so_so) ?_)
    intro J3 hJ3
    have hJ : ∀ v' out' h', Rise out' → out'.length ≤ i + 1 → (∀ x, x ∈ out' ↔ x ∈ out ∨ (i ∈ l ∧ o.addr = x)) → (SG iE 3 v' out' * (SG bE 4 v17 hb * (SG iE 3 v10 (natL l) * (pt r1 (.cells w.cells 26 (0, 0)) * (own g * (F * tt)))))) h' → J3 [v'] h' := fun v' out' h' b1 b2 b3 b4 => by
      refine hJ3 _ _ fun _ => ?_
      repeat (with_reducible first | refine vP_so ?_ | refine vB_t ?_ | refine vB_f ?_ | refine vE_tt ?_ | refine vE_ff ?_ | refine vE_tf ?_ | refine vE_ft ?_ | refine vE_u ?_ | refine vP_to (by simp (disch := omega) only [gdW_true, gdW_false, gB_true, gB_false, gB_undef, pickV_true, pickV_false, Bool.not_true, Bool.not_false, Option.map_some, bin_add, bin_sub, bin_mul, bin_quo, bin_rem, lss_t, lss_f, leq_t, leq_f, gtr_t, gtr_f, geq_t, geq_f, eqi_t, eqi_f, nei_t, nei_f, rem_uw, conv_ui, conv_iu, conv_ii, not_bool, nil_ptr, fa_mk, ptrV, len_mk, cap_mk, eq_ptr_nil, ne_ptr_nil, eq_nil_nil, ne_nil_nil, eq_slice_nil, eq_nil_slice, ia_1]; exact so_so) ?_)
      refine ⟨w.objs.length - (i + 1), by omega, i + 1, v', out', rfl, rfl, by omega, b1, b2, fun x => ?_, b4⟩
      rw [b3, hmem]
      constructor
      · rintro (⟨n, o', c1, c2, c3, c4⟩ | ⟨c2, c4⟩)
        · exact ⟨n, o', by omega, c2, c3, c4⟩
        · exact ⟨i, o, by omega, c2, hoi, c4⟩
      · rintro ⟨n, o', c1, c2, c3, c4⟩
        by_cases hn : n = i
        · subst hn
          obtain rfl : o = o' := Option.some.inj (hoi.symm.trans c3)
          exact .inr ⟨c2, c4⟩
        · exact .inl ⟨n, o', by omega, c2, c3, c4⟩
    cases b with
    | true =>
      have hil2 := hbi.1 rfl
      repeat (with_reducible first | refine vP_so ?_ | refine vB_t ?_ | refine vB_f ?_ | refine vE_tt ?_ | refine vE_ff ?_ | refine vE_tf ?_ | refine vE_ft ?_ | refine vE_u ?_ | refine vP_to (by simp (disch := omega) only [gdW_true, gdW_false, gB_true, gB_false, gB_undef, pickV_true, pickV_false, Bool.not_true, Bool.not_false, Option.map_some, bin_add, bin_sub, bin_mul, bin_quo, bin_rem, lss_t, lss_f, leq_t, leq_f, gtr_t, gtr_f, geq_t, geq_f, eqi_t, eqi_f, nei_t, nei_f, rem_uw, conv_ui, conv_iu, conv_ii, not_bool, nil_ptr, fa_mk, ptrV, len_mk, cap_mk, eq_ptr_nil, ne_ptr_nil, eq_nil_nil, ne_nil_nil, eq_slice_nil, eq_nil_slice, ia_1, d1, d2, l5, e1, e2]; exact so_so) ?_)
      refine use_put (l := out) (F := SG bE 4 v17 hb * (SG iE 3 v10 (natL l) * (pt r1 (.cells w.cells 26 (0, 0)) * (own g * F)))) (by omega) hri (asr (by ac_rfl) hh6) fun v47 out' h8 b1 b2 b3 hh8 => ?_
      refine hJ v47 out' h8 b1 (by omega) (fun x => ?_) (asr (by ac_rfl) hh8)
      rw [b2]
      simp [hil2, eq_comm]
    | false =>
      have hil2 : ¬ i ∈ l := fun q => by have := hbi.2 q; cases this
      repeat (with_reducible first | refine vP_so ?_ | refine vB_t ?_ | refine vB_f ?_ | refine vE_tt ?_ | refine vE_ff ?_ | refine vE_tf ?_ | refine vE_ft ?_ | refine vE_u ?_ | refine vP_to (by simp (disch := omega) only [gdW_true, gdW_false, gB_true, gB_false, gB_undef, pickV_true, pickV_false, Bool.not_true, Bool.not_false, Option.map_some, bin_add, bin_sub, bin_mul, bin_quo, bin_rem, lss_t, lss_f, leq_t, leq_f, gtr_t, gtr_f, geq_t, geq_f, eqi_t, eqi_f, nei_t, nei_f, rem_uw, conv_ui, conv_iu, conv_ii, not_bool, nil_ptr, fa_mk, ptrV, len_mk, cap_mk, eq_ptr_nil, ne_ptr_nil, eq_nil_nil, ne_nil_nil, eq_slice_nil, eq_nil_slice, ia_1, d1, d2]; exact so_so) ?_)
      refine hJ v7 out h6 hri (by omega) (fun x => ?_) hh6
      simp [hil2]
  · obtain rfl : i = w.objs.length := by omega
    repeat (with_reducible first | refine vP_so ?_ | refine vB_t ?_ | refine vB_f ?_ | refine vE_tt ?_ | refine vE_ff ?_ | refine vE_tf ?_ | refine vE_ft ?_ | refine vE_u ?_ | refine vP_to (by simp (disch := omega) only [gdW_true, gdW_false, gB_true, gB_false, gB_undef, pickV_true, pickV_false, Bool.not_true, Bool.not_false, Option.map_some, bin_add, bin_sub, bin_mul, bin_quo, bin_rem, lss_t, lss_f, leq_t, leq_f, gtr_t, gtr_f, geq_t, geq_f, eqi_t, eqi_f, nei_t, nei_f, rem_uw, conv_ui, conv_iu, conv_ii, not_bool, nil_ptr, fa_mk, ptrV, len_mk, cap_mk, eq_ptr_nil, ne_ptr_nil, eq_nil_nil, ne_nil_nil, eq_slice_nil, eq_nil_slice, ia_1, hlenB]; exact so_so) ?_)
    refine hK v7 out h6 ⟨hri, fun x => ?_⟩ (by omega) (dropL (P := SG bE 4 v17 hb * (SG iE 3 v10 (natL l) * pt r1 (.cells w.cells 26 (0, 0)))) (Q := SG iE 3 v7 out * (own g * F)) (asr (by ac_rfl) hh6) |> asr (by ac_rfl))
    rw [hmem]
    constructor
    · rintro ⟨n, o, _, c2, c3, rfl⟩
      obtain ⟨x, hx, hat⟩ := (a2 n).1 c2
      obtain ⟨o', ho', hoa⟩ := at_some hat
      obtain rfl : o = o' := Option.some.inj (c3.symm.trans ho')
      rw [hoa]
      exact ⟨hx, by rw [hat]; rfl⟩
    · rintro ⟨hx, hat⟩
      cases hq : w.at x with
      | none => rw [hq] at hat; cases hat
      | some n =>
        obtain ⟨o, ho, hoa⟩ := at_some hq
        exact ⟨n, o, (List.getElem?_eq_some_iff.1 ho).1, (a2 n).2 ⟨x, hx, hq⟩, ho, hoa⟩

end Go.Proofs
