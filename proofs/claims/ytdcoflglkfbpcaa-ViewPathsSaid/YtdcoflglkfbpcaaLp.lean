/-
  ViewPaths: the walk.
-/
import Derived.Test.YtdcoflglkfbpcaaVt2
set_option linter.unusedVariables false
set_option linter.unusedSimpArgs false
set_option maxRecDepth 100000
set_option maxHeartbeats 1000000
namespace Go.Proofs
open Go.Sl

theorem paths_tr (g : Hp) (w : VW) (addr which : Int) (hv : VAt g w) (ha : ∀ o ∈ w.objs, o.addr ≤ 9223372036854775807) : Tr Try.prog 3 #[w.val, .int .i64 addr, .int .i64 which] (own g) (fun v => pr (v = .bool true) * own g) := by
  refine Tr.of fun h hh => C3 ?_
  unfold D3
  refine vA_new (o := .cells w.cells 26 (0, 0)) hh fun r1 h1 hh1 => ?_
  have lv : ∀ {h} {G : Asrt}, (pt r1 (.cells w.cells 26 (0, 0)) * G) h → ldN 9 (.pointer (some ⟨r1, 0, none⟩)) h = some w.val := fun q => (vw_ld (r := r1) (w := w) (E := 26) q).2.2.2.2.2.2.2.2.2
  have hh1 : (own g * (pt r1 (.cells w.cells 26 (0, 0)) * tt)) h1 := asr (by ac_rfl) hh1
  have lx : ∀ {h}, (own g * (pt r1 (.cells w.cells 26 (0, 0)) * tt)) h → ldN 9 (.pointer (some ⟨r1, 0, none⟩)) h = some w.val := fun q => lv (G := own g * tt) (asr (by ac_rfl) q)
  have fin : ∀ h', (own g * (pt r1 (.cells w.cells 26 (0, 0)) * tt)) h' → ((pr (Value.bool true = Value.bool true) * own g) * tt) h' := fun h' q => ret rfl (dropL (P := pt r1 (.cells w.cells 26 (0, 0))) (Q := own g) (asr (by ac_rfl) q))
  have told : ∀ h', (own g * (pt r1 (.cells w.cells 26 (0, 0)) * tt)) h' → CallH Try.prog 13 #[] (fun v h => ((pr (v = Value.bool true) * own g) * tt) h) h' := fun h' q =>
    use_told29 (F := own g * pt r1 (.cells w.cells 26 (0, 0))) (asr (by ac_rfl) q) fun h3 hh3 => fin h3 (asr (by ac_rfl) hh3)
  repeat (with_reducible first | refine vP_so ?_ | refine vB_t ?_ | refine vB_f ?_ | refine vE_tt ?_ | refine vE_ff ?_ | refine vE_tf ?_ | refine vE_ft ?_ | refine vE_u ?_ | refine vP_to (by simp (disch := omega) only [gdW_true, gdW_false, gB_true, gB_false, gB_undef, pickV_true, pickV_false, Bool.not_true, Bool.not_false, Option.map_some, bin_add, bin_sub, bin_mul, bin_quo, bin_rem, lss_t, lss_f, leq_t, leq_f, gtr_t, gtr_f, geq_t, geq_f, eqi_t, eqi_f, nei_t, nei_f, rem_uw, conv_ui, conv_iu, conv_ii, not_bool, nil_ptr, fa_mk, ptrV, len_mk, cap_mk, eq_ptr_nil, ne_ptr_nil, eq_nil_nil, ne_nil_nil, eq_slice_nil, eq_nil_slice, ia_1, lx hh1]; exact so_so) ?_)
  refine use_few (F := pt r1 (.cells w.cells 26 (0, 0))) hv hh1 fun b h2 hb hh2 => ?_
  cases b with
  | false =>
    repeat (with_reducible first | refine vP_so ?_ | refine vB_t ?_ | refine vB_f ?_ | refine vE_tt ?_ | refine vE_ff ?_ | refine vE_tf ?_ | refine vE_ft ?_ | refine vE_u ?_ | refine vP_to (by simp (disch := omega) only [gdW_true, gdW_false, gB_true, gB_false, gB_undef, pickV_true, pickV_false, Bool.not_true, Bool.not_false, Option.map_some, bin_add, bin_sub, bin_mul, bin_quo, bin_rem, lss_t, lss_f, leq_t, leq_f, gtr_t, gtr_f, geq_t, geq_f, eqi_t, eqi_f, nei_t, nei_f, rem_uw, conv_ui, conv_iu, conv_ii, not_bool, nil_ptr, fa_mk, ptrV, len_mk, cap_mk, eq_ptr_nil, ne_ptr_nil, eq_nil_nil, ne_nil_nil, eq_slice_nil, eq_nil_slice, ia_1]; exact so_so) ?_)
    exact told h2 hh2
  | true =>
  have hs := (hb rfl).small ha
  have hN := hs.all
  repeat (with_reducible first | refine vP_so ?_ | refine vB_t ?_ | refine vB_f ?_ | refine vE_tt ?_ | refine vE_ff ?_ | refine vE_tf ?_ | refine vE_ft ?_ | refine vE_u ?_ | refine vP_to (by simp (disch := omega) only [gdW_true, gdW_false, gB_true, gB_false, gB_undef, pickV_true, pickV_false, Bool.not_true, Bool.not_false, Option.map_some, bin_add, bin_sub, bin_mul, bin_quo, bin_rem, lss_t, lss_f, leq_t, leq_f, gtr_t, gtr_f, geq_t, geq_f, eqi_t, eqi_f, nei_t, nei_f, rem_uw, conv_ui, conv_iu, conv_ii, not_bool, nil_ptr, fa_mk, ptrV, len_mk, cap_mk, eq_ptr_nil, ne_ptr_nil, eq_nil_nil, ne_nil_nil, eq_slice_nil, eq_nil_slice, ia_1, lx hh2]; exact so_so) ?_)
  refine use_own (F := pt r1 (.cells w.cells 26 (0, 0))) hv hh2 fun b h3 hO hh3 => ?_
  cases b with
  | false =>
    repeat (with_reducible first | refine vP_so ?_ | refine vB_t ?_ | refine vB_f ?_ | refine vE_tt ?_ | refine vE_ff ?_ | refine vE_tf ?_ | refine vE_ft ?_ | refine vE_u ?_ | refine vP_to (by simp (disch := omega) only [gdW_true, gdW_false, gB_true, gB_false, gB_undef, pickV_true, pickV_false, Bool.not_true, Bool.not_false, Option.map_some, bin_add, bin_sub, bin_mul, bin_quo, bin_rem, lss_t, lss_f, leq_t, leq_f, gtr_t, gtr_f, geq_t, geq_f, eqi_t, eqi_f, nei_t, nei_f, rem_uw, conv_ui, conv_iu, conv_ii, not_bool, nil_ptr, fa_mk, ptrV, len_mk, cap_mk, eq_ptr_nil, ne_ptr_nil, eq_nil_nil, ne_nil_nil, eq_slice_nil, eq_nil_slice, ia_1]; exact so_so) ?_)
    exact told h3 hh3
  | true =>
  repeat (with_reducible first | refine vP_so ?_ | refine vB_t ?_ | refine vB_f ?_ | refine vE_tt ?_ | refine vE_ff ?_ | refine vE_tf ?_ | refine vE_ft ?_ | refine vE_u ?_ | refine vP_to (by simp (disch := omega) only [gdW_true, gdW_false, gB_true, gB_false, gB_undef, pickV_true, pickV_false, Bool.not_true, Bool.not_false, Option.map_some, bin_add, bin_sub, bin_mul, bin_quo, bin_rem, lss_t, lss_f, leq_t, leq_f, gtr_t, gtr_f, geq_t, geq_f, eqi_t, eqi_f, nei_t, nei_f, rem_uw, conv_ui, conv_iu, conv_ii, not_bool, nil_ptr, fa_mk, ptrV, len_mk, cap_mk, eq_ptr_nil, ne_ptr_nil, eq_nil_nil, ne_nil_nil, eq_slice_nil, eq_nil_slice, ia_1]; exact so_so) ?_)
  intro J1 hJ1
  have hJ : ∀ a : Int, J1 [.int .i64 a] h3 := fun a => by
    refine hJ1 _ _ fun _ => ?_
    refine use_told29 (F := own g * pt r1 (.cells w.cells 26 (0, 0))) (asr (by ac_rfl) hh3) fun h6 hh6 => ?_
    have hh6 : (own g * (pt r1 (.cells w.cells 26 (0, 0)) * tt)) h6 := asr (by ac_rfl) hh6
    repeat (with_reducible first | refine vP_so ?_ | refine vB_t ?_ | refine vB_f ?_ | refine vE_tt ?_ | refine vE_ff ?_ | refine vE_tf ?_ | refine vE_ft ?_ | refine vE_u ?_ | refine vP_to (by simp (disch := omega) only [gdW_true, gdW_false, gB_true, gB_false, gB_undef, pickV_true, pickV_false, Bool.not_true, Bool.not_false, Option.map_some, bin_add, bin_sub, bin_mul, bin_quo, bin_rem, lss_t, lss_f, leq_t, leq_f, gtr_t, gtr_f, geq_t, geq_f, eqi_t, eqi_f, nei_t, nei_f, rem_uw, conv_ui, conv_iu, conv_ii, not_bool, nil_ptr, fa_mk, ptrV, len_mk, cap_mk, eq_ptr_nil, ne_ptr_nil, eq_nil_nil, ne_nil_nil, eq_slice_nil, eq_nil_slice, ia_1, lx hh6]; exact so_so) ?_)
    refine use_path (F := pt r1 (.cells w.cells 26 (0, 0))) hv hN hh6 fun v42 l h7 hP _ hh7 => ?_
    have hh7 : (own g * (pt r1 (.cells w.cells 26 (0, 0)) * SG iE 3 v42 l * tt)) h7 := asr (by ac_rfl) hh7
    have l7 : ldN 9 (.pointer (some ⟨r1, 0, none⟩)) h7 = some w.val := lv (G := SG iE 3 v42 l * (own g * tt)) (asr (by ac_rfl) hh7)
    refine ⟨l7, ?_⟩
    repeat (with_reducible first | refine vP_so ?_ | refine vB_t ?_ | refine vB_f ?_ | refine vE_tt ?_ | refine vE_ff ?_ | refine vE_tf ?_ | refine vE_ft ?_ | refine vE_u ?_ | refine vP_to (by simp (disch := omega) only [gdW_true, gdW_false, gB_true, gB_false, gB_undef, pickV_true, pickV_false, Bool.not_true, Bool.not_false, Option.map_some, bin_add, bin_sub, bin_mul, bin_quo, bin_rem, lss_t, lss_f, leq_t, leq_f, gtr_t, gtr_f, geq_t, geq_f, eqi_t, eqi_f, nei_t, nei_f, rem_uw, conv_ui, conv_iu, conv_ii, not_bool, nil_ptr, fa_mk, ptrV, len_mk, cap_mk, eq_ptr_nil, ne_ptr_nil, eq_nil_nil, ne_nil_nil, eq_slice_nil, eq_nil_slice, ia_1]; exact so_so) ?_)
    refine use_rpath (F := pt r1 (.cells w.cells 26 (0, 0)) * SG iE 3 v42 l) hv hs hP hh7 fun v45 h8 hh8 => ?_
    have i1 : IntsAt h8 v45 l := SG_ints hh8
    have i2 : IntsAt h8 v42 l := SG_ints (asr (by ac_rfl) hh8 : (SG iE 3 v42 l * (SG iE 3 v45 l * (own g * (pt r1 (.cells w.cells 26 (0, 0)) * tt)))) h8)
    repeat (with_reducible first | refine vP_so ?_ | refine vB_t ?_ | refine vB_f ?_ | refine vE_tt ?_ | refine vE_ff ?_ | refine vE_tf ?_ | refine vE_ft ?_ | refine vE_u ?_ | refine vP_to (by simp (disch := omega) only [gdW_true, gdW_false, gB_true, gB_false, gB_undef, pickV_true, pickV_false, Bool.not_true, Bool.not_false, Option.map_some, bin_add, bin_sub, bin_mul, bin_quo, bin_rem, lss_t, lss_f, leq_t, leq_f, gtr_t, gtr_f, geq_t, geq_f, eqi_t, eqi_f, nei_t, nei_f, rem_uw, conv_ui, conv_iu, conv_ii, not_bool, nil_ptr, fa_mk, ptrV, len_mk, cap_mk, eq_ptr_nil, ne_ptr_nil, eq_nil_nil, ne_nil_nil, eq_slice_nil, eq_nil_slice, ia_1]; exact so_so) ?_)
    refine use_ints i2 i1 ?_
    rw [decide_eq_true rfl]
    repeat (with_reducible first | refine vP_so ?_ | refine vB_t ?_ | refine vB_f ?_ | refine vE_tt ?_ | refine vE_ff ?_ | refine vE_tf ?_ | refine vE_ft ?_ | refine vE_u ?_ | refine vP_to (by simp (disch := omega) only [gdW_true, gdW_false, gB_true, gB_false, gB_undef, pickV_true, pickV_false, Bool.not_true, Bool.not_false, Option.map_some, bin_add, bin_sub, bin_mul, bin_quo, bin_rem, lss_t, lss_f, leq_t, leq_f, gtr_t, gtr_f, geq_t, geq_f, eqi_t, eqi_f, nei_t, nei_f, rem_uw, conv_ui, conv_iu, conv_ii, not_bool, nil_ptr, fa_mk, ptrV, len_mk, cap_mk, eq_ptr_nil, ne_ptr_nil, eq_nil_nil, ne_nil_nil, eq_slice_nil, eq_nil_slice, ia_1]; exact so_so) ?_)
    exact fin h8 (dropL (P := SG iE 3 v45 l * SG iE 3 v42 l) (Q := own g * pt r1 (.cells w.cells 26 (0, 0))) (asr (by ac_rfl) hh8) |> asr (by ac_rfl))
  have lo := (vw_ld (r := r1) (w := w) (E := 26) (F := own g * tt) (asr (by ac_rfl) hh3)).2.2.2.2.2.1
  have hol := hv.objs_len
  obtain ⟨c, hc⟩ : ∃ c, binV .and (.int .i64 which) (.int .i64 1) = some (.int .i64 c) := ⟨_, rfl⟩
  by_cases h0 : w.objs.length = 0
  · repeat (with_reducible first | refine vP_so ?_ | refine vB_t ?_ | refine vB_f ?_ | refine vE_tt ?_ | refine vE_ff ?_ | refine vE_tf ?_ | refine vE_ft ?_ | refine vE_u ?_ | refine vP_to (by simp (disch := omega) only [gdW_true, gdW_false, gB_true, gB_false, gB_undef, pickV_true, pickV_false, Bool.not_true, Bool.not_false, Option.map_some, bin_add, bin_sub, bin_mul, bin_quo, bin_rem, lss_t, lss_f, leq_t, leq_f, gtr_t, gtr_f, geq_t, geq_f, eqi_t, eqi_f, nei_t, nei_f, rem_uw, conv_ui, conv_iu, conv_ii, not_bool, nil_ptr, fa_mk, ptrV, len_mk, cap_mk, eq_ptr_nil, ne_ptr_nil, eq_nil_nil, ne_nil_nil, eq_slice_nil, eq_nil_slice, ia_1, lo, hol.1]; exact so_so) ?_)
    exact hJ addr
  · by_cases hc1 : c = 1
    · have hu := urem_lt (x := which) (b := (w.objs.length : Int)) (by omega)
      obtain ⟨k, hk⟩ : ∃ k : Nat, urem which w.objs.length = k := ⟨(urem which w.objs.length).toNat, by omega⟩
      have hkl : k < w.objs.length := by omega
      obtain ⟨b0, q0, e1, e2, _, _, _⟩ := (own_vat hh3 hv).obj (List.getElem?_eq_getElem hkl) .i64
      generalize w.objs[k] = o at *
      repeat (with_reducible first | refine vP_so ?_ | refine vB_t ?_ | refine vB_f ?_ | refine vE_tt ?_ | refine vE_ff ?_ | refine vE_tf ?_ | refine vE_ft ?_ | refine vE_u ?_ | refine vP_to (by simp (disch := omega) only [gdW_true, gdW_false, gB_true, gB_false, gB_undef, pickV_true, pickV_false, Bool.not_true, Bool.not_false, Option.map_some, bin_add, bin_sub, bin_mul, bin_quo, bin_rem, lss_t, lss_f, leq_t, leq_f, gtr_t, gtr_f, geq_t, geq_f, eqi_t, eqi_f, nei_t, nei_f, rem_uw, conv_ui, conv_iu, conv_ii, not_bool, nil_ptr, fa_mk, ptrV, len_mk, cap_mk, eq_ptr_nil, ne_ptr_nil, eq_nil_nil, ne_nil_nil, eq_slice_nil, eq_nil_slice, ia_1, lo, hol.1, hc, conv_u .i64 which, hk, e1, e2]; exact so_so) ?_)
      exact hJ o.addr
    · repeat (with_reducible first | refine vP_so ?_ | refine vB_t ?_ | refine vB_f ?_ | refine vE_tt ?_ | refine vE_ff ?_ | refine vE_tf ?_ | refine vE_ft ?_ | refine vE_u ?_ | refine vP_to (by simp (disch := omega) only [gdW_true, gdW_false, gB_true, gB_false, gB_undef, pickV_true, pickV_false, Bool.not_true, Bool.not_false, Option.map_some, bin_add, bin_sub, bin_mul, bin_quo, bin_rem, lss_t, lss_f, leq_t, leq_f, gtr_t, gtr_f, geq_t, geq_f, eqi_t, eqi_f, nei_t, nei_f, rem_uw, conv_ui, conv_iu, conv_ii, not_bool, nil_ptr, fa_mk, ptrV, len_mk, cap_mk, eq_ptr_nil, ne_ptr_nil, eq_nil_nil, ne_nil_nil, eq_slice_nil, eq_nil_slice, ia_1, lo, hol.1, hc]; exact so_so) ?_)
      exact hJ addr

end Go.Proofs
