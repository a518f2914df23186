/-
  Contracts of treadmillref29: once, Roots, walk.
-/
import Derived.Test.YtdcoflglkfbpcaaVw4
import Derived.Test.YtdcoflglkfbpcaaVwD3
set_option linter.unusedVariables false
set_option linter.unusedSimpArgs false
set_option maxRecDepth 100000
namespace Go.Proofs
open Go.Sl

/-- Two parts that are only read are one. -/
theorem own_join {g1 g2 : Hp} {F : Asrt} {h : Hp} (hh : (own g1 * (own g2 * F)) h) : Disj g1 g2 ∧ (own (g1.add g2) * F) h := by
  obtain ⟨a, b, d, rfl, rfl, c, e, d', rfl, rfl, f⟩ := hh
  obtain ⟨d1, d2⟩ := Disj.add_right.1 d
  exact ⟨d1, a.add c, e, Disj.add_left.2 ⟨d2, d'⟩, by rw [Hp.add_assoc], rfl, f⟩

theorem own_split {g1 g2 : Hp} {F : Asrt} {h : Hp} (d : Disj g1 g2) (hh : (own (g1.add g2) * F) h) : (own g1 * (own g2 * F)) h := by
  obtain ⟨a, b, d', rfl, rfl, f⟩ := hh
  obtain ⟨d1, d2⟩ := Disj.add_left.1 d'
  exact ⟨g1, g2.add b, Disj.add_right.2 ⟨d, d1⟩, by rw [Hp.add_assoc], rfl, g2, b, d2, rfl, rfl, f⟩

/-- What is owned can be held as it stands. -/
theorem own_pick {A F : Asrt} {h : Hp} (hh : (A * F) h) : ∃ g, A g ∧ (own g * F) h := by
  obtain ⟨a, b, d, rfl, p, q⟩ := hh
  exact ⟨a, p, a, b, d, rfl, rfl, q⟩

theorem own_back {A F : Asrt} {g h : Hp} (hA : A g) (hh : (own g * F) h) : (A * F) h := star_left (fun x e => by rw [show x = g from e]; exact hA) hh

theorem use_once {sv : Value} {l : List Int} {x : Int} {F : Asrt} {K : Value → Hp → Prop} {h : Hp} (hl : l.length < 1073741824) (hh : (SG iE 3 sv l * (F * tt)) h)
    (hK : ∀ v h', (SG iE 3 v (onceL l x) * (F * tt)) h' → K v h') : CallH Try.prog 58 #[sv, .int .i64 x] K h := by
  refine C58 ?_
  unfold D58
  by_cases h0 : x = 0
  · have e : onceL l x = l := by unfold onceL; rw [if_pos (.inl h0)]
    rw [e] at hK
    repeat (with_reducible first | refine vP_so ?_ | refine vB_t ?_ | refine vB_f ?_ | refine vE_tt ?_ | refine vE_ff ?_ | refine vE_tf ?_ | refine vE_ft ?_ | refine vE_u ?_ | refine vP_to (by simp (disch := omega) only [gdW_true, gdW_false, gB_true, gB_false, gB_undef, pickV_true, pickV_false, Bool.not_true, Bool.not_false, Option.map_some, bin_add, bin_sub, bin_mul, bin_quo, bin_rem, lss_t, lss_f, leq_t, leq_f, gtr_t, gtr_f, geq_t, geq_f, eqi_t, eqi_f, nei_t, nei_f, rem_uw, conv_ui, conv_iu, conv_ii, not_bool, nil_ptr, fa_mk, ptrV, len_mk, cap_mk, eq_ptr_nil, ne_ptr_nil, eq_nil_nil, ne_nil_nil, eq_slice_nil, eq_nil_slice, ia_1]; exact so_so) ?_)
    exact hK sv h hh
  · repeat (with_reducible first | refine vP_so ?_ | refine vB_t ?_ | refine vB_f ?_ | refine vE_tt ?_ | refine vE_ff ?_ | refine vE_tf ?_ | refine vE_ft ?_ | refine vE_u ?_ | refine vP_to (by simp (disch := omega) only [gdW_true, gdW_false, gB_true, gB_false, gB_undef, pickV_true, pickV_false, Bool.not_true, Bool.not_false, Option.map_some, bin_add, bin_sub, bin_mul, bin_quo, bin_rem, lss_t, lss_f, leq_t, leq_f, gtr_t, gtr_f, geq_t, geq_f, eqi_t, eqi_f, nei_t, nei_f, rem_uw, conv_ui, conv_iu, conv_ii, not_bool, nil_ptr, fa_mk, ptrV, len_mk, cap_mk, eq_ptr_nil, ne_ptr_nil, eq_nil_nil, ne_nil_nil, eq_slice_nil, eq_nil_slice, ia_1]; exact so_so) ?_)
    refine use_has (SG_ints hh) ?_
    by_cases hin : x ∈ l
    · have e : onceL l x = l := by unfold onceL; rw [if_pos (.inr hin)]
      rw [e] at hK
      rw [decide_eq_true hin]
      repeat (with_reducible first | refine vP_so ?_ | refine vB_t ?_ | refine vB_f ?_ | refine vE_tt ?_ | refine vE_ff ?_ | refine vE_tf ?_ | refine vE_ft ?_ | refine vE_u ?_ | refine vP_to (by simp (disch := omega) only [gdW_true, gdW_false, gB_true, gB_false, gB_undef, pickV_true, pickV_false, Bool.not_true, Bool.not_false, Option.map_some, bin_add, bin_sub, bin_mul, bin_quo, bin_rem, lss_t, lss_f, leq_t, leq_f, gtr_t, gtr_f, geq_t, geq_f, eqi_t, eqi_f, nei_t, nei_f, rem_uw, conv_ui, conv_iu, conv_ii, not_bool, nil_ptr, fa_mk, ptrV, len_mk, cap_mk, eq_ptr_nil, ne_ptr_nil, eq_nil_nil, ne_nil_nil, eq_slice_nil, eq_nil_slice, ia_1]; exact so_so) ?_)
      exact hK sv h hh
    · have e : onceL l x = l ++ [x] := by unfold onceL; rw [if_neg (fun q => q.elim h0 hin)]
      rw [e] at hK
      rw [decide_eq_false hin]
      have eb : bldV #[.int .i64 0] [(0, 1, .int .i64 x)] = some #[.int .i64 x] := rfl
      repeat (with_reducible first | refine vP_so ?_ | refine vB_t ?_ | refine vB_f ?_ | refine vE_tt ?_ | refine vE_ff ?_ | refine vE_tf ?_ | refine vE_ft ?_ | refine vE_u ?_ | refine vP_to (by simp (disch := omega) only [gdW_true, gdW_false, gB_true, gB_false, gB_undef, pickV_true, pickV_false, Bool.not_true, Bool.not_false, Option.map_some, bin_add, bin_sub, bin_mul, bin_quo, bin_rem, lss_t, lss_f, leq_t, leq_f, gtr_t, gtr_f, geq_t, geq_f, eqi_t, eqi_f, nei_t, nei_f, rem_uw, conv_ui, conv_iu, conv_ii, not_bool, nil_ptr, fa_mk, ptrV, len_mk, cap_mk, eq_ptr_nil, ne_ptr_nil, eq_nil_nil, ne_nil_nil, eq_slice_nil, eq_nil_slice, ia_1]; exact so_so) ?_)
      rw [eb]
      refine vA_new (f := fun r => .slice (some ⟨r, 0, none⟩) 1 1) hh fun r15 h2 hh2 => ?_
      exact ap_new iE (l := l) (m := [x]) (F := F) elInt rfl rfl niInts rfl (by omega) hh2 rfl rfl (by simp only [List.length_singleton]; omega) hK

theorem use_rroots {g : Hp} {w : VW} {F : Asrt} {K : Value → Hp → Prop} {h : Hp} (hv : VAt g w) (hN : w.all.length ≤ 1000000) (hh : (own g * (F * tt)) h)
    (hK : ∀ v h', (SG iE 3 v w.rootsL * (own g * (F * tt))) h' → K v h') : CallH Try.prog 34 #[w.val] K h := by
  refine C34 ?_
  unfold D34
  have hgl := hv.gs_len
  have hnl : w.names.length ≤ 1000000 := by unfold VW.all at hN; rw [List.length_append] at hN; omega
  have hglob : w.globals.length ≤ 1000000 := by unfold VW.names at hnl; rw [List.length_append] at hnl; omega
  refine vA_new (o := .cells w.cells 26 (0, 0)) hh fun r1 h1 hh1 => ?_
  refine ⟨fun m zs h' => ∃ (i : Nat) (v3 : Value), zs = [.int .i64 i, v3] ∧ m = w.globals.length - i ∧ i ≤ w.globals.length ∧ (SG iE 3 v3 ((w.globals.take i).foldl onceL []) * (pt r1 (.cells w.cells 26 (0, 0)) * (own g * (F * tt)))) h',
    ⟨_, 0, .slice none 0 0, rfl, rfl, by omega, SG_nil iE hh1⟩, ?_⟩
  rintro m v4 v3 h2 ⟨i, v3', hzs, rfl, hi, hh2⟩ _
  obtain ⟨rfl, rfl⟩ : v4 = .int .i64 i ∧ v3 = v3' := by simpa using hzs
  have l3 := (vw_ld (r := r1) (w := w) (E := 26) (F := SG iE 3 v3 ((w.globals.take i).foldl onceL []) * (own g * (F * tt))) (asr (by ac_rfl) hh2)).2.2.2.1
  have hgv := hv.glob
  by_cases hil : i < w.globals.length
  · obtain ⟨p, f1, f2⟩ := hgv.get i w.globals[i] .i64 (List.getElem?_eq_getElem hil)
    have f2 := own_ld1 (F := SG iE 3 v3 ((w.globals.take i).foldl onceL []) * (pt r1 (.cells w.cells 26 (0, 0)) * (F * tt))) (asr (by ac_rfl) hh2) f2
    have hfold : (w.globals.take (i + 1)).foldl onceL [] = onceL ((w.globals.take i).foldl onceL []) w.globals[i] := by
      rw [List.take_succ_eq_append_getElem hil, List.foldl_append]; rfl
    have hfl : ((w.globals.take i).foldl onceL []).length ≤ 1000000 := Nat.le_trans foldl_once_len (by rw [List.length_take]; simp only [List.length_nil]; omega)
    generalize w.globals[i] = x at *
    generalize (w.globals.take i).foldl onceL [] = o at *
    repeat (with_reducible first | refine vP_so ?_ | refine vB_t ?_ | refine vB_f ?_ | refine vE_tt ?_ | refine vE_ff ?_ | refine vE_tf ?_ | refine vE_ft ?_ | refine vE_u ?_ | refine vP_to (by simp (disch := omega) only [gdW_true, gdW_false, gB_true, gB_false, gB_undef, pickV_true, pickV_false, Bool.not_true, Bool.not_false, Option.map_some, bin_add, bin_sub, bin_mul, bin_quo, bin_rem, lss_t, lss_f, leq_t, leq_f, gtr_t, gtr_f, geq_t, geq_f, eqi_t, eqi_f, nei_t, nei_f, rem_uw, conv_ui, conv_iu, conv_ii, not_bool, nil_ptr, fa_mk, ptrV, len_mk, cap_mk, eq_ptr_nil, ne_ptr_nil, eq_nil_nil, ne_nil_nil, eq_slice_nil, eq_nil_slice, ia_1, l3, hgv.len, f1, f2]; exact so_so) ?_)
    refine use_once (l := o) (F := pt r1 (.cells w.cells 26 (0, 0)) * (own g * F)) (by omega) (asr (by ac_rfl) hh2) fun v20 h3 hh3 => ?_
    repeat (with_reducible first | refine vP_so ?_ | refine vB_t ?_ | refine vB_f ?_ | refine vE_tt ?_ | refine vE_ff ?_ | refine vE_tf ?_ | refine vE_ft ?_ | refine vE_u ?_ | refine vP_to (by simp (disch := omega) only [gdW_true, gdW_false, gB_true, gB_false, gB_undef, pickV_true, pickV_false, Bool.not_true, Bool.not_false, Option.map_some, bin_add, bin_sub, bin_mul, bin_quo, bin_rem, lss_t, lss_f, leq_t, leq_f, gtr_t, gtr_f, geq_t, geq_f, eqi_t, eqi_f, nei_t, nei_f, rem_uw, conv_ui, conv_iu, conv_ii, not_bool, nil_ptr, fa_mk, ptrV, len_mk, cap_mk, eq_ptr_nil, ne_ptr_nil, eq_nil_nil, ne_nil_nil, eq_slice_nil, eq_nil_slice, ia_1]; exact so_so) ?_)
    exact ⟨w.globals.length - (i + 1), by omega, i + 1, v20, rfl, rfl, by omega, by rw [hfold]; exact asr (by ac_rfl) hh3⟩
  obtain rfl : i = w.globals.length := by omega
  rw [List.take_length] at hh2
  repeat (with_reducible first | refine vP_so ?_ | refine vB_t ?_ | refine vB_f ?_ | refine vE_tt ?_ | refine vE_ff ?_ | refine vE_tf ?_ | refine vE_ft ?_ | refine vE_u ?_ | refine vP_to (by simp (disch := omega) only [gdW_true, gdW_false, gB_true, gB_false, gB_undef, pickV_true, pickV_false, Bool.not_true, Bool.not_false, Option.map_some, bin_add, bin_sub, bin_mul, bin_quo, bin_rem, lss_t, lss_f, leq_t, leq_f, gtr_t, gtr_f, geq_t, geq_f, eqi_t, eqi_f, nei_t, nei_f, rem_uw, conv_ui, conv_iu, conv_ii, not_bool, nil_ptr, fa_mk, ptrV, len_mk, cap_mk, eq_ptr_nil, ne_ptr_nil, eq_nil_nil, ne_nil_nil, eq_slice_nil, eq_nil_slice, ia_1, l3, hgv.len]; exact so_so) ?_)
  refine ⟨fun m zs h' => ∃ (i : Nat) (v3 : Value), zs = [.int .i64 i, v3] ∧ m = w.gs.length - i ∧ i ≤ w.gs.length ∧ (SG iE 3 v3 ((w.globals ++ ((w.gs.take i).filter live).flatMap (·.stack)).foldl onceL []) * (pt r1 (.cells w.cells 26 (0, 0)) * (own g * (F * tt)))) h',
    ⟨_, 0, v3, rfl, rfl, by omega, by simpa using hh2⟩, ?_⟩
  clear hh2 l3
  rintro m v5 v3b h4 ⟨i, v3', hzs, rfl, hi, hh4⟩ _
  obtain ⟨rfl, rfl⟩ : v5 = .int .i64 i ∧ v3b = v3' := by simpa using hzs
  have l4 := (vw_ld (r := r1) (w := w) (E := 26) (F := SG iE 3 v3b ((w.globals ++ ((w.gs.take i).filter live).flatMap (·.stack)).foldl onceL []) * (own g * (F * tt))) (asr (by ac_rfl) hh4)).2.2.2.2.1
  by_cases hil : i < w.gs.length
  · have hro : w.gs[i] ∈ w.gs := List.getElem_mem hil
    have hstk := hv.stacks w.gs[i] hro
    have hgi : w.gs[i]? = some w.gs[i] := List.getElem?_eq_getElem hil
    have hsub : ∀ r, w.gs[i] = r → live r = true → r.stack.length + (w.globals ++ ((w.gs.take i).filter live).flatMap (·.stack)).length ≤ 1000000 := fun r e hl => by
      have h2 : w.names.length = w.globals.length + ((w.gs.filter live).flatMap (·.stack)).length := by unfold VW.names; rw [List.length_append]
      have h3 : w.gs.filter live = (w.gs.take i).filter live ++ (r :: (w.gs.drop (i + 1)).filter live) := by
        have e1 : w.gs = w.gs.take i ++ r :: w.gs.drop (i + 1) := by rw [← e, ← List.drop_eq_getElem_cons hil, List.take_append_drop]
        have e2 : (w.gs.take i ++ r :: w.gs.drop (i + 1)).filter live = (w.gs.take i).filter live ++ (r :: (w.gs.drop (i + 1)).filter live) := by rw [List.filter_append, List.filter_cons, if_pos hl]
        rw [← e2, ← e1]
      rw [h3, List.flatMap_append, List.flatMap_cons, List.length_append, List.length_append] at h2
      rw [List.length_append]
      omega
    have hstep : ∀ r, w.gs[i] = r → (w.globals ++ ((w.gs.take (i + 1)).filter live).flatMap (·.stack)).foldl onceL [] = if live r then r.stack.foldl onceL ((w.globals ++ ((w.gs.take i).filter live).flatMap (·.stack)).foldl onceL []) else (w.globals ++ ((w.gs.take i).filter live).flatMap (·.stack)).foldl onceL [] := fun r e => by
      rw [List.take_succ_eq_append_getElem hil, e, List.filter_append]
      by_cases hl : live r = true
      · rw [if_pos hl, List.filter_cons, if_pos hl, List.filter_nil, List.flatMap_append, ← List.append_assoc, List.foldl_append]
        simp
      · rw [if_neg hl, List.filter_cons, if_neg hl, List.filter_nil, List.append_nil]
    have hsub := hsub _ rfl
    have hstep := hstep _ rfl
    generalize w.gs[i] = r at *
    have hflen : ((w.globals ++ ((w.gs.take i).filter live).flatMap (·.stack)).foldl onceL []).length ≤ (w.globals ++ ((w.gs.take i).filter live).flatMap (·.stack)).length := by
      have := foldl_once_len (xs := w.globals ++ ((w.gs.take i).filter live).flatMap (·.stack)) (l := [])
      simpa using this
    generalize w.globals ++ ((w.gs.take i).filter live).flatMap (·.stack) = nm at *
    generalize nm.foldl onceL [] = o at *
    repeat (with_reducible first | refine vP_so ?_ | refine vB_t ?_ | refine vB_f ?_ | refine vE_tt ?_ | refine vE_ff ?_ | refine vE_tf ?_ | refine vE_ft ?_ | refine vE_u ?_ | refine vP_to (by simp (disch := omega) only [gdW_true, gdW_false, gB_true, gB_false, gB_undef, pickV_true, pickV_false, Bool.not_true, Bool.not_false, Option.map_some, bin_add, bin_sub, bin_mul, bin_quo, bin_rem, lss_t, lss_f, leq_t, leq_f, gtr_t, gtr_f, geq_t, geq_f, eqi_t, eqi_f, nei_t, nei_f, rem_uw, conv_ui, conv_iu, conv_ii, not_bool, nil_ptr, fa_mk, ptrV, len_mk, cap_mk, eq_ptr_nil, ne_ptr_nil, eq_nil_nil, ne_nil_nil, eq_slice_nil, eq_nil_slice, ia_1, l4, hgl.1]; exact so_so) ?_)
    refine ⟨fun m zs h' => ∃ (j : Nat) (v3 : Value), zs = [.int .i64 j, v3] ∧ m = r.stack.length - j ∧ j ≤ r.stack.length ∧ (live r = false → j = 0) ∧ (SG iE 3 v3 ((r.stack.take j).foldl onceL o) * (pt r1 (.cells w.cells 26 (0, 0)) * (own g * (F * tt)))) h',
      ⟨_, 0, v3b, rfl, rfl, by omega, fun _ => rfl, hh4⟩, ?_⟩
    clear l4
    rintro m v6 v3d h5 ⟨j, v3e, hzs, rfl, hj, hj0, hh5⟩ _
    obtain ⟨rfl, rfl⟩ : v6 = .int .i64 j ∧ v3d = v3e := by simpa using hzs
    have l4 := (vw_ld (r := r1) (w := w) (E := 26) (F := SG iE 3 v3d ((r.stack.take j).foldl onceL o) * (own g * (F * tt))) (asr (by ac_rfl) hh5)).2.2.2.2.1
    have hw5 := own_vat (F := SG iE 3 v3d ((r.stack.take j).foldl onceL o) * (pt r1 (.cells w.cells 26 (0, 0)) * (F * tt))) (asr (by ac_rfl) hh5) hv
    obtain ⟨b, q, e1, e2, _, e4, _⟩ := hw5.gor hgi .i64
    have hslt := hstk.lt
    by_cases hjl : j < r.stack.length
    · by_cases hl : live r = true
      · have hst : r.st ≠ 5 := by unfold live at hl; simpa using hl
        have hsub := hsub hl
        obtain ⟨p, f1, f2⟩ := hstk.get j r.stack[j] .i64 (List.getElem?_eq_getElem hjl)
        have f2 := own_ld1 (F := SG iE 3 v3d ((r.stack.take j).foldl onceL o) * (pt r1 (.cells w.cells 26 (0, 0)) * (F * tt))) (asr (by ac_rfl) hh5) f2
        have hfold : (r.stack.take (j + 1)).foldl onceL o = onceL ((r.stack.take j).foldl onceL o) r.stack[j] := by
          rw [List.take_succ_eq_append_getElem hjl, List.foldl_append]; rfl
        have hfl2 : ((r.stack.take j).foldl onceL o).length ≤ 1000000 := Nat.le_trans foldl_once_len (by rw [List.length_take]; omega)
        generalize r.stack[j] = x at *
        generalize (r.stack.take j).foldl onceL o = o' at *
        repeat (with_reducible first | refine vP_so ?_ | refine vB_t ?_ | refine vB_f ?_ | refine vE_tt ?_ | refine vE_ff ?_ | refine vE_tf ?_ | refine vE_ft ?_ | refine vE_u ?_ | refine vP_to (by simp (disch := omega) only [gdW_true, gdW_false, gB_true, gB_false, gB_undef, pickV_true, pickV_false, Bool.not_true, Bool.not_false, Option.map_some, bin_add, bin_sub, bin_mul, bin_quo, bin_rem, lss_t, lss_f, leq_t, leq_f, gtr_t, gtr_f, geq_t, geq_f, eqi_t, eqi_f, nei_t, nei_f, rem_uw, conv_ui, conv_iu, conv_ii, not_bool, nil_ptr, fa_mk, ptrV, len_mk, cap_mk, eq_ptr_nil, ne_ptr_nil, eq_nil_nil, ne_nil_nil, eq_slice_nil, eq_nil_slice, ia_1, l4, e1, e2, e4, hstk.len, f1, f2]; exact so_so) ?_)
        refine use_once (l := o') (F := pt r1 (.cells w.cells 26 (0, 0)) * (own g * F)) (by omega) (asr (by ac_rfl) hh5) fun v58 h6 hh6 => ?_
        repeat (with_reducible first | refine vP_so ?_ | refine vB_t ?_ | refine vB_f ?_ | refine vE_tt ?_ | refine vE_ff ?_ | refine vE_tf ?_ | refine vE_ft ?_ | refine vE_u ?_ | refine vP_to (by simp (disch := omega) only [gdW_true, gdW_false, gB_true, gB_false, gB_undef, pickV_true, pickV_false, Bool.not_true, Bool.not_false, Option.map_some, bin_add, bin_sub, bin_mul, bin_quo, bin_rem, lss_t, lss_f, leq_t, leq_f, gtr_t, gtr_f, geq_t, geq_f, eqi_t, eqi_f, nei_t, nei_f, rem_uw, conv_ui, conv_iu, conv_ii, not_bool, nil_ptr, fa_mk, ptrV, len_mk, cap_mk, eq_ptr_nil, ne_ptr_nil, eq_nil_nil, ne_nil_nil, eq_slice_nil, eq_nil_slice, ia_1]; exact so_so) ?_)
        exact ⟨r.stack.length - (j + 1), by omega, j + 1, v58, rfl, rfl, by omega, (fun q => by rw [hl] at q; cases q), by rw [hfold]; exact asr (by ac_rfl) hh6⟩
      · have hst : r.st = 5 := by unfold live at hl; simpa using hl
        have hl : live r = false := by simpa using hl
        obtain rfl := hj0 hl
        repeat (with_reducible first | refine vP_so ?_ | refine vB_t ?_ | refine vB_f ?_ | refine vE_tt ?_ | refine vE_ff ?_ | refine vE_tf ?_ | refine vE_ft ?_ | refine vE_u ?_ | refine vP_to (by simp (disch := omega) only [gdW_true, gdW_false, gB_true, gB_false, gB_undef, pickV_true, pickV_false, Bool.not_true, Bool.not_false, Option.map_some, bin_add, bin_sub, bin_mul, bin_quo, bin_rem, lss_t, lss_f, leq_t, leq_f, gtr_t, gtr_f, geq_t, geq_f, eqi_t, eqi_f, nei_t, nei_f, rem_uw, conv_ui, conv_iu, conv_ii, not_bool, nil_ptr, fa_mk, ptrV, len_mk, cap_mk, eq_ptr_nil, ne_ptr_nil, eq_nil_nil, ne_nil_nil, eq_slice_nil, eq_nil_slice, ia_1, l4, e1, e2, e4, hstk.len]; exact so_so) ?_)
        rw [hl] at hstep
        exact ⟨w.gs.length - (i + 1), by omega, i + 1, v3d, rfl, rfl, by omega, by rw [hstep]; simpa using hh5⟩
    · obtain rfl : j = r.stack.length := by omega
      rw [List.take_length] at hh5
      repeat (with_reducible first | refine vP_so ?_ | refine vB_t ?_ | refine vB_f ?_ | refine vE_tt ?_ | refine vE_ff ?_ | refine vE_tf ?_ | refine vE_ft ?_ | refine vE_u ?_ | refine vP_to (by simp (disch := omega) only [gdW_true, gdW_false, gB_true, gB_false, gB_undef, pickV_true, pickV_false, Bool.not_true, Bool.not_false, Option.map_some, bin_add, bin_sub, bin_mul, bin_quo, bin_rem, lss_t, lss_f, leq_t, leq_f, gtr_t, gtr_f, geq_t, geq_f, eqi_t, eqi_f, nei_t, nei_f, rem_uw, conv_ui, conv_iu, conv_ii, not_bool, nil_ptr, fa_mk, ptrV, len_mk, cap_mk, eq_ptr_nil, ne_ptr_nil, eq_nil_nil, ne_nil_nil, eq_slice_nil, eq_nil_slice, ia_1, l4, e1, e2, e4, hstk.len]; exact so_so) ?_)
      refine ⟨w.gs.length - (i + 1), by omega, i + 1, v3d, rfl, rfl, by omega, ?_⟩
      rw [hstep]
      by_cases hl : live r = true
      · rw [if_pos hl]; exact hh5
      · rw [if_neg hl]
        have : r.stack = [] := List.length_eq_zero_iff.1 (hj0 (by simpa using hl))
        rw [this] at hh5
        exact hh5
  · obtain rfl : i = w.gs.length := by omega
    rw [List.take_length] at hh4
    repeat (with_reducible first | refine vP_so ?_ | refine vB_t ?_ | refine vB_f ?_ | refine vE_tt ?_ | refine vE_ff ?_ | refine vE_tf ?_ | refine vE_ft ?_ | refine vE_u ?_ | refine vP_to (by simp (disch := omega) only [gdW_true, gdW_false, gB_true, gB_false, gB_undef, pickV_true, pickV_false, Bool.not_true, Bool.not_false, Option.map_some, bin_add, bin_sub, bin_mul, bin_quo, bin_rem, lss_t, lss_f, leq_t, leq_f, gtr_t, gtr_f, geq_t, geq_f, eqi_t, eqi_f, nei_t, nei_f, rem_uw, conv_ui, conv_iu, conv_ii, not_bool, nil_ptr, fa_mk, ptrV, len_mk, cap_mk, eq_ptr_nil, ne_ptr_nil, eq_nil_nil, ne_nil_nil, eq_slice_nil, eq_nil_slice, ia_1, l4, hgl.1]; exact so_so) ?_)
    exact hK v3b h4 (dropL (P := pt r1 (.cells w.cells 26 (0, 0))) (Q := SG iE 3 v3b w.rootsL * (own g * F)) (asr (by ac_rfl) hh4) |> asr (by ac_rfl))

end Go.Proofs
