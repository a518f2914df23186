/-
  Contracts: treadmillref1's lists and sizes, package class.
-/
import Derived.Test.YtampdifeblndfaaGreatDoorB6
import Derived.Test.YtampdifeblndfaaGreatDoorB4
set_option linter.unusedVariables false
set_option linter.unusedSimpArgs false
set_option maxRecDepth 100000
namespace Go.Proofs
open Go.Sl
theorem elInt : ElOk Tryz.prog 22 3 1 8 := elB_ok (by kernel_rfl)
theorem niInts : noInt Tryz.prog 22 := noInt_sl (e := 3) (by kernel_rfl)
theorem use_ints {sv sw : Value} {xs ys : List Int} {K : Value → Hp → Prop} {h : Hp} (hx : IntsAt h sv xs) (hy : IntsAt h sw ys) (hK : K (.bool (decide (xs = ys))) h) : CallH Tryz.prog 15 #[sv, sw] K h := by
  refine C15 ?_
  unfold D15
  have h1 := hx.lt
  have h2 := hy.lt
  by_cases hl : xs.length = ys.length
  · repeat (with_reducible first | refine vP_so ?_ | refine vB_t ?_ | refine vB_f ?_ | refine vE_tt ?_ | refine vE_ff ?_ | refine vE_tf ?_ | refine vE_ft ?_ | refine vE_u ?_ | refine vP_to (by simp (disch := omega) only [gdW_true, gdW_false, gB_true, gB_false, gB_undef, pickV_true, pickV_false, Bool.not_true, Bool.not_false, Option.map_some, bin_add, bin_sub, bin_mul, bin_quo, bin_rem, lss_t, lss_f, leq_t, leq_f, gtr_t, gtr_f, geq_t, geq_f, eqi_t, eqi_f, nei_t, nei_f, rem_uw, conv_ui, conv_iu, conv_ii, not_bool, nil_ptr, fa_mk, ptrV, len_mk, cap_mk, eq_ptr_nil, ne_ptr_nil, eq_nil_nil, ne_nil_nil, eq_slice_nil, eq_nil_slice, ia_1, hx.len, hy.len]; exact so_so) ?_)
    refine ⟨fun m zs h' => ∃ i : Nat, zs = [.int .i64 i] ∧ m = xs.length - i ∧ i ≤ xs.length ∧ xs.take i = ys.take i ∧ h' = h, ⟨_, 0, rfl, rfl, by omega, by simp, rfl⟩, ?_⟩
    rintro m v5 h3 ⟨i, hzs, rfl, hi, ht, rfl⟩ _
    obtain rfl : v5 = .int .i64 i := by simpa using hzs
    by_cases hil : i < xs.length
    · obtain ⟨p, f1, f2⟩ := hx.get i xs[i] .i64 (List.getElem?_eq_getElem hil)
      obtain ⟨q, g1, g2⟩ := hy.get i ys[i] .i64 (List.getElem?_eq_getElem (by omega))
      have h4 : xs.take (i + 1) = ys.take (i + 1) ↔ xs[i] = ys[i] := by
        have e1 := List.take_succ_eq_append_getElem hil
        have e2 := List.take_succ_eq_append_getElem (show i < ys.length by omega)
        rw [e1, e2, ht]
        exact ⟨fun q => by simpa using List.append_cancel_left q, fun q => by rw [q]⟩
      have h5 : xs[i] ≠ ys[i] → xs ≠ ys := fun q e => by subst e; exact q rfl
      generalize xs[i] = x at *
      generalize ys[i] = y at *
      by_cases hxy : x = y
      · repeat (with_reducible first | refine vP_so ?_ | refine vB_t ?_ | refine vB_f ?_ | refine vE_tt ?_ | refine vE_ff ?_ | refine vE_tf ?_ | refine vE_ft ?_ | refine vE_u ?_ | refine vP_to (by simp (disch := omega) only [gdW_true, gdW_false, gB_true, gB_false, gB_undef, pickV_true, pickV_false, Bool.not_true, Bool.not_false, Option.map_some, bin_add, bin_sub, bin_mul, bin_quo, bin_rem, lss_t, lss_f, leq_t, leq_f, gtr_t, gtr_f, geq_t, geq_f, eqi_t, eqi_f, nei_t, nei_f, rem_uw, conv_ui, conv_iu, conv_ii, not_bool, nil_ptr, fa_mk, ptrV, len_mk, cap_mk, eq_ptr_nil, ne_ptr_nil, eq_nil_nil, ne_nil_nil, eq_slice_nil, eq_nil_slice, ia_1, hx.len, hy.len, f1, f2, g1, g2]; exact so_so) ?_)
        exact ⟨xs.length - (i + 1), by omega, i + 1, by simp, rfl, by omega, h4.2 hxy, rfl⟩
      · repeat (with_reducible first | refine vP_so ?_ | refine vB_t ?_ | refine vB_f ?_ | refine vE_tt ?_ | refine vE_ff ?_ | refine vE_tf ?_ | refine vE_ft ?_ | refine vE_u ?_ | refine vP_to (by simp (disch := omega) only [gdW_true, gdW_false, gB_true, gB_false, gB_undef, pickV_true, pickV_false, Bool.not_true, Bool.not_false, Option.map_some, bin_add, bin_sub, bin_mul, bin_quo, bin_rem, lss_t, lss_f, leq_t, leq_f, gtr_t, gtr_f, geq_t, geq_f, eqi_t, eqi_f, nei_t, nei_f, rem_uw, conv_ui, conv_iu, conv_ii, not_bool, nil_ptr, fa_mk, ptrV, len_mk, cap_mk, eq_ptr_nil, ne_ptr_nil, eq_nil_nil, ne_nil_nil, eq_slice_nil, eq_nil_slice, ia_1, hx.len, hy.len, f1, f2, g1, g2]; exact so_so) ?_)
        rw [decide_eq_false (h5 hxy)] at hK
        exact hK
    · repeat (with_reducible first | refine vP_so ?_ | refine vB_t ?_ | refine vB_f ?_ | refine vE_tt ?_ | refine vE_ff ?_ | refine vE_tf ?_ | refine vE_ft ?_ | refine vE_u ?_ | refine vP_to (by simp (disch := omega) only [gdW_true, gdW_false, gB_true, gB_false, gB_undef, pickV_true, pickV_false, Bool.not_true, Bool.not_false, Option.map_some, bin_add, bin_sub, bin_mul, bin_quo, bin_rem, lss_t, lss_f, leq_t, leq_f, gtr_t, gtr_f, geq_t, geq_f, eqi_t, eqi_f, nei_t, nei_f, rem_uw, conv_ui, conv_iu, conv_ii, not_bool, nil_ptr, fa_mk, ptrV, len_mk, cap_mk, eq_ptr_nil, ne_ptr_nil, eq_nil_nil, ne_nil_nil, eq_slice_nil, eq_nil_slice, ia_1, hx.len, hy.len]; exact so_so) ?_)
      obtain rfl : i = xs.length := by omega
      rw [List.take_length, hl, List.take_length] at ht
      rw [decide_eq_true ht] at hK
      exact hK
  · repeat (with_reducible first | refine vP_so ?_ | refine vB_t ?_ | refine vB_f ?_ | refine vE_tt ?_ | refine vE_ff ?_ | refine vE_tf ?_ | refine vE_ft ?_ | refine vE_u ?_ | refine vP_to (by simp (disch := omega) only [gdW_true, gdW_false, gB_true, gB_false, gB_undef, pickV_true, pickV_false, Bool.not_true, Bool.not_false, Option.map_some, bin_add, bin_sub, bin_mul, bin_quo, bin_rem, lss_t, lss_f, leq_t, leq_f, gtr_t, gtr_f, geq_t, geq_f, eqi_t, eqi_f, nei_t, nei_f, rem_uw, conv_ui, conv_iu, conv_ii, not_bool, nil_ptr, fa_mk, ptrV, len_mk, cap_mk, eq_ptr_nil, ne_ptr_nil, eq_nil_nil, ne_nil_nil, eq_slice_nil, eq_nil_slice, ia_1, hx.len, hy.len]; exact so_so) ?_)
    rw [decide_eq_false (fun e => hl (by rw [e]))] at hK
    exact hK
theorem use_put {sv : Value} {l : List Int} {x : Int} {F : Asrt} {K : Value → Hp → Prop} {h : Hp} (hl : l.length < 1073741824) (hr : Rise l) (hh : (SG iE 3 sv l * (F * tt)) h)
    (hK : ∀ v l' h', Rise l' → (∀ y, y ∈ l' ↔ y ∈ l ∨ y = x) → l'.length ≤ l.length + 1 → (SG iE 3 v l' * (F * tt)) h' → K v h') : CallH Tryz.prog 62 #[sv, .int .i64 x] K h := by
  refine C62 ?_
  unfold D62
  have hlen := SG_len iE hh
  refine ⟨fun m zs h' => ∃ i : Nat, zs = [.int .i64 i] ∧ m = l.length - i ∧ i ≤ l.length ∧ (∀ y ∈ l.take i, y < x) ∧ h' = h, ⟨_, 0, rfl, rfl, by omega, by simp, rfl⟩, ?_⟩
  rintro m v5 h1 ⟨i, hzs, rfl, hi, hlow, rfl⟩ _
  obtain rfl : v5 = .int .i64 i := by simpa using hzs
  have fin : (∀ y ∈ l.drop i, x < y) → vA ((bldV #[] []).map fun c => (Obj.cells c 3 (0, 0), fun r => Value.slice (some ⟨r, 0, none⟩) 0 0)) (fun v33 h2 =>
      ∀ v36 v43, slV 1 sv none (some (.int .i64 i)) none = some v36 → slV 1 sv (some (.int .i64 i)) none none = some v43 →
      apW Tryz.prog #[22, 22] 22 v33 v36 (fun v37 h3 =>
        vA ((bldV #[.int .i64 0] [(0, 1, .int .i64 x)]).map fun c => (Obj.cells c 3 (0, 0), fun r => Value.slice (some ⟨r, 0, none⟩) 1 1)) (fun v39 h4 =>
        apW Tryz.prog #[22, 22] 22 v37 v39 (fun v40 h5 =>
        apW Tryz.prog #[22, 22] 22 v40 v43 (fun v44 h6 => K v44 h6) h5) h4) h3) h2) h1 := by
    intro hhigh
    have hz : (([] : List Value) ++ (iE.cs ([] : List Int) ++ [])).toArray = (#[] : Array Value) := rfl
    refine vA_new (o := .cells #[] 3 (0, 0)) (f := fun r => .slice (some ⟨r, 0, none⟩) 0 0) hh fun r33 h2 hh2 => ?_
    have hh2 : (SG iE 3 (.slice (some ⟨r33, 0, none⟩) 0 0) [] * (SG iE 3 sv l * F * tt)) h2 :=
      SG_intro iE (pre := []) (post := []) rfl rfl (by simp) (by omega) (by simp) (asr (by rw [hz]; ac_rfl) hh2)
    intro v36 v43 e1 e2
    obtain ⟨v36', s1, p1⟩ := part_to iE (j := i) (F := SG iE 3 (.slice (some ⟨r33, 0, none⟩) 0 0) [] * (F * tt)) (asr (by ac_rfl) hh2) hi .i64
    obtain ⟨v43', s2, p2⟩ := part_from iE (i := i) (F := SG iE 3 (.slice (some ⟨r33, 0, none⟩) 0 0) [] * (F * tt)) (asr (by ac_rfl) hh2) hi .i64
    obtain rfl : v36' = v36 := Option.some.inj (s1.symm.trans e1)
    obtain rfl : v43' = v43 := Option.some.inj (s2.symm.trans e2)
    refine ap_part iE (G := SG iE 3 (.slice (some ⟨r33, 0, none⟩) 0 0) [] * (F * tt)) elInt rfl rfl niInts rfl (by omega) hh2 p1 (asr (by ac_rfl) hh2) (by simp only [List.length_nil, List.length_take]; omega) fun v37 h3 hh3 => ?_
    have eb : bldV #[.int .i64 0] [(0, 1, .int .i64 x)] = some #[.int .i64 x] := rfl
    rw [eb]
    refine vA_new (f := fun r => .slice (some ⟨r, 0, none⟩) 1 1) hh3 fun r39 h4 hh4 => ?_
    refine ap_new iE (l := [] ++ l.take i) (m := [x]) (F := SG iE 3 sv l * F) elInt rfl rfl niInts rfl (by omega) (asr (by ac_rfl) hh4) rfl rfl (by simp only [List.nil_append, List.length_take, List.length_singleton]; omega) fun v40 h5 hh5 => ?_
    refine ap_part iE (G := SG iE 3 v40 ([] ++ l.take i ++ [x]) * (F * tt)) elInt rfl rfl niInts rfl (by omega) hh5 p2 (asr (by ac_rfl) hh5) (by simp only [List.nil_append, List.length_append, List.length_take, List.length_singleton, List.length_drop]; omega) fun v44 h6 hh6 => ?_
    refine hK v44 ([] ++ l.take i ++ [x] ++ l.drop i) h6 ?_ (fun y => ?_) ?_ (dropL (P := SG iE 3 sv l) (Q := SG iE 3 v44 ([] ++ l.take i ++ [x] ++ l.drop i) * F) (asr (by ac_rfl) hh6) |> asr (by ac_rfl))
    · have hr' := hr
      unfold Rise at *
      rw [← List.take_append_drop i l, List.pairwise_append] at hr'
      rw [List.nil_append, List.pairwise_append, List.pairwise_append]
      refine ⟨⟨hr'.1, by simp, fun a ha b hb => ?_⟩, hr'.2.1, fun a ha b hb => ?_⟩
      · simp at hb; subst hb; exact hlow a ha
      · rw [List.mem_append, List.mem_singleton] at ha
        rcases ha with ha | rfl
        · exact hr'.2.2 a ha b hb
        · exact hhigh b hb
    · rw [List.nil_append, List.mem_append, List.mem_append, List.mem_singleton]
      have : y ∈ l ↔ y ∈ l.take i ∨ y ∈ l.drop i := by rw [← List.mem_append, List.take_append_drop]
      rw [this]
      constructor
      · rintro ((h | h) | h)
        · exact .inl (.inl h)
        · exact .inr h
        · exact .inl (.inr h)
      · rintro ((h | h) | h)
        · exact .inl (.inl h)
        · exact .inr h
        · exact .inl (.inr h)
    · simp only [List.nil_append, List.length_append, List.length_take, List.length_singleton, List.length_drop]; omega
  have fin' : (∀ y ∈ l.drop i, x < y) → ∀ v36 v43, slV 1 sv none (some (.int .i64 i)) none = some v36 → slV 1 sv (some (.int .i64 i)) none none = some v43 →
      vA ((bldV #[] []).map fun c => (Obj.cells c 3 (0, 0), fun r => Value.slice (some ⟨r, 0, none⟩) 0 0)) (fun v33 h2 =>
      apW Tryz.prog #[22, 22] 22 v33 v36 (fun v37 h3 =>
        vA ((bldV #[.int .i64 0] [(0, 1, .int .i64 x)]).map fun c => (Obj.cells c 3 (0, 0), fun r => Value.slice (some ⟨r, 0, none⟩) 1 1)) (fun v39 h4 =>
        apW Tryz.prog #[22, 22] 22 v37 v39 (fun v40 h5 =>
        apW Tryz.prog #[22, 22] 22 v40 v43 (fun v44 h6 => K v44 h6) h5) h4) h3) h2) h1 := fun q v36 v43 e1 e2 => vA_mono (fin q) fun v h' f => f v36 v43 e1 e2
  obtain ⟨v36, s1, _⟩ := part_to iE (j := i) hh hi .i64
  obtain ⟨v43, s2, _⟩ := part_from iE (i := i) hh hi .i64
  have s1 : slV 1 sv none (some (.int .i64 i)) none = some v36 := s1
  have s2 : slV 1 sv (some (.int .i64 i)) none none = some v43 := s2
  by_cases hil : i < l.length
  · obtain ⟨p, f1, f2, _⟩ := el1 hh (List.getElem?_eq_getElem hil) .i64
    have hmem : l[i] ∈ l := List.getElem_mem hil
    have hhi : ∀ y ∈ l.drop i, l[i] ≤ y := fun y hy => by
      rw [List.drop_eq_getElem_cons hil, List.mem_cons] at hy
      have hr' := hr
      unfold Rise at hr'
      rw [← List.take_append_drop i l, List.pairwise_append, List.drop_eq_getElem_cons hil, List.pairwise_cons] at hr'
      rcases hy with rfl | hy
      · exact Int.le_refl _
      · have := hr'.2.1.1 y hy; omega
    have htk : ∀ y ∈ l.take (i + 1), y ∈ l.take i ∨ y = l[i] := fun y hy => by
      rw [List.take_succ_eq_append_getElem hil, List.mem_append, List.mem_singleton] at hy
      exact hy
    generalize l[i] = a at *
    rcases Int.lt_trichotomy a x with hax | hax | hax
    · repeat (with_reducible first | refine vP_so ?_ | refine vB_t ?_ | refine vB_f ?_ | refine vE_tt ?_ | refine vE_ff ?_ | refine vE_tf ?_ | refine vE_ft ?_ | refine vE_u ?_ | refine vP_to (by simp (disch := omega) only [gdW_true, gdW_false, gB_true, gB_false, gB_undef, pickV_true, pickV_false, Bool.not_true, Bool.not_false, Option.map_some, bin_add, bin_sub, bin_mul, bin_quo, bin_rem, lss_t, lss_f, leq_t, leq_f, gtr_t, gtr_f, geq_t, geq_f, eqi_t, eqi_f, nei_t, nei_f, rem_uw, conv_ui, conv_iu, conv_ii, not_bool, nil_ptr, fa_mk, ptrV, len_mk, cap_mk, eq_ptr_nil, ne_ptr_nil, eq_nil_nil, ne_nil_nil, eq_slice_nil, eq_nil_slice, ia_1, hlen, f1, f2]; exact so_so) ?_)
      refine ⟨l.length - (i + 1), by omega, i + 1, by simp, rfl, by omega, fun y hy => ?_, rfl⟩
      rcases htk y hy with h | rfl
      · exact hlow y h
      · exact hax
    · repeat (with_reducible first | refine vP_so ?_ | refine vB_t ?_ | refine vB_f ?_ | refine vE_tt ?_ | refine vE_ff ?_ | refine vE_tf ?_ | refine vE_ft ?_ | refine vE_u ?_ | refine vP_to (by simp (disch := omega) only [gdW_true, gdW_false, gB_true, gB_false, gB_undef, pickV_true, pickV_false, Bool.not_true, Bool.not_false, Option.map_some, bin_add, bin_sub, bin_mul, bin_quo, bin_rem, lss_t, lss_f, leq_t, leq_f, gtr_t, gtr_f, geq_t, geq_f, eqi_t, eqi_f, nei_t, nei_f, rem_uw, conv_ui, conv_iu, conv_ii, not_bool, nil_ptr, fa_mk, ptrV, len_mk, cap_mk, eq_ptr_nil, ne_ptr_nil, eq_nil_nil, ne_nil_nil, eq_slice_nil, eq_nil_slice, ia_1, hlen, f1, f2]; exact so_so) ?_)
      refine hK sv l h1 hr (fun y => ⟨.inl, fun q => ?_⟩) (by omega) hh
      rcases q with q | rfl
      · exact q
      · exact hax ▸ hmem
    · repeat (with_reducible first | refine vP_so ?_ | refine vB_t ?_ | refine vB_f ?_ | refine vE_tt ?_ | refine vE_ff ?_ | refine vE_tf ?_ | refine vE_ft ?_ | refine vE_u ?_ | refine vP_to (by simp (disch := omega) only [gdW_true, gdW_false, gB_true, gB_false, gB_undef, pickV_true, pickV_false, Bool.not_true, Bool.not_false, Option.map_some, bin_add, bin_sub, bin_mul, bin_quo, bin_rem, lss_t, lss_f, leq_t, leq_f, gtr_t, gtr_f, geq_t, geq_f, eqi_t, eqi_f, nei_t, nei_f, rem_uw, conv_ui, conv_iu, conv_ii, not_bool, nil_ptr, fa_mk, ptrV, len_mk, cap_mk, eq_ptr_nil, ne_ptr_nil, eq_nil_nil, ne_nil_nil, eq_slice_nil, eq_nil_slice, ia_1, hlen, f1, f2, s1, s2]; exact so_so) ?_)
      exact fin' (fun y hy => by have := hhi y hy; omega) v36 v43 s1 s2
  · repeat (with_reducible first | refine vP_so ?_ | refine vB_t ?_ | refine vB_f ?_ | refine vE_tt ?_ | refine vE_ff ?_ | refine vE_tf ?_ | refine vE_ft ?_ | refine vE_u ?_ | refine vP_to (by simp (disch := omega) only [gdW_true, gdW_false, gB_true, gB_false, gB_undef, pickV_true, pickV_false, Bool.not_true, Bool.not_false, Option.map_some, bin_add, bin_sub, bin_mul, bin_quo, bin_rem, lss_t, lss_f, leq_t, leq_f, gtr_t, gtr_f, geq_t, geq_f, eqi_t, eqi_f, nei_t, nei_f, rem_uw, conv_ui, conv_iu, conv_ii, not_bool, nil_ptr, fa_mk, ptrV, len_mk, cap_mk, eq_ptr_nil, ne_ptr_nil, eq_nil_nil, ne_nil_nil, eq_slice_nil, eq_nil_slice, ia_1, hlen, s1, s2]; exact so_so) ?_)
    exact fin' (fun y hy => by rw [List.drop_of_length_le (by omega)] at hy; simp at hy) v36 v43 s1 s2
theorem use_sizes {F : Asrt} {K : Value → Hp → Prop} {h : Hp} (hh : F h) (hK : ∀ v h', (SG iE 3 v szT * F) h' → K v h') : CallH Tryz.prog 76 #[] K h := by
  refine C76 ?_
  unfold D76
  have eb : bldV #[.int .i64 0, .int .i64 0, .int .i64 0, .int .i64 0, .int .i64 0, .int .i64 0, .int .i64 0, .int .i64 0, .int .i64 0, .int .i64 0, .int .i64 0, .int .i64 0, .int .i64 0, .int .i64 0, .int .i64 0, .int .i64 0] [(0, 1, .int .i64 1), (1, 1, .int .i64 2), (2, 1, .int .i64 3), (3, 1, .int .i64 4), (4, 1, .int .i64 6), (5, 1, .int .i64 8), (6, 1, .int .i64 12), (7, 1, .int .i64 16), (8, 1, .int .i64 24), (9, 1, .int .i64 32), (10, 1, .int .i64 48), (11, 1, .int .i64 64), (12, 1, .int .i64 96), (13, 1, .int .i64 128), (14, 1, .int .i64 192), (15, 1, .int .i64 256)] = some szV := rfl
  rw [eb]
  refine vA_new (f := fun r => .slice (some ⟨r, 0, none⟩) 16 16) hh fun r h' hh' => hK _ h' ?_
  exact SG_intro iE (pre := []) (post := []) rfl rfl (by decide) (by omega) (by decide) hh'
theorem use_rsize {k : Int} {F : Asrt} {K : Value → Hp → Prop} {h : Hp} (hh : (F * tt) h) (hK : ∀ h', (F * tt) h' → K (.int .i64 (szS k)) h') : CallH Tryz.prog 35 #[.int .i64 k] K h := by
  refine C35 ?_
  unfold D35
  by_cases h1 : k < 0
  · repeat (with_reducible first | refine vP_so ?_ | refine vB_t ?_ | refine vB_f ?_ | refine vE_tt ?_ | refine vE_ff ?_ | refine vE_tf ?_ | refine vE_ft ?_ | refine vE_u ?_ | refine vP_to (by simp (disch := omega) only [gdW_true, gdW_false, gB_true, gB_false, gB_undef, pickV_true, pickV_false, Bool.not_true, Bool.not_false, Option.map_some, bin_add, bin_sub, bin_mul, bin_quo, bin_rem, lss_t, lss_f, leq_t, leq_f, gtr_t, gtr_f, geq_t, geq_f, eqi_t, eqi_f, nei_t, nei_f, rem_uw, conv_ui, conv_iu, conv_ii, not_bool, nil_ptr, fa_mk, ptrV, len_mk, cap_mk, eq_ptr_nil, ne_ptr_nil, eq_nil_nil, ne_nil_nil, eq_slice_nil, eq_nil_slice, ia_1]; exact so_so) ?_)
    rw [szS_out (by omega)] at hK
    exact hK h hh
  by_cases h2 : 15 < k
  · repeat (with_reducible first | refine vP_so ?_ | refine vB_t ?_ | refine vB_f ?_ | refine vE_tt ?_ | refine vE_ff ?_ | refine vE_tf ?_ | refine vE_ft ?_ | refine vE_u ?_ | refine vP_to (by simp (disch := omega) only [gdW_true, gdW_false, gB_true, gB_false, gB_undef, pickV_true, pickV_false, Bool.not_true, Bool.not_false, Option.map_some, bin_add, bin_sub, bin_mul, bin_quo, bin_rem, lss_t, lss_f, leq_t, leq_f, gtr_t, gtr_f, geq_t, geq_f, eqi_t, eqi_f, nei_t, nei_f, rem_uw, conv_ui, conv_iu, conv_ii, not_bool, nil_ptr, fa_mk, ptrV, len_mk, cap_mk, eq_ptr_nil, ne_ptr_nil, eq_nil_nil, ne_nil_nil, eq_slice_nil, eq_nil_slice, ia_1]; exact so_so) ?_)
    rw [szS_out (by omega)] at hK
    exact hK h hh
  repeat (with_reducible first | refine vP_so ?_ | refine vB_t ?_ | refine vB_f ?_ | refine vE_tt ?_ | refine vE_ff ?_ | refine vE_tf ?_ | refine vE_ft ?_ | refine vE_u ?_ | refine vP_to (by simp (disch := omega) only [gdW_true, gdW_false, gB_true, gB_false, gB_undef, pickV_true, pickV_false, Bool.not_true, Bool.not_false, Option.map_some, bin_add, bin_sub, bin_mul, bin_quo, bin_rem, lss_t, lss_f, leq_t, leq_f, gtr_t, gtr_f, geq_t, geq_f, eqi_t, eqi_f, nei_t, nei_f, rem_uw, conv_ui, conv_iu, conv_ii, not_bool, nil_ptr, fa_mk, ptrV, len_mk, cap_mk, eq_ptr_nil, ne_ptr_nil, eq_nil_nil, ne_nil_nil, eq_slice_nil, eq_nil_slice, ia_1]; exact so_so) ?_)
  refine use_sizes hh fun v h' hh' => ?_
  obtain ⟨n, rfl⟩ : ∃ n : Nat, k = n := ⟨k.toNat, by omega⟩
  obtain ⟨p, f1, f2, _⟩ := el1 hh' (szT_get (k := n) (by omega)) .i64
  repeat (with_reducible first | refine vP_so ?_ | refine vB_t ?_ | refine vB_f ?_ | refine vE_tt ?_ | refine vE_ff ?_ | refine vE_tf ?_ | refine vE_ft ?_ | refine vE_u ?_ | refine vP_to (by simp (disch := omega) only [gdW_true, gdW_false, gB_true, gB_false, gB_undef, pickV_true, pickV_false, Bool.not_true, Bool.not_false, Option.map_some, bin_add, bin_sub, bin_mul, bin_quo, bin_rem, lss_t, lss_f, leq_t, leq_f, gtr_t, gtr_f, geq_t, geq_f, eqi_t, eqi_f, nei_t, nei_f, rem_uw, conv_ui, conv_iu, conv_ii, not_bool, nil_ptr, fa_mk, ptrV, len_mk, cap_mk, eq_ptr_nil, ne_ptr_nil, eq_nil_nil, ne_nil_nil, eq_slice_nil, eq_nil_slice, ia_1, f1, f2]; exact so_so) ?_)
  exact hK h' (dropL hh')
theorem use_table {F : Asrt} {K : Value → Hp → Prop} {h : Hp} (hh : (F * tt) h) (hK : ∀ h', (F * tt) h' → K (.agg szV) h') : CallH Tryz.prog 69 #[] K h := by
  refine C69 ?_
  unfold D69
  refine vA_new hh fun r h1 hh1 => ?_
  have eb : bldV #[.int .i64 0, .int .i64 0, .int .i64 0, .int .i64 0, .int .i64 0, .int .i64 0, .int .i64 0, .int .i64 0, .int .i64 0, .int .i64 0, .int .i64 0, .int .i64 0, .int .i64 0, .int .i64 0, .int .i64 0, .int .i64 0] [(0, 1, .int .i64 1), (1, 1, .int .i64 2), (2, 1, .int .i64 3), (3, 1, .int .i64 4), (4, 1, .int .i64 6), (5, 1, .int .i64 8), (6, 1, .int .i64 12), (7, 1, .int .i64 16), (8, 1, .int .i64 24), (9, 1, .int .i64 32), (10, 1, .int .i64 48), (11, 1, .int .i64 64), (12, 1, .int .i64 96), (13, 1, .int .i64 128), (14, 1, .int .i64 192), (15, 1, .int .i64 256)] = some szV := rfl
  repeat (with_reducible first | refine vP_so ?_ | refine vB_t ?_ | refine vB_f ?_ | refine vE_tt ?_ | refine vE_ff ?_ | refine vE_tf ?_ | refine vE_ft ?_ | refine vE_u ?_ | refine vP_to (by simp (disch := omega) only [gdW_true, gdW_false, gB_true, gB_false, gB_undef, pickV_true, pickV_false, Bool.not_true, Bool.not_false, Option.map_some, bin_add, bin_sub, bin_mul, bin_quo, bin_rem, lss_t, lss_f, leq_t, leq_f, gtr_t, gtr_f, geq_t, geq_f, eqi_t, eqi_f, nei_t, nei_f, rem_uw, conv_ui, conv_iu, conv_ii, not_bool, nil_ptr, fa_mk, ptrV, len_mk, cap_mk, eq_ptr_nil, ne_ptr_nil, eq_nil_nil, ne_nil_nil, eq_slice_nil, eq_nil_slice, ia_1, eb]; exact so_so) ?_)
  refine stN_mk hh1 (by decide) rfl (by decide) fun h2 hh2 => ?_
  have hb : ldN 16 (.pointer (some ⟨r, 0, none⟩)) h2 = some (.agg szV) := by
    rw [ldN_mk (pt_get hh2) (by decide)]; rfl
  repeat (with_reducible first | refine vP_so ?_ | refine vB_t ?_ | refine vB_f ?_ | refine vE_tt ?_ | refine vE_ff ?_ | refine vE_tf ?_ | refine vE_ft ?_ | refine vE_u ?_ | refine vP_to (by simp (disch := omega) only [gdW_true, gdW_false, gB_true, gB_false, gB_undef, pickV_true, pickV_false, Bool.not_true, Bool.not_false, Option.map_some, bin_add, bin_sub, bin_mul, bin_quo, bin_rem, lss_t, lss_f, leq_t, leq_f, gtr_t, gtr_f, geq_t, geq_f, eqi_t, eqi_f, nei_t, nei_f, rem_uw, conv_ui, conv_iu, conv_ii, not_bool, nil_ptr, fa_mk, ptrV, len_mk, cap_mk, eq_ptr_nil, ne_ptr_nil, eq_nil_nil, ne_nil_nil, eq_slice_nil, eq_nil_slice, ia_1, hb]; exact so_so) ?_)
  exact hK h2 (dropL hh2)
theorem use_count {F : Asrt} {K : Value → Hp → Prop} {h : Hp} (hh : (F * tt) h) (hK : ∀ h', (F * tt) h' → K (.int .i64 16) h') : CallH Tryz.prog 68 #[] K h := by
  refine C68 ?_
  unfold D68
  exact use_table hh hK
theorem use_size {k : Int} {F : Asrt} {K : Value → Hp → Prop} {h : Hp} (hh : (F * tt) h) (hK : ∀ h', (F * tt) h' → K (.int .i64 (szS k)) h') : CallH Tryz.prog 31 #[.int .i64 k] K h := by
  refine C31 ?_
  unfold D31
  by_cases h1 : k < 0
  · repeat (with_reducible first | refine vP_so ?_ | refine vB_t ?_ | refine vB_f ?_ | refine vE_tt ?_ | refine vE_ff ?_ | refine vE_tf ?_ | refine vE_ft ?_ | refine vE_u ?_ | refine vP_to (by simp (disch := omega) only [gdW_true, gdW_false, gB_true, gB_false, gB_undef, pickV_true, pickV_false, Bool.not_true, Bool.not_false, Option.map_some, bin_add, bin_sub, bin_mul, bin_quo, bin_rem, lss_t, lss_f, leq_t, leq_f, gtr_t, gtr_f, geq_t, geq_f, eqi_t, eqi_f, nei_t, nei_f, rem_uw, conv_ui, conv_iu, conv_ii, not_bool, nil_ptr, fa_mk, ptrV, len_mk, cap_mk, eq_ptr_nil, ne_ptr_nil, eq_nil_nil, ne_nil_nil, eq_slice_nil, eq_nil_slice, ia_1]; exact so_so) ?_)
    rw [szS_out (by omega)] at hK
    exact hK h hh
  repeat (with_reducible first | refine vP_so ?_ | refine vB_t ?_ | refine vB_f ?_ | refine vE_tt ?_ | refine vE_ff ?_ | refine vE_tf ?_ | refine vE_ft ?_ | refine vE_u ?_ | refine vP_to (by simp (disch := omega) only [gdW_true, gdW_false, gB_true, gB_false, gB_undef, pickV_true, pickV_false, Bool.not_true, Bool.not_false, Option.map_some, bin_add, bin_sub, bin_mul, bin_quo, bin_rem, lss_t, lss_f, leq_t, leq_f, gtr_t, gtr_f, geq_t, geq_f, eqi_t, eqi_f, nei_t, nei_f, rem_uw, conv_ui, conv_iu, conv_ii, not_bool, nil_ptr, fa_mk, ptrV, len_mk, cap_mk, eq_ptr_nil, ne_ptr_nil, eq_nil_nil, ne_nil_nil, eq_slice_nil, eq_nil_slice, ia_1]; exact so_so) ?_)
  refine use_count hh fun h2 hh2 => ?_
  by_cases h3 : 16 ≤ k
  · repeat (with_reducible first | refine vP_so ?_ | refine vB_t ?_ | refine vB_f ?_ | refine vE_tt ?_ | refine vE_ff ?_ | refine vE_tf ?_ | refine vE_ft ?_ | refine vE_u ?_ | refine vP_to (by simp (disch := omega) only [gdW_true, gdW_false, gB_true, gB_false, gB_undef, pickV_true, pickV_false, Bool.not_true, Bool.not_false, Option.map_some, bin_add, bin_sub, bin_mul, bin_quo, bin_rem, lss_t, lss_f, leq_t, leq_f, gtr_t, gtr_f, geq_t, geq_f, eqi_t, eqi_f, nei_t, nei_f, rem_uw, conv_ui, conv_iu, conv_ii, not_bool, nil_ptr, fa_mk, ptrV, len_mk, cap_mk, eq_ptr_nil, ne_ptr_nil, eq_nil_nil, ne_nil_nil, eq_slice_nil, eq_nil_slice, ia_1]; exact so_so) ?_)
    rw [szS_out (by omega)] at hK
    exact hK h2 hh2
  repeat (with_reducible first | refine vP_so ?_ | refine vB_t ?_ | refine vB_f ?_ | refine vE_tt ?_ | refine vE_ff ?_ | refine vE_tf ?_ | refine vE_ft ?_ | refine vE_u ?_ | refine vP_to (by simp (disch := omega) only [gdW_true, gdW_false, gB_true, gB_false, gB_undef, pickV_true, pickV_false, Bool.not_true, Bool.not_false, Option.map_some, bin_add, bin_sub, bin_mul, bin_quo, bin_rem, lss_t, lss_f, leq_t, leq_f, gtr_t, gtr_f, geq_t, geq_f, eqi_t, eqi_f, nei_t, nei_f, rem_uw, conv_ui, conv_iu, conv_ii, not_bool, nil_ptr, fa_mk, ptrV, len_mk, cap_mk, eq_ptr_nil, ne_ptr_nil, eq_nil_nil, ne_nil_nil, eq_slice_nil, eq_nil_slice, ia_1]; exact so_so) ?_)
  refine use_table hh2 fun h4 hh4 => ?_
  have hix := ix_szV (k := k) (by omega)
  repeat (with_reducible first | refine vP_so ?_ | refine vB_t ?_ | refine vB_f ?_ | refine vE_tt ?_ | refine vE_ff ?_ | refine vE_tf ?_ | refine vE_ft ?_ | refine vE_u ?_ | refine vP_to (by simp (disch := omega) only [gdW_true, gdW_false, gB_true, gB_false, gB_undef, pickV_true, pickV_false, Bool.not_true, Bool.not_false, Option.map_some, bin_add, bin_sub, bin_mul, bin_quo, bin_rem, lss_t, lss_f, leq_t, leq_f, gtr_t, gtr_f, geq_t, geq_f, eqi_t, eqi_f, nei_t, nei_f, rem_uw, conv_ui, conv_iu, conv_ii, not_bool, nil_ptr, fa_mk, ptrV, len_mk, cap_mk, eq_ptr_nil, ne_ptr_nil, eq_nil_nil, ne_nil_nil, eq_slice_nil, eq_nil_slice, ia_1, hix]; exact so_so) ?_)
  exact hK h4 hh4
end Go.Proofs
