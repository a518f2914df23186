/-
  Texts of the proof, in one file: R1, Vw1, Vw2, VwIn.
-/
import Derived.Test.YtdcoflglkfbpcaaB6
import Derived.Test.YtdcoflglkfbpcaaB3
import Derived.Test.YtdcoflglkfbpcaaB5
import Derived.Test.YtdcoflglkfbpcaaProg
set_option linter.unusedVariables false
set_option linter.unusedSimpArgs false
/-
  Contracts: treadmillref1's lists and sizes, package class.
-/
set_option maxRecDepth 100000
namespace Go.Proofs
open Go.Sl

theorem elInt : ElOk Try.prog 22 3 1 8 := elB_ok (by kernel_rfl)
theorem niInts : noInt Try.prog 22 := noInt_sl (e := 3) (by kernel_rfl)

theorem use_ints {sv sw : Value} {xs ys : List Int} {K : Value → Hp → Prop} {h : Hp} (hx : IntsAt h sv xs) (hy : IntsAt h sw ys) (hK : K (.bool (decide (xs = ys))) h) : CallH Try.prog 14 #[sv, sw] K h := by
  refine C14 ?_
  unfold D14
  have h1 := hx.lt
  have h2 := hy.lt
  by_cases hl : xs.length = ys.length
  · repeat (with_reducible first | refine vP_so ?_ | refine vB_t ?_ | refine vB_f ?_ | refine vE_tt ?_ | refine vE_ff ?_ | refine vE_tf ?_ | refine vE_ft ?_ | refine vE_u ?_ | refine vP_to (by simp (disch := omega) only [gdW_true, gdW_false, gB_true, gB_false, gB_undef, pickV_true, pickV_false, Bool.not_true, Bool.not_false, Option.map_some, bin_add, bin_sub, bin_mul, bin_quo, bin_rem, lss_t, lss_f, leq_t, leq_f, gtr_t, gtr_f, geq_t, geq_f, eqi_t, eqi_f, nei_t, nei_f, rem_uw, conv_ui, conv_iu, conv_ii, not_bool, nil_ptr, fa_mk, ptrV, len_mk, cap_mk, eq_ptr_nil, ne_ptr_nil, eq_nil_nil, ne_nil_nil, eq_slice_nil, eq_nil_slice, ia_1, hx.len, hy.len]; exact so_so) ?_)
    refine ⟨fun m zs h' => ∃ i : Nat, zs = [.int .i64 i] ∧ m = xs.length - i ∧ i ≤ xs.length ∧ xs.take i = ys.take i ∧ h' = h, ⟨_, 0, rfl, rfl, by omega, by simp, rfl⟩, ?_⟩
    rintro m v5 h3 ⟨i, hzs, rfl, hi, ht, rfl⟩ _
    obtain rfl : v5 = .int .i64 i := by simpa using hzs
    by_cases hil : i < xs.length
    · obtain ⟨p, f1, f2⟩ := hx.get i xs[i] .i64 (List.getElem?_eq_getElem hil)
      obtain ⟨q, g1, g2⟩ := hy.get i ys[i] .i64 (List.getElem?_eq_getElem (by omega))
      have h4 : xs.take (i + 1) = ys.take (i + 1) ↔ xs[i] = ys[i] := by
        have e1 := List.take_succ_eq_append_getElem hil
        have e2 := List.take_succ_eq_append_getElem (show i < ys.length by omega)
        rw [e1, e2, ht]
        exact ⟨fun q => by simpa using List.append_cancel_left q, fun q => by rw [q]⟩
      have h5 : xs[i] ≠ ys[i] → xs ≠ ys := fun q e => by subst e; exact q rfl
      generalize xs[i] = x at *
      generalize ys[i] = y at *
      by_cases hxy : x = y
      · repeat (with_reducible first | refine vP_so ?_ | refine vB_t ?_ | refine vB_f ?_ | refine vE_tt ?_ | refine vE_ff ?_ | refine vE_tf ?_ | refine vE_ft ?_ | refine vE_u ?_ | refine vP_to (by simp (disch := omega) only [gdW_true, gdW_false, gB_true, gB_false, gB_undef, pickV_true, pickV_false, Bool.not_true, Bool.not_false, Option.map_some, bin_add, bin_sub, bin_mul, bin_quo, bin_rem, lss_t, lss_f, leq_t, leq_f, gtr_t, gtr_f, geq_t, geq_f, eqi_t, eqi_f, nei_t, nei_f, rem_uw, conv_ui, conv_iu, conv_ii, not_bool, nil_ptr, fa_mk, ptrV, len_mk, cap_mk, eq_ptr_nil, ne_ptr_nil, eq_nil_nil, ne_nil_nil, eq_slice_nil, eq_nil_slice, ia_1, hx.len, hy.len, f1, f2, g1, g2]; exact so_so) ?_)
        exact ⟨xs.length - (i + 1), by omega, i + 1, by simp, rfl, by omega, h4.2 hxy, rfl⟩
      · repeat (with_reducible first | refine vP_so ?_ | refine vB_t ?_ | refine vB_f ?_ | refine vE_tt ?_ | refine vE_ff ?_ | refine vE_tf ?_ | refine vE_ft ?_ | refine vE_u ?_ | refine vP_to (by simp (disch := omega) only [gdW_true, gdW_false, gB_true, gB_false, gB_undef, pickV_true, pickV_false, Bool.not_true, Bool.not_false, Option.map_some, bin_add, bin_sub, bin_mul, bin_quo, bin_rem, lss_t, lss_f, leq_t, leq_f, gtr_t, gtr_f, geq_t, geq_f, eqi_t, eqi_f, nei_t, nei_f, rem_uw, conv_ui, conv_iu, conv_ii, not_bool, nil_ptr, fa_mk, ptrV, len_mk, cap_mk, eq_ptr_nil, ne_ptr_nil, eq_nil_nil, ne_nil_nil, eq_slice_nil, eq_nil_slice, ia_1, hx.len, hy.len, f1, f2, g1, g2]; exact so_so) ?_)
        rw [decide_eq_false (h5 hxy)] at hK
        exact hK
    · repeat (with_reducible first | refine vP_so ?_ | refine vB_t ?_ | refine vB_f ?_ | refine vE_tt ?_ | refine vE_ff ?_ | refine vE_tf ?_ | refine vE_ft ?_ | refine vE_u ?_ | refine vP_to (by simp (disch := omega) only [gdW_true, gdW_false, gB_true, gB_false, gB_undef, pickV_true, pickV_false, Bool.not_true, Bool.not_false, Option.map_some, bin_add, bin_sub, bin_mul, bin_quo, bin_rem, lss_t, lss_f, leq_t, leq_f, gtr_t, gtr_f, geq_t, geq_f, eqi_t, eqi_f, nei_t, nei_f, rem_uw, conv_ui, conv_iu, conv_ii, not_bool, nil_ptr, fa_mk, ptrV, len_mk, cap_mk, eq_ptr_nil, ne_ptr_nil, eq_nil_nil, ne_nil_nil, eq_slice_nil, eq_nil_slice, ia_1, hx.len, hy.len]; exact so_so) ?_)
      obtain rfl : i = xs.length := by omega
      rw [List.take_length, hl, List.take_length] at ht
      rw [decide_eq_true ht] at hK
      exact hK
  · repeat (with_reducible first | refine vP_so ?_ | refine vB_t ?_ | refine vB_f ?_ | refine vE_tt ?_ | refine vE_ff ?_ | refine vE_tf ?_ | refine vE_ft ?_ | refine vE_u ?_ | refine vP_to (by simp (disch := omega) only [gdW_true, gdW_false, gB_true, gB_false, gB_undef, pickV_true, pickV_false, Bool.not_true, Bool.not_false, Option.map_some, bin_add, bin_sub, bin_mul, bin_quo, bin_rem, lss_t, lss_f, leq_t, leq_f, gtr_t, gtr_f, geq_t, geq_f, eqi_t, eqi_f, nei_t, nei_f, rem_uw, conv_ui, conv_iu, conv_ii, not_bool, nil_ptr, fa_mk, ptrV, len_mk, cap_mk, eq_ptr_nil, ne_ptr_nil, eq_nil_nil, ne_nil_nil, eq_slice_nil, eq_nil_slice, ia_1, hx.len, hy.len]; exact so_so) ?_)
    rw [decide_eq_false (fun e => hl (by rw [e]))] at hK
    exact hK

theorem use_has {sv : Value} {xs : List Int} {x : Int} {K : Value → Hp → Prop} {h : Hp} (hx : IntsAt h sv xs) (hK : K (.bool (decide (x ∈ xs))) h) : CallH Try.prog 21 #[sv, .int .i64 x] K h := by
  refine C21 ?_
  unfold D21
  have h1 := hx.lt
  refine ⟨fun m zs h' => ∃ i : Nat, zs = [.int .i64 i] ∧ m = xs.length - i ∧ i ≤ xs.length ∧ x ∉ xs.take i ∧ h' = h, ⟨_, 0, rfl, rfl, by omega, by simp, rfl⟩, ?_⟩
  rintro m v5 h3 ⟨i, hzs, rfl, hi, ht, rfl⟩ _
  obtain rfl : v5 = .int .i64 i := by simpa using hzs
  by_cases hil : i < xs.length
  · obtain ⟨p, f1, f2⟩ := hx.get i xs[i] .i64 (List.getElem?_eq_getElem hil)
    have hmem : xs[i] ∈ xs := List.getElem_mem hil
    have h4 : x ∉ xs.take (i + 1) ↔ x ≠ xs[i] := by
      rw [List.take_succ_eq_append_getElem hil, List.mem_append, List.mem_singleton]
      exact ⟨fun q e => q (.inr e), fun q r => r.elim ht q⟩
    generalize xs[i] = y at *
    by_cases hxy : y = x
    · repeat (with_reducible first | refine vP_so ?_ | refine vB_t ?_ | refine vB_f ?_ | refine vE_tt ?_ | refine vE_ff ?_ | refine vE_tf ?_ | refine vE_ft ?_ | refine vE_u ?_ | refine vP_to (by simp (disch := omega) only [gdW_true, gdW_false, gB_true, gB_false, gB_undef, pickV_true, pickV_false, Bool.not_true, Bool.not_false, Option.map_some, bin_add, bin_sub, bin_mul, bin_quo, bin_rem, lss_t, lss_f, leq_t, leq_f, gtr_t, gtr_f, geq_t, geq_f, eqi_t, eqi_f, nei_t, nei_f, rem_uw, conv_ui, conv_iu, conv_ii, not_bool, nil_ptr, fa_mk, ptrV, len_mk, cap_mk, eq_ptr_nil, ne_ptr_nil, eq_nil_nil, ne_nil_nil, eq_slice_nil, eq_nil_slice, ia_1, hx.len, f1, f2]; exact so_so) ?_)
      rw [decide_eq_true (hxy ▸ hmem)] at hK
      exact hK
    · repeat (with_reducible first | refine vP_so ?_ | refine vB_t ?_ | refine vB_f ?_ | refine vE_tt ?_ | refine vE_ff ?_ | refine vE_tf ?_ | refine vE_ft ?_ | refine vE_u ?_ | refine vP_to (by simp (disch := omega) only [gdW_true, gdW_false, gB_true, gB_false, gB_undef, pickV_true, pickV_false, Bool.not_true, Bool.not_false, Option.map_some, bin_add, bin_sub, bin_mul, bin_quo, bin_rem, lss_t, lss_f, leq_t, leq_f, gtr_t, gtr_f, geq_t, geq_f, eqi_t, eqi_f, nei_t, nei_f, rem_uw, conv_ui, conv_iu, conv_ii, not_bool, nil_ptr, fa_mk, ptrV, len_mk, cap_mk, eq_ptr_nil, ne_ptr_nil, eq_nil_nil, ne_nil_nil, eq_slice_nil, eq_nil_slice, ia_1, hx.len, f1, f2]; exact so_so) ?_)
      exact ⟨xs.length - (i + 1), by omega, i + 1, by simp, rfl, by omega, h4.2 (fun e => hxy e.symm), rfl⟩
  · repeat (with_reducible first | refine vP_so ?_ | refine vB_t ?_ | refine vB_f ?_ | refine vE_tt ?_ | refine vE_ff ?_ | refine vE_tf ?_ | refine vE_ft ?_ | refine vE_u ?_ | refine vP_to (by simp (disch := omega) only [gdW_true, gdW_false, gB_true, gB_false, gB_undef, pickV_true, pickV_false, Bool.not_true, Bool.not_false, Option.map_some, bin_add, bin_sub, bin_mul, bin_quo, bin_rem, lss_t, lss_f, leq_t, leq_f, gtr_t, gtr_f, geq_t, geq_f, eqi_t, eqi_f, nei_t, nei_f, rem_uw, conv_ui, conv_iu, conv_ii, not_bool, nil_ptr, fa_mk, ptrV, len_mk, cap_mk, eq_ptr_nil, ne_ptr_nil, eq_nil_nil, ne_nil_nil, eq_slice_nil, eq_nil_slice, ia_1, hx.len]; exact so_so) ?_)
    obtain rfl : i = xs.length := by omega
    rw [List.take_length] at ht
    rw [decide_eq_false ht] at hK
    exact hK

/-- A rising list with a number, once. -/
theorem use_put {sv : Value} {l : List Int} {x : Int} {F : Asrt} {K : Value → Hp → Prop} {h : Hp} (hl : l.length < 1073741824) (hr : Rise l) (hh : (SG iE 3 sv l * (F * tt)) h)
    (hK : ∀ v l' h', Rise l' → (∀ y, y ∈ l' ↔ y ∈ l ∨ y = x) → l'.length ≤ l.length + 1 → (SG iE 3 v l' * (F * tt)) h' → K v h') : CallH Try.prog 60 #[sv, .int .i64 x] K h := by
  refine C60 ?_
  unfold D60
  have hlen := SG_len iE hh
  refine ⟨fun m zs h' => ∃ i : Nat, zs = [.int .i64 i] ∧ m = l.length - i ∧ i ≤ l.length ∧ (∀ y ∈ l.take i, y < x) ∧ h' = h, ⟨_, 0, rfl, rfl, by omega, by simp, rfl⟩, ?_⟩
  rintro m v5 h1 ⟨i, hzs, rfl, hi, hlow, rfl⟩ _
  obtain rfl : v5 = .int .i64 i := by simpa using hzs
  have fin : (∀ y ∈ l.drop i, x < y) → vA ((bldV #[] []).map fun c => (Obj.cells c 3 (0, 0), fun r => Value.slice (some ⟨r, 0, none⟩) 0 0)) (fun v33 h2 =>
      ∀ v36 v43, slV 1 sv none (some (.int .i64 i)) none = some v36 → slV 1 sv (some (.int .i64 i)) none none = some v43 →
      apW Try.prog #[22, 22] 22 v33 v36 (fun v37 h3 =>
        vA ((bldV #[.int .i64 0] [(0, 1, .int .i64 x)]).map fun c => (Obj.cells c 3 (0, 0), fun r => Value.slice (some ⟨r, 0, none⟩) 1 1)) (fun v39 h4 =>
        apW Try.prog #[22, 22] 22 v37 v39 (fun v40 h5 =>
        apW Try.prog #[22, 22] 22 v40 v43 (fun v44 h6 => K v44 h6) h5) h4) h3) h2) h1 := by
    intro hhigh
    have hz : (([] : List Value) ++ (iE.cs ([] : List Int) ++ [])).toArray = (#[] : Array Value) := rfl
    refine vA_new (o := .cells #[] 3 (0, 0)) (f := fun r => .slice (some ⟨r, 0, none⟩) 0 0) hh fun r33 h2 hh2 => ?_
    have hh2 : (SG iE 3 (.slice (some ⟨r33, 0, none⟩) 0 0) [] * (SG iE 3 sv l * F * tt)) h2 :=
      SG_intro iE (pre := []) (post := []) rfl rfl (by simp) (by omega) (by simp) (asr (by rw [hz]; ac_rfl) hh2)
    intro v36 v43 e1 e2
    obtain ⟨v36', s1, p1⟩ := part_to iE (j := i) (F := SG iE 3 (.slice (some ⟨r33, 0, none⟩) 0 0) [] * (F * tt)) (asr (by ac_rfl) hh2) hi .i64
    obtain ⟨v43', s2, p2⟩ := part_from iE (i := i) (F := SG iE 3 (.slice (some ⟨r33, 0, none⟩) 0 0) [] * (F * tt)) (asr (by ac_rfl) hh2) hi .i64
    obtain rfl : v36' = v36 := Option.some.inj (s1.symm.trans e1)
    obtain rfl : v43' = v43 := Option.some.inj (s2.symm.trans e2)
    refine ap_part iE (G := SG iE 3 (.slice (some ⟨r33, 0, none⟩) 0 0) [] * (F * tt)) elInt rfl rfl niInts rfl (by omega) hh2 p1 (asr (by ac_rfl) hh2) (by simp only [List.length_nil, List.length_take]; omega) fun v37 h3 hh3 => ?_
    have eb : bldV #[.int .i64 0] [(0, 1, .int .i64 x)] = some #[.int .i64 x] := rfl
    rw [eb]
    refine vA_new (f := fun r => .slice (some ⟨r, 0, none⟩) 1 1) hh3 fun r39 h4 hh4 => ?_
    refine ap_new iE (l := [] ++ l.take i) (m := [x]) (F := SG iE 3 sv l * F) elInt rfl rfl niInts rfl (by omega) (asr (by ac_rfl) hh4) rfl rfl (by simp only [List.nil_append, List.length_take, List.length_singleton]; omega) fun v40 h5 hh5 => ?_
    refine ap_part iE (G := SG iE 3 v40 ([] ++ l.take i ++ [x]) * (F * tt)) elInt rfl rfl niInts rfl (by omega) hh5 p2 (asr (by ac_rfl) hh5) (by simp only [List.nil_append, List.length_append, List.length_take, List.length_singleton, List.length_drop]; omega) fun v44 h6 hh6 => ?_
    refine hK v44 ([] ++ l.take i ++ [x] ++ l.drop i) h6 ?_ (fun y => ?_) ?_ (dropL (P := SG iE 3 sv l) (Q := SG iE 3 v44 ([] ++ l.take i ++ [x] ++ l.drop i) * F) (asr (by ac_rfl) hh6) |> asr (by ac_rfl))
    · have hr' := hr
      unfold Rise at *
      rw [← List.take_append_drop i l, List.pairwise_append] at hr'
      rw [List.nil_append, List.pairwise_append, List.pairwise_append]
      refine ⟨⟨hr'.1, by simp, fun a ha b hb => ?_⟩, hr'.2.1, fun a ha b hb => ?_⟩
      · simp at hb; subst hb; exact hlow a ha
      · rw [List.mem_append, List.mem_singleton] at ha
        rcases ha with ha | rfl
        · exact hr'.2.2 a ha b hb
        · exact hhigh b hb
    · rw [List.nil_append, List.mem_append, List.mem_append, List.mem_singleton]
      have : y ∈ l ↔ y ∈ l.take i ∨ y ∈ l.drop i := by rw [← List.mem_append, List.take_append_drop]
      rw [this]
      constructor
      · rintro ((h | h) | h)
        · exact .inl (.inl h)
        · exact .inr h
        · exact .inl (.inr h)
      · rintro ((h | h) | h)
        · exact .inl (.inl h)
        · exact .inr h
        · exact .inl (.inr h)
    · simp only [List.nil_append, List.length_append, List.length_take, List.length_singleton, List.length_drop]; omega
  have fin' : (∀ y ∈ l.drop i, x < y) → ∀ v36 v43, slV 1 sv none (some (.int .i64 i)) none = some v36 → slV 1 sv (some (.int .i64 i)) none none = some v43 →
      vA ((bldV #[] []).map fun c => (Obj.cells c 3 (0, 0), fun r => Value.slice (some ⟨r, 0, none⟩) 0 0)) (fun v33 h2 =>
      apW Try.prog #[22, 22] 22 v33 v36 (fun v37 h3 =>
        vA ((bldV #[.int .i64 0] [(0, 1, .int .i64 x)]).map fun c => (Obj.cells c 3 (0, 0), fun r => Value.slice (some ⟨r, 0, none⟩) 1 1)) (fun v39 h4 =>
        apW Try.prog #[22, 22] 22 v37 v39 (fun v40 h5 =>
        apW Try.prog #[22, 22] 22 v40 v43 (fun v44 h6 => K v44 h6) h5) h4) h3) h2) h1 := fun q v36 v43 e1 e2 => vA_mono (fin q) fun v h' f => f v36 v43 e1 e2
  obtain ⟨v36, s1, _⟩ := part_to iE (j := i) hh hi .i64
  obtain ⟨v43, s2, _⟩ := part_from iE (i := i) hh hi .i64
  have s1 : slV 1 sv none (some (.int .i64 i)) none = some v36 := s1
  have s2 : slV 1 sv (some (.int .i64 i)) none none = some v43 := s2
  by_cases hil : i < l.length
  · obtain ⟨p, f1, f2, _⟩ := el1 hh (List.getElem?_eq_getElem hil) .i64
    have hmem : l[i] ∈ l := List.getElem_mem hil
    have hhi : ∀ y ∈ l.drop i, l[i] ≤ y := fun y hy => by
      rw [List.drop_eq_getElem_cons hil, List.mem_cons] at hy
      have hr' := hr
      unfold Rise at hr'
      rw [← List.take_append_drop i l, List.pairwise_append, List.drop_eq_getElem_cons hil, List.pairwise_cons] at hr'
      rcases hy with rfl | hy
      · exact Int.le_refl _
      · have := hr'.2.1.1 y hy; omega
    have htk : ∀ y ∈ l.take (i + 1), y ∈ l.take i ∨ y = l[i] := fun y hy => by
      rw [List.take_succ_eq_append_getElem hil, List.mem_append, List.mem_singleton] at hy
      exact hy
    generalize l[i] = a at *
    rcases Int.lt_trichotomy a x with hax | hax | hax
    · repeat (with_reducible first | refine vP_so ?_ | refine vB_t ?_ | refine vB_f ?_ | refine vE_tt ?_ | refine vE_ff ?_ | refine vE_tf ?_ | refine vE_ft ?_ | refine vE_u ?_ | refine vP_to (by simp (disch := omega) only [gdW_true, gdW_false, gB_true, gB_false, gB_undef, pickV_true, pickV_false, Bool.not_true, Bool.not_false, Option.map_some, bin_add, bin_sub, bin_mul, bin_quo, bin_rem, lss_t, lss_f, leq_t, leq_f, gtr_t, gtr_f, geq_t, geq_f, eqi_t, eqi_f, nei_t, nei_f, rem_uw, conv_ui, conv_iu, conv_ii, not_bool, nil_ptr, fa_mk, ptrV, len_mk, cap_mk, eq_ptr_nil, ne_ptr_nil, eq_nil_nil, ne_nil_nil, eq_slice_nil, eq_nil_slice, ia_1, hlen, f1, f2]; exact so_so) ?_)
      refine ⟨l.length - (i + 1), by omega, i + 1, by simp, rfl, by omega, fun y hy => ?_, rfl⟩
      rcases htk y hy with h | rfl
      · exact hlow y h
      · exact hax
    · repeat (with_reducible first | refine vP_so ?_ | refine vB_t ?_ | refine vB_f ?_ | refine vE_tt ?_ | refine vE_ff ?_ | refine vE_tf ?_ | refine vE_ft ?_ | refine vE_u ?_ | refine vP_to (by simp (disch := omega) only [gdW_true, gdW_false, gB_true, gB_false, gB_undef, pickV_true, pickV_false, Bool.not_true, Bool.not_false, Option.map_some, bin_add, bin_sub, bin_mul, bin_quo, bin_rem, lss_t, lss_f, leq_t, leq_f, gtr_t, gtr_f, geq_t, geq_f, eqi_t, eqi_f, nei_t, nei_f, rem_uw, conv_ui, conv_iu, conv_ii, not_bool, nil_ptr, fa_mk, ptrV, len_mk, cap_mk, eq_ptr_nil, ne_ptr_nil, eq_nil_nil, ne_nil_nil, eq_slice_nil, eq_nil_slice, ia_1, hlen, f1, f2]; exact so_so) ?_)
      refine hK sv l h1 hr (fun y => ⟨.inl, fun q => ?_⟩) (by omega) hh
      rcases q with q | rfl
      · exact q
      · exact hax ▸ hmem
    · repeat (with_reducible first | refine vP_so ?_ | refine vB_t ?_ | refine vB_f ?_ | refine vE_tt ?_ | refine vE_ff ?_ | refine vE_tf ?_ | refine vE_ft ?_ | refine vE_u ?_ | refine vP_to (by simp (disch := omega) only [gdW_true, gdW_false, gB_true, gB_false, gB_undef, pickV_true, pickV_false, Bool.not_true, Bool.not_false, Option.map_some, bin_add, bin_sub, bin_mul, bin_quo, bin_rem, lss_t, lss_f, leq_t, leq_f, gtr_t, gtr_f, geq_t, geq_f, eqi_t, eqi_f, nei_t, nei_f, rem_uw, conv_ui, conv_iu, conv_ii, not_bool, nil_ptr, fa_mk, ptrV, len_mk, cap_mk, eq_ptr_nil, ne_ptr_nil, eq_nil_nil, ne_nil_nil, eq_slice_nil, eq_nil_slice, ia_1, hlen, f1, f2, s1, s2]; exact so_so) ?_)
      exact fin' (fun y hy => by have := hhi y hy; omega) v36 v43 s1 s2
  · repeat (with_reducible first | refine vP_so ?_ | refine vB_t ?_ | refine vB_f ?_ | refine vE_tt ?_ | refine vE_ff ?_ | refine vE_tf ?_ | refine vE_ft ?_ | refine vE_u ?_ | refine vP_to (by simp (disch := omega) only [gdW_true, gdW_false, gB_true, gB_false, gB_undef, pickV_true, pickV_false, Bool.not_true, Bool.not_false, Option.map_some, bin_add, bin_sub, bin_mul, bin_quo, bin_rem, lss_t, lss_f, leq_t, leq_f, gtr_t, gtr_f, geq_t, geq_f, eqi_t, eqi_f, nei_t, nei_f, rem_uw, conv_ui, conv_iu, conv_ii, not_bool, nil_ptr, fa_mk, ptrV, len_mk, cap_mk, eq_ptr_nil, ne_ptr_nil, eq_nil_nil, ne_nil_nil, eq_slice_nil, eq_nil_slice, ia_1, hlen, s1, s2]; exact so_so) ?_)
    exact fin' (fun y hy => by rw [List.drop_of_length_le (by omega)] at hy; simp at hy) v36 v43 s1 s2

/-! ### Sizes -/

theorem use_sizes {F : Asrt} {K : Value → Hp → Prop} {h : Hp} (hh : F h) (hK : ∀ v h', (SG iE 3 v szT * F) h' → K v h') : CallH Try.prog 89 #[] K h := by
  refine C89 ?_
  unfold D89
  have eb : bldV #[.int .i64 0, .int .i64 0, .int .i64 0, .int .i64 0, .int .i64 0, .int .i64 0, .int .i64 0, .int .i64 0, .int .i64 0, .int .i64 0, .int .i64 0, .int .i64 0, .int .i64 0, .int .i64 0, .int .i64 0, .int .i64 0] [(0, 1, .int .i64 1), (1, 1, .int .i64 2), (2, 1, .int .i64 3), (3, 1, .int .i64 4), (4, 1, .int .i64 6), (5, 1, .int .i64 8), (6, 1, .int .i64 12), (7, 1, .int .i64 16), (8, 1, .int .i64 24), (9, 1, .int .i64 32), (10, 1, .int .i64 48), (11, 1, .int .i64 64), (12, 1, .int .i64 96), (13, 1, .int .i64 128), (14, 1, .int .i64 192), (15, 1, .int .i64 256)] = some szV := rfl
  rw [eb]
  refine vA_new (f := fun r => .slice (some ⟨r, 0, none⟩) 16 16) hh fun r h' hh' => hK _ h' ?_
  exact SG_intro iE (pre := []) (post := []) rfl rfl (by decide) (by omega) (by decide) hh'

theorem use_rsize {k : Int} {F : Asrt} {K : Value → Hp → Prop} {h : Hp} (hh : (F * tt) h) (hK : ∀ h', (F * tt) h' → K (.int .i64 (szS k)) h') : CallH Try.prog 81 #[.int .i64 k] K h := by
  refine C81 ?_
  unfold D81
  by_cases h1 : k < 0
  · repeat (with_reducible first | refine vP_so ?_ | refine vB_t ?_ | refine vB_f ?_ | refine vE_tt ?_ | refine vE_ff ?_ | refine vE_tf ?_ | refine vE_ft ?_ | refine vE_u ?_ | refine vP_to (by simp (disch := omega) only [gdW_true, gdW_false, gB_true, gB_false, gB_undef, pickV_true, pickV_false, Bool.not_true, Bool.not_false, Option.map_some, bin_add, bin_sub, bin_mul, bin_quo, bin_rem, lss_t, lss_f, leq_t, leq_f, gtr_t, gtr_f, geq_t, geq_f, eqi_t, eqi_f, nei_t, nei_f, rem_uw, conv_ui, conv_iu, conv_ii, not_bool, nil_ptr, fa_mk, ptrV, len_mk, cap_mk, eq_ptr_nil, ne_ptr_nil, eq_nil_nil, ne_nil_nil, eq_slice_nil, eq_nil_slice, ia_1]; exact so_so) ?_)
    rw [szS_out (by omega)] at hK
    exact hK h hh
  by_cases h2 : 15 < k
  · repeat (with_reducible first | refine vP_so ?_ | refine vB_t ?_ | refine vB_f ?_ | refine vE_tt ?_ | refine vE_ff ?_ | refine vE_tf ?_ | refine vE_ft ?_ | refine vE_u ?_ | refine vP_to (by simp (disch := omega) only [gdW_true, gdW_false, gB_true, gB_false, gB_undef, pickV_true, pickV_false, Bool.not_true, Bool.not_false, Option.map_some, bin_add, bin_sub, bin_mul, bin_quo, bin_rem, lss_t, lss_f, leq_t, leq_f, gtr_t, gtr_f, geq_t, geq_f, eqi_t, eqi_f, nei_t, nei_f, rem_uw, conv_ui, conv_iu, conv_ii, not_bool, nil_ptr, fa_mk, ptrV, len_mk, cap_mk, eq_ptr_nil, ne_ptr_nil, eq_nil_nil, ne_nil_nil, eq_slice_nil, eq_nil_slice, ia_1]; exact so_so) ?_)
    rw [szS_out (by omega)] at hK
    exact hK h hh
  repeat (with_reducible first | refine vP_so ?_ | refine vB_t ?_ | refine vB_f ?_ | refine vE_tt ?_ | refine vE_ff ?_ | refine vE_tf ?_ | refine vE_ft ?_ | refine vE_u ?_ | refine vP_to (by simp (disch := omega) only [gdW_true, gdW_false, gB_true, gB_false, gB_undef, pickV_true, pickV_false, Bool.not_true, Bool.not_false, Option.map_some, bin_add, bin_sub, bin_mul, bin_quo, bin_rem, lss_t, lss_f, leq_t, leq_f, gtr_t, gtr_f, geq_t, geq_f, eqi_t, eqi_f, nei_t, nei_f, rem_uw, conv_ui, conv_iu, conv_ii, not_bool, nil_ptr, fa_mk, ptrV, len_mk, cap_mk, eq_ptr_nil, ne_ptr_nil, eq_nil_nil, ne_nil_nil, eq_slice_nil, eq_nil_slice, ia_1]; exact so_so) ?_)
  refine use_sizes hh fun v h' hh' => ?_
  obtain ⟨n, rfl⟩ : ∃ n : Nat, k = n := ⟨k.toNat, by omega⟩
  obtain ⟨p, f1, f2, _⟩ := el1 hh' (szT_get (k := n) (by omega)) .i64
  repeat (with_reducible first | refine vP_so ?_ | refine vB_t ?_ | refine vB_f ?_ | refine vE_tt ?_ | refine vE_ff ?_ | refine vE_tf ?_ | refine vE_ft ?_ | refine vE_u ?_ | refine vP_to (by simp (disch := omega) only [gdW_true, gdW_false, gB_true, gB_false, gB_undef, pickV_true, pickV_false, Bool.not_true, Bool.not_false, Option.map_some, bin_add, bin_sub, bin_mul, bin_quo, bin_rem, lss_t, lss_f, leq_t, leq_f, gtr_t, gtr_f, geq_t, geq_f, eqi_t, eqi_f, nei_t, nei_f, rem_uw, conv_ui, conv_iu, conv_ii, not_bool, nil_ptr, fa_mk, ptrV, len_mk, cap_mk, eq_ptr_nil, ne_ptr_nil, eq_nil_nil, ne_nil_nil, eq_slice_nil, eq_nil_slice, ia_1, f1, f2]; exact so_so) ?_)
  exact hK h' (dropL hh')

theorem use_rof {n : Int} {F : Asrt} {K : Value → Hp → Prop} {h : Hp} (hh : (F * tt) h) (hK : ∀ h', (F * tt) h' → K (.int .i64 (ofS n)) h') : CallH Try.prog 82 #[.int .i64 n] K h := by
  refine C82 ?_
  unfold D82
  by_cases h1 : n < 1
  · repeat (with_reducible first | refine vP_so ?_ | refine vB_t ?_ | refine vB_f ?_ | refine vE_tt ?_ | refine vE_ff ?_ | refine vE_tf ?_ | refine vE_ft ?_ | refine vE_u ?_ | refine vP_to (by simp (disch := omega) only [gdW_true, gdW_false, gB_true, gB_false, gB_undef, pickV_true, pickV_false, Bool.not_true, Bool.not_false, Option.map_some, bin_add, bin_sub, bin_mul, bin_quo, bin_rem, lss_t, lss_f, leq_t, leq_f, gtr_t, gtr_f, geq_t, geq_f, eqi_t, eqi_f, nei_t, nei_f, rem_uw, conv_ui, conv_iu, conv_ii, not_bool, nil_ptr, fa_mk, ptrV, len_mk, cap_mk, eq_ptr_nil, ne_ptr_nil, eq_nil_nil, ne_nil_nil, eq_slice_nil, eq_nil_slice, ia_1]; exact so_so) ?_)
    have : ofS n = -1 := by unfold ofS; rw [if_neg (by omega)]
    rw [this] at hK
    exact hK h hh
  by_cases h2 : 256 < n
  · repeat (with_reducible first | refine vP_so ?_ | refine vB_t ?_ | refine vB_f ?_ | refine vE_tt ?_ | refine vE_ff ?_ | refine vE_tf ?_ | refine vE_ft ?_ | refine vE_u ?_ | refine vP_to (by simp (disch := omega) only [gdW_true, gdW_false, gB_true, gB_false, gB_undef, pickV_true, pickV_false, Bool.not_true, Bool.not_false, Option.map_some, bin_add, bin_sub, bin_mul, bin_quo, bin_rem, lss_t, lss_f, leq_t, leq_f, gtr_t, gtr_f, geq_t, geq_f, eqi_t, eqi_f, nei_t, nei_f, rem_uw, conv_ui, conv_iu, conv_ii, not_bool, nil_ptr, fa_mk, ptrV, len_mk, cap_mk, eq_ptr_nil, ne_ptr_nil, eq_nil_nil, ne_nil_nil, eq_slice_nil, eq_nil_slice, ia_1]; exact so_so) ?_)
    have : ofS n = -1 := by unfold ofS; rw [if_neg (by omega)]
    rw [this] at hK
    exact hK h hh
  obtain ⟨a, b, c⟩ := ofN_spec (n := n) (by omega)
  repeat (with_reducible first | refine vP_so ?_ | refine vB_t ?_ | refine vB_f ?_ | refine vE_tt ?_ | refine vE_ff ?_ | refine vE_tf ?_ | refine vE_ft ?_ | refine vE_u ?_ | refine vP_to (by simp (disch := omega) only [gdW_true, gdW_false, gB_true, gB_false, gB_undef, pickV_true, pickV_false, Bool.not_true, Bool.not_false, Option.map_some, bin_add, bin_sub, bin_mul, bin_quo, bin_rem, lss_t, lss_f, leq_t, leq_f, gtr_t, gtr_f, geq_t, geq_f, eqi_t, eqi_f, nei_t, nei_f, rem_uw, conv_ui, conv_iu, conv_ii, not_bool, nil_ptr, fa_mk, ptrV, len_mk, cap_mk, eq_ptr_nil, ne_ptr_nil, eq_nil_nil, ne_nil_nil, eq_slice_nil, eq_nil_slice, ia_1]; exact so_so) ?_)
  refine ⟨fun m zs h' => ∃ k : Nat, zs = [.int .i64 k] ∧ m = 16 - k ∧ k ≤ ofN n ∧ (F * tt) h', ⟨_, 0, rfl, rfl, by omega, hh⟩, ?_⟩
  rintro m v3 h3 ⟨k, hzs, rfl, hk, hh3⟩ _
  obtain rfl : v3 = .int .i64 k := by simpa using hzs
  refine use_rsize hh3 fun h4 hh4 => ?_
  by_cases hlt : szS k < n
  · repeat (with_reducible first | refine vP_so ?_ | refine vB_t ?_ | refine vB_f ?_ | refine vE_tt ?_ | refine vE_ff ?_ | refine vE_tf ?_ | refine vE_ft ?_ | refine vE_u ?_ | refine vP_to (by simp (disch := omega) only [gdW_true, gdW_false, gB_true, gB_false, gB_undef, pickV_true, pickV_false, Bool.not_true, Bool.not_false, Option.map_some, bin_add, bin_sub, bin_mul, bin_quo, bin_rem, lss_t, lss_f, leq_t, leq_f, gtr_t, gtr_f, geq_t, geq_f, eqi_t, eqi_f, nei_t, nei_f, rem_uw, conv_ui, conv_iu, conv_ii, not_bool, nil_ptr, fa_mk, ptrV, len_mk, cap_mk, eq_ptr_nil, ne_ptr_nil, eq_nil_nil, ne_nil_nil, eq_slice_nil, eq_nil_slice, ia_1]; exact so_so) ?_)
    have : k ≠ ofN n := fun e => by rw [e] at hlt; omega
    exact ⟨16 - (k + 1), by omega, k + 1, by simp, rfl, by omega, hh4⟩
  · repeat (with_reducible first | refine vP_so ?_ | refine vB_t ?_ | refine vB_f ?_ | refine vE_tt ?_ | refine vE_ff ?_ | refine vE_tf ?_ | refine vE_ft ?_ | refine vE_u ?_ | refine vP_to (by simp (disch := omega) only [gdW_true, gdW_false, gB_true, gB_false, gB_undef, pickV_true, pickV_false, Bool.not_true, Bool.not_false, Option.map_some, bin_add, bin_sub, bin_mul, bin_quo, bin_rem, lss_t, lss_f, leq_t, leq_f, gtr_t, gtr_f, geq_t, geq_f, eqi_t, eqi_f, nei_t, nei_f, rem_uw, conv_ui, conv_iu, conv_ii, not_bool, nil_ptr, fa_mk, ptrV, len_mk, cap_mk, eq_ptr_nil, ne_ptr_nil, eq_nil_nil, ne_nil_nil, eq_slice_nil, eq_nil_slice, ia_1]; exact so_so) ?_)
    have : k = ofN n := by
      rcases Nat.lt_or_ge k (ofN n) with q | q
      · have := c k q; omega
      · omega
    have e : ofS n = (k : Int) := by unfold ofS; rw [if_pos (by omega), this]
    rw [e] at hK
    exact hK h4 hh4

theorem use_table {F : Asrt} {K : Value → Hp → Prop} {h : Hp} (hh : (F * tt) h) (hK : ∀ h', (F * tt) h' → K (.agg szV) h') : CallH Try.prog 71 #[] K h := by
  refine C71 ?_
  unfold D71
  refine vA_new hh fun r h1 hh1 => ?_
  have eb : bldV #[.int .i64 0, .int .i64 0, .int .i64 0, .int .i64 0, .int .i64 0, .int .i64 0, .int .i64 0, .int .i64 0, .int .i64 0, .int .i64 0, .int .i64 0, .int .i64 0, .int .i64 0, .int .i64 0, .int .i64 0, .int .i64 0] [(0, 1, .int .i64 1), (1, 1, .int .i64 2), (2, 1, .int .i64 3), (3, 1, .int .i64 4), (4, 1, .int .i64 6), (5, 1, .int .i64 8), (6, 1, .int .i64 12), (7, 1, .int .i64 16), (8, 1, .int .i64 24), (9, 1, .int .i64 32), (10, 1, .int .i64 48), (11, 1, .int .i64 64), (12, 1, .int .i64 96), (13, 1, .int .i64 128), (14, 1, .int .i64 192), (15, 1, .int .i64 256)] = some szV := rfl
  repeat (with_reducible first | refine vP_so ?_ | refine vB_t ?_ | refine vB_f ?_ | refine vE_tt ?_ | refine vE_ff ?_ | refine vE_tf ?_ | refine vE_ft ?_ | refine vE_u ?_ | refine vP_to (by simp (disch := omega) only [gdW_true, gdW_false, gB_true, gB_false, gB_undef, pickV_true, pickV_false, Bool.not_true, Bool.not_false, Option.map_some, bin_add, bin_sub, bin_mul, bin_quo, bin_rem, lss_t, lss_f, leq_t, leq_f, gtr_t, gtr_f, geq_t, geq_f, eqi_t, eqi_f, nei_t, nei_f, rem_uw, conv_ui, conv_iu, conv_ii, not_bool, nil_ptr, fa_mk, ptrV, len_mk, cap_mk, eq_ptr_nil, ne_ptr_nil, eq_nil_nil, ne_nil_nil, eq_slice_nil, eq_nil_slice, ia_1, eb]; exact so_so) ?_)
  refine stN_mk hh1 (by decide) rfl (by decide) fun h2 hh2 => ?_
  have hb : ldN 16 (.pointer (some ⟨r, 0, none⟩)) h2 = some (.agg szV) := by
    rw [ldN_mk (pt_get hh2) (by decide)]; rfl
  repeat (with_reducible first | refine vP_so ?_ | refine vB_t ?_ | refine vB_f ?_ | refine vE_tt ?_ | refine vE_ff ?_ | refine vE_tf ?_ | refine vE_ft ?_ | refine vE_u ?_ | refine vP_to (by simp (disch := omega) only [gdW_true, gdW_false, gB_true, gB_false, gB_undef, pickV_true, pickV_false, Bool.not_true, Bool.not_false, Option.map_some, bin_add, bin_sub, bin_mul, bin_quo, bin_rem, lss_t, lss_f, leq_t, leq_f, gtr_t, gtr_f, geq_t, geq_f, eqi_t, eqi_f, nei_t, nei_f, rem_uw, conv_ui, conv_iu, conv_ii, not_bool, nil_ptr, fa_mk, ptrV, len_mk, cap_mk, eq_ptr_nil, ne_ptr_nil, eq_nil_nil, ne_nil_nil, eq_slice_nil, eq_nil_slice, ia_1, hb]; exact so_so) ?_)
  exact hK h2 (dropL hh2)

theorem use_count {F : Asrt} {K : Value → Hp → Prop} {h : Hp} (hh : (F * tt) h) (hK : ∀ h', (F * tt) h' → K (.int .i64 16) h') : CallH Try.prog 72 #[] K h := by
  refine C72 ?_
  unfold D72
  exact use_table hh hK

theorem use_size {k : Int} {F : Asrt} {K : Value → Hp → Prop} {h : Hp} (hh : (F * tt) h) (hK : ∀ h', (F * tt) h' → K (.int .i64 (szS k)) h') : CallH Try.prog 51 #[.int .i64 k] K h := by
  refine C51 ?_
  unfold D51
  by_cases h1 : k < 0
  · repeat (with_reducible first | refine vP_so ?_ | refine vB_t ?_ | refine vB_f ?_ | refine vE_tt ?_ | refine vE_ff ?_ | refine vE_tf ?_ | refine vE_ft ?_ | refine vE_u ?_ | refine vP_to (by simp (disch := omega) only [gdW_true, gdW_false, gB_true, gB_false, gB_undef, pickV_true, pickV_false, Bool.not_true, Bool.not_false, Option.map_some, bin_add, bin_sub, bin_mul, bin_quo, bin_rem, lss_t, lss_f, leq_t, leq_f, gtr_t, gtr_f, geq_t, geq_f, eqi_t, eqi_f, nei_t, nei_f, rem_uw, conv_ui, conv_iu, conv_ii, not_bool, nil_ptr, fa_mk, ptrV, len_mk, cap_mk, eq_ptr_nil, ne_ptr_nil, eq_nil_nil, ne_nil_nil, eq_slice_nil, eq_nil_slice, ia_1]; exact so_so) ?_)
    rw [szS_out (by omega)] at hK
    exact hK h hh
  repeat (with_reducible first | refine vP_so ?_ | refine vB_t ?_ | refine vB_f ?_ | refine vE_tt ?_ | refine vE_ff ?_ | refine vE_tf ?_ | refine vE_ft ?_ | refine vE_u ?_ | refine vP_to (by simp (disch := omega) only [gdW_true, gdW_false, gB_true, gB_false, gB_undef, pickV_true, pickV_false, Bool.not_true, Bool.not_false, Option.map_some, bin_add, bin_sub, bin_mul, bin_quo, bin_rem, lss_t, lss_f, leq_t, leq_f, gtr_t, gtr_f, geq_t, geq_f, eqi_t, eqi_f, nei_t, nei_f, rem_uw, conv_ui, conv_iu, conv_ii, not_bool, nil_ptr, fa_mk, ptrV, len_mk, cap_mk, eq_ptr_nil, ne_ptr_nil, eq_nil_nil, ne_nil_nil, eq_slice_nil, eq_nil_slice, ia_1]; exact so_so) ?_)
  refine use_count hh fun h2 hh2 => ?_
  by_cases h3 : 16 ≤ k
  · repeat (with_reducible first | refine vP_so ?_ | refine vB_t ?_ | refine vB_f ?_ | refine vE_tt ?_ | refine vE_ff ?_ | refine vE_tf ?_ | refine vE_ft ?_ | refine vE_u ?_ | refine vP_to (by simp (disch := omega) only [gdW_true, gdW_false, gB_true, gB_false, gB_undef, pickV_true, pickV_false, Bool.not_true, Bool.not_false, Option.map_some, bin_add, bin_sub, bin_mul, bin_quo, bin_rem, lss_t, lss_f, leq_t, leq_f, gtr_t, gtr_f, geq_t, geq_f, eqi_t, eqi_f, nei_t, nei_f, rem_uw, conv_ui, conv_iu, conv_ii, not_bool, nil_ptr, fa_mk, ptrV, len_mk, cap_mk, eq_ptr_nil, ne_ptr_nil, eq_nil_nil, ne_nil_nil, eq_slice_nil, eq_nil_slice, ia_1]; exact so_so) ?_)
    rw [szS_out (by omega)] at hK
    exact hK h2 hh2
  repeat (with_reducible first | refine vP_so ?_ | refine vB_t ?_ | refine vB_f ?_ | refine vE_tt ?_ | refine vE_ff ?_ | refine vE_tf ?_ | refine vE_ft ?_ | refine vE_u ?_ | refine vP_to (by simp (disch := omega) only [gdW_true, gdW_false, gB_true, gB_false, gB_undef, pickV_true, pickV_false, Bool.not_true, Bool.not_false, Option.map_some, bin_add, bin_sub, bin_mul, bin_quo, bin_rem, lss_t, lss_f, leq_t, leq_f, gtr_t, gtr_f, geq_t, geq_f, eqi_t, eqi_f, nei_t, nei_f, rem_uw, conv_ui, conv_iu, conv_ii, not_bool, nil_ptr, fa_mk, ptrV, len_mk, cap_mk, eq_ptr_nil, ne_ptr_nil, eq_nil_nil, ne_nil_nil, eq_slice_nil, eq_nil_slice, ia_1]; exact so_so) ?_)
  refine use_table hh2 fun h4 hh4 => ?_
  have hix := ix_szV (k := k) (by omega)
  repeat (with_reducible first | refine vP_so ?_ | refine vB_t ?_ | refine vB_f ?_ | refine vE_tt ?_ | refine vE_ff ?_ | refine vE_tf ?_ | refine vE_ft ?_ | refine vE_u ?_ | refine vP_to (by simp (disch := omega) only [gdW_true, gdW_false, gB_true, gB_false, gB_undef, pickV_true, pickV_false, Bool.not_true, Bool.not_false, Option.map_some, bin_add, bin_sub, bin_mul, bin_quo, bin_rem, lss_t, lss_f, leq_t, leq_f, gtr_t, gtr_f, geq_t, geq_f, eqi_t, eqi_f, nei_t, nei_f, rem_uw, conv_ui, conv_iu, conv_ii, not_bool, nil_ptr, fa_mk, ptrV, len_mk, cap_mk, eq_ptr_nil, ne_ptr_nil, eq_nil_nil, ne_nil_nil, eq_slice_nil, eq_nil_slice, ia_1, hix]; exact so_so) ?_)
  exact hK h4 hh4

theorem use_of {n : Int} {F : Asrt} {K : Value → Hp → Prop} {h : Hp} (hh : (F * tt) h) (hK : ∀ h', (F * tt) h' → K (.int .i64 (ofS n)) h') : CallH Try.prog 50 #[.int .i64 n] K h := by
  refine C50 ?_
  unfold D50
  refine use_table hh fun h1 hh1 => ?_
  refine ⟨fun m zs h' => ∃ k : Nat, zs = [.int .i64 k] ∧ m = 16 - k ∧ k ≤ 16 ∧ (∀ j : Nat, j < k → n < 1 ∨ szS j < n) ∧ h' = h1, ⟨_, 0, rfl, rfl, by omega, fun j hj => by omega, rfl⟩, ?_⟩
  rintro m v6 h2 ⟨k, hzs, rfl, hk, hno, rfl⟩ _
  obtain rfl : v6 = .int .i64 k := by simpa using hzs
  by_cases hk16 : k < 16
  · have hix := ix_szV (k := (k : Int)) (by omega)
    have hp := szS_pos (k := (k : Int)) (by omega)
    by_cases h1 : n < 1
    · repeat (with_reducible first | refine vP_so ?_ | refine vB_t ?_ | refine vB_f ?_ | refine vE_tt ?_ | refine vE_ff ?_ | refine vE_tf ?_ | refine vE_ft ?_ | refine vE_u ?_ | refine vP_to (by simp (disch := omega) only [gdW_true, gdW_false, gB_true, gB_false, gB_undef, pickV_true, pickV_false, Bool.not_true, Bool.not_false, Option.map_some, bin_add, bin_sub, bin_mul, bin_quo, bin_rem, lss_t, lss_f, leq_t, leq_f, gtr_t, gtr_f, geq_t, geq_f, eqi_t, eqi_f, nei_t, nei_f, rem_uw, conv_ui, conv_iu, conv_ii, not_bool, nil_ptr, fa_mk, ptrV, len_mk, cap_mk, eq_ptr_nil, ne_ptr_nil, eq_nil_nil, ne_nil_nil, eq_slice_nil, eq_nil_slice, ia_1, hix]; exact so_so) ?_)
      refine ⟨16 - (k + 1), by omega, k + 1, by simp, rfl, by omega, fun j hj => .inl h1, rfl⟩
    by_cases h3 : n ≤ szS k
    · repeat (with_reducible first | refine vP_so ?_ | refine vB_t ?_ | refine vB_f ?_ | refine vE_tt ?_ | refine vE_ff ?_ | refine vE_tf ?_ | refine vE_ft ?_ | refine vE_u ?_ | refine vP_to (by simp (disch := omega) only [gdW_true, gdW_false, gB_true, gB_false, gB_undef, pickV_true, pickV_false, Bool.not_true, Bool.not_false, Option.map_some, bin_add, bin_sub, bin_mul, bin_quo, bin_rem, lss_t, lss_f, leq_t, leq_f, gtr_t, gtr_f, geq_t, geq_f, eqi_t, eqi_f, nei_t, nei_f, rem_uw, conv_ui, conv_iu, conv_ii, not_bool, nil_ptr, fa_mk, ptrV, len_mk, cap_mk, eq_ptr_nil, ne_ptr_nil, eq_nil_nil, ne_nil_nil, eq_slice_nil, eq_nil_slice, ia_1, hix]; exact so_so) ?_)
      have e : ofS n = (k : Int) := by
        unfold ofS
        rw [if_pos (by omega), ← ofN_uniq (k := k) (by omega) hk16 h3 fun j hj => by rcases hno j hj with q | q <;> omega]
      rw [e] at hK
      exact hK h2 hh1
    · repeat (with_reducible first | refine vP_so ?_ | refine vB_t ?_ | refine vB_f ?_ | refine vE_tt ?_ | refine vE_ff ?_ | refine vE_tf ?_ | refine vE_ft ?_ | refine vE_u ?_ | refine vP_to (by simp (disch := omega) only [gdW_true, gdW_false, gB_true, gB_false, gB_undef, pickV_true, pickV_false, Bool.not_true, Bool.not_false, Option.map_some, bin_add, bin_sub, bin_mul, bin_quo, bin_rem, lss_t, lss_f, leq_t, leq_f, gtr_t, gtr_f, geq_t, geq_f, eqi_t, eqi_f, nei_t, nei_f, rem_uw, conv_ui, conv_iu, conv_ii, not_bool, nil_ptr, fa_mk, ptrV, len_mk, cap_mk, eq_ptr_nil, ne_ptr_nil, eq_nil_nil, ne_nil_nil, eq_slice_nil, eq_nil_slice, ia_1, hix]; exact so_so) ?_)
      refine ⟨16 - (k + 1), by omega, k + 1, by simp, rfl, by omega, fun j hj => ?_, rfl⟩
      by_cases hjk : j = k
      · subst hjk; exact .inr (by omega)
      · exact hno j (by omega)
  · obtain rfl : k = 16 := by omega
    repeat (with_reducible first | refine vP_so ?_ | refine vB_t ?_ | refine vB_f ?_ | refine vE_tt ?_ | refine vE_ff ?_ | refine vE_tf ?_ | refine vE_ft ?_ | refine vE_u ?_ | refine vP_to (by simp (disch := omega) only [gdW_true, gdW_false, gB_true, gB_false, gB_undef, pickV_true, pickV_false, Bool.not_true, Bool.not_false, Option.map_some, bin_add, bin_sub, bin_mul, bin_quo, bin_rem, lss_t, lss_f, leq_t, leq_f, gtr_t, gtr_f, geq_t, geq_f, eqi_t, eqi_f, nei_t, nei_f, rem_uw, conv_ui, conv_iu, conv_ii, not_bool, nil_ptr, fa_mk, ptrV, len_mk, cap_mk, eq_ptr_nil, ne_ptr_nil, eq_nil_nil, ne_nil_nil, eq_slice_nil, eq_nil_slice, ia_1]; exact so_so) ?_)
    have e : ofS n = -1 := by
      unfold ofS
      rw [if_neg]
      intro hn
      obtain ⟨a, b, c⟩ := ofN_spec (n := n) (by omega)
      rcases hno _ a with q | q <;> omega
    rw [e] at hK
    exact hK h2 hh1

end Go.Proofs

/-
  Contracts of package view: places, Roots.
-/
set_option maxRecDepth 100000
namespace Go.Proofs
open Go.Sl

theorem mapII : Try.prog.underlying 51 = some (.map 3 3) := Try.underlying51
theorem intU : Try.prog.underlying 3 = some (.int .i64) := Try.underlying3
theorem zInt : zOf Try.prog 3 = some (.int .i64 0) := by kernel_rfl

/-- A view's own copy: its cells. -/
theorem vw_ld {r : Nat} {w : VW} {F : Asrt} {h : Hp} {E : Nat} (hh : (pt r (.cells w.cells E (0, 0)) * F) h) :
    ld1 (.pointer (some ⟨r, 0 + 0, none⟩)) h = some (.int .i64 w.phase) ∧ ld1 (.pointer (some ⟨r, 0 + 1, none⟩)) h = some (.int .i64 w.cycle) ∧ ld1 (.pointer (some ⟨r, 0 + 2, none⟩)) h = some (.int .i64 w.clock) ∧
    ld1 (.pointer (some ⟨r, 0 + 3, none⟩)) h = some w.gv ∧ ld1 (.pointer (some ⟨r, 0 + 4, none⟩)) h = some w.sv ∧ ld1 (.pointer (some ⟨r, 0 + 5, none⟩)) h = some w.ov ∧
    ld1 (.pointer (some ⟨r, 0 + 6, none⟩)) h = some (.int .i64 w.grey) ∧ ld1 (.pointer (some ⟨r, 0 + 7, none⟩)) h = some (.int .i64 w.notes) ∧ ld1 (.pointer (some ⟨r, 0 + 8, none⟩)) h = some (.int .i64 w.roots) ∧
    ldN 9 (.pointer (some ⟨r, 0, none⟩)) h = some w.val := by
  have hb := pt_get hh
  refine ⟨ld1_mk hb rfl, ld1_mk hb rfl, ld1_mk hb rfl, ld1_mk hb rfl, ld1_mk hb rfl, ld1_mk hb rfl, ld1_mk hb rfl, ld1_mk hb rfl, ld1_mk hb rfl, ?_⟩
  rw [ldN_mk hb (by simp [VW.cells])]
  rfl

/-- The first place of each address. -/
def atM (os : List Ob) : Int → Option Value := fun x => (os.findIdx? fun o => o.addr == x).map fun (i : Nat) => Value.int .i64 (i : Int)

theorem atM_snoc (os : List Ob) (o : Ob) : atM (os ++ [o]) = (if (os.findIdx? fun q => q.addr == o.addr).isSome then atM os else fun x => if x = o.addr then some (.int .i64 os.length) else atM os x) := by
  funext x
  unfold atM
  rw [List.findIdx?_append]
  split
  · rename_i h
    cases hx : os.findIdx? (fun q => q.addr == x) with
    | some i => simp [hx]
    | none =>
      by_cases e : x = o.addr
      · subst e; rw [hx] at h; simp at h
      · have : (o.addr == x) = false := by simpa using fun q => e q.symm
        simp [hx, List.findIdx?_cons, this]
  · rename_i h
    by_cases e : x = o.addr
    · subst e
      have hx : os.findIdx? (fun q => q.addr == o.addr) = none := by simpa using h
      simp [hx, List.findIdx?_cons]
    · have : (o.addr == x) = false := by simpa using fun q => e q.symm
      cases hx : os.findIdx? (fun q => q.addr == x) <;> simp [hx, List.findIdx?_cons, this, e]

theorem use_places {g : Hp} {w : VW} {F : Asrt} {K : Value → Hp → Prop} {h : Hp} (hv : VAt g w) (hh : (own g * (F * tt)) h)
    (hK : ∀ r h', (MP r (atM w.objs) * (own g * (F * tt))) h' → K (.map (some r)) h') : CallH Try.prog 41 #[w.val] K h := by
  refine C41 ?_
  unfold D41
  have hol := hv.objs_len
  refine vA_new (o := .cells w.cells 26 (0, 0)) hh fun r1 h1 hh1 => ?_
  refine vA_new (f := fun r => .map (some r)) hh1 fun r8 h2 hh2 => ?_
  have hh2 : (MP r8 (fun _ => none) * (pt r1 (.cells w.cells 26 (0, 0)) * (own g * (F * tt)))) h2 := MP_new hh2
  have l5 := (vw_ld (r := r1) (w := w) (E := 26) (F := MP r8 (fun _ => none) * (own g * (F * tt))) (asr (by ac_rfl) hh2)).2.2.2.2.2.1
  repeat (with_reducible first | refine vP_so ?_ | refine vB_t ?_ | refine vB_f ?_ | refine vE_tt ?_ | refine vE_ff ?_ | refine vE_tf ?_ | refine vE_ft ?_ | refine vE_u ?_ | refine vP_to (by simp (disch := omega) only [gdW_true, gdW_false, gB_true, gB_false, gB_undef, pickV_true, pickV_false, Bool.not_true, Bool.not_false, Option.map_some, bin_add, bin_sub, bin_mul, bin_quo, bin_rem, lss_t, lss_f, leq_t, leq_f, gtr_t, gtr_f, geq_t, geq_f, eqi_t, eqi_f, nei_t, nei_f, rem_uw, conv_ui, conv_iu, conv_ii, not_bool, nil_ptr, fa_mk, ptrV, len_mk, cap_mk, eq_ptr_nil, ne_ptr_nil, eq_nil_nil, ne_nil_nil, eq_slice_nil, eq_nil_slice, ia_1, l5, hol.1]; exact so_so) ?_)
  refine ⟨fun m zs h' => ∃ i : Nat, zs = [.int .i64 i] ∧ m = w.objs.length - i ∧ i ≤ w.objs.length ∧ (MP r8 (atM (w.objs.take i)) * (pt r1 (.cells w.cells 26 (0, 0)) * (own g * (F * tt)))) h', ⟨_, 0, rfl, rfl, by omega, hh2⟩, ?_⟩
  rintro m v12 h3 ⟨i, hzs, rfl, hi, hh3⟩ _
  obtain rfl : v12 = .int .i64 i := by simpa using hzs
  by_cases hil : i < w.objs.length
  · have hw := own_vat (F := MP r8 (atM (w.objs.take i)) * (pt r1 (.cells w.cells 26 (0, 0)) * (F * tt))) (asr (by ac_rfl) hh3) hv
    obtain ⟨b, q, e1, _, _, _, e5⟩ := hw.obj (List.getElem?_eq_getElem hil) .i64
    have hsn := atM_snoc (w.objs.take i) w.objs[i]
    rw [← List.take_succ_eq_append_getElem hil, List.length_take, Nat.min_eq_left hi] at hsn
    have ho := List.getElem_mem hil
    generalize w.objs[i] = o at *
    repeat (with_reducible first | refine vP_so ?_ | refine vB_t ?_ | refine vB_f ?_ | refine vE_tt ?_ | refine vE_ff ?_ | refine vE_tf ?_ | refine vE_ft ?_ | refine vE_u ?_ | refine vP_to (by simp (disch := omega) only [gdW_true, gdW_false, gB_true, gB_false, gB_undef, pickV_true, pickV_false, Bool.not_true, Bool.not_false, Option.map_some, bin_add, bin_sub, bin_mul, bin_quo, bin_rem, lss_t, lss_f, leq_t, leq_f, gtr_t, gtr_f, geq_t, geq_f, eqi_t, eqi_f, nei_t, nei_f, rem_uw, conv_ui, conv_iu, conv_ii, not_bool, nil_ptr, fa_mk, ptrV, len_mk, cap_mk, eq_ptr_nil, ne_ptr_nil, eq_nil_nil, ne_nil_nil, eq_slice_nil, eq_nil_slice, ia_1, e1, e5]; exact so_so) ?_)
    intro J2 hJ2
    have hJ : ∀ h', (MP r8 (atM (w.objs.take (i + 1))) * (pt r1 (.cells w.cells 26 (0, 0)) * (own g * (F * tt)))) h' → J2 [] h' := fun h' q => by
      refine hJ2 _ fun _ => ?_
      repeat (with_reducible first | refine vP_so ?_ | refine vB_t ?_ | refine vB_f ?_ | refine vE_tt ?_ | refine vE_ff ?_ | refine vE_tf ?_ | refine vE_ft ?_ | refine vE_u ?_ | refine vP_to (by simp (disch := omega) only [gdW_true, gdW_false, gB_true, gB_false, gB_undef, pickV_true, pickV_false, Bool.not_true, Bool.not_false, Option.map_some, bin_add, bin_sub, bin_mul, bin_quo, bin_rem, lss_t, lss_f, leq_t, leq_f, gtr_t, gtr_f, geq_t, geq_f, eqi_t, eqi_f, nei_t, nei_f, rem_uw, conv_ui, conv_iu, conv_ii, not_bool, nil_ptr, fa_mk, ptrV, len_mk, cap_mk, eq_ptr_nil, ne_ptr_nil, eq_nil_nil, ne_nil_nil, eq_slice_nil, eq_nil_slice, ia_1]; exact so_so) ?_)
      exact ⟨w.objs.length - (i + 1), by omega, i + 1, rfl, rfl, by omega, q⟩
    repeat (with_reducible first | refine vP_so ?_ | refine vB_t ?_ | refine vB_f ?_ | refine vE_tt ?_ | refine vE_ff ?_ | refine vE_tf ?_ | refine vE_ft ?_ | refine vE_u ?_ | refine vP_to (by simp (disch := omega) only [gdW_true, gdW_false, gB_true, gB_false, gB_undef, pickV_true, pickV_false, Bool.not_true, Bool.not_false, Option.map_some, bin_add, bin_sub, bin_mul, bin_quo, bin_rem, lss_t, lss_f, leq_t, leq_f, gtr_t, gtr_f, geq_t, geq_f, eqi_t, eqi_f, nei_t, nei_f, rem_uw, conv_ui, conv_iu, conv_ii, not_bool, nil_ptr, fa_mk, ptrV, len_mk, cap_mk, eq_ptr_nil, ne_ptr_nil, eq_nil_nil, ne_nil_nil, eq_slice_nil, eq_nil_slice, ia_1, e1, e5]; exact so_so) ?_)
    refine vA_new hh3 fun r5 h5 hh5 => ?_
    refine stN_mk (cs := #[.int .i64 o.addr, o.sv, .bool o.marked]) hh5 (one_ob (hw.slots o ho)) rfl (by simp) fun h6 hh6 => ?_
    have hc0 : ld1 (.pointer (some ⟨r5, 0 + 0, none⟩)) h6 = some (.int .i64 o.addr) := ld1_mk (pt_get hh6) rfl
    have hm6 : (MP r8 (atM (w.objs.take i)) * (pt r5 (.cells #[.int .i64 o.addr, o.sv, .bool o.marked] 30 (0, 0)) * (pt r1 (.cells w.cells 26 (0, 0)) * (own g * (F * tt))))) h6 := asr (by ac_rfl) hh6
    obtain ⟨_, hlk⟩ := lk_MP (k := o.addr) mapII intU zInt hm6
    have drop5 : ∀ {f h}, (MP r8 f * (pt r5 (.cells #[.int .i64 o.addr, o.sv, .bool o.marked] 30 (0, 0)) * (pt r1 (.cells w.cells 26 (0, 0)) * (own g * (F * tt))))) h → (MP r8 f * (pt r1 (.cells w.cells 26 (0, 0)) * (own g * (F * tt)))) h := fun {f h} q =>
      dropL (P := pt r5 (.cells #[.int .i64 o.addr, o.sv, .bool o.marked] 30 (0, 0))) (Q := MP r8 f * (pt r1 (.cells w.cells 26 (0, 0)) * (own g * F))) (asr (by ac_rfl) q) |> asr (by ac_rfl)
    have hsome : (atM (w.objs.take i) o.addr).isSome = ((w.objs.take i).findIdx? fun q => q.addr == o.addr).isSome := by
      unfold atM
      cases (w.objs.take i).findIdx? (fun q => q.addr == o.addr) <;> rfl
    have x0 : ∀ a b : Value, exV (.tuple #[a, b]) 0 = some a := fun _ _ => rfl
    have x1 : ∀ a b : Value, exV (.tuple #[a, b]) 1 = some b := fun _ _ => rfl
    rw [hsome] at hlk
    by_cases hf : ((w.objs.take i).findIdx? fun q => q.addr == o.addr).isSome = true
    · rw [if_pos hf] at hsn
      rw [hf] at hlk
      repeat (with_reducible first | refine vP_so ?_ | refine vB_t ?_ | refine vB_f ?_ | refine vE_tt ?_ | refine vE_ff ?_ | refine vE_tf ?_ | refine vE_ft ?_ | refine vE_u ?_ | refine vP_to (by simp (disch := omega) only [gdW_true, gdW_false, gB_true, gB_false, gB_undef, pickV_true, pickV_false, Bool.not_true, Bool.not_false, Option.map_some, bin_add, bin_sub, bin_mul, bin_quo, bin_rem, lss_t, lss_f, leq_t, leq_f, gtr_t, gtr_f, geq_t, geq_f, eqi_t, eqi_f, nei_t, nei_f, rem_uw, conv_ui, conv_iu, conv_ii, not_bool, nil_ptr, fa_mk, ptrV, len_mk, cap_mk, eq_ptr_nil, ne_ptr_nil, eq_nil_nil, ne_nil_nil, eq_slice_nil, eq_nil_slice, ia_1, hc0, hlk, x0, x1]; exact so_so) ?_)
      rw [← hsn] at hm6
      exact hJ h6 (drop5 hm6)
    · rw [if_neg hf] at hsn
      rw [Bool.not_eq_true] at hf
      rw [hf] at hlk
      repeat (with_reducible first | refine vP_so ?_ | refine vB_t ?_ | refine vB_f ?_ | refine vE_tt ?_ | refine vE_ff ?_ | refine vE_tf ?_ | refine vE_ft ?_ | refine vE_u ?_ | refine vP_to (by simp (disch := omega) only [gdW_true, gdW_false, gB_true, gB_false, gB_undef, pickV_true, pickV_false, Bool.not_true, Bool.not_false, Option.map_some, bin_add, bin_sub, bin_mul, bin_quo, bin_rem, lss_t, lss_f, leq_t, leq_f, gtr_t, gtr_f, geq_t, geq_f, eqi_t, eqi_f, nei_t, nei_f, rem_uw, conv_ui, conv_iu, conv_ii, not_bool, nil_ptr, fa_mk, ptrV, len_mk, cap_mk, eq_ptr_nil, ne_ptr_nil, eq_nil_nil, ne_nil_nil, eq_slice_nil, eq_nil_slice, ia_1, hc0, hlk, x0, x1]; exact so_so) ?_)
      refine mu_MP mapII intU hm6 fun h7 hh7 => ?_
      rw [← hsn] at hh7
      exact hJ h7 (drop5 hh7)
  · repeat (with_reducible first | refine vP_so ?_ | refine vB_t ?_ | refine vB_f ?_ | refine vE_tt ?_ | refine vE_ff ?_ | refine vE_tf ?_ | refine vE_ft ?_ | refine vE_u ?_ | refine vP_to (by simp (disch := omega) only [gdW_true, gdW_false, gB_true, gB_false, gB_undef, pickV_true, pickV_false, Bool.not_true, Bool.not_false, Option.map_some, bin_add, bin_sub, bin_mul, bin_quo, bin_rem, lss_t, lss_f, leq_t, leq_f, gtr_t, gtr_f, geq_t, geq_f, eqi_t, eqi_f, nei_t, nei_f, rem_uw, conv_ui, conv_iu, conv_ii, not_bool, nil_ptr, fa_mk, ptrV, len_mk, cap_mk, eq_ptr_nil, ne_ptr_nil, eq_nil_nil, ne_nil_nil, eq_slice_nil, eq_nil_slice, ia_1]; exact so_so) ?_)
    obtain rfl : i = w.objs.length := by omega
    rw [List.take_length] at hh3
    refine hK r8 h3 (dropL (P := pt r1 (.cells w.cells 26 (0, 0))) (Q := MP r8 (atM w.objs) * (own g * F)) (asr (by ac_rfl) hh3) |> asr (by ac_rfl))

end Go.Proofs

/-
  Contracts of package view: Roots.
-/
set_option maxRecDepth 100000
namespace Go.Proofs
open Go.Sl

/-- A variable that holds a list of its own. -/
def OutS (r : Nat) (l : List Int) : Asrt := ex fun ov => pt r (.cells #[ov] 22 (0, 0)) * SG iE 3 ov l

theorem OutS_elim {r : Nat} {l : List Int} {F : Asrt} {h : Hp} (hh : (OutS r l * F) h) : ∃ ov, (pt r (.cells #[ov] 22 (0, 0)) * (SG iE 3 ov l * F)) h := by
  obtain ⟨ov, hh⟩ := ex_star.1 hh
  exact ⟨ov, asr (star_assoc _ _ _) hh⟩

theorem OutS_intro {r : Nat} {l : List Int} {ov : Value} {F : Asrt} {h : Hp} (hh : (pt r (.cells #[ov] 22 (0, 0)) * (SG iE 3 ov l * F)) h) : (OutS r l * F) h := ex_star.2 ⟨ov, asr (star_assoc _ _ _).symm hh⟩

theorem setM_once {out : List Int} {x : Int} : setM (0 :: onceL out x) = if x = 0 ∨ x ∈ out then setM (0 :: out) else setM (x :: 0 :: out) := by
  unfold onceL
  split
  · rfl
  · refine setM_congr fun y => ?_
    simp only [List.mem_cons, List.mem_append, List.mem_singleton, List.not_mem_nil, or_false]
    constructor
    · rintro (h | h | h)
      · exact .inr (.inl h)
      · exact .inr (.inr h)
      · exact .inl h
    · rintro (h | h | h)
      · exact .inr (.inr h)
      · exact .inl h
      · exact .inr (.inl h)

theorem use_add {g : Hp} {sv : Value} {xs out : List Int} {r3 r4 r8 : Nat} {F : Asrt} {K : Value → Hp → Prop} {h : Hp} (hx : IntsAt g sv xs) (hb : out.length + xs.length ≤ 1073741824)
    (hh : (own g * (pt r4 (.cells #[.map (some r8)] 51 (0, 0)) * (MP r8 (setM (0 :: out)) * (OutS r3 out * (F * tt))))) h)
    (hK : ∀ h', (own g * (pt r4 (.cells #[.map (some r8)] 51 (0, 0)) * (MP r8 (setM (0 :: xs.foldl onceL out)) * (OutS r3 (xs.foldl onceL out) * (F * tt))))) h' → K (.tuple #[]) h') :
    cvW Try.prog (.func (.func 47) #[] #[.pointer (some ⟨r4, 0, none⟩), .pointer (some ⟨r3, 0, none⟩)]) #[sv] K h := by
  refine cv_fn (by kernel_rfl) ?_
  show CallH Try.prog 47 #[sv, .pointer (some ⟨r4, 0, none⟩), .pointer (some ⟨r3, 0, none⟩)] K h
  refine C47 ?_
  unfold D47
  have hlt := hx.lt
  repeat (with_reducible first | refine vP_so ?_ | refine vB_t ?_ | refine vB_f ?_ | refine vE_tt ?_ | refine vE_ff ?_ | refine vE_tf ?_ | refine vE_ft ?_ | refine vE_u ?_ | refine vP_to (by simp (disch := omega) only [gdW_true, gdW_false, gB_true, gB_false, gB_undef, pickV_true, pickV_false, Bool.not_true, Bool.not_false, Option.map_some, bin_add, bin_sub, bin_mul, bin_quo, bin_rem, lss_t, lss_f, leq_t, leq_f, gtr_t, gtr_f, geq_t, geq_f, eqi_t, eqi_f, nei_t, nei_f, rem_uw, conv_ui, conv_iu, conv_ii, not_bool, nil_ptr, fa_mk, ptrV, len_mk, cap_mk, eq_ptr_nil, ne_ptr_nil, eq_nil_nil, ne_nil_nil, eq_slice_nil, eq_nil_slice, ia_1, hx.len]; exact so_so) ?_)
  refine ⟨fun m zs h' => ∃ i : Nat, zs = [.int .i64 i] ∧ m = xs.length - i ∧ i ≤ xs.length ∧ (own g * (pt r4 (.cells #[.map (some r8)] 51 (0, 0)) * (MP r8 (setM (0 :: (xs.take i).foldl onceL out)) * (OutS r3 ((xs.take i).foldl onceL out) * (F * tt))))) h', ⟨_, 0, rfl, rfl, by omega, hh⟩, ?_⟩
  rintro m v8 h1 ⟨i, hzs, rfl, hi, hh1⟩ _
  obtain rfl : v8 = .int .i64 i := by simpa using hzs
  by_cases hil : i < xs.length
  · obtain ⟨p, f1, f2⟩ := hx.get i xs[i] .i64 (List.getElem?_eq_getElem hil)
    have f2 := own_ld1 hh1 f2
    have hfold : (xs.take (i + 1)).foldl onceL out = onceL ((xs.take i).foldl onceL out) xs[i] := by
      rw [List.take_succ_eq_append_getElem hil, List.foldl_append]; rfl
    have hlen : ((xs.take i).foldl onceL out).length ≤ out.length + xs.length := Nat.le_trans foldl_once_len (by rw [List.length_take]; omega)
    generalize xs[i] = x at *
    generalize (xs.take i).foldl onceL out = o at *
    repeat (with_reducible first | refine vP_so ?_ | refine vB_t ?_ | refine vB_f ?_ | refine vE_tt ?_ | refine vE_ff ?_ | refine vE_tf ?_ | refine vE_ft ?_ | refine vE_u ?_ | refine vP_to (by simp (disch := omega) only [gdW_true, gdW_false, gB_true, gB_false, gB_undef, pickV_true, pickV_false, Bool.not_true, Bool.not_false, Option.map_some, bin_add, bin_sub, bin_mul, bin_quo, bin_rem, lss_t, lss_f, leq_t, leq_f, gtr_t, gtr_f, geq_t, geq_f, eqi_t, eqi_f, nei_t, nei_f, rem_uw, conv_ui, conv_iu, conv_ii, not_bool, nil_ptr, fa_mk, ptrV, len_mk, cap_mk, eq_ptr_nil, ne_ptr_nil, eq_nil_nil, ne_nil_nil, eq_slice_nil, eq_nil_slice, ia_1, hx.len]; exact so_so) ?_)
    intro J2 hJ2
    have hJ : ∀ h', (own g * (pt r4 (.cells #[.map (some r8)] 51 (0, 0)) * (MP r8 (setM (0 :: onceL o x)) * (OutS r3 (onceL o x) * (F * tt))))) h' → J2 [] h' := fun h' q => by
      refine hJ2 _ fun _ => ?_
      repeat (with_reducible first | refine vP_so ?_ | refine vB_t ?_ | refine vB_f ?_ | refine vE_tt ?_ | refine vE_ff ?_ | refine vE_tf ?_ | refine vE_ft ?_ | refine vE_u ?_ | refine vP_to (by simp (disch := omega) only [gdW_true, gdW_false, gB_true, gB_false, gB_undef, pickV_true, pickV_false, Bool.not_true, Bool.not_false, Option.map_some, bin_add, bin_sub, bin_mul, bin_quo, bin_rem, lss_t, lss_f, leq_t, leq_f, gtr_t, gtr_f, geq_t, geq_f, eqi_t, eqi_f, nei_t, nei_f, rem_uw, conv_ui, conv_iu, conv_ii, not_bool, nil_ptr, fa_mk, ptrV, len_mk, cap_mk, eq_ptr_nil, ne_ptr_nil, eq_nil_nil, ne_nil_nil, eq_slice_nil, eq_nil_slice, ia_1]; exact so_so) ?_)
      exact ⟨xs.length - (i + 1), by omega, i + 1, rfl, rfl, by omega, by rw [hfold]; exact q⟩
    have hp4 : (pt r4 (.cells #[.map (some r8)] 51 (0, 0)) * (own g * (MP r8 (setM (0 :: o)) * (OutS r3 o * (F * tt))))) h1 := asr (by ac_rfl) hh1
    have l4 : ld1 (.pointer (some ⟨r4, 0, none⟩)) h1 = some (.map (some r8)) := ld1_mk (pt_get hp4) rfl
    have hm : (MP r8 (setM (0 :: o)) * (own g * (pt r4 (.cells #[.map (some r8)] 51 (0, 0)) * (OutS r3 o * (F * tt))))) h1 := asr (by ac_rfl) hh1
    obtain ⟨hlk, _⟩ := lk_MP (k := x) mapII intU zInt hm
    rw [setM_get] at hlk
    by_cases hin : x = 0 ∨ x ∈ o
    · have hin' : x ∈ 0 :: o := by rw [List.mem_cons]; exact hin
      rw [if_pos hin'] at hlk
      repeat (with_reducible first | refine vP_so ?_ | refine vB_t ?_ | refine vB_f ?_ | refine vE_tt ?_ | refine vE_ff ?_ | refine vE_tf ?_ | refine vE_ft ?_ | refine vE_u ?_ | refine vP_to (by simp (disch := omega) only [gdW_true, gdW_false, gB_true, gB_false, gB_undef, pickV_true, pickV_false, Bool.not_true, Bool.not_false, Option.map_some, bin_add, bin_sub, bin_mul, bin_quo, bin_rem, lss_t, lss_f, leq_t, leq_f, gtr_t, gtr_f, geq_t, geq_f, eqi_t, eqi_f, nei_t, nei_f, rem_uw, conv_ui, conv_iu, conv_ii, not_bool, nil_ptr, fa_mk, ptrV, len_mk, cap_mk, eq_ptr_nil, ne_ptr_nil, eq_nil_nil, ne_nil_nil, eq_slice_nil, eq_nil_slice, ia_1, f1, f2, l4, hlk]; exact so_so) ?_)
      have e1 : onceL o x = o := by unfold onceL; rw [if_pos hin]
      rw [e1] at hJ
      exact hJ h1 hh1
    · have hin' : ¬ x ∈ 0 :: o := by rw [List.mem_cons]; exact hin
      rw [if_neg hin'] at hlk
      repeat (with_reducible first | refine vP_so ?_ | refine vB_t ?_ | refine vB_f ?_ | refine vE_tt ?_ | refine vE_ff ?_ | refine vE_tf ?_ | refine vE_ft ?_ | refine vE_u ?_ | refine vP_to (by simp (disch := omega) only [gdW_true, gdW_false, gB_true, gB_false, gB_undef, pickV_true, pickV_false, Bool.not_true, Bool.not_false, Option.map_some, bin_add, bin_sub, bin_mul, bin_quo, bin_rem, lss_t, lss_f, leq_t, leq_f, gtr_t, gtr_f, geq_t, geq_f, eqi_t, eqi_f, nei_t, nei_f, rem_uw, conv_ui, conv_iu, conv_ii, not_bool, nil_ptr, fa_mk, ptrV, len_mk, cap_mk, eq_ptr_nil, ne_ptr_nil, eq_nil_nil, ne_nil_nil, eq_slice_nil, eq_nil_slice, ia_1, f1, f2, l4, hlk]; exact so_so) ?_)
      have e1 : onceL o x = o ++ [x] := by unfold onceL; rw [if_neg hin]
      have e2 : setM (0 :: onceL o x) = setM (x :: 0 :: o) := by rw [setM_once, if_neg hin]
      rw [e1] at e2
      rw [e1, e2] at hJ
      refine mu_MP mapII intU hm fun h3 hh3 => ?_
      rw [setM_put] at hh3
      obtain ⟨ov, hh3⟩ := OutS_elim (F := MP r8 (setM (x :: 0 :: o)) * (own g * (pt r4 (.cells #[.map (some r8)] 51 (0, 0)) * (F * tt)))) (asr (by ac_rfl) hh3)
      have l3 : ld1 (.pointer (some ⟨r3, 0, none⟩)) h3 = some ov := ld1_mk (pt_get hh3) rfl
      have eb : bldV #[.int .i64 0] [(0, 1, .int .i64 x)] = some #[.int .i64 x] := rfl
      repeat (with_reducible first | refine vP_so ?_ | refine vB_t ?_ | refine vB_f ?_ | refine vE_tt ?_ | refine vE_ff ?_ | refine vE_tf ?_ | refine vE_ft ?_ | refine vE_u ?_ | refine vP_to (by simp (disch := omega) only [gdW_true, gdW_false, gB_true, gB_false, gB_undef, pickV_true, pickV_false, Bool.not_true, Bool.not_false, Option.map_some, bin_add, bin_sub, bin_mul, bin_quo, bin_rem, lss_t, lss_f, leq_t, leq_f, gtr_t, gtr_f, geq_t, geq_f, eqi_t, eqi_f, nei_t, nei_f, rem_uw, conv_ui, conv_iu, conv_ii, not_bool, nil_ptr, fa_mk, ptrV, len_mk, cap_mk, eq_ptr_nil, ne_ptr_nil, eq_nil_nil, ne_nil_nil, eq_slice_nil, eq_nil_slice, ia_1, l3, eb]; exact so_so) ?_)
      refine vA_new (f := fun r => .slice (some ⟨r, 0, none⟩) 1 1) hh3 fun r20 h4 hh4 => ?_
      refine ap_new iE (l := o) (m := [x]) (F := pt r3 (.cells #[ov] 22 (0, 0)) * (MP r8 (setM (x :: 0 :: o)) * (own g * (pt r4 (.cells #[.map (some r8)] 51 (0, 0)) * F)))) elInt rfl rfl niInts rfl (by omega) (asr (by ac_rfl) hh4) rfl rfl (by simp only [List.length_singleton]; omega) fun v21 h5 hh5 => ?_
      have hp3 : (pt r3 (.cells #[ov] 22 (0, 0)) * (SG iE 3 v21 (o ++ [x]) * (MP r8 (setM (x :: 0 :: o)) * (own g * (pt r4 (.cells #[.map (some r8)] 51 (0, 0)) * (F * tt)))))) h5 := asr (by ac_rfl) hh5
      refine st1_mk hp3 (SG_one iE hh5) (by simp) fun h6 hh6 => ?_
      have hh6 : (OutS r3 (o ++ [x]) * (MP r8 (setM (x :: 0 :: o)) * (own g * (pt r4 (.cells #[.map (some r8)] 51 (0, 0)) * (F * tt))))) h6 := OutS_intro hh6
      exact hJ h6 (asr (by ac_rfl) hh6)
  · repeat (with_reducible first | refine vP_so ?_ | refine vB_t ?_ | refine vB_f ?_ | refine vE_tt ?_ | refine vE_ff ?_ | refine vE_tf ?_ | refine vE_ft ?_ | refine vE_u ?_ | refine vP_to (by simp (disch := omega) only [gdW_true, gdW_false, gB_true, gB_false, gB_undef, pickV_true, pickV_false, Bool.not_true, Bool.not_false, Option.map_some, bin_add, bin_sub, bin_mul, bin_quo, bin_rem, lss_t, lss_f, leq_t, leq_f, gtr_t, gtr_f, geq_t, geq_f, eqi_t, eqi_f, nei_t, nei_f, rem_uw, conv_ui, conv_iu, conv_ii, not_bool, nil_ptr, fa_mk, ptrV, len_mk, cap_mk, eq_ptr_nil, ne_ptr_nil, eq_nil_nil, ne_nil_nil, eq_slice_nil, eq_nil_slice, ia_1]; exact so_so) ?_)
    obtain rfl : i = xs.length := by omega
    rw [List.take_length] at hh1
    exact hK h1 hh1

theorem flatMap_len_le {l : List Gr} {r : Gr} (h : r ∈ l) : r.stack.length ≤ (l.flatMap (·.stack)).length := by
  induction l with
  | nil => simp at h
  | cons a l ih =>
    rw [List.mem_cons] at h
    rw [List.flatMap_cons, List.length_append]
    rcases h with rfl | h
    · omega
    · have := ih h; omega

theorem use_roots {g : Hp} {w : VW} {F : Asrt} {K : Value → Hp → Prop} {h : Hp} (hv : VAt g w) (hN : w.all.length ≤ 1000000) (hh : (own g * (F * tt)) h)
    (hK : ∀ v h', (SG iE 3 v w.rootsL * (own g * (F * tt))) h' → K v h') : CallH Try.prog 19 #[w.val] K h := by
  refine C19 ?_
  unfold D19
  have hgl := hv.gs_len
  have hnl : w.names.length ≤ 1000000 := by unfold VW.all at hN; rw [List.length_append] at hN; omega
  have hglob : w.globals.length ≤ 1000000 := by unfold VW.names at hnl; rw [List.length_append] at hnl; omega
  refine vA_new (o := .cells w.cells 26 (0, 0)) hh fun r1 h1 hh1 => ?_
  refine vA_new (o := .cells #[.slice none 0 0] 22 (0, 0)) hh1 fun r3 h2 hh2 => ?_
  refine vA_new (f := fun r => .map (some r)) hh2 fun r8 h3 hh3 => ?_
  have hh3 := MP_new hh3
  refine mu_MP mapII intU hh3 fun h4 hh4 => ?_
  have hset : (fun x => if x = 0 then some (Value.int .i64 1) else (none : Option Value)) = setM (0 :: []) := by
    funext x; unfold setM; simp
  rw [hset] at hh4
  refine vA_new hh4 fun r4 h5 hh5 => ?_
  refine st1_mk hh5 rfl (by simp) fun h6 hh6 => ?_
  have hh6 : (pt r4 (.cells #[.map (some r8)] 51 (0, 0)) * (MP r8 (setM (0 :: [])) * (pt r3 (.cells #[.slice none 0 0] 22 (0, 0)) * (pt r1 (.cells w.cells 26 (0, 0)) * (own g * (F * tt)))))) h6 := hh6
  have l3 := (vw_ld (r := r1) (w := w) (E := 26) (F := pt r4 (.cells #[.map (some r8)] 51 (0, 0)) * (MP r8 (setM (0 :: [])) * (pt r3 (.cells #[.slice none 0 0] 22 (0, 0)) * (own g * (F * tt))))) (asr (by ac_rfl) hh6)).2.2.2.1
  repeat (with_reducible first | refine vP_so ?_ | refine vB_t ?_ | refine vB_f ?_ | refine vE_tt ?_ | refine vE_ff ?_ | refine vE_tf ?_ | refine vE_ft ?_ | refine vE_u ?_ | refine vP_to (by simp (disch := omega) only [gdW_true, gdW_false, gB_true, gB_false, gB_undef, pickV_true, pickV_false, Bool.not_true, Bool.not_false, Option.map_some, bin_add, bin_sub, bin_mul, bin_quo, bin_rem, lss_t, lss_f, leq_t, leq_f, gtr_t, gtr_f, geq_t, geq_f, eqi_t, eqi_f, nei_t, nei_f, rem_uw, conv_ui, conv_iu, conv_ii, not_bool, nil_ptr, fa_mk, ptrV, len_mk, cap_mk, eq_ptr_nil, ne_ptr_nil, eq_nil_nil, ne_nil_nil, eq_slice_nil, eq_nil_slice, ia_1, l3]; exact so_so) ?_)
  have hh6 : (OutS r3 [] * (pt r4 (.cells #[.map (some r8)] 51 (0, 0)) * (MP r8 (setM (0 :: [])) * (pt r1 (.cells w.cells 26 (0, 0)) * (own g * (F * tt)))))) h6 :=
    OutS_intro (ov := .slice none 0 0) (asr (by ac_rfl) (SG_nil iE (E := 3) hh6))
  refine use_add (out := []) (F := pt r1 (.cells w.cells 26 (0, 0)) * F) hv.glob (by simp only [List.length_nil]; omega) (asr (by ac_rfl) hh6) fun h7 hh7 => ?_
  have l4 := (vw_ld (r := r1) (w := w) (E := 26) (F := own g * (pt r4 (.cells #[.map (some r8)] 51 (0, 0)) * (MP r8 (setM (0 :: w.globals.foldl onceL [])) * (OutS r3 (w.globals.foldl onceL []) * (F * tt))))) (asr (by ac_rfl) hh7)).2.2.2.2.1
  repeat (with_reducible first | refine vP_so ?_ | refine vB_t ?_ | refine vB_f ?_ | refine vE_tt ?_ | refine vE_ff ?_ | refine vE_tf ?_ | refine vE_ft ?_ | refine vE_u ?_ | refine vP_to (by simp (disch := omega) only [gdW_true, gdW_false, gB_true, gB_false, gB_undef, pickV_true, pickV_false, Bool.not_true, Bool.not_false, Option.map_some, bin_add, bin_sub, bin_mul, bin_quo, bin_rem, lss_t, lss_f, leq_t, leq_f, gtr_t, gtr_f, geq_t, geq_f, eqi_t, eqi_f, nei_t, nei_f, rem_uw, conv_ui, conv_iu, conv_ii, not_bool, nil_ptr, fa_mk, ptrV, len_mk, cap_mk, eq_ptr_nil, ne_ptr_nil, eq_nil_nil, ne_nil_nil, eq_slice_nil, eq_nil_slice, ia_1, l4, hgl.1]; exact so_so) ?_)
  refine ⟨fun m zs h' => ∃ (i : Nat), zs = [.int .i64 i] ∧ m = w.gs.length - i ∧ i ≤ w.gs.length ∧
      (own g * (pt r4 (.cells #[.map (some r8)] 51 (0, 0)) * (MP r8 (setM (0 :: (w.globals ++ ((w.gs.take i).filter live).flatMap (·.stack)).foldl onceL [])) * (OutS r3 ((w.globals ++ ((w.gs.take i).filter live).flatMap (·.stack)).foldl onceL []) * (pt r1 (.cells w.cells 26 (0, 0)) * F * tt))))) h',
    ⟨_, 0, rfl, rfl, by omega, by simpa using hh7⟩, ?_⟩
  rintro m v18 h8 ⟨i, hzs, rfl, hi, hh8⟩ _
  obtain rfl : v18 = .int .i64 i := by simpa using hzs
  by_cases hil : i < w.gs.length
  · have hw := own_vat hh8 hv
    obtain ⟨b, q, e1, _, _, _, e5⟩ := hw.gor (List.getElem?_eq_getElem hil) .i64
    have hro : w.gs[i] ∈ w.gs := List.getElem_mem hil
    have hstk := hv.stacks w.gs[i] hro
    have hsub : ∀ r, w.gs[i] = r → live r = true → r.stack.length + (w.globals ++ ((w.gs.take i).filter live).flatMap (·.stack)).length ≤ 1000000 := fun r e hl => by
      have h2 : w.names.length = w.globals.length + ((w.gs.filter live).flatMap (·.stack)).length := by unfold VW.names; rw [List.length_append]
      have h3 : w.gs.filter live = (w.gs.take i).filter live ++ (r :: (w.gs.drop (i + 1)).filter live) := by
        have e1 : w.gs = w.gs.take i ++ r :: w.gs.drop (i + 1) := by rw [← e, ← List.drop_eq_getElem_cons hil, List.take_append_drop]
        have e2 : (w.gs.take i ++ r :: w.gs.drop (i + 1)).filter live = (w.gs.take i).filter live ++ (r :: (w.gs.drop (i + 1)).filter live) := by rw [List.filter_append, List.filter_cons, if_pos hl]
        rw [← e2, ← e1]
      rw [h3, List.flatMap_append, List.flatMap_cons, List.length_append, List.length_append] at h2
      rw [List.length_append]
      omega
    have hstep : ∀ r, w.gs[i] = r → (w.globals ++ ((w.gs.take (i + 1)).filter live).flatMap (·.stack)).foldl onceL [] = if live r then r.stack.foldl onceL ((w.globals ++ ((w.gs.take i).filter live).flatMap (·.stack)).foldl onceL []) else (w.globals ++ ((w.gs.take i).filter live).flatMap (·.stack)).foldl onceL [] := fun r e => by
      rw [List.take_succ_eq_append_getElem hil, e, List.filter_append]
      by_cases hl : live r = true
      · rw [if_pos hl, List.filter_cons, if_pos hl, List.filter_nil, List.flatMap_append, ← List.append_assoc, List.foldl_append]
        simp
      · rw [if_neg hl, List.filter_cons, if_neg hl, List.filter_nil, List.append_nil]
    have hsub := hsub _ rfl
    have hstep := hstep _ rfl
    generalize w.gs[i] = r at *
    have hflen : ((w.globals ++ ((w.gs.take i).filter live).flatMap (·.stack)).foldl onceL []).length ≤ (w.globals ++ ((w.gs.take i).filter live).flatMap (·.stack)).length := by
      have := foldl_once_len (xs := w.globals ++ ((w.gs.take i).filter live).flatMap (·.stack)) (l := [])
      simpa using this
    generalize w.globals ++ ((w.gs.take i).filter live).flatMap (·.stack) = nm at *
    generalize nm.foldl onceL [] = o at *
    repeat (with_reducible first | refine vP_so ?_ | refine vB_t ?_ | refine vB_f ?_ | refine vE_tt ?_ | refine vE_ff ?_ | refine vE_tf ?_ | refine vE_ft ?_ | refine vE_u ?_ | refine vP_to (by simp (disch := omega) only [gdW_true, gdW_false, gB_true, gB_false, gB_undef, pickV_true, pickV_false, Bool.not_true, Bool.not_false, Option.map_some, bin_add, bin_sub, bin_mul, bin_quo, bin_rem, lss_t, lss_f, leq_t, leq_f, gtr_t, gtr_f, geq_t, geq_f, eqi_t, eqi_f, nei_t, nei_f, rem_uw, conv_ui, conv_iu, conv_ii, not_bool, nil_ptr, fa_mk, ptrV, len_mk, cap_mk, eq_ptr_nil, ne_ptr_nil, eq_nil_nil, ne_nil_nil, eq_slice_nil, eq_nil_slice, ia_1]; exact so_so) ?_)
    intro J2 hJ2
    have hJ : ∀ h', (own g * (pt r4 (.cells #[.map (some r8)] 51 (0, 0)) * (MP r8 (setM (0 :: if live r then r.stack.foldl onceL o else o)) * (OutS r3 (if live r then r.stack.foldl onceL o else o) * (pt r1 (.cells w.cells 26 (0, 0)) * F * tt))))) h' → J2 [] h' := fun h' q => by
      refine hJ2 _ fun _ => ?_
      repeat (with_reducible first | refine vP_so ?_ | refine vB_t ?_ | refine vB_f ?_ | refine vE_tt ?_ | refine vE_ff ?_ | refine vE_tf ?_ | refine vE_ft ?_ | refine vE_u ?_ | refine vP_to (by simp (disch := omega) only [gdW_true, gdW_false, gB_true, gB_false, gB_undef, pickV_true, pickV_false, Bool.not_true, Bool.not_false, Option.map_some, bin_add, bin_sub, bin_mul, bin_quo, bin_rem, lss_t, lss_f, leq_t, leq_f, gtr_t, gtr_f, geq_t, geq_f, eqi_t, eqi_f, nei_t, nei_f, rem_uw, conv_ui, conv_iu, conv_ii, not_bool, nil_ptr, fa_mk, ptrV, len_mk, cap_mk, eq_ptr_nil, ne_ptr_nil, eq_nil_nil, ne_nil_nil, eq_slice_nil, eq_nil_slice, ia_1]; exact so_so) ?_)
      exact ⟨w.gs.length - (i + 1), by omega, i + 1, rfl, rfl, by omega, by rw [hstep]; exact q⟩
    repeat (with_reducible first | refine vP_so ?_ | refine vB_t ?_ | refine vB_f ?_ | refine vE_tt ?_ | refine vE_ff ?_ | refine vE_tf ?_ | refine vE_ft ?_ | refine vE_u ?_ | refine vP_to (by simp (disch := omega) only [gdW_true, gdW_false, gB_true, gB_false, gB_undef, pickV_true, pickV_false, Bool.not_true, Bool.not_false, Option.map_some, bin_add, bin_sub, bin_mul, bin_quo, bin_rem, lss_t, lss_f, leq_t, leq_f, gtr_t, gtr_f, geq_t, geq_f, eqi_t, eqi_f, nei_t, nei_f, rem_uw, conv_ui, conv_iu, conv_ii, not_bool, nil_ptr, fa_mk, ptrV, len_mk, cap_mk, eq_ptr_nil, ne_ptr_nil, eq_nil_nil, ne_nil_nil, eq_slice_nil, eq_nil_slice, ia_1, e1, e5]; exact so_so) ?_)
    refine vA_new hh8 fun r7 h10 hh10 => ?_
    refine stN_mk (cs := #[.int .i64 r.st, .int .i64 r.p, r.sv]) hh10 (one_gr hstk) rfl (by simp) fun h11 hh11 => ?_
    have hc0 : ld1 (.pointer (some ⟨r7, 0 + 0, none⟩)) h11 = some (.int .i64 r.st) := ld1_mk (pt_get hh11) rfl
    have hc2 : ld1 (.pointer (some ⟨r7, 0 + 2, none⟩)) h11 = some r.sv := ld1_mk (pt_get hh11) rfl
    have hh11 : (own g * (pt r4 (.cells #[.map (some r8)] 51 (0, 0)) * (MP r8 (setM (0 :: o)) * (OutS r3 o * (pt r1 (.cells w.cells 26 (0, 0)) * F * tt))))) h11 :=
      dropL (P := pt r7 (.cells #[.int .i64 r.st, .int .i64 r.p, r.sv] 41 (0, 0))) (Q := own g * (pt r4 (.cells #[.map (some r8)] 51 (0, 0)) * (MP r8 (setM (0 :: o)) * (OutS r3 o * (pt r1 (.cells w.cells 26 (0, 0)) * F))))) (asr (by ac_rfl) hh11) |> asr (by ac_rfl)
    by_cases hst : r.st = 5
    · have hl : live r = false := by unfold live; simp [hst]
      rw [hl] at hJ
      repeat (with_reducible first | refine vP_so ?_ | refine vB_t ?_ | refine vB_f ?_ | refine vE_tt ?_ | refine vE_ff ?_ | refine vE_tf ?_ | refine vE_ft ?_ | refine vE_u ?_ | refine vP_to (by simp (disch := omega) only [gdW_true, gdW_false, gB_true, gB_false, gB_undef, pickV_true, pickV_false, Bool.not_true, Bool.not_false, Option.map_some, bin_add, bin_sub, bin_mul, bin_quo, bin_rem, lss_t, lss_f, leq_t, leq_f, gtr_t, gtr_f, geq_t, geq_f, eqi_t, eqi_f, nei_t, nei_f, rem_uw, conv_ui, conv_iu, conv_ii, not_bool, nil_ptr, fa_mk, ptrV, len_mk, cap_mk, eq_ptr_nil, ne_ptr_nil, eq_nil_nil, ne_nil_nil, eq_slice_nil, eq_nil_slice, ia_1, hc0]; exact so_so) ?_)
      exact hJ h11 hh11
    · have hl : live r = true := by unfold live; simpa using hst
      rw [hl] at hJ
      have := hsub hl
      repeat (with_reducible first | refine vP_so ?_ | refine vB_t ?_ | refine vB_f ?_ | refine vE_tt ?_ | refine vE_ff ?_ | refine vE_tf ?_ | refine vE_ft ?_ | refine vE_u ?_ | refine vP_to (by simp (disch := omega) only [gdW_true, gdW_false, gB_true, gB_false, gB_undef, pickV_true, pickV_false, Bool.not_true, Bool.not_false, Option.map_some, bin_add, bin_sub, bin_mul, bin_quo, bin_rem, lss_t, lss_f, leq_t, leq_f, gtr_t, gtr_f, geq_t, geq_f, eqi_t, eqi_f, nei_t, nei_f, rem_uw, conv_ui, conv_iu, conv_ii, not_bool, nil_ptr, fa_mk, ptrV, len_mk, cap_mk, eq_ptr_nil, ne_ptr_nil, eq_nil_nil, ne_nil_nil, eq_slice_nil, eq_nil_slice, ia_1, hc0, hc2]; exact so_so) ?_)
      refine use_add (F := pt r1 (.cells w.cells 26 (0, 0)) * F) hstk (by omega) hh11 fun h12 hh12 => ?_
      exact hJ h12 hh12
  · obtain rfl : i = w.gs.length := by omega
    rw [List.take_length] at hh8
    have hh8 : (OutS r3 w.rootsL * (own g * (pt r4 (.cells #[.map (some r8)] 51 (0, 0)) * (MP r8 (setM (0 :: w.rootsL)) * (pt r1 (.cells w.cells 26 (0, 0)) * F * tt))))) h8 := asr (by ac_rfl) hh8
    obtain ⟨ov, hh8⟩ := OutS_elim hh8
    have l3 : ld1 (.pointer (some ⟨r3, 0, none⟩)) h8 = some ov := ld1_mk (pt_get hh8) rfl
    repeat (with_reducible first | refine vP_so ?_ | refine vB_t ?_ | refine vB_f ?_ | refine vE_tt ?_ | refine vE_ff ?_ | refine vE_tf ?_ | refine vE_ft ?_ | refine vE_u ?_ | refine vP_to (by simp (disch := omega) only [gdW_true, gdW_false, gB_true, gB_false, gB_undef, pickV_true, pickV_false, Bool.not_true, Bool.not_false, Option.map_some, bin_add, bin_sub, bin_mul, bin_quo, bin_rem, lss_t, lss_f, leq_t, leq_f, gtr_t, gtr_f, geq_t, geq_f, eqi_t, eqi_f, nei_t, nei_f, rem_uw, conv_ui, conv_iu, conv_ii, not_bool, nil_ptr, fa_mk, ptrV, len_mk, cap_mk, eq_ptr_nil, ne_ptr_nil, eq_nil_nil, ne_nil_nil, eq_slice_nil, eq_nil_slice, ia_1, l3]; exact so_so) ?_)
    refine hK ov h8 (dropL (P := pt r3 (.cells #[ov] 22 (0, 0)) * (pt r4 (.cells #[.map (some r8)] 51 (0, 0)) * (MP r8 (setM (0 :: w.rootsL)) * pt r1 (.cells w.cells 26 (0, 0))))) (Q := SG iE 3 ov w.rootsL * (own g * F)) (asr (by ac_rfl) hh8) |> asr (by ac_rfl))

end Go.Proofs

/-
  A view as it came in: through and through.
-/
set_option maxRecDepth 100000
namespace Go.Sl
open Go.ChangeShapes Go.WideShapes Go.ChangeAt Go.RowKit

theorem row_in {g : Hp} {a : Addr} {n : Nat} {c : List Value} (hn : 0 < n) (hl : c.length = n) (h : ∀ j, j < n → g.cell (a.add j) = c[j]?) :
    ∃ b o, a = ⟨b, o, none⟩ ∧ (∀ q v, c[q]? = some v → ld1 (.pointer (some ⟨b, o + q, none⟩)) g = some v) ∧ ldN n (.pointer (some ⟨b, o, none⟩)) g = some (.agg c.toArray) := by
  have hr := row_of_cells hn hl h
  have hs : a.spot = none := by
    cases hs : a.spot with
    | none => rfl
    | some s =>
      have h0 := h 0 hn
      rw [show a.add 0 = a from by cases a; simp [Addr.add], List.getElem?_eq_getElem (by omega)] at h0
      obtain ⟨o, ho, hc⟩ := Hp.block_of_cell h0
      unfold Hp.row rowIn at hr
      cases o <;> simp_all [Obj.cellAt]
  obtain ⟨b, o, sp⟩ := a
  simp only at hs
  subst hs
  refine ⟨b, o, rfl, fun q v hq => ?_, ?_⟩
  · have hq' := (List.getElem?_eq_some_iff.1 hq).1
    have := h q (by omega)
    rw [add_mk, hq] at this
    exact this
  · show (g.row _ n).map Value.agg = _
    rw [hr]; rfl

theorem one_in {g : Hp} {a : Addr} {c : List Value} (hl : c.length = 1) (h : ∀ j, j < 1 → g.cell (a.add j) = c[j]?) : ∀ v, c = [v] → ld1 (.pointer (some a)) g = some v := fun v e => by
  subst e
  have := h 0 (by omega)
  rw [show a.add 0 = a from by cases a; simp [Addr.add]] at this
  exact this

theorem sl1_in {P : Program} {g : Hp} {f : Nat} {t e : TypeId} {cs : List Value} (ht : P.underlying t = some (.slice e)) (he : P.underlying e = some (.int .i64)) (hc : P.cellsOf e = 1) (h : OkF P g f t cs) : ∃ v xs, cs = [v] ∧ IntsAt g v xs := by
  rcases okF_slice ht h with rfl | ⟨a, len, cap, rfl, hl, hm, f', hel⟩
  · exact ⟨_, [], rfl, rfl, by simp, fun j x k h => by simp at h⟩
  · rw [hc] at hel
    have hex : ∀ i, i < len → ∃ x : Int, ld1 (.pointer (some (a.add (i * 1)))) g = some (.int .i64 x) := fun i hi => by
      obtain ⟨c, h1, h2, h3⟩ := hel i hi
      obtain ⟨n, e1, _⟩ := okF_int he h3
      exact ⟨n, one_in h1 h2 _ e1⟩
    obtain ⟨xs, hx1, hx2⟩ := list_of hex
    subst hx1
    exact ⟨_, xs, rfl, rfl, by unfold maxLen at hm; omega, fun j x k hj => ⟨_, iaS_at (List.getElem?_eq_some_iff.1 hj).1, hx2 j x hj⟩⟩

theorem sl3_in {α : Type} {row : α → List Value} {R : α → Prop} {P : Program} {g : Hp} {f : Nat} {t e : TypeId} {cs : List Value} (ht : P.underlying t = some (.slice e)) (hc : P.cellsOf e = 3) (hr : ∀ x, (row x).length = 3)
    (hR : ∀ f' c, c.length = 3 → OkF P g f' e c → ∃ x, c = row x ∧ R x) (h : OkF P g f t cs) : ∃ (v : Value) (l : List α), cs = [v] ∧ RowsAt g 3 v (l.map row) ∧ ∀ x ∈ l, R x := by
  rcases okF_slice ht h with rfl | ⟨a, len, cap, rfl, hl, hm, f', hel⟩
  · exact ⟨_, [], rfl, ⟨rfl, by simp, fun j x k h => by simp at h⟩, by simp⟩
  · rw [hc] at hel
    have hex : ∀ i, i < len → ∃ x : α, R x ∧ ∀ j, j < 3 → g.cell ((a.add (i * 3)).add j) = (row x)[j]? := fun i hi => by
      obtain ⟨c, h1, h2, h3⟩ := hel i hi
      obtain ⟨x, e1, hx⟩ := hR f' c h1 h3
      exact ⟨x, hx, by rw [← e1]; exact h2⟩
    obtain ⟨xs, hx1, hx2⟩ := list_of hex
    subst hx1
    refine ⟨_, xs, rfl, ⟨?_, ?_, ?_⟩, fun x hx => ?_⟩
    · rw [List.length_map]; rfl
    · rw [List.length_map]; unfold maxLen at hm; omega
    · intro j r k hj
      rw [List.getElem?_map] at hj
      obtain ⟨x, hx, rfl⟩ := Option.map_eq_some_iff.1 hj
      obtain ⟨b, o, e1, e2, e3⟩ := row_in (n := 3) (by omega) (hr x) (hx2 j x hx).2
      refine ⟨hr x, b, o, ?_, e2, e3⟩
      rw [iaS_at (List.getElem?_eq_some_iff.1 hx).1, e1]
    · obtain ⟨j, hj, e⟩ := List.getElem_of_mem hx
      exact (hx2 j x (by rw [List.getElem?_eq_getElem hj, e])).1

end Go.Sl

namespace Go.Proofs
open Go.Sl Go.ChangeShapes Go.WideShapes Go.ChangeAt Go.RowKit

theorem uInt : Try.prog.underlying 3 = some (.int .i64) := by kernel_rfl
theorem uInt64 : Try.prog.underlying 2 = some (.int .i64) := by kernel_rfl
theorem uBool : Try.prog.underlying 4 = some .bool := by kernel_rfl
theorem uInts : Try.prog.underlying 22 = some (.slice 3) := by kernel_rfl
theorem uObjs : Try.prog.underlying 24 = some (.slice 30) := by kernel_rfl
theorem uGs : Try.prog.underlying 23 = some (.slice 41) := by kernel_rfl
theorem cInt : Try.prog.cellsOf 3 = 1 := by kernel_rfl
theorem cInt64 : Try.prog.cellsOf 2 = 1 := by kernel_rfl
theorem cBool : Try.prog.cellsOf 4 = 1 := by kernel_rfl
theorem cInts : Try.prog.cellsOf 22 = 1 := by kernel_rfl
theorem cObjs : Try.prog.cellsOf 24 = 1 := by kernel_rfl
theorem cGs : Try.prog.cellsOf 23 = 1 := by kernel_rfl
theorem cObj : Try.prog.cellsOf 30 = 3 := by kernel_rfl
theorem cG : Try.prog.cellsOf 41 = 3 := by kernel_rfl
theorem cView : Try.prog.cellsOf 26 = 9 := by kernel_rfl

/-- The fields of a struct type, their types and places. -/
def flds (P : Program) (t : TypeId) : Option (List (TypeId × Nat)) :=
  match P.underlying t with
  | some (.struct fs) => some (fs.toList.map fun f => (f.type, f.offset))
  | _ => none

theorem okF_flds {P : Program} {g : Hp} {f : Nat} {t : TypeId} {fs : List (TypeId × Nat)} {cs : List Value} (ht : flds P t = some fs) (h : OkF P g f t cs) :
    cs.length = P.cellsOf t ∧ ∃ f', ∀ (i : Nat) (y : TypeId) (o : Nat), fs[i]? = some (y, o) → OkF P g f' y ((cs.drop o).take (P.cellsOf y)) := by
  unfold flds at ht
  split at ht
  · rename_i fa hu
    cases ht
    obtain ⟨h1, f', h2⟩ := okF_struct hu h
    refine ⟨h1, f', fun i y o hi => ?_⟩
    rw [List.getElem?_map] at hi
    obtain ⟨fd, hf, e⟩ := Option.map_eq_some_iff.1 hi
    cases e
    exact h2 i fd (by rw [← Array.getElem?_toList]; exact hf)
  · cases ht

theorem fObj : flds Try.prog 30 = some [(3, 0), (22, 1), (4, 2)] := by kernel_rfl
theorem fG : flds Try.prog 41 = some [(3, 0), (3, 1), (22, 2)] := by kernel_rfl
theorem fView : flds Try.prog 26 = some [(3, 0), (3, 1), (2, 2), (22, 3), (23, 4), (24, 5), (3, 6), (3, 7), (3, 8)] := by kernel_rfl

theorem obj_in {g : Hp} {f : Nat} {c : List Value} (hl : c.length = 3) (h : OkF Try.prog g f 30 c) : ∃ o : Ob, c = o.row ∧ IntsAt g o.sv o.slots ∧ o.addr ≤ 9223372036854775807 := by
  obtain ⟨_, f', hf⟩ := okF_flds fObj h
  match c, hl with
  | [c0, c1, c2], _ =>
    have g0 := hf 0 3 0 rfl
    have g1 := hf 1 22 1 rfl
    have g2 := hf 2 4 2 rfl
    rw [cInt] at g0; rw [cInts] at g1; rw [cBool] at g2
    obtain ⟨n, e0, _, b0⟩ := okF_int uInt g0
    obtain ⟨v, xs, e1, hx⟩ := sl1_in uInts uInt cInt g1
    obtain ⟨b, e2⟩ := okF_bool uBool g2
    simp at e0 e1 e2
    subst e0; subst e1; subst e2
    exact ⟨⟨n, c1, xs, b⟩, rfl, hx, b0⟩

theorem gor_in {g : Hp} {f : Nat} {c : List Value} (hl : c.length = 3) (h : OkF Try.prog g f 41 c) : ∃ o : Gr, c = o.row ∧ IntsAt g o.sv o.stack := by
  obtain ⟨_, f', hf⟩ := okF_flds fG h
  match c, hl with
  | [c0, c1, c2], _ =>
    have g0 := hf 0 3 0 rfl
    have g1 := hf 1 3 1 rfl
    have g2 := hf 2 22 2 rfl
    rw [cInt] at g0 g1; rw [cInts] at g2
    obtain ⟨n, e0, _⟩ := okF_int uInt g0
    obtain ⟨m, e1, _⟩ := okF_int uInt g1
    obtain ⟨v, xs, e2, hx⟩ := sl1_in uInts uInt cInt g2
    simp at e0 e1 e2
    subst e0; subst e1; subst e2
    exact ⟨⟨n, m, c2, xs⟩, rfl, hx⟩

theorem view_in {H : Type} {enc : TypeId × Value → H} {W : World} {held : Bool} {v : Value} {d : DataW H} {p : List MemPlace} (h : DataW.Trod enc Try.prog W 0 (fun _ => true) held 26 v d p) :
    ∃ w : VW, VAt W.hp w ∧ (∀ o ∈ w.objs, o.addr ≤ 9223372036854775807) ∧ v = w.val := by
  obtain ⟨f, hF⟩ := okF_of h
  obtain ⟨hl, f', hf⟩ := okF_flds fView hF
  rw [cView] at hl
  have hv : ∃ cs, v = .agg cs := by
    cases v <;> first | exact ⟨_, rfl⟩ | (simp [Value.cells] at hl)
  obtain ⟨⟨l⟩, rfl⟩ := hv
  have hl : l.length = 9 := hl
  match l, hl with
  | [c0, c1, c2, c3, c4, c5, c6, c7, c8], _ =>
    have g0 := hf 0 3 0 rfl
    have g1 := hf 1 3 1 rfl
    have g2 := hf 2 2 2 rfl
    have g3 := hf 3 22 3 rfl
    have g4 := hf 4 23 4 rfl
    have g5 := hf 5 24 5 rfl
    have g6 := hf 6 3 6 rfl
    have g7 := hf 7 3 7 rfl
    have g8 := hf 8 3 8 rfl
    rw [cInt] at g0 g1 g6 g7 g8
    rw [cInt64] at g2
    rw [cInts] at g3
    rw [cGs] at g4
    rw [cObjs] at g5
    obtain ⟨n0, e0, _⟩ := okF_int uInt g0
    obtain ⟨n1, e1, _⟩ := okF_int uInt g1
    obtain ⟨n2, e2, _⟩ := okF_int uInt64 g2
    obtain ⟨v3, xs, e3, hx⟩ := sl1_in uInts uInt cInt g3
    obtain ⟨v4, gs, e4, hg1, hg2⟩ := sl3_in (row := Gr.row) (R := fun o => IntsAt W.hp o.sv o.stack) uGs cG (fun _ => rfl) (fun _ _ a b => gor_in a b) g4
    obtain ⟨v5, os, e5, ho1, ho2⟩ := sl3_in (row := Ob.row) (R := fun o => IntsAt W.hp o.sv o.slots ∧ o.addr ≤ 9223372036854775807) uObjs cObj (fun _ => rfl) (fun _ _ a b => obj_in a b) g5
    obtain ⟨n6, e6, _⟩ := okF_int uInt g6
    obtain ⟨n7, e7, _⟩ := okF_int uInt g7
    obtain ⟨n8, e8, _⟩ := okF_int uInt g8
    simp [Value.cells] at e0 e1 e2 e3 e4 e5 e6 e7 e8
    subst e0; subst e1; subst e2; subst e3; subst e4; subst e5; subst e6; subst e7; subst e8
    exact ⟨⟨n0, n1, n2, c3, xs, c4, gs, c5, os, n6, n7, n8⟩, ⟨hx, hg1, ho1, fun o ho => (ho2 o ho).1, hg2⟩, fun o ho => (ho2 o ho).2, rfl⟩

end Go.Proofs
