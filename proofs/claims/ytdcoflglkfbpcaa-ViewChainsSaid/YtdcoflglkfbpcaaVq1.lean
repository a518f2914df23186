/-
  Find, Words, of view and of the document; law 29's own.
-/
import Derived.Test.YtdcoflglkfbpcaaVp1
set_option linter.unusedVariables false
set_option linter.unusedSimpArgs false
set_option maxRecDepth 100000
set_option maxHeartbeats 4000000
namespace Go.Proofs
open Go.Sl

def findV (w : VW) (x : Int) : Int := match w.at x with | some i => (i : Int) | none => -1

theorem use_vfind {g : Hp} {w : VW} {x : Int} {F : Asrt} {K : Value → Hp → Prop} {h : Hp} (hv : VAt g w) (hh : (own g * (F * tt)) h)
    (hK : ∀ h', (own g * (F * tt)) h' → K (.int .i64 (findV w x)) h') : CallH Try.prog 22 #[w.val, .int .i64 x] K h := by
  refine C22 ?_
  unfold D22
  refine vA_new (o := .cells w.cells 26 (0, 0)) hh fun r2 h1 hh1 => ?_
  refine vA_new (o := .cells #[.int .i64 x] 3 (0, 0)) hh1 fun r3 h2 hh2 => ?_
  have l5 := (vw_ld (r := r2) (w := w) (E := 26) (F := pt r3 (.cells #[.int .i64 x] 3 (0, 0)) * (own g * (F * tt))) (asr (by ac_rfl) hh2)).2.2.2.2.2.1
  repeat (with_reducible first | refine vP_so ?_ | refine vB_t ?_ | refine vB_f ?_ | refine vE_tt ?_ | refine vE_ff ?_ | refine vE_tf ?_ | refine vE_ft ?_ | refine vE_u ?_ | refine vP_to (by simp (disch := omega) only [gdW_true, gdW_false, gB_true, gB_false, gB_undef, pickV_true, pickV_false, Bool.not_true, Bool.not_false, Option.map_some, bin_add, bin_sub, bin_mul, bin_quo, bin_rem, lss_t, lss_f, leq_t, leq_f, gtr_t, gtr_f, geq_t, geq_f, eqi_t, eqi_f, nei_t, nei_f, rem_uw, conv_ui, conv_iu, conv_ii, not_bool, nil_ptr, fa_mk, ptrV, len_mk, cap_mk, eq_ptr_nil, ne_ptr_nil, eq_nil_nil, ne_nil_nil, eq_slice_nil, eq_nil_slice, ia_1, l5]; exact so_so) ?_)
  refine use_idxf (p := fun o => o.addr == x) (F := pt r3 (.cells #[.int .i64 x] 3 (0, 0)) * (pt r2 (.cells w.cells 26 (0, 0)) * F)) hv (asr (by ac_rfl) hh2) (fun o ho h K q k => ?_) fun h3 hh3 => ?_
  · refine cv_fn (by kernel_rfl) ?_
    show CallH Try.prog 49 #[.agg #[.int .i64 o.addr, o.sv, .bool o.marked], .pointer (some ⟨r3, 0, none⟩)] K h
    refine C49 ?_
    unfold D49
    refine vA_new (o := .cells #[.int .i64 o.addr, o.sv, .bool o.marked] 30 (0, 0)) q fun r5 h4 hh4 => ?_
    have l0 : ld1 (.pointer (some ⟨r5, 0 + 0, none⟩)) h4 = some (.int .i64 o.addr) := ld1_mk (pt_get hh4) rfl
    have hr3 : (pt r3 (.cells #[.int .i64 x] 3 (0, 0)) * (pt r5 (.cells #[.int .i64 o.addr, o.sv, .bool o.marked] 30 (0, 0)) * (own g * (pt r2 (.cells w.cells 26 (0, 0)) * F * tt)))) h4 := asr (by ac_rfl) hh4
    have l1 : ld1 (.pointer (some ⟨r3, 0, none⟩)) h4 = some (.int .i64 x) := ld1_mk (pt_get hr3) rfl
    have k := k h4 (dropL (P := pt r5 (.cells #[.int .i64 o.addr, o.sv, .bool o.marked] 30 (0, 0))) (Q := own g * (pt r3 (.cells #[.int .i64 x] 3 (0, 0)) * (pt r2 (.cells w.cells 26 (0, 0)) * F))) (asr (by ac_rfl) hh4) |> asr (by ac_rfl))
    by_cases hx : o.addr = x
    · repeat (with_reducible first | refine vP_so ?_ | refine vB_t ?_ | refine vB_f ?_ | refine vE_tt ?_ | refine vE_ff ?_ | refine vE_tf ?_ | refine vE_ft ?_ | refine vE_u ?_ | refine vP_to (by simp (disch := omega) only [gdW_true, gdW_false, gB_true, gB_false, gB_undef, pickV_true, pickV_false, Bool.not_true, Bool.not_false, Option.map_some, bin_add, bin_sub, bin_mul, bin_quo, bin_rem, lss_t, lss_f, leq_t, leq_f, gtr_t, gtr_f, geq_t, geq_f, eqi_t, eqi_f, nei_t, nei_f, rem_uw, conv_ui, conv_iu, conv_ii, not_bool, nil_ptr, fa_mk, ptrV, len_mk, cap_mk, eq_ptr_nil, ne_ptr_nil, eq_nil_nil, ne_nil_nil, eq_slice_nil, eq_nil_slice, ia_1, l0, l1]; exact so_so) ?_)
      rw [show (o.addr == x) = true by simp [hx]] at k
      exact k
    · repeat (with_reducible first | refine vP_so ?_ | refine vB_t ?_ | refine vB_f ?_ | refine vE_tt ?_ | refine vE_ff ?_ | refine vE_tf ?_ | refine vE_ft ?_ | refine vE_u ?_ | refine vP_to (by simp (disch := omega) only [gdW_true, gdW_false, gB_true, gB_false, gB_undef, pickV_true, pickV_false, Bool.not_true, Bool.not_false, Option.map_some, bin_add, bin_sub, bin_mul, bin_quo, bin_rem, lss_t, lss_f, leq_t, leq_f, gtr_t, gtr_f, geq_t, geq_f, eqi_t, eqi_f, nei_t, nei_f, rem_uw, conv_ui, conv_iu, conv_ii, not_bool, nil_ptr, fa_mk, ptrV, len_mk, cap_mk, eq_ptr_nil, ne_ptr_nil, eq_nil_nil, ne_nil_nil, eq_slice_nil, eq_nil_slice, ia_1, l0, l1]; exact so_so) ?_)
      rw [show (o.addr == x) = false by simp [hx]] at k
      exact k
  · show K (.int .i64 (findV w x)) h3
    exact hK h3 (dropL (P := pt r3 (.cells #[.int .i64 x] 3 (0, 0)) * pt r2 (.cells w.cells 26 (0, 0))) (Q := own g * F) (asr (by ac_rfl) hh3) |> asr (by ac_rfl))

theorem at_first {w : VW} {x : Int} {i : Nat} {o : Ob} (ho : w.objs[i]? = some o) (hx : o.addr = x) (hno : ∀ (j : Nat) o', j < i → w.objs[j]? = some o' → o'.addr ≠ x) : w.at x = some i := by
  unfold VW.at
  rw [List.findIdx?_eq_some_iff_getElem]
  obtain ⟨hlt, he⟩ := List.getElem?_eq_some_iff.1 ho
  refine ⟨hlt, by rw [he]; simpa using hx, fun j hj => ?_⟩
  have := hno j w.objs[j] hj (List.getElem?_eq_getElem (by omega))
  simp [this]

theorem at_no {w : VW} {x : Int} (hno : ∀ (j : Nat) o', w.objs[j]? = some o' → o'.addr ≠ x) : w.at x = none := by
  unfold VW.at
  rw [List.findIdx?_eq_none_iff]
  intro o ho
  obtain ⟨j, hj, e⟩ := List.getElem_of_mem ho
  simpa using hno j o (by rw [List.getElem?_eq_getElem hj, e])

theorem use_rfind {g : Hp} {w : VW} {x : Int} {F : Asrt} {K : Value → Hp → Prop} {h : Hp} (hv : VAt g w) (hh : (own g * (F * tt)) h)
    (hK : ∀ h', (own g * (F * tt)) h' → K (.int .i64 (findV w x)) h') : CallH Try.prog 33 #[w.val, .int .i64 x] K h := by
  refine C33 ?_
  unfold D33
  have hol := hv.objs_len
  refine vA_new (o := .cells w.cells 26 (0, 0)) hh fun r1 h1 hh1 => ?_
  have lo := (vw_ld (r := r1) (w := w) (E := 26) hh1).2.2.2.2.2.1
  have hw := own_vat (F := pt r1 (.cells w.cells 26 (0, 0)) * (F * tt)) (asr (by ac_rfl) hh1) hv
  have hd : (own g * (F * tt)) h1 := dropL (P := pt r1 (.cells w.cells 26 (0, 0))) (Q := own g * F) (asr (by ac_rfl) hh1) |> asr (by ac_rfl)
  refine ⟨fun m zs h' => ∃ i : Nat, zs = [.int .i64 i] ∧ m = w.objs.length - i ∧ i ≤ w.objs.length ∧ (∀ (j : Nat) o, j < i → w.objs[j]? = some o → o.addr ≠ x) ∧ h' = h1, ⟨_, 0, rfl, rfl, by omega, fun j r hj => by omega, rfl⟩, ?_⟩
  rintro m v3 h2 ⟨i, hzs, rfl, hi, hok, rfl⟩ _
  obtain rfl : v3 = .int .i64 i := by simpa using hzs
  have hK := hK h2 hd
  by_cases hil : i < w.objs.length
  · have hoi : w.objs[i]? = some w.objs[i] := List.getElem?_eq_getElem hil
    obtain ⟨b, q, e1, e2, _, _, _⟩ := hw.obj hoi .i64
    generalize w.objs[i] = o at *
    by_cases hx : o.addr = x
    · repeat (with_reducible first | refine vP_so ?_ | refine vB_t ?_ | refine vB_f ?_ | refine vE_tt ?_ | refine vE_ff ?_ | refine vE_tf ?_ | refine vE_ft ?_ | refine vE_u ?_ | refine vP_to (by simp (disch := omega) only [gdW_true, gdW_false, gB_true, gB_false, gB_undef, pickV_true, pickV_false, Bool.not_true, Bool.not_false, Option.map_some, bin_add, bin_sub, bin_mul, bin_quo, bin_rem, lss_t, lss_f, leq_t, leq_f, gtr_t, gtr_f, geq_t, geq_f, eqi_t, eqi_f, nei_t, nei_f, rem_uw, conv_ui, conv_iu, conv_ii, not_bool, nil_ptr, fa_mk, ptrV, len_mk, cap_mk, eq_ptr_nil, ne_ptr_nil, eq_nil_nil, ne_nil_nil, eq_slice_nil, eq_nil_slice, ia_1, lo, hol.1, e1, e2]; exact so_so) ?_)
      have : findV w x = i := by unfold findV; rw [at_first hoi hx hok]
      rw [this] at hK
      exact hK
    · repeat (with_reducible first | refine vP_so ?_ | refine vB_t ?_ | refine vB_f ?_ | refine vE_tt ?_ | refine vE_ff ?_ | refine vE_tf ?_ | refine vE_ft ?_ | refine vE_u ?_ | refine vP_to (by simp (disch := omega) only [gdW_true, gdW_false, gB_true, gB_false, gB_undef, pickV_true, pickV_false, Bool.not_true, Bool.not_false, Option.map_some, bin_add, bin_sub, bin_mul, bin_quo, bin_rem, lss_t, lss_f, leq_t, leq_f, gtr_t, gtr_f, geq_t, geq_f, eqi_t, eqi_f, nei_t, nei_f, rem_uw, conv_ui, conv_iu, conv_ii, not_bool, nil_ptr, fa_mk, ptrV, len_mk, cap_mk, eq_ptr_nil, ne_ptr_nil, eq_nil_nil, ne_nil_nil, eq_slice_nil, eq_nil_slice, ia_1, lo, hol.1, e1, e2]; exact so_so) ?_)
      refine ⟨w.objs.length - (i + 1), by omega, i + 1, by simp, rfl, by omega, fun j o' hj ho' => ?_, rfl⟩
      by_cases hji : j = i
      · subst hji
        obtain rfl : o = o' := Option.some.inj (hoi.symm.trans ho')
        exact hx
      · exact hok j o' (by omega) ho'
  · obtain rfl : i = w.objs.length := by omega
    have : findV w x = -1 := by
      unfold findV
      rw [at_no fun j o' ho' => hok j o' (List.getElem?_eq_some_iff.1 ho').1 ho']
    rw [this] at hK
    repeat (with_reducible first | refine vP_so ?_ | refine vB_t ?_ | refine vB_f ?_ | refine vE_tt ?_ | refine vE_ff ?_ | refine vE_tf ?_ | refine vE_ft ?_ | refine vE_u ?_ | refine vP_to (by simp (disch := omega) only [gdW_true, gdW_false, gB_true, gB_false, gB_undef, pickV_true, pickV_false, Bool.not_true, Bool.not_false, Option.map_some, bin_add, bin_sub, bin_mul, bin_quo, bin_rem, lss_t, lss_f, leq_t, leq_f, gtr_t, gtr_f, geq_t, geq_f, eqi_t, eqi_f, nei_t, nei_f, rem_uw, conv_ui, conv_iu, conv_ii, not_bool, nil_ptr, fa_mk, ptrV, len_mk, cap_mk, eq_ptr_nil, ne_ptr_nil, eq_nil_nil, ne_nil_nil, eq_slice_nil, eq_nil_slice, ia_1, lo, hol.1]; exact so_so) ?_)
    exact hK

def sumO : List Ob → Int
  | [] => 0
  | o :: l => szO o + sumO l

theorem sumO_app (l m : List Ob) : sumO (l ++ m) = sumO l + sumO m := by
  induction l with
  | nil => simp [sumO]
  | cons a l ih => simp only [List.cons_append, sumO, ih]; omega

theorem szO_le (o : Ob) : 0 ≤ szO o ∧ szO o ≤ 256 := by
  unfold szO
  by_cases h : 0 ≤ ofS (o.slots.length : Int) ∧ ofS (o.slots.length : Int) < 16
  · have := szS_pos h
    omega
  · rw [szS_out h]
    omega

theorem sumO_le : ∀ l : List Ob, 0 ≤ sumO l ∧ sumO l ≤ 256 * l.length
  | [] => by simp [sumO]
  | o :: l => by
    have h1 := szO_le o
    have h2 := sumO_le l
    simp only [sumO, List.length_cons]
    omega

theorem use_words {g : Hp} {w : VW} {F : Asrt} {K : Value → Hp → Prop} {h : Hp} (hv : VAt g w) (hO : w.objs.length ≤ 1000000) (hh : (own g * (F * tt)) h)
    (hK : ∀ h', (own g * (F * tt)) h' → K (.int .i64 (sumO w.objs)) h') : CallH Try.prog 25 #[w.val] K h := by
  refine C25 ?_
  unfold D25
  have hol := hv.objs_len
  refine vA_new (o := .cells w.cells 26 (0, 0)) hh fun r1 h1 hh1 => ?_
  have lo := (vw_ld (r := r1) (w := w) (E := 26) hh1).2.2.2.2.2.1
  have hd : (own g * (F * tt)) h1 := dropL (P := pt r1 (.cells w.cells 26 (0, 0))) (Q := own g * F) (asr (by ac_rfl) hh1) |> asr (by ac_rfl)
  repeat (with_reducible first | refine vP_so ?_ | refine vB_t ?_ | refine vB_f ?_ | refine vE_tt ?_ | refine vE_ff ?_ | refine vE_tf ?_ | refine vE_ft ?_ | refine vE_u ?_ | refine vP_to (by simp (disch := omega) only [gdW_true, gdW_false, gB_true, gB_false, gB_undef, pickV_true, pickV_false, Bool.not_true, Bool.not_false, Option.map_some, bin_add, bin_sub, bin_mul, bin_quo, bin_rem, lss_t, lss_f, leq_t, leq_f, gtr_t, gtr_f, geq_t, geq_f, eqi_t, eqi_f, nei_t, nei_f, rem_uw, conv_ui, conv_iu, conv_ii, not_bool, nil_ptr, fa_mk, ptrV, len_mk, cap_mk, eq_ptr_nil, ne_ptr_nil, eq_nil_nil, ne_nil_nil, eq_slice_nil, eq_nil_slice, ia_1, lo, hol.1]; exact so_so) ?_)
  refine ⟨fun m zs h' => ∃ i : Nat, zs = [.int .i64 i, .int .i64 (sumO (w.objs.take i))] ∧ m = w.objs.length - i ∧ i ≤ w.objs.length ∧ (own g * (F * tt)) h', ⟨_, 0, by simp [sumO], rfl, by omega, hd⟩, ?_⟩
  clear hh1 lo
  rintro m v10 v3 h2 ⟨i, hzs, rfl, hi, hh2⟩ _
  obtain ⟨rfl, rfl⟩ : v10 = .int .i64 i ∧ v3 = .int .i64 (sumO (w.objs.take i)) := by simpa using hzs
  by_cases hil : i < w.objs.length
  · have hw := own_vat hh2 hv
    have hoi : w.objs[i]? = some w.objs[i] := List.getElem?_eq_getElem hil
    obtain ⟨b, q, e1, _, _, _, e5⟩ := hw.obj hoi .i64
    have htk := List.take_succ_eq_append_getElem hil
    have hsl := hv.slots w.objs[i] (List.getElem_mem hil)
    have hsu := sumO_le (w.objs.take i)
    rw [List.length_take] at hsu
    generalize w.objs[i] = o at *
    have hso := szO_le o
    repeat (with_reducible first | refine vP_so ?_ | refine vB_t ?_ | refine vB_f ?_ | refine vE_tt ?_ | refine vE_ff ?_ | refine vE_tf ?_ | refine vE_ft ?_ | refine vE_u ?_ | refine vP_to (by simp (disch := omega) only [gdW_true, gdW_false, gB_true, gB_false, gB_undef, pickV_true, pickV_false, Bool.not_true, Bool.not_false, Option.map_some, bin_add, bin_sub, bin_mul, bin_quo, bin_rem, lss_t, lss_f, leq_t, leq_f, gtr_t, gtr_f, geq_t, geq_f, eqi_t, eqi_f, nei_t, nei_f, rem_uw, conv_ui, conv_iu, conv_ii, not_bool, nil_ptr, fa_mk, ptrV, len_mk, cap_mk, eq_ptr_nil, ne_ptr_nil, eq_nil_nil, ne_nil_nil, eq_slice_nil, eq_nil_slice, ia_1]; exact so_so) ?_)
    intro J2 hJ2
    have hJ : ∀ h', (own g * (F * tt)) h' → J2 [.int .i64 (sumO (w.objs.take i) + szO o)] h' := fun h' hq => by
      refine hJ2 _ _ fun _ => ?_
      repeat (with_reducible first | refine vP_so ?_ | refine vB_t ?_ | refine vB_f ?_ | refine vE_tt ?_ | refine vE_ff ?_ | refine vE_tf ?_ | refine vE_ft ?_ | refine vE_u ?_ | refine vP_to (by simp (disch := omega) only [gdW_true, gdW_false, gB_true, gB_false, gB_undef, pickV_true, pickV_false, Bool.not_true, Bool.not_false, Option.map_some, bin_add, bin_sub, bin_mul, bin_quo, bin_rem, lss_t, lss_f, leq_t, leq_f, gtr_t, gtr_f, geq_t, geq_f, eqi_t, eqi_f, nei_t, nei_f, rem_uw, conv_ui, conv_iu, conv_ii, not_bool, nil_ptr, fa_mk, ptrV, len_mk, cap_mk, eq_ptr_nil, ne_ptr_nil, eq_nil_nil, ne_nil_nil, eq_slice_nil, eq_nil_slice, ia_1]; exact so_so) ?_)
      exact ⟨w.objs.length - (i + 1), by omega, i + 1, by rw [htk, sumO_app]; simp [sumO], rfl, by omega, hq⟩
    repeat (with_reducible first | refine vP_so ?_ | refine vB_t ?_ | refine vB_f ?_ | refine vE_tt ?_ | refine vE_ff ?_ | refine vE_tf ?_ | refine vE_ft ?_ | refine vE_u ?_ | refine vP_to (by simp (disch := omega) only [gdW_true, gdW_false, gB_true, gB_false, gB_undef, pickV_true, pickV_false, Bool.not_true, Bool.not_false, Option.map_some, bin_add, bin_sub, bin_mul, bin_quo, bin_rem, lss_t, lss_f, leq_t, leq_f, gtr_t, gtr_f, geq_t, geq_f, eqi_t, eqi_f, nei_t, nei_f, rem_uw, conv_ui, conv_iu, conv_ii, not_bool, nil_ptr, fa_mk, ptrV, len_mk, cap_mk, eq_ptr_nil, ne_ptr_nil, eq_nil_nil, ne_nil_nil, eq_slice_nil, eq_nil_slice, ia_1, e1, e5]; exact so_so) ?_)
    refine vA_new hh2 fun r6 h3 hh3 => ?_
    refine stN_mk (cs := #[.int .i64 o.addr, o.sv, .bool o.marked]) hh3 (one_ob hsl) rfl (by simp) fun h4 hh4 => ?_
    have hh4 : (pt r6 (.cells #[.int .i64 o.addr, o.sv, .bool o.marked] 30 (0, 0)) * (own g * (F * tt))) h4 := hh4
    have l1 : ld1 (.pointer (some ⟨r6, 0 + 1, none⟩)) h4 = some o.sv := ld1_mk (pt_get hh4) rfl
    have hh4 : (own g * (F * tt)) h4 := dropL (P := pt r6 (.cells #[.int .i64 o.addr, o.sv, .bool o.marked] 30 (0, 0))) (Q := own g * F) (asr (by ac_rfl) hh4) |> asr (by ac_rfl)
    repeat (with_reducible first | refine vP_so ?_ | refine vB_t ?_ | refine vB_f ?_ | refine vE_tt ?_ | refine vE_ff ?_ | refine vE_tf ?_ | refine vE_ft ?_ | refine vE_u ?_ | refine vP_to (by simp (disch := omega) only [gdW_true, gdW_false, gB_true, gB_false, gB_undef, pickV_true, pickV_false, Bool.not_true, Bool.not_false, Option.map_some, bin_add, bin_sub, bin_mul, bin_quo, bin_rem, lss_t, lss_f, leq_t, leq_f, gtr_t, gtr_f, geq_t, geq_f, eqi_t, eqi_f, nei_t, nei_f, rem_uw, conv_ui, conv_iu, conv_ii, not_bool, nil_ptr, fa_mk, ptrV, len_mk, cap_mk, eq_ptr_nil, ne_ptr_nil, eq_nil_nil, ne_nil_nil, eq_slice_nil, eq_nil_slice, ia_1, l1, hsl.len]; exact so_so) ?_)
    refine use_of (F := own g * F) (asr (by ac_rfl) hh4) fun h5 hh5 => ?_
    by_cases hk : 0 ≤ ofS (o.slots.length : Int)
    · repeat (with_reducible first | refine vP_so ?_ | refine vB_t ?_ | refine vB_f ?_ | refine vE_tt ?_ | refine vE_ff ?_ | refine vE_tf ?_ | refine vE_ft ?_ | refine vE_u ?_ | refine vP_to (by simp (disch := omega) only [gdW_true, gdW_false, gB_true, gB_false, gB_undef, pickV_true, pickV_false, Bool.not_true, Bool.not_false, Option.map_some, bin_add, bin_sub, bin_mul, bin_quo, bin_rem, lss_t, lss_f, leq_t, leq_f, gtr_t, gtr_f, geq_t, geq_f, eqi_t, eqi_f, nei_t, nei_f, rem_uw, conv_ui, conv_iu, conv_ii, not_bool, nil_ptr, fa_mk, ptrV, len_mk, cap_mk, eq_ptr_nil, ne_ptr_nil, eq_nil_nil, ne_nil_nil, eq_slice_nil, eq_nil_slice, ia_1]; exact so_so) ?_)
      refine use_size (F := own g * F) hh5 fun h6 hh6 => ?_
      have hso : 0 ≤ szS (ofS (o.slots.length : Int)) ∧ szS (ofS (o.slots.length : Int)) ≤ 256 := hso
      repeat (with_reducible first | refine vP_so ?_ | refine vB_t ?_ | refine vB_f ?_ | refine vE_tt ?_ | refine vE_ff ?_ | refine vE_tf ?_ | refine vE_ft ?_ | refine vE_u ?_ | refine vP_to (by simp (disch := omega) only [gdW_true, gdW_false, gB_true, gB_false, gB_undef, pickV_true, pickV_false, Bool.not_true, Bool.not_false, Option.map_some, bin_add, bin_sub, bin_mul, bin_quo, bin_rem, lss_t, lss_f, leq_t, leq_f, gtr_t, gtr_f, geq_t, geq_f, eqi_t, eqi_f, nei_t, nei_f, rem_uw, conv_ui, conv_iu, conv_ii, not_bool, nil_ptr, fa_mk, ptrV, len_mk, cap_mk, eq_ptr_nil, ne_ptr_nil, eq_nil_nil, ne_nil_nil, eq_slice_nil, eq_nil_slice, ia_1]; exact so_so) ?_)
      exact hJ h6 (asr (by ac_rfl) hh6)
    · have e : szO o = 0 := by unfold szO; exact szS_out (by omega)
      rw [e, Int.add_zero] at hJ
      repeat (with_reducible first | refine vP_so ?_ | refine vB_t ?_ | refine vB_f ?_ | refine vE_tt ?_ | refine vE_ff ?_ | refine vE_tf ?_ | refine vE_ft ?_ | refine vE_u ?_ | refine vP_to (by simp (disch := omega) only [gdW_true, gdW_false, gB_true, gB_false, gB_undef, pickV_true, pickV_false, Bool.not_true, Bool.not_false, Option.map_some, bin_add, bin_sub, bin_mul, bin_quo, bin_rem, lss_t, lss_f, leq_t, leq_f, gtr_t, gtr_f, geq_t, geq_f, eqi_t, eqi_f, nei_t, nei_f, rem_uw, conv_ui, conv_iu, conv_ii, not_bool, nil_ptr, fa_mk, ptrV, len_mk, cap_mk, eq_ptr_nil, ne_ptr_nil, eq_nil_nil, ne_nil_nil, eq_slice_nil, eq_nil_slice, ia_1]; exact so_so) ?_)
      exact hJ h5 (asr (by ac_rfl) hh5)
  · obtain rfl : i = w.objs.length := by omega
    rw [List.take_length]
    repeat (with_reducible first | refine vP_so ?_ | refine vB_t ?_ | refine vB_f ?_ | refine vE_tt ?_ | refine vE_ff ?_ | refine vE_tf ?_ | refine vE_ft ?_ | refine vE_u ?_ | refine vP_to (by simp (disch := omega) only [gdW_true, gdW_false, gB_true, gB_false, gB_undef, pickV_true, pickV_false, Bool.not_true, Bool.not_false, Option.map_some, bin_add, bin_sub, bin_mul, bin_quo, bin_rem, lss_t, lss_f, leq_t, leq_f, gtr_t, gtr_f, geq_t, geq_f, eqi_t, eqi_f, nei_t, nei_f, rem_uw, conv_ui, conv_iu, conv_ii, not_bool, nil_ptr, fa_mk, ptrV, len_mk, cap_mk, eq_ptr_nil, ne_ptr_nil, eq_nil_nil, ne_nil_nil, eq_slice_nil, eq_nil_slice, ia_1]; exact so_so) ?_)
    exact hK h2 hh2

/-- Each object has an address of its own, not 0. -/
def OwnP (w : VW) : Prop := ∀ (i : Nat) o, w.objs[i]? = some o → o.addr ≠ 0 ∧ w.at o.addr = some i

theorem use_own {g : Hp} {w : VW} {F : Asrt} {K : Value → Hp → Prop} {h : Hp} (hv : VAt g w) (hh : (own g * (F * tt)) h)
    (hK : ∀ b h', (b = true → OwnP w) → (own g * (F * tt)) h' → K (.bool b) h') : CallH Try.prog 12 #[w.val] K h := by
  refine C12 ?_
  unfold D12
  have hol := hv.objs_len
  refine vA_new (o := .cells w.cells 26 (0, 0)) hh fun r1 h1 hh1 => ?_
  have hd : ∀ {h}, (pt r1 (.cells w.cells 26 (0, 0)) * (own g * (F * tt))) h → (own g * (F * tt)) h := fun q => dropL (P := pt r1 (.cells w.cells 26 (0, 0))) (Q := own g * F) (asr (by ac_rfl) q) |> asr (by ac_rfl)
  refine ⟨fun m zs h' => ∃ i : Nat, zs = [.int .i64 i] ∧ m = w.objs.length - i ∧ i ≤ w.objs.length ∧ (∀ (j : Nat) o, j < i → w.objs[j]? = some o → o.addr ≠ 0 ∧ w.at o.addr = some j) ∧ (pt r1 (.cells w.cells 26 (0, 0)) * (own g * (F * tt))) h', ⟨_, 0, rfl, rfl, by omega, fun j r hj => by omega, hh1⟩, ?_⟩
  clear hh1
  rintro m v3 h2 ⟨i, hzs, rfl, hi, hok, hh2⟩ _
  obtain rfl : v3 = .int .i64 i := by simpa using hzs
  have lw := vw_ld (r := r1) (w := w) (E := 26) hh2
  have lo := lw.2.2.2.2.2.1
  have lv := lw.2.2.2.2.2.2.2.2.2
  have hw := own_vat (F := pt r1 (.cells w.cells 26 (0, 0)) * (F * tt)) (asr (by ac_rfl) hh2) hv
  by_cases hil : i < w.objs.length
  · have hoi : w.objs[i]? = some w.objs[i] := List.getElem?_eq_getElem hil
    obtain ⟨b, q, e1, e2, _, _, _⟩ := hw.obj hoi .i64
    generalize w.objs[i] = o at *
    by_cases h0 : o.addr = 0
    · repeat (with_reducible first | refine vP_so ?_ | refine vB_t ?_ | refine vB_f ?_ | refine vE_tt ?_ | refine vE_ff ?_ | refine vE_tf ?_ | refine vE_ft ?_ | refine vE_u ?_ | refine vP_to (by simp (disch := omega) only [gdW_true, gdW_false, gB_true, gB_false, gB_undef, pickV_true, pickV_false, Bool.not_true, Bool.not_false, Option.map_some, bin_add, bin_sub, bin_mul, bin_quo, bin_rem, lss_t, lss_f, leq_t, leq_f, gtr_t, gtr_f, geq_t, geq_f, eqi_t, eqi_f, nei_t, nei_f, rem_uw, conv_ui, conv_iu, conv_ii, not_bool, nil_ptr, fa_mk, ptrV, len_mk, cap_mk, eq_ptr_nil, ne_ptr_nil, eq_nil_nil, ne_nil_nil, eq_slice_nil, eq_nil_slice, ia_1, lo, hol.1, e1, e2]; exact so_so) ?_)
      exact hK false h2 (fun q => by cases q) (hd hh2)
    · repeat (with_reducible first | refine vP_so ?_ | refine vB_t ?_ | refine vB_f ?_ | refine vE_tt ?_ | refine vE_ff ?_ | refine vE_tf ?_ | refine vE_ft ?_ | refine vE_u ?_ | refine vP_to (by simp (disch := omega) only [gdW_true, gdW_false, gB_true, gB_false, gB_undef, pickV_true, pickV_false, Bool.not_true, Bool.not_false, Option.map_some, bin_add, bin_sub, bin_mul, bin_quo, bin_rem, lss_t, lss_f, leq_t, leq_f, gtr_t, gtr_f, geq_t, geq_f, eqi_t, eqi_f, nei_t, nei_f, rem_uw, conv_ui, conv_iu, conv_ii, not_bool, nil_ptr, fa_mk, ptrV, len_mk, cap_mk, eq_ptr_nil, ne_ptr_nil, eq_nil_nil, ne_nil_nil, eq_slice_nil, eq_nil_slice, ia_1, lo, hol.1, e1, e2, lv]; exact so_so) ?_)
      refine use_rfind (F := pt r1 (.cells w.cells 26 (0, 0)) * F) hv (asr (by ac_rfl) hh2) fun h3 hh3 => ?_
      have hh3 : (pt r1 (.cells w.cells 26 (0, 0)) * (own g * (F * tt))) h3 := asr (by ac_rfl) hh3
      by_cases hx : findV w o.addr = i
      · repeat (with_reducible first | refine vP_so ?_ | refine vB_t ?_ | refine vB_f ?_ | refine vE_tt ?_ | refine vE_ff ?_ | refine vE_tf ?_ | refine vE_ft ?_ | refine vE_u ?_ | refine vP_to (by simp (disch := omega) only [gdW_true, gdW_false, gB_true, gB_false, gB_undef, pickV_true, pickV_false, Bool.not_true, Bool.not_false, Option.map_some, bin_add, bin_sub, bin_mul, bin_quo, bin_rem, lss_t, lss_f, leq_t, leq_f, gtr_t, gtr_f, geq_t, geq_f, eqi_t, eqi_f, nei_t, nei_f, rem_uw, conv_ui, conv_iu, conv_ii, not_bool, nil_ptr, fa_mk, ptrV, len_mk, cap_mk, eq_ptr_nil, ne_ptr_nil, eq_nil_nil, ne_nil_nil, eq_slice_nil, eq_nil_slice, ia_1]; exact so_so) ?_)
        refine ⟨w.objs.length - (i + 1), by omega, i + 1, by simp, rfl, by omega, fun j o' hj ho' => ?_, hh3⟩
        by_cases hji : j = i
        · subst hji
          obtain rfl : o = o' := Option.some.inj (hoi.symm.trans ho')
          refine ⟨h0, ?_⟩
          unfold findV at hx
          cases hat : w.at o.addr with
          | none => rw [hat] at hx; simp only at hx; omega
          | some k => rw [hat] at hx; simp only at hx; congr 1; omega
        · exact hok j o' (by omega) ho'
      · repeat (with_reducible first | refine vP_so ?_ | refine vB_t ?_ | refine vB_f ?_ | refine vE_tt ?_ | refine vE_ff ?_ | refine vE_tf ?_ | refine vE_ft ?_ | refine vE_u ?_ | refine vP_to (by simp (disch := omega) only [gdW_true, gdW_false, gB_true, gB_false, gB_undef, pickV_true, pickV_false, Bool.not_true, Bool.not_false, Option.map_some, bin_add, bin_sub, bin_mul, bin_quo, bin_rem, lss_t, lss_f, leq_t, leq_f, gtr_t, gtr_f, geq_t, geq_f, eqi_t, eqi_f, nei_t, nei_f, rem_uw, conv_ui, conv_iu, conv_ii, not_bool, nil_ptr, fa_mk, ptrV, len_mk, cap_mk, eq_ptr_nil, ne_ptr_nil, eq_nil_nil, ne_nil_nil, eq_slice_nil, eq_nil_slice, ia_1]; exact so_so) ?_)
        exact hK false h3 (fun q => by cases q) (hd hh3)
  · obtain rfl : i = w.objs.length := by omega
    repeat (with_reducible first | refine vP_so ?_ | refine vB_t ?_ | refine vB_f ?_ | refine vE_tt ?_ | refine vE_ff ?_ | refine vE_tf ?_ | refine vE_ft ?_ | refine vE_u ?_ | refine vP_to (by simp (disch := omega) only [gdW_true, gdW_false, gB_true, gB_false, gB_undef, pickV_true, pickV_false, Bool.not_true, Bool.not_false, Option.map_some, bin_add, bin_sub, bin_mul, bin_quo, bin_rem, lss_t, lss_f, leq_t, leq_f, gtr_t, gtr_f, geq_t, geq_f, eqi_t, eqi_f, nei_t, nei_f, rem_uw, conv_ui, conv_iu, conv_ii, not_bool, nil_ptr, fa_mk, ptrV, len_mk, cap_mk, eq_ptr_nil, ne_ptr_nil, eq_nil_nil, ne_nil_nil, eq_slice_nil, eq_nil_slice, ia_1, lo, hol.1]; exact so_so) ?_)
    exact hK true h2 (fun _ j o ho => hok j o (List.getElem?_eq_some_iff.1 ho).1 ho) (hd hh2)

end Go.Proofs
