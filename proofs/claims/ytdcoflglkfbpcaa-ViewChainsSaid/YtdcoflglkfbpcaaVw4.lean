/-
  Contracts of package view: Reach, Lost, White.
-/
import Derived.Test.YtdcoflglkfbpcaaVw3
set_option linter.unusedVariables false
set_option linter.unusedSimpArgs false
set_option maxRecDepth 100000
namespace Go.Proofs
open Go.Sl

/-- Rising lists of what can be reached: objects, what is none, what is not marked. -/
def ReachL (w : VW) (l : List Int) : Prop := Rise l ∧ ∀ x, x ∈ l ↔ Rch w x ∧ (w.at x).isSome = true
def LostL (w : VW) (l : List Int) : Prop := Rise l ∧ ∀ x, x ∈ l ↔ Rch w x ∧ w.at x = none
def WhiteL (w : VW) (l : List Int) : Prop := Rise l ∧ ∀ x, x ∈ l ↔ Rch w x ∧ ∃ k o, w.at x = some k ∧ w.objs[k]? = some o ∧ o.marked = false

theorem tx0 (a b : Value) : exV (.tuple #[a, b]) 0 = some a := rfl
theorem tx1 (a b : Value) : exV (.tuple #[a, b]) 1 = some b := rfl

theorem use_reach {g : Hp} {w : VW} {F : Asrt} {K : Value → Hp → Prop} {h : Hp} (hv : VAt g w) (hN : w.all.length ≤ 1000000) (hh : (own g * (F * tt)) h)
    (hK : ∀ v l h', ReachL w l → l.length ≤ 1000000 → (SG iE 3 v l * (own g * (F * tt))) h' → K v h') : CallH Try.prog 17 #[w.val] K h := by
  refine C17 ?_
  unfold D17
  refine vA_new (o := .cells w.cells 26 (0, 0)) hh fun r1 h1 hh1 => ?_
  have l9 := (vw_ld (r := r1) (w := w) (E := 26) hh1).2.2.2.2.2.2.2.2.2
  repeat (with_reducible first | refine vP_so ?_ | refine vB_t ?_ | refine vB_f ?_ | refine vE_tt ?_ | refine vE_ff ?_ | refine vE_tf ?_ | refine vE_ft ?_ | refine vE_u ?_ | refine vP_to (by simp (disch := omega) only [gdW_true, gdW_false, gB_true, gB_false, gB_undef, pickV_true, pickV_false, Bool.not_true, Bool.not_false, Option.map_some, bin_add, bin_sub, bin_mul, bin_quo, bin_rem, lss_t, lss_f, leq_t, leq_f, gtr_t, gtr_f, geq_t, geq_f, eqi_t, eqi_f, nei_t, nei_f, rem_uw, conv_ui, conv_iu, conv_ii, not_bool, nil_ptr, fa_mk, ptrV, len_mk, cap_mk, eq_ptr_nil, ne_ptr_nil, eq_nil_nil, ne_nil_nil, eq_slice_nil, eq_nil_slice, ia_1, l9]; exact so_so) ?_)
  refine use_walk (F := pt r1 (.cells w.cells 26 (0, 0)) * F) hv hN (asr (by ac_rfl) hh1) fun v2 v3 there lost h2 a1 a2 a3 a4 a5 a6 hh2 => ?_
  repeat (with_reducible first | refine vP_so ?_ | refine vB_t ?_ | refine vB_f ?_ | refine vE_tt ?_ | refine vE_ff ?_ | refine vE_tf ?_ | refine vE_ft ?_ | refine vE_u ?_ | refine vP_to (by simp (disch := omega) only [gdW_true, gdW_false, gB_true, gB_false, gB_undef, pickV_true, pickV_false, Bool.not_true, Bool.not_false, Option.map_some, bin_add, bin_sub, bin_mul, bin_quo, bin_rem, lss_t, lss_f, leq_t, leq_f, gtr_t, gtr_f, geq_t, geq_f, eqi_t, eqi_f, nei_t, nei_f, rem_uw, conv_ui, conv_iu, conv_ii, not_bool, nil_ptr, fa_mk, ptrV, len_mk, cap_mk, eq_ptr_nil, ne_ptr_nil, eq_nil_nil, ne_nil_nil, eq_slice_nil, eq_nil_slice, ia_1, tx0, tx1]; exact so_so) ?_)
  exact hK v2 there h2 ⟨a1, a3⟩ a5 (dropL (P := SG iE 3 v3 lost * pt r1 (.cells w.cells 26 (0, 0))) (Q := SG iE 3 v2 there * (own g * F)) (asr (by ac_rfl) hh2) |> asr (by ac_rfl))

theorem use_lost {g : Hp} {w : VW} {F : Asrt} {K : Value → Hp → Prop} {h : Hp} (hv : VAt g w) (hN : w.all.length ≤ 1000000) (hh : (own g * (F * tt)) h)
    (hK : ∀ v l h', LostL w l → l.length ≤ 1000000 → (SG iE 3 v l * (own g * (F * tt))) h' → K v h') : CallH Try.prog 18 #[w.val] K h := by
  refine C18 ?_
  unfold D18
  refine vA_new (o := .cells w.cells 26 (0, 0)) hh fun r1 h1 hh1 => ?_
  have l9 := (vw_ld (r := r1) (w := w) (E := 26) hh1).2.2.2.2.2.2.2.2.2
  repeat (with_reducible first | refine vP_so ?_ | refine vB_t ?_ | refine vB_f ?_ | refine vE_tt ?_ | refine vE_ff ?_ | refine vE_tf ?_ | refine vE_ft ?_ | refine vE_u ?_ | refine vP_to (by simp (disch := omega) only [gdW_true, gdW_false, gB_true, gB_false, gB_undef, pickV_true, pickV_false, Bool.not_true, Bool.not_false, Option.map_some, bin_add, bin_sub, bin_mul, bin_quo, bin_rem, lss_t, lss_f, leq_t, leq_f, gtr_t, gtr_f, geq_t, geq_f, eqi_t, eqi_f, nei_t, nei_f, rem_uw, conv_ui, conv_iu, conv_ii, not_bool, nil_ptr, fa_mk, ptrV, len_mk, cap_mk, eq_ptr_nil, ne_ptr_nil, eq_nil_nil, ne_nil_nil, eq_slice_nil, eq_nil_slice, ia_1, l9]; exact so_so) ?_)
  refine use_walk (F := pt r1 (.cells w.cells 26 (0, 0)) * F) hv hN (asr (by ac_rfl) hh1) fun v2 v3 there lost h2 a1 a2 a3 a4 a5 a6 hh2 => ?_
  repeat (with_reducible first | refine vP_so ?_ | refine vB_t ?_ | refine vB_f ?_ | refine vE_tt ?_ | refine vE_ff ?_ | refine vE_tf ?_ | refine vE_ft ?_ | refine vE_u ?_ | refine vP_to (by simp (disch := omega) only [gdW_true, gdW_false, gB_true, gB_false, gB_undef, pickV_true, pickV_false, Bool.not_true, Bool.not_false, Option.map_some, bin_add, bin_sub, bin_mul, bin_quo, bin_rem, lss_t, lss_f, leq_t, leq_f, gtr_t, gtr_f, geq_t, geq_f, eqi_t, eqi_f, nei_t, nei_f, rem_uw, conv_ui, conv_iu, conv_ii, not_bool, nil_ptr, fa_mk, ptrV, len_mk, cap_mk, eq_ptr_nil, ne_ptr_nil, eq_nil_nil, ne_nil_nil, eq_slice_nil, eq_nil_slice, ia_1, tx0, tx1]; exact so_so) ?_)
  exact hK v3 lost h2 ⟨a2, a4⟩ a6 (dropL (P := SG iE 3 v2 there * pt r1 (.cells w.cells 26 (0, 0))) (Q := SG iE 3 v3 lost * (own g * F)) (asr (by ac_rfl) hh2) |> asr (by ac_rfl))

theorem use_white {g : Hp} {w : VW} {F : Asrt} {K : Value → Hp → Prop} {h : Hp} (hv : VAt g w) (hN : w.all.length ≤ 1000000) (hh : (own g * (F * tt)) h)
    (hK : ∀ v l h', WhiteL w l → l.length ≤ 1000000 → (SG iE 3 v l * (own g * (F * tt))) h' → K v h') : CallH Try.prog 23 #[w.val] K h := by
  refine C23 ?_
  unfold D23
  refine vA_new (o := .cells w.cells 26 (0, 0)) hh fun r1 h1 hh1 => ?_
  have l9 := (vw_ld (r := r1) (w := w) (E := 26) hh1).2.2.2.2.2.2.2.2.2
  repeat (with_reducible first | refine vP_so ?_ | refine vB_t ?_ | refine vB_f ?_ | refine vE_tt ?_ | refine vE_ff ?_ | refine vE_tf ?_ | refine vE_ft ?_ | refine vE_u ?_ | refine vP_to (by simp (disch := omega) only [gdW_true, gdW_false, gB_true, gB_false, gB_undef, pickV_true, pickV_false, Bool.not_true, Bool.not_false, Option.map_some, bin_add, bin_sub, bin_mul, bin_quo, bin_rem, lss_t, lss_f, leq_t, leq_f, gtr_t, gtr_f, geq_t, geq_f, eqi_t, eqi_f, nei_t, nei_f, rem_uw, conv_ui, conv_iu, conv_ii, not_bool, nil_ptr, fa_mk, ptrV, len_mk, cap_mk, eq_ptr_nil, ne_ptr_nil, eq_nil_nil, ne_nil_nil, eq_slice_nil, eq_nil_slice, ia_1, l9]; exact so_so) ?_)
  refine use_places (F := pt r1 (.cells w.cells 26 (0, 0)) * F) hv (asr (by ac_rfl) hh1) fun r8 h2 hh2 => ?_
  have l9 := (vw_ld (r := r1) (w := w) (E := 26) (F := MP r8 (atM w.objs) * (own g * (F * tt))) (asr (by ac_rfl) hh2)).2.2.2.2.2.2.2.2.2
  repeat (with_reducible first | refine vP_so ?_ | refine vB_t ?_ | refine vB_f ?_ | refine vE_tt ?_ | refine vE_ff ?_ | refine vE_tf ?_ | refine vE_ft ?_ | refine vE_u ?_ | refine vP_to (by simp (disch := omega) only [gdW_true, gdW_false, gB_true, gB_false, gB_undef, pickV_true, pickV_false, Bool.not_true, Bool.not_false, Option.map_some, bin_add, bin_sub, bin_mul, bin_quo, bin_rem, lss_t, lss_f, leq_t, leq_f, gtr_t, gtr_f, geq_t, geq_f, eqi_t, eqi_f, nei_t, nei_f, rem_uw, conv_ui, conv_iu, conv_ii, not_bool, nil_ptr, fa_mk, ptrV, len_mk, cap_mk, eq_ptr_nil, ne_ptr_nil, eq_nil_nil, ne_nil_nil, eq_slice_nil, eq_nil_slice, ia_1, l9]; exact so_so) ?_)
  refine use_reach (F := MP r8 (atM w.objs) * (pt r1 (.cells w.cells 26 (0, 0)) * F)) hv hN (asr (by ac_rfl) hh2) fun v10 rl h3 hR hrl hh3 => ?_
  have hlen := SG_len iE hh3
  let wh : Int → Bool := fun x => match (w.at x).bind (w.objs[·]?) with | some o => !o.marked | none => false
  have hwh : ∀ x k o, w.at x = some k → w.objs[k]? = some o → wh x = !o.marked := fun x k o h1 h2 => by simp only [wh, h1, Option.bind_some, h2]
  repeat (with_reducible first | refine vP_so ?_ | refine vB_t ?_ | refine vB_f ?_ | refine vE_tt ?_ | refine vE_ff ?_ | refine vE_tf ?_ | refine vE_ft ?_ | refine vE_u ?_ | refine vP_to (by simp (disch := omega) only [gdW_true, gdW_false, gB_true, gB_false, gB_undef, pickV_true, pickV_false, Bool.not_true, Bool.not_false, Option.map_some, bin_add, bin_sub, bin_mul, bin_quo, bin_rem, lss_t, lss_f, leq_t, leq_f, gtr_t, gtr_f, geq_t, geq_f, eqi_t, eqi_f, nei_t, nei_f, rem_uw, conv_ui, conv_iu, conv_ii, not_bool, nil_ptr, fa_mk, ptrV, len_mk, cap_mk, eq_ptr_nil, ne_ptr_nil, eq_nil_nil, ne_nil_nil, eq_slice_nil, eq_nil_slice, ia_1, hlen]; exact so_so) ?_)
  refine ⟨fun m zs h' => ∃ (i : Nat) (v4 : Value), zs = [.int .i64 i, v4] ∧ m = rl.length - i ∧ i ≤ rl.length ∧ (SG iE 3 v4 ((rl.take i).filter wh) * (SG iE 3 v10 rl * (MP r8 (atM w.objs) * (pt r1 (.cells w.cells 26 (0, 0)) * (own g * (F * tt)))))) h',
    ⟨_, 0, .slice none 0 0, rfl, rfl, by omega, SG_nil iE (asr (by ac_rfl) hh3)⟩, ?_⟩
  rintro m v12 v4 h4 ⟨i, v4', hzs, rfl, hi, hh4⟩ _
  obtain ⟨rfl, rfl⟩ : v12 = .int .i64 i ∧ v4 = v4' := by simpa using hzs
  by_cases hil : i < rl.length
  · have hS : (SG iE 3 v10 rl * (SG iE 3 v4 ((rl.take i).filter wh) * (MP r8 (atM w.objs) * (pt r1 (.cells w.cells 26 (0, 0)) * (own g * (F * tt)))))) h4 := asr (by ac_rfl) hh4
    obtain ⟨p, f1, f2, _⟩ := el1 hS (List.getElem?_eq_getElem hil) .i64
    have htk := List.take_succ_eq_append_getElem hil
    obtain ⟨hrx, hat⟩ := (hR.2 rl[i]).1 (List.getElem_mem hil)
    have hfl : ((rl.take i).filter wh).length ≤ 1000000 := Nat.le_trans (List.length_filter_le ..) (by rw [List.length_take]; omega)
    generalize rl[i] = x at *
    obtain ⟨k, hk⟩ := Option.isSome_iff_exists.1 hat
    obtain ⟨o, ho, hoa⟩ := at_some hk
    have hwx := hwh x k o hk ho
    have hm : (MP r8 (atM w.objs) * (SG iE 3 v10 rl * (SG iE 3 v4 ((rl.take i).filter wh) * (pt r1 (.cells w.cells 26 (0, 0)) * (own g * (F * tt)))))) h4 := asr (by ac_rfl) hh4
    obtain ⟨hlk, _⟩ := lk_MP (k := x) mapII intU zInt hm
    rw [atM_at, hk] at hlk
    simp only [Option.map_some, Option.getD_some] at hlk
    have l5 := (vw_ld (r := r1) (w := w) (E := 26) (F := MP r8 (atM w.objs) * (SG iE 3 v10 rl * (SG iE 3 v4 ((rl.take i).filter wh) * (own g * (F * tt))))) (asr (by ac_rfl) hh4)).2.2.2.2.2.1
    have hw4 := own_vat (F := MP r8 (atM w.objs) * (SG iE 3 v10 rl * (SG iE 3 v4 ((rl.take i).filter wh) * (pt r1 (.cells w.cells 26 (0, 0)) * (F * tt))))) (asr (by ac_rfl) hh4) hv
    obtain ⟨b, q, e1, _, _, e4, _⟩ := hw4.obj ho .i64
    repeat (with_reducible first | refine vP_so ?_ | refine vB_t ?_ | refine vB_f ?_ | refine vE_tt ?_ | refine vE_ff ?_ | refine vE_tf ?_ | refine vE_ft ?_ | refine vE_u ?_ | refine vP_to (by simp (disch := omega) only [gdW_true, gdW_false, gB_true, gB_false, gB_undef, pickV_true, pickV_false, Bool.not_true, Bool.not_false, Option.map_some, bin_add, bin_sub, bin_mul, bin_quo, bin_rem, lss_t, lss_f, leq_t, leq_f, gtr_t, gtr_f, geq_t, geq_f, eqi_t, eqi_f, nei_t, nei_f, rem_uw, conv_ui, conv_iu, conv_ii, not_bool, nil_ptr, fa_mk, ptrV, len_mk, cap_mk, eq_ptr_nil, ne_ptr_nil, eq_nil_nil, ne_nil_nil, eq_slice_nil, eq_nil_slice, ia_1]; exact so_so) ?_)
    intro J2 hJ2
    have hJ : ∀ v' h', (SG iE 3 v' ((rl.take (i + 1)).filter wh) * (SG iE 3 v10 rl * (MP r8 (atM w.objs) * (pt r1 (.cells w.cells 26 (0, 0)) * (own g * (F * tt)))))) h' → J2 [v'] h' := fun v' h' q => by
      refine hJ2 _ _ fun _ => ?_
      repeat (with_reducible first | refine vP_so ?_ | refine vB_t ?_ | refine vB_f ?_ | refine vE_tt ?_ | refine vE_ff ?_ | refine vE_tf ?_ | refine vE_ft ?_ | refine vE_u ?_ | refine vP_to (by simp (disch := omega) only [gdW_true, gdW_false, gB_true, gB_false, gB_undef, pickV_true, pickV_false, Bool.not_true, Bool.not_false, Option.map_some, bin_add, bin_sub, bin_mul, bin_quo, bin_rem, lss_t, lss_f, leq_t, leq_f, gtr_t, gtr_f, geq_t, geq_f, eqi_t, eqi_f, nei_t, nei_f, rem_uw, conv_ui, conv_iu, conv_ii, not_bool, nil_ptr, fa_mk, ptrV, len_mk, cap_mk, eq_ptr_nil, ne_ptr_nil, eq_nil_nil, ne_nil_nil, eq_slice_nil, eq_nil_slice, ia_1]; exact so_so) ?_)
      exact ⟨rl.length - (i + 1), by omega, i + 1, v', rfl, rfl, by omega, q⟩
    have hmk : ∀ b, o.marked = b → (rl.take (i + 1)).filter wh = (rl.take i).filter wh ++ (if b then [] else [x]) := fun b hb => by
      rw [htk, List.filter_append, List.filter_cons, hwx, hb]
      cases b <;> simp
    cases hom : o.marked with
    | true =>
      rw [hom] at e4
      have := hmk true hom
      simp only [if_true, List.append_nil] at this
      rw [this] at hJ
      repeat (with_reducible first | refine vP_so ?_ | refine vB_t ?_ | refine vB_f ?_ | refine vE_tt ?_ | refine vE_ff ?_ | refine vE_tf ?_ | refine vE_ft ?_ | refine vE_u ?_ | refine vP_to (by simp (disch := omega) only [gdW_true, gdW_false, gB_true, gB_false, gB_undef, pickV_true, pickV_false, Bool.not_true, Bool.not_false, Option.map_some, bin_add, bin_sub, bin_mul, bin_quo, bin_rem, lss_t, lss_f, leq_t, leq_f, gtr_t, gtr_f, geq_t, geq_f, eqi_t, eqi_f, nei_t, nei_f, rem_uw, conv_ui, conv_iu, conv_ii, not_bool, nil_ptr, fa_mk, ptrV, len_mk, cap_mk, eq_ptr_nil, ne_ptr_nil, eq_nil_nil, ne_nil_nil, eq_slice_nil, eq_nil_slice, ia_1, f1, f2, l5, hlk, e1, e4]; exact so_so) ?_)
      exact hJ v4 h4 hh4
    | false =>
      rw [hom] at e4
      have := hmk false hom
      simp only [Bool.false_eq_true, if_false] at this
      rw [this] at hJ
      have eb : bldV #[.int .i64 0] [(0, 1, .int .i64 x)] = some #[.int .i64 x] := rfl
      repeat (with_reducible first | refine vP_so ?_ | refine vB_t ?_ | refine vB_f ?_ | refine vE_tt ?_ | refine vE_ff ?_ | refine vE_tf ?_ | refine vE_ft ?_ | refine vE_u ?_ | refine vP_to (by simp (disch := omega) only [gdW_true, gdW_false, gB_true, gB_false, gB_undef, pickV_true, pickV_false, Bool.not_true, Bool.not_false, Option.map_some, bin_add, bin_sub, bin_mul, bin_quo, bin_rem, lss_t, lss_f, leq_t, leq_f, gtr_t, gtr_f, geq_t, geq_f, eqi_t, eqi_f, nei_t, nei_f, rem_uw, conv_ui, conv_iu, conv_ii, not_bool, nil_ptr, fa_mk, ptrV, len_mk, cap_mk, eq_ptr_nil, ne_ptr_nil, eq_nil_nil, ne_nil_nil, eq_slice_nil, eq_nil_slice, ia_1, f1, f2, l5, hlk, e1, e4]; exact so_so) ?_)
      rw [eb]
      refine vA_new (f := fun r => .slice (some ⟨r, 0, none⟩) 1 1) hh4 fun r27 h6 hh6 => ?_
      refine ap_new iE (l := (rl.take i).filter wh) (m := [x]) (F := SG iE 3 v10 rl * (MP r8 (atM w.objs) * (pt r1 (.cells w.cells 26 (0, 0)) * (own g * F)))) elInt rfl rfl niInts rfl (by omega) (asr (by ac_rfl) hh6) rfl rfl (by simp only [List.length_singleton]; omega) fun v28 h7 hh7 => ?_
      exact hJ v28 h7 (asr (by ac_rfl) hh7)
  · obtain rfl : i = rl.length := by omega
    rw [List.take_length] at hh4
    repeat (with_reducible first | refine vP_so ?_ | refine vB_t ?_ | refine vB_f ?_ | refine vE_tt ?_ | refine vE_ff ?_ | refine vE_tf ?_ | refine vE_ft ?_ | refine vE_u ?_ | refine vP_to (by simp (disch := omega) only [gdW_true, gdW_false, gB_true, gB_false, gB_undef, pickV_true, pickV_false, Bool.not_true, Bool.not_false, Option.map_some, bin_add, bin_sub, bin_mul, bin_quo, bin_rem, lss_t, lss_f, leq_t, leq_f, gtr_t, gtr_f, geq_t, geq_f, eqi_t, eqi_f, nei_t, nei_f, rem_uw, conv_ui, conv_iu, conv_ii, not_bool, nil_ptr, fa_mk, ptrV, len_mk, cap_mk, eq_ptr_nil, ne_ptr_nil, eq_nil_nil, ne_nil_nil, eq_slice_nil, eq_nil_slice, ia_1]; exact so_so) ?_)
    refine hK v4 (rl.filter wh) h4 ⟨hR.1.filter _, fun x => ?_⟩ (Nat.le_trans (List.length_filter_le ..) hrl) (dropL (P := SG iE 3 v10 rl * (MP r8 (atM w.objs) * pt r1 (.cells w.cells 26 (0, 0)))) (Q := SG iE 3 v4 (rl.filter wh) * (own g * F)) (asr (by ac_rfl) hh4) |> asr (by ac_rfl))
    rw [List.mem_filter, hR.2]
    constructor
    · rintro ⟨⟨h1, h2⟩, h3⟩
      obtain ⟨k, hk⟩ := Option.isSome_iff_exists.1 h2
      obtain ⟨o, ho, _⟩ := at_some hk
      rw [hwh x k o hk ho] at h3
      exact ⟨h1, k, o, hk, ho, by simpa using h3⟩
    · rintro ⟨h1, k, o, hk, ho, hm⟩
      exact ⟨⟨h1, by rw [hk]; rfl⟩, by rw [hwh x k o hk ho, hm]; rfl⟩

end Go.Proofs
