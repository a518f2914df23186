/-
  Contracts of package view: walk, Reach, Lost, White.
-/
import Derived.Test.YtdcoflglkfbpcaaVw2
import Derived.Test.YtdcoflglkfbpcaaVwSort
set_option linter.unusedVariables false
set_option linter.unusedSimpArgs false
set_option maxRecDepth 100000
namespace Go.Proofs
open Go.Sl

theorem atM_at (w : VW) (x : Int) : atM w.objs x = (w.at x).map fun (i : Nat) => Value.int .i64 (i : Int) := rfl

/-- What the walk knows when i of those that were named have been looked at. -/
structure WInv (w : VW) (i : Nat) (l lost there : List Int) : Prop where
  nodup : l.Nodup
  rch : ∀ x ∈ l, Rch w x
  names : ∀ x ∈ w.names, x ≠ 0 → x ∈ l
  closed : ∀ (j : Nat) x k o y, j < i → l[j]? = some x → w.at x = some k → w.objs[k]? = some o → y ∈ o.slots → y ≠ 0 → y ∈ l
  lost : lost = (l.take i).filter fun x => (w.at x).isNone
  there : there = (l.take i).filter fun x => (w.at x).isSome

theorem WInv.done {w : VW} {l lost there : List Int} (h : WInv w l.length l lost there) : (∀ x, x ∈ l ↔ Rch w x) ∧ lost.Nodup ∧ there.Nodup ∧ (∀ x, x ∈ lost ↔ Rch w x ∧ w.at x = none) ∧ (∀ x, x ∈ there ↔ Rch w x ∧ (w.at x).isSome = true) := by
  have hl : ∀ x, x ∈ l ↔ Rch w x := fun x => ⟨h.rch x, fun hr => by
    induction hr with
    | root h1 h2 => exact h.names _ h1 h2
    | step h1 h2 h3 h4 h5 ih =>
      obtain ⟨j, hj, e⟩ := List.getElem_of_mem ih
      exact h.closed j _ _ _ _ hj (by rw [List.getElem?_eq_getElem hj, e]) h2 h3 h4 h5⟩
  have e1 := h.lost
  have e2 := h.there
  rw [List.take_length] at e1 e2
  refine ⟨hl, e1 ▸ h.nodup.filter _, e2 ▸ h.nodup.filter _, fun x => ?_, fun x => ?_⟩
  · rw [e1, List.mem_filter, hl]
    simp
  · rw [e2, List.mem_filter, hl]

theorem use_walk {g : Hp} {w : VW} {F : Asrt} {K : Value → Hp → Prop} {h : Hp} (hv : VAt g w) (hN : w.all.length ≤ 1000000) (hh : (own g * (F * tt)) h)
    (hK : ∀ v2 v3 there lost h', Rise there → Rise lost → (∀ x, x ∈ there ↔ Rch w x ∧ (w.at x).isSome = true) → (∀ x, x ∈ lost ↔ Rch w x ∧ w.at x = none) → there.length ≤ 1000000 → lost.length ≤ 1000000 →
      (SG iE 3 v2 there * (SG iE 3 v3 lost * (own g * (F * tt)))) h' → K (.tuple #[v2, v3]) h') : CallH Try.prog 46 #[w.val] K h := by
  refine C46 ?_
  unfold D46
  refine vA_new (o := .cells w.cells 26 (0, 0)) hh fun r1 h1 hh1 => ?_
  have l9 := (vw_ld (r := r1) (w := w) (E := 26) hh1).2.2.2.2.2.2.2.2.2
  repeat (with_reducible first | refine vP_so ?_ | refine vB_t ?_ | refine vB_f ?_ | refine vE_tt ?_ | refine vE_ff ?_ | refine vE_tf ?_ | refine vE_ft ?_ | refine vE_u ?_ | refine vP_to (by simp (disch := omega) only [gdW_true, gdW_false, gB_true, gB_false, gB_undef, pickV_true, pickV_false, Bool.not_true, Bool.not_false, Option.map_some, bin_add, bin_sub, bin_mul, bin_quo, bin_rem, lss_t, lss_f, leq_t, leq_f, gtr_t, gtr_f, geq_t, geq_f, eqi_t, eqi_f, nei_t, nei_f, rem_uw, conv_ui, conv_iu, conv_ii, not_bool, nil_ptr, fa_mk, ptrV, len_mk, cap_mk, eq_ptr_nil, ne_ptr_nil, eq_nil_nil, ne_nil_nil, eq_slice_nil, eq_nil_slice, ia_1, l9]; exact so_so) ?_)
  refine use_places (F := pt r1 (.cells w.cells 26 (0, 0)) * F) hv (asr (by ac_rfl) hh1) fun r15 h2 hh2 => ?_
  have l9 := (vw_ld (r := r1) (w := w) (E := 26) (F := MP r15 (atM w.objs) * (own g * (F * tt))) (asr (by ac_rfl) hh2)).2.2.2.2.2.2.2.2.2
  repeat (with_reducible first | refine vP_so ?_ | refine vB_t ?_ | refine vB_f ?_ | refine vE_tt ?_ | refine vE_ff ?_ | refine vE_tf ?_ | refine vE_ft ?_ | refine vE_u ?_ | refine vP_to (by simp (disch := omega) only [gdW_true, gdW_false, gB_true, gB_false, gB_undef, pickV_true, pickV_false, Bool.not_true, Bool.not_false, Option.map_some, bin_add, bin_sub, bin_mul, bin_quo, bin_rem, lss_t, lss_f, leq_t, leq_f, gtr_t, gtr_f, geq_t, geq_f, eqi_t, eqi_f, nei_t, nei_f, rem_uw, conv_ui, conv_iu, conv_ii, not_bool, nil_ptr, fa_mk, ptrV, len_mk, cap_mk, eq_ptr_nil, ne_ptr_nil, eq_nil_nil, ne_nil_nil, eq_slice_nil, eq_nil_slice, ia_1, l9]; exact so_so) ?_)
  refine use_roots (F := MP r15 (atM w.objs) * (pt r1 (.cells w.cells 26 (0, 0)) * F)) hv hN (asr (by ac_rfl) hh2) fun v17 h3 hh3 => ?_
  have hroots : ∀ x, x ∈ w.rootsL ↔ x ∈ w.names ∧ x ≠ 0 := fun x => by unfold VW.rootsL; rw [foldl_once_mem]; simp
  have hrnd : w.rootsL.Nodup := foldl_once_nodup (by simp)
  generalize w.rootsL = rl at *
  refine vA_new (f := fun r => .map (some r)) hh3 fun r18 h4 hh4 => ?_
  have hh4 := MP_new hh4
  refine mu_MP mapII intU hh4 fun h5 hh5 => ?_
  have hset : (fun x => if x = 0 then some (Value.int .i64 1) else (none : Option Value)) = setM (0 :: []) := by
    funext x; unfold setM; simp
  rw [hset] at hh5
  have hlen17 := SG_len iE (F := MP r18 (setM [0]) * (own g * (MP r15 (atM w.objs) * (pt r1 (.cells w.cells 26 (0, 0)) * F) * tt))) (asr (by ac_rfl) hh5 : (SG iE 3 v17 rl * _) h5)
  repeat (with_reducible first | refine vP_so ?_ | refine vB_t ?_ | refine vB_f ?_ | refine vE_tt ?_ | refine vE_ff ?_ | refine vE_tf ?_ | refine vE_ft ?_ | refine vE_u ?_ | refine vP_to (by simp (disch := omega) only [gdW_true, gdW_false, gB_true, gB_false, gB_undef, pickV_true, pickV_false, Bool.not_true, Bool.not_false, Option.map_some, bin_add, bin_sub, bin_mul, bin_quo, bin_rem, lss_t, lss_f, leq_t, leq_f, gtr_t, gtr_f, geq_t, geq_f, eqi_t, eqi_f, nei_t, nei_f, rem_uw, conv_ui, conv_iu, conv_ii, not_bool, nil_ptr, fa_mk, ptrV, len_mk, cap_mk, eq_ptr_nil, ne_ptr_nil, eq_nil_nil, ne_nil_nil, eq_slice_nil, eq_nil_slice, ia_1, hlen17]; exact so_so) ?_)
  refine ⟨fun m zs h' => ∃ i : Nat, zs = [.int .i64 i] ∧ m = rl.length - i ∧ i ≤ rl.length ∧ (MP r18 (setM (0 :: rl.take i)) * (SG iE 3 v17 rl * (own g * (MP r15 (atM w.objs) * (pt r1 (.cells w.cells 26 (0, 0)) * F) * tt)))) h', ⟨_, 0, rfl, rfl, by omega, hh5⟩, ?_⟩
  rintro m v22 h6 ⟨i, hzs, rfl, hi, hh6⟩ _
  obtain rfl : v22 = .int .i64 i := by simpa using hzs
  have hS6 : (SG iE 3 v17 rl * (MP r18 (setM (0 :: rl.take i)) * (own g * (MP r15 (atM w.objs) * (pt r1 (.cells w.cells 26 (0, 0)) * F) * tt)))) h6 := asr (by ac_rfl) hh6
  have hrlt := SG_lt iE hS6
  by_cases hil : i < rl.length
  · obtain ⟨p, f1, f2, _⟩ := el1 hS6 (List.getElem?_eq_getElem hil) .i64
    have hset : setM (rl[i] :: 0 :: rl.take i) = setM (0 :: rl.take (i + 1)) := by
      refine setM_congr fun x => ?_
      rw [List.take_succ_eq_append_getElem hil]
      simp only [List.mem_cons, List.mem_append, List.not_mem_nil, or_false]
      constructor
      · rintro (h | h | h)
        · exact .inr (.inr h)
        · exact .inl h
        · exact .inr (.inl h)
      · rintro (h | h | h)
        · exact .inr (.inl h)
        · exact .inr (.inr h)
        · exact .inl h
    generalize rl[i] = x at *
    repeat (with_reducible first | refine vP_so ?_ | refine vB_t ?_ | refine vB_f ?_ | refine vE_tt ?_ | refine vE_ff ?_ | refine vE_tf ?_ | refine vE_ft ?_ | refine vE_u ?_ | refine vP_to (by simp (disch := omega) only [gdW_true, gdW_false, gB_true, gB_false, gB_undef, pickV_true, pickV_false, Bool.not_true, Bool.not_false, Option.map_some, bin_add, bin_sub, bin_mul, bin_quo, bin_rem, lss_t, lss_f, leq_t, leq_f, gtr_t, gtr_f, geq_t, geq_f, eqi_t, eqi_f, nei_t, nei_f, rem_uw, conv_ui, conv_iu, conv_ii, not_bool, nil_ptr, fa_mk, ptrV, len_mk, cap_mk, eq_ptr_nil, ne_ptr_nil, eq_nil_nil, ne_nil_nil, eq_slice_nil, eq_nil_slice, ia_1, f1, f2]; exact so_so) ?_)
    refine mu_MP mapII intU hh6 fun h7 hh7 => ?_
    rw [setM_put, hset] at hh7
    repeat (with_reducible first | refine vP_so ?_ | refine vB_t ?_ | refine vB_f ?_ | refine vE_tt ?_ | refine vE_ff ?_ | refine vE_tf ?_ | refine vE_ft ?_ | refine vE_u ?_ | refine vP_to (by simp (disch := omega) only [gdW_true, gdW_false, gB_true, gB_false, gB_undef, pickV_true, pickV_false, Bool.not_true, Bool.not_false, Option.map_some, bin_add, bin_sub, bin_mul, bin_quo, bin_rem, lss_t, lss_f, leq_t, leq_f, gtr_t, gtr_f, geq_t, geq_f, eqi_t, eqi_f, nei_t, nei_f, rem_uw, conv_ui, conv_iu, conv_ii, not_bool, nil_ptr, fa_mk, ptrV, len_mk, cap_mk, eq_ptr_nil, ne_ptr_nil, eq_nil_nil, ne_nil_nil, eq_slice_nil, eq_nil_slice, ia_1]; exact so_so) ?_)
    exact ⟨rl.length - (i + 1), by omega, i + 1, by simp, rfl, by omega, hh7⟩
  obtain rfl : i = rl.length := by omega
  rw [List.take_length] at hh6
  repeat (with_reducible first | refine vP_so ?_ | refine vB_t ?_ | refine vB_f ?_ | refine vE_tt ?_ | refine vE_ff ?_ | refine vE_tf ?_ | refine vE_ft ?_ | refine vE_u ?_ | refine vP_to (by simp (disch := omega) only [gdW_true, gdW_false, gB_true, gB_false, gB_undef, pickV_true, pickV_false, Bool.not_true, Bool.not_false, Option.map_some, bin_add, bin_sub, bin_mul, bin_quo, bin_rem, lss_t, lss_f, leq_t, leq_f, gtr_t, gtr_f, geq_t, geq_f, eqi_t, eqi_f, nei_t, nei_f, rem_uw, conv_ui, conv_iu, conv_ii, not_bool, nil_ptr, fa_mk, ptrV, len_mk, cap_mk, eq_ptr_nil, ne_ptr_nil, eq_nil_nil, ne_nil_nil, eq_slice_nil, eq_nil_slice, ia_1]; exact so_so) ?_)
  clear hh5 hh4 hh3 hh2 hh1 hS6
  refine ⟨fun m zs h' => ∃ (i : Nat) (v5 v3 v2 : Value) (l lost there : List Int), zs = [.int .i64 i, v5, v3, v2] ∧ m = w.all.length - i ∧ i ≤ l.length ∧ l.length ≤ w.all.length ∧ WInv w i l lost there ∧
      (MP r18 (setM (0 :: l)) * (SG iE 3 v5 l * (SG iE 3 v3 lost * (SG iE 3 v2 there * (own g * (MP r15 (atM w.objs) * (pt r1 (.cells w.cells 26 (0, 0)) * F) * tt)))))) h',
    ⟨_, 0, v17, .slice none 0 0, .slice none 0 0, rl, [], [], rfl, rfl, by omega, nodup_len hrnd fun x hx => (Rch.root ((hroots x).1 hx).1 ((hroots x).1 hx).2).all,
      ⟨hrnd, fun x hx => .root ((hroots x).1 hx).1 ((hroots x).1 hx).2, fun x hx h0 => (hroots x).2 ⟨hx, h0⟩, fun j _ _ _ _ hj => by omega, by simp, by simp⟩,
      asr (by ac_rfl) (SG_nil iE (E := 3) (SG_nil iE (E := 3) hh6))⟩, ?_⟩
  clear hlen17 hh6 hroots hrnd hrlt
  rintro m v9 v5 v3 v2 h8 ⟨i, v5', v3', v2', l, lost, there, hzs, rfl, hi, hln, hI, hh8⟩ _
  obtain ⟨rfl, rfl, rfl, rfl⟩ : v9 = .int .i64 i ∧ v5 = v5' ∧ v3 = v3' ∧ v2 = v2' := by simpa using hzs
  have hS5 : (SG iE 3 v5 l * (MP r18 (setM (0 :: l)) * (SG iE 3 v3 lost * (SG iE 3 v2 there * (own g * (MP r15 (atM w.objs) * (pt r1 (.cells w.cells 26 (0, 0)) * F) * tt)))))) h8 := asr (by ac_rfl) hh8
  have hlen5 := SG_len iE hS5
  have hll : lost.length ≤ l.length := by rw [hI.lost]; exact Nat.le_trans (List.length_filter_le ..) (by rw [List.length_take]; omega)
  have hlt : there.length ≤ l.length := by rw [hI.there]; exact Nat.le_trans (List.length_filter_le ..) (by rw [List.length_take]; omega)
  by_cases hil : i < l.length
  · obtain ⟨p, f1, f2, _⟩ := el1 hS5 (List.getElem?_eq_getElem hil) .i64
    have hgx : l[i]? = some l[i] := List.getElem?_eq_getElem hil
    have htk := List.take_succ_eq_append_getElem hil
    have hrx := hI.rch _ (List.getElem_mem hil)
    generalize l[i] = x at *
    repeat (with_reducible first | refine vP_so ?_ | refine vB_t ?_ | refine vB_f ?_ | refine vE_tt ?_ | refine vE_ff ?_ | refine vE_tf ?_ | refine vE_ft ?_ | refine vE_u ?_ | refine vP_to (by simp (disch := omega) only [gdW_true, gdW_false, gB_true, gB_false, gB_undef, pickV_true, pickV_false, Bool.not_true, Bool.not_false, Option.map_some, bin_add, bin_sub, bin_mul, bin_quo, bin_rem, lss_t, lss_f, leq_t, leq_f, gtr_t, gtr_f, geq_t, geq_f, eqi_t, eqi_f, nei_t, nei_f, rem_uw, conv_ui, conv_iu, conv_ii, not_bool, nil_ptr, fa_mk, ptrV, len_mk, cap_mk, eq_ptr_nil, ne_ptr_nil, eq_nil_nil, ne_nil_nil, eq_slice_nil, eq_nil_slice, ia_1, hlen5]; exact so_so) ?_)
    intro J3 hJ3
    have hJ : ∀ v5' v3' v2' l' lost' there' h', l'.length ≤ w.all.length → l.length ≤ l'.length → WInv w (i + 1) l' lost' there' → (MP r18 (setM (0 :: l')) * (SG iE 3 v5' l' * (SG iE 3 v3' lost' * (SG iE 3 v2' there' * (own g * (MP r15 (atM w.objs) * (pt r1 (.cells w.cells 26 (0, 0)) * F) * tt)))))) h' → J3 [v5', v3', v2'] h' := by
      intro v5' v3' v2' l' lost' there' h' a1 a1' a2 a3
      refine hJ3 _ _ _ _ fun _ => ?_
      repeat (with_reducible first | refine vP_so ?_ | refine vB_t ?_ | refine vB_f ?_ | refine vE_tt ?_ | refine vE_ff ?_ | refine vE_tf ?_ | refine vE_ft ?_ | refine vE_u ?_ | refine vP_to (by simp (disch := omega) only [gdW_true, gdW_false, gB_true, gB_false, gB_undef, pickV_true, pickV_false, Bool.not_true, Bool.not_false, Option.map_some, bin_add, bin_sub, bin_mul, bin_quo, bin_rem, lss_t, lss_f, leq_t, leq_f, gtr_t, gtr_f, geq_t, geq_f, eqi_t, eqi_f, nei_t, nei_f, rem_uw, conv_ui, conv_iu, conv_ii, not_bool, nil_ptr, fa_mk, ptrV, len_mk, cap_mk, eq_ptr_nil, ne_ptr_nil, eq_nil_nil, ne_nil_nil, eq_slice_nil, eq_nil_slice, ia_1]; exact so_so) ?_)
      exact ⟨w.all.length - (i + 1), by omega, i + 1, v5', v3', v2', l', lost', there', rfl, rfl, by omega, a1, a2, a3⟩
    have hm15 : (MP r15 (atM w.objs) * (MP r18 (setM (0 :: l)) * (SG iE 3 v5 l * (SG iE 3 v3 lost * (SG iE 3 v2 there * (own g * (pt r1 (.cells w.cells 26 (0, 0)) * F * tt))))))) h8 := asr (by ac_rfl) hh8
    obtain ⟨_, hlk⟩ := lk_MP (k := x) mapII intU zInt hm15
    rw [atM_at] at hlk
    have x0 : ∀ a b : Value, exV (.tuple #[a, b]) 0 = some a := fun _ _ => rfl
    have x1 : ∀ a b : Value, exV (.tuple #[a, b]) 1 = some b := fun _ _ => rfl
    have eb : bldV #[.int .i64 0] [(0, 1, .int .i64 x)] = some #[.int .i64 x] := rfl
    cases hat : w.at x with
    | none =>
      rw [hat] at hlk
      simp only [Option.map_none, Option.getD_none, Option.isSome_none] at hlk
      repeat (with_reducible first | refine vP_so ?_ | refine vB_t ?_ | refine vB_f ?_ | refine vE_tt ?_ | refine vE_ff ?_ | refine vE_tf ?_ | refine vE_ft ?_ | refine vE_u ?_ | refine vP_to (by simp (disch := omega) only [gdW_true, gdW_false, gB_true, gB_false, gB_undef, pickV_true, pickV_false, Bool.not_true, Bool.not_false, Option.map_some, bin_add, bin_sub, bin_mul, bin_quo, bin_rem, lss_t, lss_f, leq_t, leq_f, gtr_t, gtr_f, geq_t, geq_f, eqi_t, eqi_f, nei_t, nei_f, rem_uw, conv_ui, conv_iu, conv_ii, not_bool, nil_ptr, fa_mk, ptrV, len_mk, cap_mk, eq_ptr_nil, ne_ptr_nil, eq_nil_nil, ne_nil_nil, eq_slice_nil, eq_nil_slice, ia_1, f1, f2, hlk, x0, x1, eb]; exact so_so) ?_)
      refine vA_new (f := fun r => .slice (some ⟨r, 0, none⟩) 1 1) hh8 fun r51 h10 hh10 => ?_
      refine ap_new iE (l := lost) (m := [x]) (F := MP r18 (setM (0 :: l)) * (SG iE 3 v5 l * (SG iE 3 v2 there * (own g * (MP r15 (atM w.objs) * (pt r1 (.cells w.cells 26 (0, 0)) * F)))))) elInt rfl rfl niInts rfl (by omega) (asr (by ac_rfl) hh10) rfl rfl (by simp only [List.length_singleton]; omega) fun v52 h11 hh11 => ?_
      refine hJ v5 v52 v2 l (lost ++ [x]) there h11 hln (Nat.le_refl _) ⟨hI.nodup, hI.rch, hI.names, fun j y k o z hj hy hk ho hz h0 => ?_, ?_, ?_⟩ (asr (by ac_rfl) hh11)
      · by_cases hji : j = i
        · subst hji
          obtain rfl : x = y := Option.some.inj (hgx.symm.trans hy)
          rw [hat] at hk; cases hk
        · exact hI.closed j y k o z (by omega) hy hk ho hz h0
      · rw [htk, List.filter_append, ← hI.lost]; simp [hat]
      · rw [htk, List.filter_append, ← hI.there]; simp [hat]
    | some k =>
      rw [hat] at hlk
      simp only [Option.map_some, Option.getD_some, Option.isSome_some] at hlk
      obtain ⟨o, ho, hoa⟩ := at_some hat
      repeat (with_reducible first | refine vP_so ?_ | refine vB_t ?_ | refine vB_f ?_ | refine vE_tt ?_ | refine vE_ff ?_ | refine vE_tf ?_ | refine vE_ft ?_ | refine vE_u ?_ | refine vP_to (by simp (disch := omega) only [gdW_true, gdW_false, gB_true, gB_false, gB_undef, pickV_true, pickV_false, Bool.not_true, Bool.not_false, Option.map_some, bin_add, bin_sub, bin_mul, bin_quo, bin_rem, lss_t, lss_f, leq_t, leq_f, gtr_t, gtr_f, geq_t, geq_f, eqi_t, eqi_f, nei_t, nei_f, rem_uw, conv_ui, conv_iu, conv_ii, not_bool, nil_ptr, fa_mk, ptrV, len_mk, cap_mk, eq_ptr_nil, ne_ptr_nil, eq_nil_nil, ne_nil_nil, eq_slice_nil, eq_nil_slice, ia_1, f1, f2, hlk, x0, x1, eb]; exact so_so) ?_)
      refine vA_new (f := fun r => .slice (some ⟨r, 0, none⟩) 1 1) hh8 fun r58 h12 hh12 => ?_
      refine ap_new iE (l := there) (m := [x]) (F := MP r18 (setM (0 :: l)) * (SG iE 3 v5 l * (SG iE 3 v3 lost * (own g * (MP r15 (atM w.objs) * (pt r1 (.cells w.cells 26 (0, 0)) * F)))))) elInt rfl rfl niInts rfl (by omega) (asr (by ac_rfl) hh12) rfl rfl (by simp only [List.length_singleton]; omega) fun v59 h13 hh13 => ?_
      have l5 := (vw_ld (r := r1) (w := w) (E := 26) (F := SG iE 3 v59 (there ++ [x]) * (MP r18 (setM (0 :: l)) * (SG iE 3 v5 l * (SG iE 3 v3 lost * (own g * (MP r15 (atM w.objs) * (F * tt))))))) (asr (by ac_rfl) hh13)).2.2.2.2.2.1
      have hw13 := own_vat (F := SG iE 3 v59 (there ++ [x]) * (MP r18 (setM (0 :: l)) * (SG iE 3 v5 l * (SG iE 3 v3 lost * (MP r15 (atM w.objs) * (pt r1 (.cells w.cells 26 (0, 0)) * F * tt)))))) (asr (by ac_rfl) hh13) hv
      obtain ⟨b, q, e1, _, e3, _, _⟩ := hw13.obj ho .i64
      have hsl := hv.slots o (List.mem_of_getElem? ho)
      have hsllen : ∀ y ∈ o.slots, y ∈ w.all := fun y hy => by
        unfold VW.all
        rw [List.mem_append]
        exact .inr (List.mem_flatMap.2 ⟨o, List.mem_of_getElem? ho, hy⟩)
      have hlt66 := hsl.lt
      repeat (with_reducible first | refine vP_so ?_ | refine vB_t ?_ | refine vB_f ?_ | refine vE_tt ?_ | refine vE_ff ?_ | refine vE_tf ?_ | refine vE_ft ?_ | refine vE_u ?_ | refine vP_to (by simp (disch := omega) only [gdW_true, gdW_false, gB_true, gB_false, gB_undef, pickV_true, pickV_false, Bool.not_true, Bool.not_false, Option.map_some, bin_add, bin_sub, bin_mul, bin_quo, bin_rem, lss_t, lss_f, leq_t, leq_f, gtr_t, gtr_f, geq_t, geq_f, eqi_t, eqi_f, nei_t, nei_f, rem_uw, conv_ui, conv_iu, conv_ii, not_bool, nil_ptr, fa_mk, ptrV, len_mk, cap_mk, eq_ptr_nil, ne_ptr_nil, eq_nil_nil, ne_nil_nil, eq_slice_nil, eq_nil_slice, ia_1, l5, e1, e3, hsl.len]; exact so_so) ?_)
      refine ⟨fun m zs h' => ∃ (j : Nat) (v5 : Value), zs = [.int .i64 j, v5] ∧ m = o.slots.length - j ∧ j ≤ o.slots.length ∧
          (MP r18 (setM (0 :: (o.slots.take j).foldl onceL l)) * (SG iE 3 v5 ((o.slots.take j).foldl onceL l) * (SG iE 3 v3 lost * (SG iE 3 v59 (there ++ [x]) * (own g * (MP r15 (atM w.objs) * (pt r1 (.cells w.cells 26 (0, 0)) * F) * tt)))))) h',
        ⟨_, 0, v5, rfl, rfl, by omega, asr (by ac_rfl) hh13⟩, ?_⟩
      rintro m v67 v5b h14 ⟨j, v5c, hzs, rfl, hj, hh14⟩ _
      obtain ⟨rfl, rfl⟩ : v67 = .int .i64 j ∧ v5b = v5c := by simpa using hzs
      have hfn : ((o.slots.take j).foldl onceL l).Nodup := foldl_once_nodup hI.nodup
      have hfr : ∀ y ∈ (o.slots.take j).foldl onceL l, Rch w y := fun y hy => by
        rcases foldl_once_mem.1 hy with h | ⟨h, h0⟩
        · exact hI.rch y h
        · exact .step hrx hat ho (List.mem_of_mem_take h) h0
      have hflen : ((o.slots.take j).foldl onceL l).length ≤ w.all.length := nodup_len hfn fun y hy => (hfr y hy).all
      by_cases hjl : j < o.slots.length
      · obtain ⟨p', c1, c2⟩ := hsl.get j o.slots[j] .i64 (List.getElem?_eq_getElem hjl)
        have c2 := own_ld1 (F := MP r18 (setM (0 :: (o.slots.take j).foldl onceL l)) * (SG iE 3 v5b ((o.slots.take j).foldl onceL l) * (SG iE 3 v3 lost * (SG iE 3 v59 (there ++ [x]) * (MP r15 (atM w.objs) * (pt r1 (.cells w.cells 26 (0, 0)) * F) * tt))))) (asr (by ac_rfl) hh14) c2
        have hfold : (o.slots.take (j + 1)).foldl onceL l = onceL ((o.slots.take j).foldl onceL l) o.slots[j] := by
          rw [List.take_succ_eq_append_getElem hjl, List.foldl_append]; rfl
        generalize o.slots[j] = y at *
        generalize (o.slots.take j).foldl onceL l = lj at *
        repeat (with_reducible first | refine vP_so ?_ | refine vB_t ?_ | refine vB_f ?_ | refine vE_tt ?_ | refine vE_ff ?_ | refine vE_tf ?_ | refine vE_ft ?_ | refine vE_u ?_ | refine vP_to (by simp (disch := omega) only [gdW_true, gdW_false, gB_true, gB_false, gB_undef, pickV_true, pickV_false, Bool.not_true, Bool.not_false, Option.map_some, bin_add, bin_sub, bin_mul, bin_quo, bin_rem, lss_t, lss_f, leq_t, leq_f, gtr_t, gtr_f, geq_t, geq_f, eqi_t, eqi_f, nei_t, nei_f, rem_uw, conv_ui, conv_iu, conv_ii, not_bool, nil_ptr, fa_mk, ptrV, len_mk, cap_mk, eq_ptr_nil, ne_ptr_nil, eq_nil_nil, ne_nil_nil, eq_slice_nil, eq_nil_slice, ia_1]; exact so_so) ?_)
        intro J5 hJ5
        have hJJ : ∀ v' h', (MP r18 (setM (0 :: onceL lj y)) * (SG iE 3 v' (onceL lj y) * (SG iE 3 v3 lost * (SG iE 3 v59 (there ++ [x]) * (own g * (MP r15 (atM w.objs) * (pt r1 (.cells w.cells 26 (0, 0)) * F) * tt)))))) h' → J5 [v'] h' := fun v' h' q => by
          refine hJ5 _ _ fun _ => ?_
          repeat (with_reducible first | refine vP_so ?_ | refine vB_t ?_ | refine vB_f ?_ | refine vE_tt ?_ | refine vE_ff ?_ | refine vE_tf ?_ | refine vE_ft ?_ | refine vE_u ?_ | refine vP_to (by simp (disch := omega) only [gdW_true, gdW_false, gB_true, gB_false, gB_undef, pickV_true, pickV_false, Bool.not_true, Bool.not_false, Option.map_some, bin_add, bin_sub, bin_mul, bin_quo, bin_rem, lss_t, lss_f, leq_t, leq_f, gtr_t, gtr_f, geq_t, geq_f, eqi_t, eqi_f, nei_t, nei_f, rem_uw, conv_ui, conv_iu, conv_ii, not_bool, nil_ptr, fa_mk, ptrV, len_mk, cap_mk, eq_ptr_nil, ne_ptr_nil, eq_nil_nil, ne_nil_nil, eq_slice_nil, eq_nil_slice, ia_1]; exact so_so) ?_)
          exact ⟨o.slots.length - (j + 1), by omega, j + 1, v', rfl, rfl, by omega, by rw [hfold]; exact q⟩
        obtain ⟨hlk2, _⟩ := lk_MP (k := y) mapII intU zInt hh14
        rw [setM_get] at hlk2
        by_cases hin : y = 0 ∨ y ∈ lj
        · rw [if_pos (show y ∈ 0 :: lj by rw [List.mem_cons]; exact hin)] at hlk2
          have e1 : onceL lj y = lj := by unfold onceL; rw [if_pos hin]
          rw [e1] at hJJ
          repeat (with_reducible first | refine vP_so ?_ | refine vB_t ?_ | refine vB_f ?_ | refine vE_tt ?_ | refine vE_ff ?_ | refine vE_tf ?_ | refine vE_ft ?_ | refine vE_u ?_ | refine vP_to (by simp (disch := omega) only [gdW_true, gdW_false, gB_true, gB_false, gB_undef, pickV_true, pickV_false, Bool.not_true, Bool.not_false, Option.map_some, bin_add, bin_sub, bin_mul, bin_quo, bin_rem, lss_t, lss_f, leq_t, leq_f, gtr_t, gtr_f, geq_t, geq_f, eqi_t, eqi_f, nei_t, nei_f, rem_uw, conv_ui, conv_iu, conv_ii, not_bool, nil_ptr, fa_mk, ptrV, len_mk, cap_mk, eq_ptr_nil, ne_ptr_nil, eq_nil_nil, ne_nil_nil, eq_slice_nil, eq_nil_slice, ia_1, c1, c2, hlk2]; exact so_so) ?_)
          exact hJJ v5b h14 hh14
        · rw [if_neg (show ¬ y ∈ 0 :: lj by rw [List.mem_cons]; exact hin)] at hlk2
          have e1 : onceL lj y = lj ++ [y] := by unfold onceL; rw [if_neg hin]
          have e2 : setM (0 :: onceL lj y) = setM (y :: 0 :: lj) := by rw [setM_once, if_neg hin]
          rw [e1] at e2
          rw [e1, e2] at hJJ
          have eb2 : bldV #[.int .i64 0] [(0, 1, .int .i64 y)] = some #[.int .i64 y] := rfl
          repeat (with_reducible first | refine vP_so ?_ | refine vB_t ?_ | refine vB_f ?_ | refine vE_tt ?_ | refine vE_ff ?_ | refine vE_tf ?_ | refine vE_ft ?_ | refine vE_u ?_ | refine vP_to (by simp (disch := omega) only [gdW_true, gdW_false, gB_true, gB_false, gB_undef, pickV_true, pickV_false, Bool.not_true, Bool.not_false, Option.map_some, bin_add, bin_sub, bin_mul, bin_quo, bin_rem, lss_t, lss_f, leq_t, leq_f, gtr_t, gtr_f, geq_t, geq_f, eqi_t, eqi_f, nei_t, nei_f, rem_uw, conv_ui, conv_iu, conv_ii, not_bool, nil_ptr, fa_mk, ptrV, len_mk, cap_mk, eq_ptr_nil, ne_ptr_nil, eq_nil_nil, ne_nil_nil, eq_slice_nil, eq_nil_slice, ia_1, c1, c2, hlk2]; exact so_so) ?_)
          refine mu_MP mapII intU hh14 fun h16 hh16 => ?_
          rw [setM_put] at hh16
          rw [eb2]
          refine vA_new (f := fun r => .slice (some ⟨r, 0, none⟩) 1 1) hh16 fun r79 h17 hh17 => ?_
          refine ap_new iE (l := lj) (m := [y]) (F := MP r18 (setM (y :: 0 :: lj)) * (SG iE 3 v3 lost * (SG iE 3 v59 (there ++ [x]) * (own g * (MP r15 (atM w.objs) * (pt r1 (.cells w.cells 26 (0, 0)) * F)))))) elInt rfl rfl niInts rfl (by omega) (asr (by ac_rfl) hh17) rfl rfl (by simp only [List.length_singleton]; omega) fun v80 h18 hh18 => ?_
          exact hJJ v80 h18 (asr (by ac_rfl) hh18)
      · obtain rfl : j = o.slots.length := by omega
        rw [List.take_length] at hh14 hfn hfr hflen
        repeat (with_reducible first | refine vP_so ?_ | refine vB_t ?_ | refine vB_f ?_ | refine vE_tt ?_ | refine vE_ff ?_ | refine vE_tf ?_ | refine vE_ft ?_ | refine vE_u ?_ | refine vP_to (by simp (disch := omega) only [gdW_true, gdW_false, gB_true, gB_false, gB_undef, pickV_true, pickV_false, Bool.not_true, Bool.not_false, Option.map_some, bin_add, bin_sub, bin_mul, bin_quo, bin_rem, lss_t, lss_f, leq_t, leq_f, gtr_t, gtr_f, geq_t, geq_f, eqi_t, eqi_f, nei_t, nei_f, rem_uw, conv_ui, conv_iu, conv_ii, not_bool, nil_ptr, fa_mk, ptrV, len_mk, cap_mk, eq_ptr_nil, ne_ptr_nil, eq_nil_nil, ne_nil_nil, eq_slice_nil, eq_nil_slice, ia_1]; exact so_so) ?_)
        obtain ⟨t, ht⟩ := foldl_once_pre (xs := o.slots) (l := l)
        have hgl : ∀ (j : Nat) y, j < i + 1 → (o.slots.foldl onceL l)[j]? = some y → l[j]? = some y := fun j y hj hy => by
          rw [← ht, List.getElem?_append_left (by omega)] at hy
          exact hy
        have htk2 : (o.slots.foldl onceL l).take (i + 1) = l.take (i + 1) := by rw [← ht, List.take_append_of_le_length (by omega)]
        refine hJ v5b v3 v59 (o.slots.foldl onceL l) lost (there ++ [x]) h14 hflen (by rw [← ht, List.length_append]; omega) ⟨hfn, hfr, fun y hy h0 => foldl_once_mem.2 (.inl (hI.names y hy h0)), fun j' y k' o' z hj' hy hk' ho' hz h0 => ?_, ?_, ?_⟩ hh14
        · have hy := hgl j' y hj' hy
          by_cases hji : j' = i
          · subst hji
            obtain rfl : x = y := Option.some.inj (hgx.symm.trans hy)
            obtain rfl : k = k' := Option.some.inj (hat.symm.trans hk')
            obtain rfl : o = o' := Option.some.inj (ho.symm.trans ho')
            exact foldl_once_mem.2 (.inr ⟨hz, h0⟩)
          · exact foldl_once_mem.2 (.inl (hI.closed j' y k' o' z (by omega) hy hk' ho' hz h0))
        · rw [htk2, htk, List.filter_append, ← hI.lost]; simp [hat]
        · rw [htk2, htk, List.filter_append, ← hI.there]; simp [hat]
  · obtain rfl : i = l.length := by omega
    obtain ⟨_, d2, d3, d4, d5⟩ := hI.done
    repeat (with_reducible first | refine vP_so ?_ | refine vB_t ?_ | refine vB_f ?_ | refine vE_tt ?_ | refine vE_ff ?_ | refine vE_tf ?_ | refine vE_ft ?_ | refine vE_u ?_ | refine vP_to (by simp (disch := omega) only [gdW_true, gdW_false, gB_true, gB_false, gB_undef, pickV_true, pickV_false, Bool.not_true, Bool.not_false, Option.map_some, bin_add, bin_sub, bin_mul, bin_quo, bin_rem, lss_t, lss_f, leq_t, leq_f, gtr_t, gtr_f, geq_t, geq_f, eqi_t, eqi_f, nei_t, nei_f, rem_uw, conv_ui, conv_iu, conv_ii, not_bool, nil_ptr, fa_mk, ptrV, len_mk, cap_mk, eq_ptr_nil, ne_ptr_nil, eq_nil_nil, ne_nil_nil, eq_slice_nil, eq_nil_slice, ia_1, hlen5]; exact so_so) ?_)
    refine use_sort sortC (E := 3) (l := there) (F := SG iE 3 v3 lost * (own g * (F * tt))) (by omega) (dropL (P := MP r18 (setM (0 :: l)) * (SG iE 3 v5 l * (MP r15 (atM w.objs) * pt r1 (.cells w.cells 26 (0, 0))))) (Q := SG iE 3 v2 there * (SG iE 3 v3 lost * (own g * F))) (asr (by ac_rfl) hh8) |> asr (by ac_rfl)) fun h19 hh19 => ?_
    refine use_sort sortC (E := 3) (l := lost) (F := SG iE 3 v2 (srt there) * (own g * (F * tt))) (by omega) (asr (by ac_rfl) hh19) fun h20 hh20 => ?_
    refine hK v2 v3 (srt there) (srt lost) h20 (srt_rise d3) (srt_rise d2) (fun x => by rw [srt_mem, d5]) (fun x => by rw [srt_mem, d4]) ?_ ?_ (asr (by ac_rfl) hh20)
    · rw [(srt_perm there).length_eq]; omega
    · rw [(srt_perm lost).length_eq]; omega

end Go.Proofs
