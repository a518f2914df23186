/-
  PagePlays returns true.
-/
import Derived.Test.YtfjgkljgfomobaaPgRef2
import Derived.Test.YtfjgkljgfomobaaV18
set_option linter.unusedVariables false
set_option linter.unusedSimpArgs false
namespace Go.Proofs
open Go.Sl

theorem plays_tr (g : Hp) (n : Int) (sv : Value) (os : List (Int × Int × Int)) (hx : TrisAt g sv os) : Tr Try.prog 4 #[.int .i64 n, sv] (own g) (fun v => pr (v = .bool true) * own g) := by
  refine Tr.of fun h hh => C4 ?_
  unfold D4
  have hlt := hx.lt
  intro J1 hJ1
  have h1 : ∀ k : Int, -200 ≤ k ∧ k ≤ 200 → J1 [.int .i64 k] h := by
    clear n
    intro k hk
    refine hJ1 _ _ fun _ => ?_
    have hN : 1 ≤ newN k ∧ newN k ≤ 200 := by unfold newN; omega
    obtain ⟨w1, _, _⟩ := new_wf k
    refine use_new hh fun a h2 hh2 => ?_
    refine use_rnew hh2 fun b h3 hh3 => ?_
    generalize newL k = l1 at *
    obtain ⟨N, hNN⟩ : ∃ N : Nat, newN k = N := ⟨(newN k).toNat, by omega⟩
    rw [hNN] at hN w1 hh3
    rw [Int.toNat_natCast] at hh3
    clear hNN hh2 h2
    repeat (with_reducible first | refine vP_so ?_ | refine vB_t ?_ | refine vB_f ?_ | refine vP_to (by simp (disch := omega) only [gdW_true, gdW_false, gB_true, gB_false, gB_undef, pickV_true, pickV_false, Bool.not_true, Bool.not_false, Option.map_some, bin_add, bin_sub, bin_mul, bin_quo, bin_rem, lss_t, lss_f, leq_t, leq_f, gtr_t, gtr_f, geq_t, geq_f, eqi_t, eqi_f, nei_t, nei_f, rem_uw, conv_ui, conv_iu, conv_ii, not_bool, nil_ptr, fa_mk, ptrV, len_mk, cap_mk, eq_ptr_nil, ne_ptr_nil, eq_nil_nil, ne_nil_nil, eq_slice_nil, eq_nil_slice, ia_1, pv]; exact so_so) ?_ | refine vE_t (by simp only [gB_true, gB_false, gB_undef, Bool.not_true, Bool.not_false]) ?_ | refine vE_f (by simp only [gB_true, gB_false, gB_undef, Bool.not_true, Bool.not_false]) ?_)
    refine ⟨fun q ys h' => ∃ (i : Nat) (v8 : Value) (l got : List Run), ys = [.int .i64 i, v8] ∧ q = os.length - i ∧ i ≤ os.length ∧ i ≤ 60 ∧ got.length ≤ i ∧ WF N l ∧ (∀ r ∈ got, r.2 ≤ 9223372036854775807) ∧
        (PG a N l * (FLs b N l * (SG enc2 34 v8 got * (own g * tt)))) h',
      ⟨_, 0, .slice none 0 0, l1, [], rfl, rfl, by omega, by omega, by simp, w1, by simp, asr (by ac_rfl) (SG_nil enc2 (E := 34) hh3)⟩, ?_⟩
    rintro q v9 v8 h4 ⟨i, v8', l, got, hys, rfl, hi, hi60, hgl, hwf, hgb, hh4⟩ _
    obtain ⟨rfl, rfl⟩ : v9 = .int .i64 i ∧ v8 = v8' := by simpa using hys
    by_cases hil : i < os.length ∧ i < 60
    · have hown : (own g * (PG a N l * (FLs b N l * (SG enc2 34 v8 got * tt)))) h4 := asr (by ac_rfl) hh4
      have ho : os[i]? = some os[i] := List.getElem?_eq_getElem hil.1
      obtain ⟨p, f1, f2⟩ := hx.get i os[i] .i64 ho
      have f2 := own_ldN hown f2
      obtain ⟨wf1, wf2, wf3⟩ := hx.wf os[i] (List.getElem_mem hil.1)
      generalize os[i] = o at *
      obtain ⟨kd, fi, kk⟩ := o
      simp only at wf1 wf2 wf3 f2
      repeat (with_reducible first | refine vP_so ?_ | refine vB_t ?_ | refine vB_f ?_ | refine vP_to (by simp (disch := omega) only [gdW_true, gdW_false, gB_true, gB_false, gB_undef, pickV_true, pickV_false, Bool.not_true, Bool.not_false, Option.map_some, bin_add, bin_sub, bin_mul, bin_quo, bin_rem, lss_t, lss_f, leq_t, leq_f, gtr_t, gtr_f, geq_t, geq_f, eqi_t, eqi_f, nei_t, nei_f, rem_uw, conv_ui, conv_iu, conv_ii, not_bool, nil_ptr, fa_mk, ptrV, len_mk, cap_mk, eq_ptr_nil, ne_ptr_nil, eq_nil_nil, ne_nil_nil, eq_slice_nil, eq_nil_slice, ia_1, hx.len, f1, f2]; exact so_so) ?_ | refine vE_t (by simp only [gB_true, gB_false, gB_undef, Bool.not_true, Bool.not_false]) ?_ | refine vE_f (by simp only [gB_true, gB_false, gB_undef, Bool.not_true, Bool.not_false]) ?_)
      refine vA_new hh4 fun r10 h5 hh5 => ?_
      refine stN_mk (cs := #[.int .i64 kd, .int .i64 fi, .int .i64 kk]) hh5 rfl rfl (by simp) fun h6 hh6 => ?_
      have hc : ∀ {h : Hp} {F : Asrt}, (pt r10 (.cells #[.int .i64 kd, .int .i64 fi, .int .i64 kk] 40 (0, 0)) * F) h → ld1 (.pointer (some ⟨r10, 0 + 0, none⟩)) h = some (.int .i64 kd) ∧ ld1 (.pointer (some ⟨r10, 0 + 1, none⟩)) h = some (.int .i64 fi) ∧ ld1 (.pointer (some ⟨r10, 0 + 2, none⟩)) h = some (.int .i64 kk) :=
        fun q => ⟨ld1_mk (pt_get q) rfl, ld1_mk (pt_get q) rfl, ld1_mk (pt_get q) rfl⟩
      have hh6 : (pt r10 (.cells #[.int .i64 kd, .int .i64 fi, .int .i64 kk] 40 (0, 0)) * (PG a N l * (FLs b N l * (SG enc2 34 v8 got * (own g * tt))))) h6 := hh6
      have ht1 := Int.tmod_lt_of_pos kd (show (0 : Int) < 5 by omega)
      have ht2 := Int.lt_tmod_of_pos kd (show (0 : Int) < 5 by omega)
      have et : binV .rem (.int .i64 kd) (.int .i64 5) = some (.int .i64 (kd.tmod 5)) := rfl
      generalize kd.tmod 5 = t at *
      repeat (with_reducible first | refine vP_so ?_ | refine vB_t ?_ | refine vB_f ?_ | refine vP_to (by simp (disch := omega) only [gdW_true, gdW_false, gB_true, gB_false, gB_undef, pickV_true, pickV_false, Bool.not_true, Bool.not_false, Option.map_some, bin_add, bin_sub, bin_mul, bin_quo, bin_rem, lss_t, lss_f, leq_t, leq_f, gtr_t, gtr_f, geq_t, geq_f, eqi_t, eqi_f, nei_t, nei_f, rem_uw, conv_ui, conv_iu, conv_ii, not_bool, nil_ptr, fa_mk, ptrV, len_mk, cap_mk, eq_ptr_nil, ne_ptr_nil, eq_nil_nil, ne_nil_nil, eq_slice_nil, eq_nil_slice, ia_1, (hc hh6).1, et]; exact so_so) ?_ | refine vE_t (by simp only [gB_true, gB_false, gB_undef, Bool.not_true, Bool.not_false]) ?_ | refine vE_f (by simp only [gB_true, gB_false, gB_undef, Bool.not_true, Bool.not_false]) ?_)
      intro J3 hJ3
      have hJ : ∀ v8' l' got' h', WF N l' → (∀ r ∈ got', r.2 ≤ 9223372036854775807) → got'.length ≤ i + 1 → (PG a N l' * (FLs b N l' * (SG enc2 34 v8' got' * (own g * tt)))) h' → J3 [v8'] h' := by
        intro v8' l' got' h' w' hg' hgl' hh'
        refine hJ3 _ _ fun _ => ?_
        have hwl := WF_len w' (by omega)
        refine use_runs w' (by omega) hh' fun v129 h8 hh8 => ?_
        refine use_rruns (F := SL enc2 34 v129 l' * (PG a N l' * (SG enc2 34 v8' got' * own g))) w' (by omega) (asr (by ac_rfl) hh8) fun v131 h9 hh9 => ?_
        have hh9a : (SL enc2 34 v129 l' * (SG enc2 34 v131 l' * (PG a N l' * (FLs b N l' * (SG enc2 34 v8' got' * (own g * tt)))))) h9 := asr (by ac_rfl) hh9
        have hh9b := SG_of enc2 hh9a
        refine use_runsEq hh9b ?_
        have hh9c : (PG a N l' * (FLs b N l' * (SG enc2 34 v8' got' * (own g * tt)))) h9 := asr (by ac_rfl) (drp2 (P := SL enc2 34 v129 l') (Q := SG enc2 34 v131 l') (R := PG a N l' * (FLs b N l' * (SG enc2 34 v8' got' * own g))) (asr (by ac_rfl) hh9a))
        repeat (with_reducible first | refine vP_so ?_ | refine vB_t ?_ | refine vB_f ?_ | refine vP_to (by simp (disch := omega) only [gdW_true, gdW_false, gB_true, gB_false, gB_undef, pickV_true, pickV_false, Bool.not_true, Bool.not_false, Option.map_some, bin_add, bin_sub, bin_mul, bin_quo, bin_rem, lss_t, lss_f, leq_t, leq_f, gtr_t, gtr_f, geq_t, geq_f, eqi_t, eqi_f, nei_t, nei_f, rem_uw, conv_ui, conv_iu, conv_ii, not_bool, nil_ptr, fa_mk, ptrV, len_mk, cap_mk, eq_ptr_nil, ne_ptr_nil, eq_nil_nil, ne_nil_nil, eq_slice_nil, eq_nil_slice, ia_1]; exact so_so) ?_ | refine vE_t (by simp only [gB_true, gB_false, gB_undef, Bool.not_true, Bool.not_false]) ?_ | refine vE_f (by simp only [gB_true, gB_false, gB_undef, Bool.not_true, Bool.not_false]) ?_)
        refine use_left w' (by omega) hh9c fun h11 hh11 => ?_
        repeat (with_reducible first | refine vP_so ?_ | refine vB_t ?_ | refine vB_f ?_ | refine vP_to (by simp (disch := omega) only [gdW_true, gdW_false, gB_true, gB_false, gB_undef, pickV_true, pickV_false, Bool.not_true, Bool.not_false, Option.map_some, bin_add, bin_sub, bin_mul, bin_quo, bin_rem, lss_t, lss_f, leq_t, leq_f, gtr_t, gtr_f, geq_t, geq_f, eqi_t, eqi_f, nei_t, nei_f, rem_uw, conv_ui, conv_iu, conv_ii, not_bool, nil_ptr, fa_mk, ptrV, len_mk, cap_mk, eq_ptr_nil, ne_ptr_nil, eq_nil_nil, ne_nil_nil, eq_slice_nil, eq_nil_slice, ia_1]; exact so_so) ?_ | refine vE_t (by simp only [gB_true, gB_false, gB_undef, Bool.not_true, Bool.not_false]) ?_ | refine vE_f (by simp only [gB_true, gB_false, gB_undef, Bool.not_true, Bool.not_false]) ?_)
        refine use_rleft (F := PG a N l' * (SG enc2 34 v8' got' * (own g * tt))) w' (by omega) (asr (by ac_rfl) hh11) fun h12 hh12 => ?_
        repeat (with_reducible first | refine vP_so ?_ | refine vB_t ?_ | refine vB_f ?_ | refine vP_to (by simp (disch := omega) only [gdW_true, gdW_false, gB_true, gB_false, gB_undef, pickV_true, pickV_false, Bool.not_true, Bool.not_false, Option.map_some, bin_add, bin_sub, bin_mul, bin_quo, bin_rem, lss_t, lss_f, leq_t, leq_f, gtr_t, gtr_f, geq_t, geq_f, eqi_t, eqi_f, nei_t, nei_f, rem_uw, conv_ui, conv_iu, conv_ii, not_bool, nil_ptr, fa_mk, ptrV, len_mk, cap_mk, eq_ptr_nil, ne_ptr_nil, eq_nil_nil, ne_nil_nil, eq_slice_nil, eq_nil_slice, ia_1]; exact so_so) ?_ | refine vE_t (by simp only [gB_true, gB_false, gB_undef, Bool.not_true, Bool.not_false]) ?_ | refine vE_f (by simp only [gB_true, gB_false, gB_undef, Bool.not_true, Bool.not_false]) ?_)
        exact ⟨os.length - (i + 1), by omega, i + 1, v8', l', got', rfl, rfl, by omega, by omega, hgl', w', hg', asr (by ac_rfl) hh12⟩
      by_cases hk3 : (t + 5) % 5 < 3
      · repeat (with_reducible first | refine vP_so ?_ | refine vB_t ?_ | refine vB_f ?_ | refine vP_to (by simp (disch := omega) only [gdW_true, gdW_false, gB_true, gB_false, gB_undef, pickV_true, pickV_false, Bool.not_true, Bool.not_false, Option.map_some, bin_add, bin_sub, bin_mul, bin_quo, bin_rem, lss_t, lss_f, leq_t, leq_f, gtr_t, gtr_f, geq_t, geq_f, eqi_t, eqi_f, nei_t, nei_f, rem_uw, conv_ui, conv_iu, conv_ii, not_bool, nil_ptr, fa_mk, ptrV, len_mk, cap_mk, eq_ptr_nil, ne_ptr_nil, eq_nil_nil, ne_nil_nil, eq_slice_nil, eq_nil_slice, ia_1, (hc hh6).2.2]; exact so_so) ?_ | refine vE_t (by simp only [gB_true, gB_false, gB_undef, Bool.not_true, Bool.not_false]) ?_ | refine vE_f (by simp only [gB_true, gB_false, gB_undef, Bool.not_true, Bool.not_false]) ?_)
        refine use_alloc (F := pt r10 (.cells #[.int .i64 kd, .int .i64 fi, .int .i64 kk] 40 (0, 0)) * (FLs b N l * (SG enc2 34 v8 got * (own g * tt)))) hwf (by omega) (by omega) (asr (by ac_rfl) hh6) fun v l13 h13 hv w13 hh13 => ?_
        have hh13a : (pt r10 (.cells #[.int .i64 kd, .int .i64 fi, .int .i64 kk] 40 (0, 0)) * (PG a N l13 * (FLs b N l * (SG enc2 34 v8 got * (own g * tt))))) h13 := asr (by ac_rfl) hh13
        obtain ⟨a4, e4, rfl⟩ : ∃ a4 e4, v = tup a4 e4 := by
          rcases hv with ⟨_, h, _⟩ | ⟨_, _, h, _⟩ | ⟨_, b, _, _, _, h, _⟩ <;> exact ⟨_, _, h⟩
        repeat (with_reducible first | refine vP_so ?_ | refine vB_t ?_ | refine vB_f ?_ | refine vP_to (by simp (disch := omega) only [gdW_true, gdW_false, gB_true, gB_false, gB_undef, pickV_true, pickV_false, Bool.not_true, Bool.not_false, Option.map_some, bin_add, bin_sub, bin_mul, bin_quo, bin_rem, lss_t, lss_f, leq_t, leq_f, gtr_t, gtr_f, geq_t, geq_f, eqi_t, eqi_f, nei_t, nei_f, rem_uw, conv_ui, conv_iu, conv_ii, not_bool, nil_ptr, fa_mk, ptrV, len_mk, cap_mk, eq_ptr_nil, ne_ptr_nil, eq_nil_nil, ne_nil_nil, eq_slice_nil, eq_nil_slice, ia_1, exV0, exV1, (hc hh13a).2.2]; exact so_so) ?_ | refine vE_t (by simp only [gB_true, gB_false, gB_undef, Bool.not_true, Bool.not_false]) ?_ | refine vE_f (by simp only [gB_true, gB_false, gB_undef, Bool.not_true, Bool.not_false]) ?_)
        refine use_ralloc (F := pt r10 (.cells #[.int .i64 kd, .int .i64 fi, .int .i64 kk] 40 (0, 0)) * (PG a N l13 * (SG enc2 34 v8 got * own g))) hwf (by omega) (asr (by ac_rfl) hh13a) fun v' l14 h14 hv' w14 hh14 => ?_
        obtain ⟨rfl, rfl⟩ := AllocL_fun hv hv' w13 w14
        have hh14a : (pt r10 (.cells #[.int .i64 kd, .int .i64 fi, .int .i64 kk] 40 (0, 0)) * (PG a N l13 * (FLs b N l13 * (SG enc2 34 v8 got * (own g * tt))))) h14 := asr (by ac_rfl) hh14
        repeat (with_reducible first | refine vP_so ?_ | refine vB_t ?_ | refine vB_f ?_ | refine vP_to (by simp (disch := omega) only [gdW_true, gdW_false, gB_true, gB_false, gB_undef, pickV_true, pickV_false, Bool.not_true, Bool.not_false, Option.map_some, bin_add, bin_sub, bin_mul, bin_quo, bin_rem, lss_t, lss_f, leq_t, leq_f, gtr_t, gtr_f, geq_t, geq_f, eqi_t, eqi_f, nei_t, nei_f, rem_uw, conv_ui, conv_iu, conv_ii, not_bool, nil_ptr, fa_mk, ptrV, len_mk, cap_mk, eq_ptr_nil, ne_ptr_nil, eq_nil_nil, ne_nil_nil, eq_slice_nil, eq_nil_slice, ia_1, exV0, exV1]; exact so_so) ?_ | refine vE_t (by simp only [gB_true, gB_false, gB_undef, Bool.not_true, Bool.not_false]) ?_ | refine vE_f (by simp only [gB_true, gB_false, gB_undef, Bool.not_true, Bool.not_false]) ?_)
        by_cases he : e4 = 0
        · have eb : bldV #[.int .i64 0, .int .i64 0] [(0, 1, .int .i64 a4), (1, 1, .int .i64 kk)] = some #[.int .i64 a4, .int .i64 kk] := rfl
          have eb2 : bldV #[.int .i64 0, .int .i64 0] [(0, 2, .agg #[.int .i64 a4, .int .i64 kk])] = some #[.int .i64 a4, .int .i64 kk] := rfl
          repeat (with_reducible first | refine vP_so ?_ | refine vB_t ?_ | refine vB_f ?_ | refine vP_to (by simp (disch := omega) only [gdW_true, gdW_false, gB_true, gB_false, gB_undef, pickV_true, pickV_false, Bool.not_true, Bool.not_false, Option.map_some, bin_add, bin_sub, bin_mul, bin_quo, bin_rem, lss_t, lss_f, leq_t, leq_f, gtr_t, gtr_f, geq_t, geq_f, eqi_t, eqi_f, nei_t, nei_f, rem_uw, conv_ui, conv_iu, conv_ii, not_bool, nil_ptr, fa_mk, ptrV, len_mk, cap_mk, eq_ptr_nil, ne_ptr_nil, eq_nil_nil, ne_nil_nil, eq_slice_nil, eq_nil_slice, ia_1, (hc hh14a).2.2, eb]; exact so_so) ?_ | refine vE_t (by simp only [gB_true, gB_false, gB_undef, Bool.not_true, Bool.not_false]) ?_ | refine vE_f (by simp only [gB_true, gB_false, gB_undef, Bool.not_true, Bool.not_false]) ?_)
          rw [eb2]
          refine vA_new (f := fun r => .slice (some ⟨r, 0, none⟩) 1 1) hh14a fun r9 h15 hh15 => ?_
          refine ap_new enc2 (l := got) (m := [(a4, kk)]) (F := pt r10 (.cells #[.int .i64 kd, .int .i64 fi, .int .i64 kk] 40 (0, 0)) * (PG a N l13 * (FLs b N l13 * own g))) elRun2 rfl rfl niRuns rfl (by omega) (asr (by ac_rfl) hh15) rfl rfl (by simp only [List.length_singleton]; omega) fun v106 h16 hh16 => ?_
          refine hJ v106 l13 (got ++ [(a4, kk)]) h16 w13 (fun r hr => ?_) (by simp; omega) (drp (P := pt r10 (.cells #[.int .i64 kd, .int .i64 fi, .int .i64 kk] 40 (0, 0))) (Q := PG a N l13 * (FLs b N l13 * (SG enc2 34 v106 (got ++ [(a4, kk)]) * own g))) (asr (by ac_rfl) hh16) |> asr (by ac_rfl))
          rw [List.mem_append, List.mem_singleton] at hr
          rcases hr with hr | rfl
          · exact hgb r hr
          · simp only; omega
        · repeat (with_reducible first | refine vP_so ?_ | refine vB_t ?_ | refine vB_f ?_ | refine vP_to (by simp (disch := omega) only [gdW_true, gdW_false, gB_true, gB_false, gB_undef, pickV_true, pickV_false, Bool.not_true, Bool.not_false, Option.map_some, bin_add, bin_sub, bin_mul, bin_quo, bin_rem, lss_t, lss_f, leq_t, leq_f, gtr_t, gtr_f, geq_t, geq_f, eqi_t, eqi_f, nei_t, nei_f, rem_uw, conv_ui, conv_iu, conv_ii, not_bool, nil_ptr, fa_mk, ptrV, len_mk, cap_mk, eq_ptr_nil, ne_ptr_nil, eq_nil_nil, ne_nil_nil, eq_slice_nil, eq_nil_slice, ia_1]; exact so_so) ?_ | refine vE_t (by simp only [gB_true, gB_false, gB_undef, Bool.not_true, Bool.not_false]) ?_ | refine vE_f (by simp only [gB_true, gB_false, gB_undef, Bool.not_true, Bool.not_false]) ?_)
          exact hJ v8 l13 got h14 w13 hgb (by omega) (drp (P := pt r10 (.cells #[.int .i64 kd, .int .i64 fi, .int .i64 kk] 40 (0, 0))) (Q := PG a N l13 * (FLs b N l13 * (SG enc2 34 v8 got * own g))) (asr (by ac_rfl) hh14a) |> asr (by ac_rfl))
      have hS6 : (SG enc2 34 v8 got * (pt r10 (.cells #[.int .i64 kd, .int .i64 fi, .int .i64 kk] 40 (0, 0)) * (PG a N l * (FLs b N l * (own g * tt))))) h6 := asr (by ac_rfl) hh6
      have hlen := SG_len enc2 hS6
      have hfree : ∀ (x y : Int) (G : Asrt) (h7 : Hp), y ≤ 9223372036854775807 → (PG a N l * (FLs b N l * (SG enc2 34 v8 got * (own g * (G * tt))))) h7 → ∀ Q : Prop → Prop, True → CallH Try.prog 11 #[pv a, .int .i64 x, .int .i64 y] (fun v120 h17 => ∃ l' e, v120 = .int .i64 e ∧ WF N l' ∧ FreeL N l x y v120 l' ∧ (PG a N l' * (FLs b N l * (SG enc2 34 v8 got * (own g * (G * tt))))) h17) h7 := by
        intro x y G h7 hy hq _ _
        refine use_free hwf (by omega) hy hq fun v l' h' hv w' hh' => ?_
        obtain ⟨e, he⟩ : ∃ e, v = .int .i64 e := by rcases hv with ⟨_, h, _⟩ | ⟨_, _, h, _⟩ | ⟨_, _, h, _⟩ <;> exact ⟨_, h⟩
        exact ⟨l', e, he, w', hv, hh'⟩
      by_cases hk4 : (t + 5) % 5 = 3 ∨ got.length = 0
      · have hc6 := hc hh6
        have fin : CallH Try.prog 11 #[pv a, .int .i64 fi, .int .i64 kk] (fun v120 h17 => ld1 (.pointer (some ⟨r10, 0 + 2, none⟩)) h17 = some (.int .i64 kk) ∧ ld1 (.pointer (some ⟨r10, 0 + 1, none⟩)) h17 = some (.int .i64 fi) ∧
            CallH Try.prog 17 #[rv b, .int .i64 fi, .int .i64 kk] (fun v126 h18 => vP (eqV 1 true v120 v126) fun v127 => vB v127 ((pr (Value.bool false = .bool true) * own g * tt) h18) (J3 [v8] h18)) h17) h6 := by
          refine (hfree fi kk (pt r10 (.cells #[.int .i64 kd, .int .i64 fi, .int .i64 kk] 40 (0, 0))) h6 (by omega) (asr (by ac_rfl) hh6) id trivial).mono ?_
          rintro v120 h17 ⟨l', e, rfl, w', hL, hh17⟩
          have hh17a : (pt r10 (.cells #[.int .i64 kd, .int .i64 fi, .int .i64 kk] 40 (0, 0)) * (PG a N l' * (FLs b N l * (SG enc2 34 v8 got * (own g * tt))))) h17 := asr (by ac_rfl) hh17
          refine ⟨(hc hh17a).2.2, (hc hh17a).2.1, ?_⟩
          refine use_rback (F := pt r10 (.cells #[.int .i64 kd, .int .i64 fi, .int .i64 kk] 40 (0, 0)) * (PG a N l' * (SG enc2 34 v8 got * (own g * tt)))) hwf (by omega) (asr (by ac_rfl) hh17a) fun v2 l2 h18 hL2 w2 hh18 => ?_
          obtain ⟨rfl, rfl⟩ := FreeL_fun hL hL2 w' w2
          repeat (with_reducible first | refine vP_so ?_ | refine vB_t ?_ | refine vB_f ?_ | refine vP_to (by simp (disch := omega) only [gdW_true, gdW_false, gB_true, gB_false, gB_undef, pickV_true, pickV_false, Bool.not_true, Bool.not_false, Option.map_some, bin_add, bin_sub, bin_mul, bin_quo, bin_rem, lss_t, lss_f, leq_t, leq_f, gtr_t, gtr_f, geq_t, geq_f, eqi_t, eqi_f, nei_t, nei_f, rem_uw, conv_ui, conv_iu, conv_ii, not_bool, nil_ptr, fa_mk, ptrV, len_mk, cap_mk, eq_ptr_nil, ne_ptr_nil, eq_nil_nil, ne_nil_nil, eq_slice_nil, eq_nil_slice, ia_1]; exact so_so) ?_ | refine vE_t (by simp only [gB_true, gB_false, gB_undef, Bool.not_true, Bool.not_false]) ?_ | refine vE_f (by simp only [gB_true, gB_false, gB_undef, Bool.not_true, Bool.not_false]) ?_)
          exact hJ v8 l' got h18 w' hgb (by omega) (drp (P := pt r10 (.cells #[.int .i64 kd, .int .i64 fi, .int .i64 kk] 40 (0, 0))) (Q := PG a N l' * (FLs b N l' * (SG enc2 34 v8 got * own g))) (asr (by ac_rfl) hh18) |> asr (by ac_rfl))
        by_cases hk5 : (t + 5) % 5 = 3
        · repeat (with_reducible first | refine vP_so ?_ | refine vB_t ?_ | refine vB_f ?_ | refine vP_to (by simp (disch := omega) only [gdW_true, gdW_false, gB_true, gB_false, gB_undef, pickV_true, pickV_false, Bool.not_true, Bool.not_false, Option.map_some, bin_add, bin_sub, bin_mul, bin_quo, bin_rem, lss_t, lss_f, leq_t, leq_f, gtr_t, gtr_f, geq_t, geq_f, eqi_t, eqi_f, nei_t, nei_f, rem_uw, conv_ui, conv_iu, conv_ii, not_bool, nil_ptr, fa_mk, ptrV, len_mk, cap_mk, eq_ptr_nil, ne_ptr_nil, eq_nil_nil, ne_nil_nil, eq_slice_nil, eq_nil_slice, ia_1, hc6.2.1, hc6.2.2]; exact so_so) ?_ | refine vE_t (by simp only [gB_true, gB_false, gB_undef, Bool.not_true, Bool.not_false]) ?_ | refine vE_f (by simp only [gB_true, gB_false, gB_undef, Bool.not_true, Bool.not_false]) ?_)
          exact fin
        · have hg0 : (got.length : Int) = 0 := by omega
          repeat (with_reducible first | refine vP_so ?_ | refine vB_t ?_ | refine vB_f ?_ | refine vP_to (by simp (disch := omega) only [gdW_true, gdW_false, gB_true, gB_false, gB_undef, pickV_true, pickV_false, Bool.not_true, Bool.not_false, Option.map_some, bin_add, bin_sub, bin_mul, bin_quo, bin_rem, lss_t, lss_f, leq_t, leq_f, gtr_t, gtr_f, geq_t, geq_f, eqi_t, eqi_f, nei_t, nei_f, rem_uw, conv_ui, conv_iu, conv_ii, not_bool, nil_ptr, fa_mk, ptrV, len_mk, cap_mk, eq_ptr_nil, ne_ptr_nil, eq_nil_nil, ne_nil_nil, eq_slice_nil, eq_nil_slice, ia_1, hlen, hc6.2.1, hc6.2.2]; exact so_so) ?_ | refine vE_t (by simp only [gB_true, gB_false, gB_undef, Bool.not_true, Bool.not_false]) ?_ | refine vE_f (by simp only [gB_true, gB_false, gB_undef, Bool.not_true, Bool.not_false]) ?_)
          exact fin
      · have hg0 : 0 < got.length := by omega
        have hs := urem_lt (x := fi) (b := got.length) (by omega)
        obtain ⟨q, hq⟩ : ∃ q : Nat, urem fi got.length = q := ⟨(urem fi got.length).toNat, by omega⟩
        rw [hq] at hs
        have hql : q < got.length := by omega
        obtain ⟨pb, po, g1, g2, g3, _, _⟩ := elG enc2 hS6 (i := q) (List.getElem?_eq_getElem hql) .i64
        have hrb := hgb got[q] (List.getElem_mem hql)
        generalize got[q] = r at *
        have g1 : iaS 2 v8 (.int .i64 q) = some (.pointer (some ⟨pb, po, none⟩)) := g1
        have g3 : ldN 2 (.pointer (some ⟨pb, po, none⟩)) h6 = some (run r) := g3
        repeat (with_reducible first | refine vP_so ?_ | refine vB_t ?_ | refine vB_f ?_ | refine vP_to (by simp (disch := omega) only [gdW_true, gdW_false, gB_true, gB_false, gB_undef, pickV_true, pickV_false, Bool.not_true, Bool.not_false, Option.map_some, bin_add, bin_sub, bin_mul, bin_quo, bin_rem, lss_t, lss_f, leq_t, leq_f, gtr_t, gtr_f, geq_t, geq_f, eqi_t, eqi_f, nei_t, nei_f, rem_uw, conv_ui, conv_iu, conv_ii, not_bool, nil_ptr, fa_mk, ptrV, len_mk, cap_mk, eq_ptr_nil, ne_ptr_nil, eq_nil_nil, ne_nil_nil, eq_slice_nil, eq_nil_slice, ia_1, hlen, (hc hh6).2.1, conv_u .i64 fi, hq, g1, g3]; exact so_so) ?_ | refine vE_t (by simp only [gB_true, gB_false, gB_undef, Bool.not_true, Bool.not_false]) ?_ | refine vE_f (by simp only [gB_true, gB_false, gB_undef, Bool.not_true, Bool.not_false]) ?_)
        refine vA_new hh6 fun r16 h19 hh19 => ?_
        refine stN_mk (cs := #[.int .i64 r.1, .int .i64 r.2]) hh19 rfl rfl (by simp) fun h20 hh20 => ?_
        have hd : ∀ {h : Hp} {F : Asrt}, (pt r16 (.cells #[.int .i64 r.1, .int .i64 r.2] 34 (0, 0)) * F) h → ld1 (.pointer (some ⟨r16, 0 + 0, none⟩)) h = some (.int .i64 r.1) ∧ ld1 (.pointer (some ⟨r16, 0 + 1, none⟩)) h = some (.int .i64 r.2) := fun q => ⟨ld1_mk (pt_get q) rfl, ld1_mk (pt_get q) rfl⟩
        have hh20 : (pt r16 (.cells #[.int .i64 r.1, .int .i64 r.2] 34 (0, 0)) * (pt r10 (.cells #[.int .i64 kd, .int .i64 fi, .int .i64 kk] 40 (0, 0)) * (PG a N l * (FLs b N l * (SG enc2 34 v8 got * (own g * tt)))))) h20 := hh20
        repeat (with_reducible first | refine vP_so ?_ | refine vB_t ?_ | refine vB_f ?_ | refine vP_to (by simp (disch := omega) only [gdW_true, gdW_false, gB_true, gB_false, gB_undef, pickV_true, pickV_false, Bool.not_true, Bool.not_false, Option.map_some, bin_add, bin_sub, bin_mul, bin_quo, bin_rem, lss_t, lss_f, leq_t, leq_f, gtr_t, gtr_f, geq_t, geq_f, eqi_t, eqi_f, nei_t, nei_f, rem_uw, conv_ui, conv_iu, conv_ii, not_bool, nil_ptr, fa_mk, ptrV, len_mk, cap_mk, eq_ptr_nil, ne_ptr_nil, eq_nil_nil, ne_nil_nil, eq_slice_nil, eq_nil_slice, ia_1, (hd hh20).1, (hd hh20).2]; exact so_so) ?_ | refine vE_t (by simp only [gB_true, gB_false, gB_undef, Bool.not_true, Bool.not_false]) ?_ | refine vE_f (by simp only [gB_true, gB_false, gB_undef, Bool.not_true, Bool.not_false]) ?_)
        refine (hfree r.1 r.2 (pt r16 (.cells #[.int .i64 r.1, .int .i64 r.2] 34 (0, 0)) * pt r10 (.cells #[.int .i64 kd, .int .i64 fi, .int .i64 kk] 40 (0, 0))) h20 hrb (asr (by ac_rfl) hh20) id trivial).mono ?_
        rintro v120 h21 ⟨l', e, rfl, w', hL, hh21⟩
        have hh21a : (pt r16 (.cells #[.int .i64 r.1, .int .i64 r.2] 34 (0, 0)) * (pt r10 (.cells #[.int .i64 kd, .int .i64 fi, .int .i64 kk] 40 (0, 0)) * (PG a N l' * (FLs b N l * (SG enc2 34 v8 got * (own g * tt)))))) h21 := asr (by ac_rfl) hh21
        refine ⟨(hd hh21a).2, (hd hh21a).1, ?_⟩
        refine use_rback (F := pt r16 (.cells #[.int .i64 r.1, .int .i64 r.2] 34 (0, 0)) * (pt r10 (.cells #[.int .i64 kd, .int .i64 fi, .int .i64 kk] 40 (0, 0)) * (PG a N l' * (SG enc2 34 v8 got * (own g * tt))))) hwf (by omega) (asr (by ac_rfl) hh21a) fun v2 l2 h18 hL2 w2 hh18 => ?_
        obtain ⟨rfl, rfl⟩ := FreeL_fun hL hL2 w' w2
        repeat (with_reducible first | refine vP_so ?_ | refine vB_t ?_ | refine vB_f ?_ | refine vP_to (by simp (disch := omega) only [gdW_true, gdW_false, gB_true, gB_false, gB_undef, pickV_true, pickV_false, Bool.not_true, Bool.not_false, Option.map_some, bin_add, bin_sub, bin_mul, bin_quo, bin_rem, lss_t, lss_f, leq_t, leq_f, gtr_t, gtr_f, geq_t, geq_f, eqi_t, eqi_f, nei_t, nei_f, rem_uw, conv_ui, conv_iu, conv_ii, not_bool, nil_ptr, fa_mk, ptrV, len_mk, cap_mk, eq_ptr_nil, ne_ptr_nil, eq_nil_nil, ne_nil_nil, eq_slice_nil, eq_nil_slice, ia_1]; exact so_so) ?_ | refine vE_t (by simp only [gB_true, gB_false, gB_undef, Bool.not_true, Bool.not_false]) ?_ | refine vE_f (by simp only [gB_true, gB_false, gB_undef, Bool.not_true, Bool.not_false]) ?_)
        exact hJ v8 l' got h18 w' hgb (by omega) (drp2 (P := pt r16 (.cells #[.int .i64 r.1, .int .i64 r.2] 34 (0, 0))) (Q := pt r10 (.cells #[.int .i64 kd, .int .i64 fi, .int .i64 kk] 40 (0, 0))) (R := PG a N l' * (FLs b N l' * (SG enc2 34 v8 got * own g))) (asr (by ac_rfl) hh18) |> asr (by ac_rfl))
    · have hfin : CallH Try.prog 14 #[] (fun v141 h23 => (pr (v141 = .bool true) * own g * tt) h23) h4 := told_use hh4 fun h' q => ret (p := Value.bool true = Value.bool true) rfl (drp (P := PG a N l * (FLs b N l * SG enc2 34 v8 got)) (asr (by ac_rfl) q))
      by_cases hio : i < os.length
      · repeat (with_reducible first | refine vP_so ?_ | refine vB_t ?_ | refine vB_f ?_ | refine vP_to (by simp (disch := omega) only [gdW_true, gdW_false, gB_true, gB_false, gB_undef, pickV_true, pickV_false, Bool.not_true, Bool.not_false, Option.map_some, bin_add, bin_sub, bin_mul, bin_quo, bin_rem, lss_t, lss_f, leq_t, leq_f, gtr_t, gtr_f, geq_t, geq_f, eqi_t, eqi_f, nei_t, nei_f, rem_uw, conv_ui, conv_iu, conv_ii, not_bool, nil_ptr, fa_mk, ptrV, len_mk, cap_mk, eq_ptr_nil, ne_ptr_nil, eq_nil_nil, ne_nil_nil, eq_slice_nil, eq_nil_slice, ia_1, hx.len]; exact so_so) ?_ | refine vE_t (by simp only [gB_true, gB_false, gB_undef, Bool.not_true, Bool.not_false]) ?_ | refine vE_f (by simp only [gB_true, gB_false, gB_undef, Bool.not_true, Bool.not_false]) ?_)
        exact hfin
      · repeat (with_reducible first | refine vP_so ?_ | refine vB_t ?_ | refine vB_f ?_ | refine vP_to (by simp (disch := omega) only [gdW_true, gdW_false, gB_true, gB_false, gB_undef, pickV_true, pickV_false, Bool.not_true, Bool.not_false, Option.map_some, bin_add, bin_sub, bin_mul, bin_quo, bin_rem, lss_t, lss_f, leq_t, leq_f, gtr_t, gtr_f, geq_t, geq_f, eqi_t, eqi_f, nei_t, nei_f, rem_uw, conv_ui, conv_iu, conv_ii, not_bool, nil_ptr, fa_mk, ptrV, len_mk, cap_mk, eq_ptr_nil, ne_ptr_nil, eq_nil_nil, ne_nil_nil, eq_slice_nil, eq_nil_slice, ia_1, hx.len]; exact so_so) ?_ | refine vE_t (by simp only [gB_true, gB_false, gB_undef, Bool.not_true, Bool.not_false]) ?_ | refine vE_f (by simp only [gB_true, gB_false, gB_undef, Bool.not_true, Bool.not_false]) ?_)
        exact hfin
  by_cases hn1 : 200 < n
  · repeat (with_reducible first | refine vP_so ?_ | refine vB_t ?_ | refine vB_f ?_ | refine vP_to (by simp (disch := omega) only [gdW_true, gdW_false, gB_true, gB_false, gB_undef, pickV_true, pickV_false, Bool.not_true, Bool.not_false, Option.map_some, bin_add, bin_sub, bin_mul, bin_quo, bin_rem, lss_t, lss_f, leq_t, leq_f, gtr_t, gtr_f, geq_t, geq_f, eqi_t, eqi_f, nei_t, nei_f, rem_uw, conv_ui, conv_iu, conv_ii, not_bool, nil_ptr, fa_mk, ptrV, len_mk, cap_mk, eq_ptr_nil, ne_ptr_nil, eq_nil_nil, ne_nil_nil, eq_slice_nil, eq_nil_slice, ia_1]; exact so_so) ?_ | refine vE_t (by simp only [gB_true, gB_false, gB_undef, Bool.not_true, Bool.not_false]) ?_ | refine vE_f (by simp only [gB_true, gB_false, gB_undef, Bool.not_true, Bool.not_false]) ?_)
    exact h1 200 (by omega)
  by_cases hn2 : n < -200
  · repeat (with_reducible first | refine vP_so ?_ | refine vB_t ?_ | refine vB_f ?_ | refine vP_to (by simp (disch := omega) only [gdW_true, gdW_false, gB_true, gB_false, gB_undef, pickV_true, pickV_false, Bool.not_true, Bool.not_false, Option.map_some, bin_add, bin_sub, bin_mul, bin_quo, bin_rem, lss_t, lss_f, leq_t, leq_f, gtr_t, gtr_f, geq_t, geq_f, eqi_t, eqi_f, nei_t, nei_f, rem_uw, conv_ui, conv_iu, conv_ii, not_bool, nil_ptr, fa_mk, ptrV, len_mk, cap_mk, eq_ptr_nil, ne_ptr_nil, eq_nil_nil, ne_nil_nil, eq_slice_nil, eq_nil_slice, ia_1]; exact so_so) ?_ | refine vE_t (by simp only [gB_true, gB_false, gB_undef, Bool.not_true, Bool.not_false]) ?_ | refine vE_f (by simp only [gB_true, gB_false, gB_undef, Bool.not_true, Bool.not_false]) ?_)
    exact h1 200 (by omega)
  · repeat (with_reducible first | refine vP_so ?_ | refine vB_t ?_ | refine vB_f ?_ | refine vP_to (by simp (disch := omega) only [gdW_true, gdW_false, gB_true, gB_false, gB_undef, pickV_true, pickV_false, Bool.not_true, Bool.not_false, Option.map_some, bin_add, bin_sub, bin_mul, bin_quo, bin_rem, lss_t, lss_f, leq_t, leq_f, gtr_t, gtr_f, geq_t, geq_f, eqi_t, eqi_f, nei_t, nei_f, rem_uw, conv_ui, conv_iu, conv_ii, not_bool, nil_ptr, fa_mk, ptrV, len_mk, cap_mk, eq_ptr_nil, ne_ptr_nil, eq_nil_nil, ne_nil_nil, eq_slice_nil, eq_nil_slice, ia_1]; exact so_so) ?_ | refine vE_t (by simp only [gB_true, gB_false, gB_undef, Bool.not_true, Bool.not_false]) ?_ | refine vE_f (by simp only [gB_true, gB_false, gB_undef, Bool.not_true, Bool.not_false]) ?_)
    exact h1 n (by omega)

end Go.Proofs
