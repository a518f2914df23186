/-
  The document's own pages: Alloc, Back; two lists of runs.
-/
import Derived.Test.YtfjgkljgfomobaaPgRef
set_option linter.unusedVariables false
set_option linter.unusedSimpArgs false
namespace Go.Proofs
open Go.Sl

/-- What is known of the best one up to a place. -/
def bestI (l : List Run) (k : Int) (i : Nat) (b : Int) : Prop :=
  (b = -1 ∧ ∀ (j : Nat) x, j < i → l[j]? = some x → x.2 < k) ∨
  ∃ (q : Nat) (r : Run), b = q ∧ q < i ∧ l[q]? = some r ∧ k ≤ r.2 ∧ ∀ (j : Nat) x, j < i → l[j]? = some x → k ≤ x.2 → lt x r = false

theorem use_ralloc {b n : Nat} {l : List Run} {k : Int} {F : Asrt} {K : Value → Hp → Prop} {h : Hp} (hw : WF n l) (hn : n ≤ 262144) (hh : (FLs b n l * (F * tt)) h)
    (hK : ∀ v l' h', AllocL n l k v l' → WF n l' → (FLs b n l' * (F * tt)) h' → K v h') : CallH Try.prog 16 #[rv b, .int .i64 k] K h := by
  refine C16 ?_
  unfold D16
  by_cases hk1 : k < 1
  · repeat (with_reducible first | refine vP_so ?_ | refine vB_t ?_ | refine vB_f ?_ | refine vP_to (by simp (disch := omega) only [gdW_true, gdW_false, gB_true, gB_false, gB_undef, pickV_true, pickV_false, Bool.not_true, Bool.not_false, Option.map_some, bin_add, bin_sub, bin_mul, bin_quo, bin_rem, lss_t, lss_f, leq_t, leq_f, gtr_t, gtr_f, geq_t, geq_f, eqi_t, eqi_f, nei_t, nei_f, rem_uw, conv_ui, conv_iu, conv_ii, not_bool, nil_ptr, fa_mk, ptrV, len_mk, cap_mk, eq_ptr_nil, ne_ptr_nil, eq_nil_nil, ne_nil_nil, eq_slice_nil, eq_nil_slice, ia_1]; exact so_so) ?_ | refine vE_t (by simp only [gB_true, gB_false, gB_undef, Bool.not_true, Bool.not_false]) ?_ | refine vE_f (by simp only [gB_true, gB_false, gB_undef, Bool.not_true, Bool.not_false]) ?_)
    exact hK _ l h (.inl ⟨hk1, rfl, rfl⟩) hw hh
  repeat (with_reducible first | refine vP_so ?_ | refine vB_t ?_ | refine vB_f ?_ | refine vP_to (by simp (disch := omega) only [gdW_true, gdW_false, gB_true, gB_false, gB_undef, pickV_true, pickV_false, Bool.not_true, Bool.not_false, Option.map_some, bin_add, bin_sub, bin_mul, bin_quo, bin_rem, lss_t, lss_f, leq_t, leq_f, gtr_t, gtr_f, geq_t, geq_f, eqi_t, eqi_f, nei_t, nei_f, rem_uw, conv_ui, conv_iu, conv_ii, not_bool, nil_ptr, fa_mk, ptrV, len_mk, cap_mk, eq_ptr_nil, ne_ptr_nil, eq_nil_nil, ne_nil_nil, eq_slice_nil, eq_nil_slice, ia_1]; exact so_so) ?_ | refine vE_t (by simp only [gB_true, gB_false, gB_undef, Bool.not_true, Bool.not_false]) ?_ | refine vE_f (by simp only [gB_true, gB_false, gB_undef, Bool.not_true, Bool.not_false]) ?_)
  refine use_rruns (F := F) hw hn hh fun v13 h1 hh1 => ?_
  have hlen := SG_len enc2 hh1
  have hwl := WF_len hw (by omega)
  refine ⟨fun q ys h' => ∃ (i : Nat) (bi : Int), ys = [.int .i64 i, .int .i64 bi] ∧ q = l.length - i ∧ i ≤ l.length ∧ bestI l k i bi ∧ h' = h1, ⟨_, 0, -1, rfl, rfl, by omega, .inl ⟨rfl, fun j x h => by omega⟩, rfl⟩, ?_⟩
  rintro q v8 v7 h2 ⟨i, bi, hys, rfl, hi, hb, rfl⟩ _
  obtain ⟨rfl, rfl⟩ : v8 = .int .i64 i ∧ v7 = .int .i64 bi := by simpa using hys
  by_cases hil : i < l.length
  · obtain ⟨pb, po, e1, e2, _⟩ := elG enc2 hh1 (List.getElem?_eq_getElem hil) .i64
    have e1 : iaS 2 v13 (.int .i64 i) = some (.pointer (some ⟨pb, po, none⟩)) := e1
    have e2 := e2 1 _ rfl
    have hli : l[i]? = some l[i] := List.getElem?_eq_getElem hil
    generalize l[i] = x at *
    repeat (with_reducible first | refine vP_so ?_ | refine vB_t ?_ | refine vB_f ?_ | refine vP_to (by simp (disch := omega) only [gdW_true, gdW_false, gB_true, gB_false, gB_undef, pickV_true, pickV_false, Bool.not_true, Bool.not_false, Option.map_some, bin_add, bin_sub, bin_mul, bin_quo, bin_rem, lss_t, lss_f, leq_t, leq_f, gtr_t, gtr_f, geq_t, geq_f, eqi_t, eqi_f, nei_t, nei_f, rem_uw, conv_ui, conv_iu, conv_ii, not_bool, nil_ptr, fa_mk, ptrV, len_mk, cap_mk, eq_ptr_nil, ne_ptr_nil, eq_nil_nil, ne_nil_nil, eq_slice_nil, eq_nil_slice, ia_1, hlen]; exact so_so) ?_ | refine vE_t (by simp only [gB_true, gB_false, gB_undef, Bool.not_true, Bool.not_false]) ?_ | refine vE_f (by simp only [gB_true, gB_false, gB_undef, Bool.not_true, Bool.not_false]) ?_)
    intro J2 hJ2
    have hJ : ∀ b', bestI l k (i + 1) b' → J2 [.int .i64 b'] h2 := fun b' hb' => by
      refine hJ2 _ _ fun _ => ?_
      repeat (with_reducible first | refine vP_so ?_ | refine vB_t ?_ | refine vB_f ?_ | refine vP_to (by simp (disch := omega) only [gdW_true, gdW_false, gB_true, gB_false, gB_undef, pickV_true, pickV_false, Bool.not_true, Bool.not_false, Option.map_some, bin_add, bin_sub, bin_mul, bin_quo, bin_rem, lss_t, lss_f, leq_t, leq_f, gtr_t, gtr_f, geq_t, geq_f, eqi_t, eqi_f, nei_t, nei_f, rem_uw, conv_ui, conv_iu, conv_ii, not_bool, nil_ptr, fa_mk, ptrV, len_mk, cap_mk, eq_ptr_nil, ne_ptr_nil, eq_nil_nil, ne_nil_nil, eq_slice_nil, eq_nil_slice, ia_1]; exact so_so) ?_ | refine vE_t (by simp only [gB_true, gB_false, gB_undef, Bool.not_true, Bool.not_false]) ?_ | refine vE_f (by simp only [gB_true, gB_false, gB_undef, Bool.not_true, Bool.not_false]) ?_)
      exact ⟨l.length - (i + 1), by omega, i + 1, b', rfl, rfl, by omega, hb', rfl⟩
    rcases hb with ⟨rfl, hnone⟩ | ⟨q, r, rfl, hqi, hq, hkr, hmin⟩
    · by_cases hx : k ≤ x.2
      · repeat (with_reducible first | refine vP_so ?_ | refine vB_t ?_ | refine vB_f ?_ | refine vP_to (by simp (disch := omega) only [gdW_true, gdW_false, gB_true, gB_false, gB_undef, pickV_true, pickV_false, Bool.not_true, Bool.not_false, Option.map_some, bin_add, bin_sub, bin_mul, bin_quo, bin_rem, lss_t, lss_f, leq_t, leq_f, gtr_t, gtr_f, geq_t, geq_f, eqi_t, eqi_f, nei_t, nei_f, rem_uw, conv_ui, conv_iu, conv_ii, not_bool, nil_ptr, fa_mk, ptrV, len_mk, cap_mk, eq_ptr_nil, ne_ptr_nil, eq_nil_nil, ne_nil_nil, eq_slice_nil, eq_nil_slice, ia_1, e1, e2]; exact so_so) ?_ | refine vE_t (by simp only [gB_true, gB_false, gB_undef, Bool.not_true, Bool.not_false]) ?_ | refine vE_f (by simp only [gB_true, gB_false, gB_undef, Bool.not_true, Bool.not_false]) ?_)
        refine hJ i (.inr ⟨i, x, rfl, by omega, hli, hx, fun j y hj hy hky => ?_⟩)
        by_cases hji : j = i
        · subst hji
          obtain rfl : x = y := Option.some.inj (hli.symm.trans hy)
          exact nlt_self x
        · have := hnone j y (by omega) hy; omega
      · repeat (with_reducible first | refine vP_so ?_ | refine vB_t ?_ | refine vB_f ?_ | refine vP_to (by simp (disch := omega) only [gdW_true, gdW_false, gB_true, gB_false, gB_undef, pickV_true, pickV_false, Bool.not_true, Bool.not_false, Option.map_some, bin_add, bin_sub, bin_mul, bin_quo, bin_rem, lss_t, lss_f, leq_t, leq_f, gtr_t, gtr_f, geq_t, geq_f, eqi_t, eqi_f, nei_t, nei_f, rem_uw, conv_ui, conv_iu, conv_ii, not_bool, nil_ptr, fa_mk, ptrV, len_mk, cap_mk, eq_ptr_nil, ne_ptr_nil, eq_nil_nil, ne_nil_nil, eq_slice_nil, eq_nil_slice, ia_1, e1, e2]; exact so_so) ?_ | refine vE_t (by simp only [gB_true, gB_false, gB_undef, Bool.not_true, Bool.not_false]) ?_ | refine vE_f (by simp only [gB_true, gB_false, gB_undef, Bool.not_true, Bool.not_false]) ?_)
        refine hJ (-1) (.inl ⟨rfl, fun j y hj hy => ?_⟩)
        by_cases hji : j = i
        · subst hji
          obtain rfl : x = y := Option.some.inj (hli.symm.trans hy)
          omega
        · exact hnone j y (by omega) hy
    · obtain ⟨qb, qo, f1, f2, _⟩ := elG enc2 hh1 hq .i64
      have f1 : iaS 2 v13 (.int .i64 q) = some (.pointer (some ⟨qb, qo, none⟩)) := f1
      have f2 := f2 1 _ rfl
      have hrise := WFf_rise hw hqi hq hli
      by_cases hx : k ≤ x.2
      · by_cases hxr : x.2 < r.2
        · repeat (with_reducible first | refine vP_so ?_ | refine vB_t ?_ | refine vB_f ?_ | refine vP_to (by simp (disch := omega) only [gdW_true, gdW_false, gB_true, gB_false, gB_undef, pickV_true, pickV_false, Bool.not_true, Bool.not_false, Option.map_some, bin_add, bin_sub, bin_mul, bin_quo, bin_rem, lss_t, lss_f, leq_t, leq_f, gtr_t, gtr_f, geq_t, geq_f, eqi_t, eqi_f, nei_t, nei_f, rem_uw, conv_ui, conv_iu, conv_ii, not_bool, nil_ptr, fa_mk, ptrV, len_mk, cap_mk, eq_ptr_nil, ne_ptr_nil, eq_nil_nil, ne_nil_nil, eq_slice_nil, eq_nil_slice, ia_1, e1, e2, f1, f2]; exact so_so) ?_ | refine vE_t (by simp only [gB_true, gB_false, gB_undef, Bool.not_true, Bool.not_false]) ?_ | refine vE_f (by simp only [gB_true, gB_false, gB_undef, Bool.not_true, Bool.not_false]) ?_)
          refine hJ i (.inr ⟨i, x, rfl, by omega, hli, hx, fun j y hj hy hky => ?_⟩)
          by_cases hji : j = i
          · subst hji
            obtain rfl : x = y := Option.some.inj (hli.symm.trans hy)
            exact nlt_self x
          · have := hmin j y (by omega) hy hky
            rw [nlt_iff] at *
            omega
        · repeat (with_reducible first | refine vP_so ?_ | refine vB_t ?_ | refine vB_f ?_ | refine vP_to (by simp (disch := omega) only [gdW_true, gdW_false, gB_true, gB_false, gB_undef, pickV_true, pickV_false, Bool.not_true, Bool.not_false, Option.map_some, bin_add, bin_sub, bin_mul, bin_quo, bin_rem, lss_t, lss_f, leq_t, leq_f, gtr_t, gtr_f, geq_t, geq_f, eqi_t, eqi_f, nei_t, nei_f, rem_uw, conv_ui, conv_iu, conv_ii, not_bool, nil_ptr, fa_mk, ptrV, len_mk, cap_mk, eq_ptr_nil, ne_ptr_nil, eq_nil_nil, ne_nil_nil, eq_slice_nil, eq_nil_slice, ia_1, e1, e2, f1, f2]; exact so_so) ?_ | refine vE_t (by simp only [gB_true, gB_false, gB_undef, Bool.not_true, Bool.not_false]) ?_ | refine vE_f (by simp only [gB_true, gB_false, gB_undef, Bool.not_true, Bool.not_false]) ?_)
          refine hJ q (.inr ⟨q, r, rfl, by omega, hq, hkr, fun j y hj hy hky => ?_⟩)
          by_cases hji : j = i
          · subst hji
            obtain rfl : x = y := Option.some.inj (hli.symm.trans hy)
            rw [nlt_iff]
            omega
          · exact hmin j y (by omega) hy hky
      · repeat (with_reducible first | refine vP_so ?_ | refine vB_t ?_ | refine vB_f ?_ | refine vP_to (by simp (disch := omega) only [gdW_true, gdW_false, gB_true, gB_false, gB_undef, pickV_true, pickV_false, Bool.not_true, Bool.not_false, Option.map_some, bin_add, bin_sub, bin_mul, bin_quo, bin_rem, lss_t, lss_f, leq_t, leq_f, gtr_t, gtr_f, geq_t, geq_f, eqi_t, eqi_f, nei_t, nei_f, rem_uw, conv_ui, conv_iu, conv_ii, not_bool, nil_ptr, fa_mk, ptrV, len_mk, cap_mk, eq_ptr_nil, ne_ptr_nil, eq_nil_nil, ne_nil_nil, eq_slice_nil, eq_nil_slice, ia_1, e1, e2, f1, f2]; exact so_so) ?_ | refine vE_t (by simp only [gB_true, gB_false, gB_undef, Bool.not_true, Bool.not_false]) ?_ | refine vE_f (by simp only [gB_true, gB_false, gB_undef, Bool.not_true, Bool.not_false]) ?_)
        refine hJ q (.inr ⟨q, r, rfl, by omega, hq, hkr, fun j y hj hy hky => ?_⟩)
        by_cases hji : j = i
        · subst hji
          obtain rfl : x = y := Option.some.inj (hli.symm.trans hy)
          omega
        · exact hmin j y (by omega) hy hky
  obtain rfl : i = l.length := by omega
  have hget : ∀ y ∈ l, ∃ j, j < l.length ∧ l[j]? = some y := fun y hy => by
    obtain ⟨j, hj, e⟩ := List.getElem_of_mem hy
    exact ⟨j, hj, by rw [List.getElem?_eq_getElem hj, e]⟩
  rcases hb with ⟨rfl, hnone⟩ | ⟨q, r, rfl, hqi, hq, hkr, hmin⟩
  · repeat (with_reducible first | refine vP_so ?_ | refine vB_t ?_ | refine vB_f ?_ | refine vP_to (by simp (disch := omega) only [gdW_true, gdW_false, gB_true, gB_false, gB_undef, pickV_true, pickV_false, Bool.not_true, Bool.not_false, Option.map_some, bin_add, bin_sub, bin_mul, bin_quo, bin_rem, lss_t, lss_f, leq_t, leq_f, gtr_t, gtr_f, geq_t, geq_f, eqi_t, eqi_f, nei_t, nei_f, rem_uw, conv_ui, conv_iu, conv_ii, not_bool, nil_ptr, fa_mk, ptrV, len_mk, cap_mk, eq_ptr_nil, ne_ptr_nil, eq_nil_nil, ne_nil_nil, eq_slice_nil, eq_nil_slice, ia_1, hlen]; exact so_so) ?_ | refine vE_t (by simp only [gB_true, gB_false, gB_undef, Bool.not_true, Bool.not_false]) ?_ | refine vE_f (by simp only [gB_true, gB_false, gB_undef, Bool.not_true, Bool.not_false]) ?_)
    refine hK _ l h2 (.inr (.inl ⟨by omega, fun y hy => ?_, rfl, rfl⟩)) hw (drp (P := SG enc2 34 v13 l) (Q := FLs b n l * F) (asr (by ac_rfl) hh1) |> asr (by ac_rfl))
    obtain ⟨j, hj, e⟩ := hget y hy
    exact hnone j y hj e
  · have hR : AllocR l k (tup r.1 0) (if r.2 = k then l.take q ++ l.drop (q + 1) else l.set q (r.1 + k, r.2 - k)) := .inr (.inr ⟨by omega, r, q, hq, hkr, fun y hy hky => by
      obtain ⟨j, hj, e⟩ := hget y hy
      exact hmin j y hj e hky, rfl, rfl⟩)
    generalize (if r.2 = k then l.take q ++ l.drop (q + 1) else l.set q (r.1 + k, r.2 - k)) = l' at *
    have hA : AllocL n l k (tup r.1 0) l' ∧ WF n l' := by
      rcases alloc_law hw hR with ⟨h1, _⟩ | ⟨_, h1, _⟩ | ⟨h1, b, h2, h3, h4, h5, h6, h7, h8⟩
      · omega
      · have := h1 r (List.mem_of_getElem? hq); omega
      · exact ⟨.inr (.inr ⟨h1, b, h2, h3, h4, h5, h7, h8⟩), h6⟩
    have hrm := WFf_mem hw (by omega) r (List.mem_of_getElem? hq)
    have hf : ∀ x, fr l' x ↔ fr l x ∧ ¬ (r.1 ≤ x ∧ x < r.1 + k) := by
      rcases hA.1 with ⟨h1, _⟩ | ⟨_, _, h1, _⟩ | ⟨_, b, _, _, _, h5, h7, _⟩
      · omega
      · simp at h1
      · have : r.1 = b.1 := by simpa using h5
        rw [this]; exact h7
    obtain ⟨qb, qo, f1, f2, _⟩ := elG enc2 hh1 hq .i64
    have f1 : iaS 2 v13 (.int .i64 q) = some (.pointer (some ⟨qb, qo, none⟩)) := f1
    repeat (with_reducible first | refine vP_so ?_ | refine vB_t ?_ | refine vB_f ?_ | refine vP_to (by simp (disch := omega) only [gdW_true, gdW_false, gB_true, gB_false, gB_undef, pickV_true, pickV_false, Bool.not_true, Bool.not_false, Option.map_some, bin_add, bin_sub, bin_mul, bin_quo, bin_rem, lss_t, lss_f, leq_t, leq_f, gtr_t, gtr_f, geq_t, geq_f, eqi_t, eqi_f, nei_t, nei_f, rem_uw, conv_ui, conv_iu, conv_ii, not_bool, nil_ptr, fa_mk, ptrV, len_mk, cap_mk, eq_ptr_nil, ne_ptr_nil, eq_nil_nil, ne_nil_nil, eq_slice_nil, eq_nil_slice, ia_1, hlen]; exact so_so) ?_ | refine vE_t (by simp only [gB_true, gB_false, gB_undef, Bool.not_true, Bool.not_false]) ?_ | refine vE_f (by simp only [gB_true, gB_false, gB_undef, Bool.not_true, Bool.not_false]) ?_)
    have hh2 : (FLs b n l * (SG enc2 34 v13 l * (F * tt))) h2 := asr (by ac_rfl) hh1
    obtain ⟨sv, fl, hfl, hff, hp⟩ := FLs_elim hh2
    refine ⟨fun m ys h' => ∃ (j : Nat) (fl' : List Bool), ys = [.int .i64 j] ∧ m = k.toNat - j ∧ (j : Int) ≤ k ∧ fl'.length = n ∧ (∀ x : Nat, x < n → (fl'[x]? = some true ↔ fr l x ∧ ¬ (r.1 ≤ x ∧ (x : Int) < r.1 + j))) ∧ (pt b (.cells #[sv] 58 (0, 0)) * (SG bE 4 sv fl' * (SG enc2 34 v13 l * (F * tt)))) h',
      ⟨_, 0, fl, rfl, rfl, by omega, hfl, fun x hx => by rw [hff x hx]; exact ⟨fun h => ⟨h, by omega⟩, fun h => h.1⟩, hp⟩, ?_⟩
    rintro m v9 h4 ⟨j, fl', hys, rfl, hj, hfl', hff', hh4⟩ _
    obtain rfl : v9 = .int .i64 j := by simpa using hys
    have hR4 : (SG enc2 34 v13 l * (pt b (.cells #[sv] 58 (0, 0)) * (SG bE 4 sv fl' * (F * tt)))) h4 := asr (by ac_rfl) hh4
    obtain ⟨qb', qo', f1', f2', _⟩ := elG enc2 hR4 hq .i64
    have f1' : iaS 2 v13 (.int .i64 q) = some (.pointer (some ⟨qb', qo', none⟩)) := f1'
    have f2' := f2' 0 _ rfl
    by_cases hjk : (j : Int) < k
    · have hS4 : (SG bE 4 sv fl' * (pt b (.cells #[sv] 58 (0, 0)) * (SG enc2 34 v13 l * (F * tt)))) h4 := asr (by ac_rfl) hh4
      obtain ⟨y, hy⟩ : ∃ y : Nat, r.1 + j = y := ⟨(r.1 + j).toNat, by omega⟩
      obtain ⟨p, g1, _, g3⟩ := el1 hS4 (List.getElem?_eq_getElem (show y < fl'.length by omega)) .i64
      repeat (with_reducible first | refine vP_so ?_ | refine vB_t ?_ | refine vB_f ?_ | refine vP_to (by simp (disch := omega) only [gdW_true, gdW_false, gB_true, gB_false, gB_undef, pickV_true, pickV_false, Bool.not_true, Bool.not_false, Option.map_some, bin_add, bin_sub, bin_mul, bin_quo, bin_rem, lss_t, lss_f, leq_t, leq_f, gtr_t, gtr_f, geq_t, geq_f, eqi_t, eqi_f, nei_t, nei_f, rem_uw, conv_ui, conv_iu, conv_ii, not_bool, nil_ptr, fa_mk, ptrV, len_mk, cap_mk, eq_ptr_nil, ne_ptr_nil, eq_nil_nil, ne_nil_nil, eq_slice_nil, eq_nil_slice, ia_1, fl_ld hh4, f1', f2', hy, g1]; exact so_so) ?_ | refine vE_t (by simp only [gB_true, gB_false, gB_undef, Bool.not_true, Bool.not_false]) ?_ | refine vE_f (by simp only [gB_true, gB_false, gB_undef, Bool.not_true, Bool.not_false]) ?_)
      refine g3 false _ fun h5 hh5 => ?_
      repeat (with_reducible first | refine vP_so ?_ | refine vB_t ?_ | refine vB_f ?_ | refine vP_to (by simp (disch := omega) only [gdW_true, gdW_false, gB_true, gB_false, gB_undef, pickV_true, pickV_false, Bool.not_true, Bool.not_false, Option.map_some, bin_add, bin_sub, bin_mul, bin_quo, bin_rem, lss_t, lss_f, leq_t, leq_f, gtr_t, gtr_f, geq_t, geq_f, eqi_t, eqi_f, nei_t, nei_f, rem_uw, conv_ui, conv_iu, conv_ii, not_bool, nil_ptr, fa_mk, ptrV, len_mk, cap_mk, eq_ptr_nil, ne_ptr_nil, eq_nil_nil, ne_nil_nil, eq_slice_nil, eq_nil_slice, ia_1]; exact so_so) ?_ | refine vE_t (by simp only [gB_true, gB_false, gB_undef, Bool.not_true, Bool.not_false]) ?_ | refine vE_f (by simp only [gB_true, gB_false, gB_undef, Bool.not_true, Bool.not_false]) ?_)
      refine ⟨k.toNat - (j + 1), by omega, j + 1, fl'.set y false, by simp, rfl, by omega, by simpa using hfl', fun x hx => ?_, asr (by ac_rfl) hh5⟩
      rw [List.getElem?_set]
      by_cases hxy : y = x
      · rw [if_pos hxy, if_pos (by omega)]
        constructor
        · intro h; simp at h
        · rintro ⟨_, h⟩; exact (h (by omega)).elim
      · rw [if_neg hxy, hff' x hx]
        constructor
        · exact fun h => ⟨h.1, by omega⟩
        · exact fun h => ⟨h.1, by omega⟩
    · repeat (with_reducible first | refine vP_so ?_ | refine vB_t ?_ | refine vB_f ?_ | refine vP_to (by simp (disch := omega) only [gdW_true, gdW_false, gB_true, gB_false, gB_undef, pickV_true, pickV_false, Bool.not_true, Bool.not_false, Option.map_some, bin_add, bin_sub, bin_mul, bin_quo, bin_rem, lss_t, lss_f, leq_t, leq_f, gtr_t, gtr_f, geq_t, geq_f, eqi_t, eqi_f, nei_t, nei_f, rem_uw, conv_ui, conv_iu, conv_ii, not_bool, nil_ptr, fa_mk, ptrV, len_mk, cap_mk, eq_ptr_nil, ne_ptr_nil, eq_nil_nil, ne_nil_nil, eq_slice_nil, eq_nil_slice, ia_1, f1', f2']; exact so_so) ?_ | refine vE_t (by simp only [gB_true, gB_false, gB_undef, Bool.not_true, Bool.not_false]) ?_ | refine vE_f (by simp only [gB_true, gB_false, gB_undef, Bool.not_true, Bool.not_false]) ?_)
      refine hK _ l' h4 hA.1 hA.2 (FLs_intro hfl' (fun x hx => ?_) (drp (P := SG enc2 34 v13 l) (Q := pt b (.cells #[sv] 58 (0, 0)) * (SG bE 4 sv fl' * F)) (asr (by ac_rfl) hh4) |> asr (by ac_rfl)))
      rw [hff' x hx, hf, show (j : Int) = k by omega]

theorem use_rback {b n : Nat} {l : List Run} {first k : Int} {F : Asrt} {K : Value → Hp → Prop} {h : Hp} (hw : WF n l) (hn : n ≤ 262144) (hh : (FLs b n l * F) h)
    (hK : ∀ v l' h', FreeL n l first k v l' → WF n l' → (FLs b n l' * F) h' → K v h') : CallH Try.prog 17 #[rv b, .int .i64 first, .int .i64 k] K h := by
  refine C17 ?_
  unfold D17
  obtain ⟨sv, fl, hfl, hff, hp⟩ := FLs_elim hh
  have hS : (SG bE 4 sv fl * (pt b (.cells #[sv] 58 (0, 0)) * F)) h := asr (by ac_rfl) hp
  have hlen := SG_len bE hS
  by_cases hbad : badF n first k
  · have key : K (.int .i64 1) h := hK _ l h (.inl ⟨hbad, rfl, rfl⟩) hw hh
    by_cases h1 : k < 1
    · repeat (with_reducible first | refine vP_so ?_ | refine vB_t ?_ | refine vB_f ?_ | refine vP_to (by simp (disch := omega) only [gdW_true, gdW_false, gB_true, gB_false, gB_undef, pickV_true, pickV_false, Bool.not_true, Bool.not_false, Option.map_some, bin_add, bin_sub, bin_mul, bin_quo, bin_rem, lss_t, lss_f, leq_t, leq_f, gtr_t, gtr_f, geq_t, geq_f, eqi_t, eqi_f, nei_t, nei_f, rem_uw, conv_ui, conv_iu, conv_ii, not_bool, nil_ptr, fa_mk, ptrV, len_mk, cap_mk, eq_ptr_nil, ne_ptr_nil, eq_nil_nil, ne_nil_nil, eq_slice_nil, eq_nil_slice, ia_1]; exact so_so) ?_ | refine vE_t (by simp only [gB_true, gB_false, gB_undef, Bool.not_true, Bool.not_false]) ?_ | refine vE_f (by simp only [gB_true, gB_false, gB_undef, Bool.not_true, Bool.not_false]) ?_)
      exact key
    by_cases h2 : first < 1
    · repeat (with_reducible first | refine vP_so ?_ | refine vB_t ?_ | refine vB_f ?_ | refine vP_to (by simp (disch := omega) only [gdW_true, gdW_false, gB_true, gB_false, gB_undef, pickV_true, pickV_false, Bool.not_true, Bool.not_false, Option.map_some, bin_add, bin_sub, bin_mul, bin_quo, bin_rem, lss_t, lss_f, leq_t, leq_f, gtr_t, gtr_f, geq_t, geq_f, eqi_t, eqi_f, nei_t, nei_f, rem_uw, conv_ui, conv_iu, conv_ii, not_bool, nil_ptr, fa_mk, ptrV, len_mk, cap_mk, eq_ptr_nil, ne_ptr_nil, eq_nil_nil, ne_nil_nil, eq_slice_nil, eq_nil_slice, ia_1]; exact so_so) ?_ | refine vE_t (by simp only [gB_true, gB_false, gB_undef, Bool.not_true, Bool.not_false]) ?_ | refine vE_f (by simp only [gB_true, gB_false, gB_undef, Bool.not_true, Bool.not_false]) ?_)
      exact key
    by_cases h3 : (n : Int) ≤ first
    · repeat (with_reducible first | refine vP_so ?_ | refine vB_t ?_ | refine vB_f ?_ | refine vP_to (by simp (disch := omega) only [gdW_true, gdW_false, gB_true, gB_false, gB_undef, pickV_true, pickV_false, Bool.not_true, Bool.not_false, Option.map_some, bin_add, bin_sub, bin_mul, bin_quo, bin_rem, lss_t, lss_f, leq_t, leq_f, gtr_t, gtr_f, geq_t, geq_f, eqi_t, eqi_f, nei_t, nei_f, rem_uw, conv_ui, conv_iu, conv_ii, not_bool, nil_ptr, fa_mk, ptrV, len_mk, cap_mk, eq_ptr_nil, ne_ptr_nil, eq_nil_nil, ne_nil_nil, eq_slice_nil, eq_nil_slice, ia_1, fl_ld hp, hlen, hfl]; exact so_so) ?_ | refine vE_t (by simp only [gB_true, gB_false, gB_undef, Bool.not_true, Bool.not_false]) ?_ | refine vE_f (by simp only [gB_true, gB_false, gB_undef, Bool.not_true, Bool.not_false]) ?_)
      exact key
    · have h4 : (n : Int) - first < k := by unfold badF at hbad; omega
      repeat (with_reducible first | refine vP_so ?_ | refine vB_t ?_ | refine vB_f ?_ | refine vP_to (by simp (disch := omega) only [gdW_true, gdW_false, gB_true, gB_false, gB_undef, pickV_true, pickV_false, Bool.not_true, Bool.not_false, Option.map_some, bin_add, bin_sub, bin_mul, bin_quo, bin_rem, lss_t, lss_f, leq_t, leq_f, gtr_t, gtr_f, geq_t, geq_f, eqi_t, eqi_f, nei_t, nei_f, rem_uw, conv_ui, conv_iu, conv_ii, not_bool, nil_ptr, fa_mk, ptrV, len_mk, cap_mk, eq_ptr_nil, ne_ptr_nil, eq_nil_nil, ne_nil_nil, eq_slice_nil, eq_nil_slice, ia_1, fl_ld hp, hlen, hfl]; exact so_so) ?_ | refine vE_t (by simp only [gB_true, gB_false, gB_undef, Bool.not_true, Bool.not_false]) ?_ | refine vE_f (by simp only [gB_true, gB_false, gB_undef, Bool.not_true, Bool.not_false]) ?_)
      exact key
  have hg : 1 ≤ k ∧ 1 ≤ first ∧ first < n ∧ k ≤ n - first := by unfold badF at hbad; omega
  repeat (with_reducible first | refine vP_so ?_ | refine vB_t ?_ | refine vB_f ?_ | refine vP_to (by simp (disch := omega) only [gdW_true, gdW_false, gB_true, gB_false, gB_undef, pickV_true, pickV_false, Bool.not_true, Bool.not_false, Option.map_some, bin_add, bin_sub, bin_mul, bin_quo, bin_rem, lss_t, lss_f, leq_t, leq_f, gtr_t, gtr_f, geq_t, geq_f, eqi_t, eqi_f, nei_t, nei_f, rem_uw, conv_ui, conv_iu, conv_ii, not_bool, nil_ptr, fa_mk, ptrV, len_mk, cap_mk, eq_ptr_nil, ne_ptr_nil, eq_nil_nil, ne_nil_nil, eq_slice_nil, eq_nil_slice, ia_1, fl_ld hp, hlen, hfl]; exact so_so) ?_ | refine vE_t (by simp only [gB_true, gB_false, gB_undef, Bool.not_true, Bool.not_false]) ?_ | refine vE_f (by simp only [gB_true, gB_false, gB_undef, Bool.not_true, Bool.not_false]) ?_)
  refine ⟨fun m ys h' => ∃ (j : Nat), ys = [.int .i64 j] ∧ m = k.toNat - j ∧ (j : Int) ≤ k ∧ (∀ x, first ≤ x → x < first + j → ¬ fr l x) ∧ h' = h, ⟨_, 0, rfl, rfl, by omega, fun x h1 h2 => by omega, rfl⟩, ?_⟩
  rintro m v7 h1 ⟨j, hys, rfl, hj, hno, rfl⟩ _
  obtain rfl : v7 = .int .i64 j := by simpa using hys
  by_cases hjk : (j : Int) < k
  · obtain ⟨y, hy⟩ : ∃ y : Nat, first + j = y := ⟨(first + j).toNat, by omega⟩
    obtain ⟨p, g1, g2, _⟩ := el1 hS (List.getElem?_eq_getElem (show y < fl.length by omega)) .i64
    have hfy := hff y (by omega)
    rw [List.getElem?_eq_getElem (show y < fl.length by omega)] at hfy
    generalize fl[y] = bi at *
    cases bi with
    | true =>
      repeat (with_reducible first | refine vP_so ?_ | refine vB_t ?_ | refine vB_f ?_ | refine vP_to (by simp (disch := omega) only [gdW_true, gdW_false, gB_true, gB_false, gB_undef, pickV_true, pickV_false, Bool.not_true, Bool.not_false, Option.map_some, bin_add, bin_sub, bin_mul, bin_quo, bin_rem, lss_t, lss_f, leq_t, leq_f, gtr_t, gtr_f, geq_t, geq_f, eqi_t, eqi_f, nei_t, nei_f, rem_uw, conv_ui, conv_iu, conv_ii, not_bool, nil_ptr, fa_mk, ptrV, len_mk, cap_mk, eq_ptr_nil, ne_ptr_nil, eq_nil_nil, ne_nil_nil, eq_slice_nil, eq_nil_slice, ia_1, fl_ld hp, hy, g1, g2]; exact so_so) ?_ | refine vE_t (by simp only [gB_true, gB_false, gB_undef, Bool.not_true, Bool.not_false]) ?_ | refine vE_f (by simp only [gB_true, gB_false, gB_undef, Bool.not_true, Bool.not_false]) ?_)
      exact hK _ l h1 (.inr (.inl ⟨hbad, ⟨y, by omega, by omega, hfy.1 rfl⟩, rfl, rfl⟩)) hw hh
    | false =>
      repeat (with_reducible first | refine vP_so ?_ | refine vB_t ?_ | refine vB_f ?_ | refine vP_to (by simp (disch := omega) only [gdW_true, gdW_false, gB_true, gB_false, gB_undef, pickV_true, pickV_false, Bool.not_true, Bool.not_false, Option.map_some, bin_add, bin_sub, bin_mul, bin_quo, bin_rem, lss_t, lss_f, leq_t, leq_f, gtr_t, gtr_f, geq_t, geq_f, eqi_t, eqi_f, nei_t, nei_f, rem_uw, conv_ui, conv_iu, conv_ii, not_bool, nil_ptr, fa_mk, ptrV, len_mk, cap_mk, eq_ptr_nil, ne_ptr_nil, eq_nil_nil, ne_nil_nil, eq_slice_nil, eq_nil_slice, ia_1, fl_ld hp, hy, g1, g2]; exact so_so) ?_ | refine vE_t (by simp only [gB_true, gB_false, gB_undef, Bool.not_true, Bool.not_false]) ?_ | refine vE_f (by simp only [gB_true, gB_false, gB_undef, Bool.not_true, Bool.not_false]) ?_)
      refine ⟨k.toNat - (j + 1), by omega, j + 1, by simp, rfl, by omega, fun x h1 h2 hx => ?_, rfl⟩
      by_cases hxy : x = y
      · subst hxy
        have := hfy.2 hx; simp at this
      · exact hno x h1 (by omega) hx
  · repeat (with_reducible first | refine vP_so ?_ | refine vB_t ?_ | refine vB_f ?_ | refine vP_to (by simp (disch := omega) only [gdW_true, gdW_false, gB_true, gB_false, gB_undef, pickV_true, pickV_false, Bool.not_true, Bool.not_false, Option.map_some, bin_add, bin_sub, bin_mul, bin_quo, bin_rem, lss_t, lss_f, leq_t, leq_f, gtr_t, gtr_f, geq_t, geq_f, eqi_t, eqi_f, nei_t, nei_f, rem_uw, conv_ui, conv_iu, conv_ii, not_bool, nil_ptr, fa_mk, ptrV, len_mk, cap_mk, eq_ptr_nil, ne_ptr_nil, eq_nil_nil, ne_nil_nil, eq_slice_nil, eq_nil_slice, ia_1]; exact so_so) ?_ | refine vE_t (by simp only [gB_true, gB_false, gB_undef, Bool.not_true, Bool.not_false]) ?_ | refine vE_f (by simp only [gB_true, gB_false, gB_undef, Bool.not_true, Bool.not_false]) ?_)
    have hno : ∀ x, first ≤ x → x < first + k → ¬ fr l x := fun x h1 h2 => hno x h1 (by omega)
    obtain ⟨v, l', hL, wL⟩ := freeL_some hw first k
    have hL' := hL
    rcases hL with ⟨h1, _⟩ | ⟨_, ⟨x, h1, h2, h3⟩, _⟩ | ⟨_, _, rfl, hf, _⟩
    · exact (hbad h1).elim
    · exact (hno x h1 h2 h3).elim
    refine ⟨fun m ys h' => ∃ (j : Nat) (fl' : List Bool), ys = [.int .i64 j] ∧ m = k.toNat - j ∧ (j : Int) ≤ k ∧ fl'.length = n ∧ (∀ x : Nat, x < n → (fl'[x]? = some true ↔ fr l x ∨ (first ≤ x ∧ (x : Int) < first + j))) ∧ (pt b (.cells #[sv] 58 (0, 0)) * (SG bE 4 sv fl' * F)) h',
      ⟨_, 0, fl, rfl, rfl, by omega, hfl, fun x hx => by rw [hff x hx]; exact ⟨.inl, fun h => by rcases h with h | h; exact h; omega⟩, hp⟩, ?_⟩
    rintro m v8 h2 ⟨j, fl', hys, rfl, hj, hfl', hff', hh2⟩ _
    obtain rfl : v8 = .int .i64 j := by simpa using hys
    by_cases hjk : (j : Int) < k
    · have hS2 : (SG bE 4 sv fl' * (pt b (.cells #[sv] 58 (0, 0)) * F)) h2 := asr (by ac_rfl) hh2
      obtain ⟨y, hy⟩ : ∃ y : Nat, first + j = y := ⟨(first + j).toNat, by omega⟩
      obtain ⟨p, g1, _, g3⟩ := el1 hS2 (List.getElem?_eq_getElem (show y < fl'.length by omega)) .i64
      repeat (with_reducible first | refine vP_so ?_ | refine vB_t ?_ | refine vB_f ?_ | refine vP_to (by simp (disch := omega) only [gdW_true, gdW_false, gB_true, gB_false, gB_undef, pickV_true, pickV_false, Bool.not_true, Bool.not_false, Option.map_some, bin_add, bin_sub, bin_mul, bin_quo, bin_rem, lss_t, lss_f, leq_t, leq_f, gtr_t, gtr_f, geq_t, geq_f, eqi_t, eqi_f, nei_t, nei_f, rem_uw, conv_ui, conv_iu, conv_ii, not_bool, nil_ptr, fa_mk, ptrV, len_mk, cap_mk, eq_ptr_nil, ne_ptr_nil, eq_nil_nil, ne_nil_nil, eq_slice_nil, eq_nil_slice, ia_1, fl_ld hh2, hy, g1]; exact so_so) ?_ | refine vE_t (by simp only [gB_true, gB_false, gB_undef, Bool.not_true, Bool.not_false]) ?_ | refine vE_f (by simp only [gB_true, gB_false, gB_undef, Bool.not_true, Bool.not_false]) ?_)
      refine g3 true _ fun h5 hh5 => ?_
      repeat (with_reducible first | refine vP_so ?_ | refine vB_t ?_ | refine vB_f ?_ | refine vP_to (by simp (disch := omega) only [gdW_true, gdW_false, gB_true, gB_false, gB_undef, pickV_true, pickV_false, Bool.not_true, Bool.not_false, Option.map_some, bin_add, bin_sub, bin_mul, bin_quo, bin_rem, lss_t, lss_f, leq_t, leq_f, gtr_t, gtr_f, geq_t, geq_f, eqi_t, eqi_f, nei_t, nei_f, rem_uw, conv_ui, conv_iu, conv_ii, not_bool, nil_ptr, fa_mk, ptrV, len_mk, cap_mk, eq_ptr_nil, ne_ptr_nil, eq_nil_nil, ne_nil_nil, eq_slice_nil, eq_nil_slice, ia_1]; exact so_so) ?_ | refine vE_t (by simp only [gB_true, gB_false, gB_undef, Bool.not_true, Bool.not_false]) ?_ | refine vE_f (by simp only [gB_true, gB_false, gB_undef, Bool.not_true, Bool.not_false]) ?_)
      refine ⟨k.toNat - (j + 1), by omega, j + 1, fl'.set y true, by simp, rfl, by omega, by simpa using hfl', fun x hx => ?_, asr (by ac_rfl) hh5⟩
      rw [List.getElem?_set]
      by_cases hxy : y = x
      · rw [if_pos hxy, if_pos (by omega)]
        simp only [true_iff]
        right; omega
      · rw [if_neg hxy, hff' x hx]
        constructor
        · rintro (h | h)
          · exact .inl h
          · exact .inr (by omega)
        · rintro (h | h)
          · exact .inl h
          · exact .inr (by omega)
    · repeat (with_reducible first | refine vP_so ?_ | refine vB_t ?_ | refine vB_f ?_ | refine vP_to (by simp (disch := omega) only [gdW_true, gdW_false, gB_true, gB_false, gB_undef, pickV_true, pickV_false, Bool.not_true, Bool.not_false, Option.map_some, bin_add, bin_sub, bin_mul, bin_quo, bin_rem, lss_t, lss_f, leq_t, leq_f, gtr_t, gtr_f, geq_t, geq_f, eqi_t, eqi_f, nei_t, nei_f, rem_uw, conv_ui, conv_iu, conv_ii, not_bool, nil_ptr, fa_mk, ptrV, len_mk, cap_mk, eq_ptr_nil, ne_ptr_nil, eq_nil_nil, ne_nil_nil, eq_slice_nil, eq_nil_slice, ia_1]; exact so_so) ?_ | refine vE_t (by simp only [gB_true, gB_false, gB_undef, Bool.not_true, Bool.not_false]) ?_ | refine vE_f (by simp only [gB_true, gB_false, gB_undef, Bool.not_true, Bool.not_false]) ?_)
      refine hK _ l' h2 hL' wL (FLs_intro hfl' (fun x hx => ?_) hh2)
      rw [hff' x hx, hf, show (j : Int) = k by omega]

theorem eqA_run_ne (a : Run) : eqA [1, 1] true (run a) (run a) = some (.bool false) := by
  obtain ⟨a1, a2⟩ := a
  have e : eqL [1, 1] [.int .i64 a1, .int .i64 a2] [.int .i64 a1, .int .i64 a2] = some true := by
    simp only [eqL, eqS, if_true, Bool.and_true]
    simp
  simp only [eqA, run, e, Option.map_some]
  rfl

/-- Two lists of runs that are one list. -/
theorem use_runsEq {sv sw : Value} {l : List Run} {F : Asrt} {K : Value → Hp → Prop} {h : Hp} {E E' : Nat} (h1 : (SG enc2 E sv l * (SG enc2 E' sw l * F)) h) (hK : K (.bool true) h) : CallH Try.prog 18 #[sv, sw] K h := by
  refine C18 ?_
  unfold D18
  have hlen1 := SG_len enc2 h1
  have h2 : (SG enc2 E' sw l * (SG enc2 E sv l * F)) h := asr (by ac_rfl) h1
  have hlen2 := SG_len enc2 h2
  have hlt := SG_lt enc2 h1
  repeat (with_reducible first | refine vP_so ?_ | refine vB_t ?_ | refine vB_f ?_ | refine vP_to (by simp (disch := omega) only [gdW_true, gdW_false, gB_true, gB_false, gB_undef, pickV_true, pickV_false, Bool.not_true, Bool.not_false, Option.map_some, bin_add, bin_sub, bin_mul, bin_quo, bin_rem, lss_t, lss_f, leq_t, leq_f, gtr_t, gtr_f, geq_t, geq_f, eqi_t, eqi_f, nei_t, nei_f, rem_uw, conv_ui, conv_iu, conv_ii, not_bool, nil_ptr, fa_mk, ptrV, len_mk, cap_mk, eq_ptr_nil, ne_ptr_nil, eq_nil_nil, ne_nil_nil, eq_slice_nil, eq_nil_slice, ia_1, hlen1, hlen2]; exact so_so) ?_ | refine vE_t (by simp only [gB_true, gB_false, gB_undef, Bool.not_true, Bool.not_false]) ?_ | refine vE_f (by simp only [gB_true, gB_false, gB_undef, Bool.not_true, Bool.not_false]) ?_)
  refine ⟨fun m ys h' => ∃ (j : Nat), ys = [.int .i64 j] ∧ m = l.length - j ∧ j ≤ l.length ∧ h' = h, ⟨_, 0, rfl, rfl, by omega, rfl⟩, ?_⟩
  rintro m v5 h3 ⟨j, hys, rfl, hj, rfl⟩ _
  obtain rfl : v5 = .int .i64 j := by simpa using hys
  by_cases hjl : j < l.length
  · obtain ⟨pb, po, e1, _, e3, _⟩ := elG enc2 h1 (List.getElem?_eq_getElem hjl) .i64
    obtain ⟨qb, qo, f1, _, f3, _⟩ := elG enc2 h2 (List.getElem?_eq_getElem hjl) .i64
    have e1 : iaS 2 sv (.int .i64 j) = some (.pointer (some ⟨pb, po, none⟩)) := e1
    have f1 : iaS 2 sw (.int .i64 j) = some (.pointer (some ⟨qb, qo, none⟩)) := f1
    have e3 : ldN 2 (.pointer (some ⟨pb, po, none⟩)) h3 = some (run l[j]) := e3
    have f3 : ldN 2 (.pointer (some ⟨qb, qo, none⟩)) h3 = some (run l[j]) := f3
    generalize l[j] = x at *
    have eq := eqA_run_ne x
    repeat (with_reducible first | refine vP_so ?_ | refine vB_t ?_ | refine vB_f ?_ | refine vP_to (by simp (disch := omega) only [gdW_true, gdW_false, gB_true, gB_false, gB_undef, pickV_true, pickV_false, Bool.not_true, Bool.not_false, Option.map_some, bin_add, bin_sub, bin_mul, bin_quo, bin_rem, lss_t, lss_f, leq_t, leq_f, gtr_t, gtr_f, geq_t, geq_f, eqi_t, eqi_f, nei_t, nei_f, rem_uw, conv_ui, conv_iu, conv_ii, not_bool, nil_ptr, fa_mk, ptrV, len_mk, cap_mk, eq_ptr_nil, ne_ptr_nil, eq_nil_nil, ne_nil_nil, eq_slice_nil, eq_nil_slice, ia_1, hlen1, e1, e3, f1, f3, eq]; exact so_so) ?_ | refine vE_t (by simp only [gB_true, gB_false, gB_undef, Bool.not_true, Bool.not_false]) ?_ | refine vE_f (by simp only [gB_true, gB_false, gB_undef, Bool.not_true, Bool.not_false]) ?_)
    exact ⟨l.length - (j + 1), by omega, j + 1, by simp, rfl, by omega, rfl⟩
  · repeat (with_reducible first | refine vP_so ?_ | refine vB_t ?_ | refine vB_f ?_ | refine vP_to (by simp (disch := omega) only [gdW_true, gdW_false, gB_true, gB_false, gB_undef, pickV_true, pickV_false, Bool.not_true, Bool.not_false, Option.map_some, bin_add, bin_sub, bin_mul, bin_quo, bin_rem, lss_t, lss_f, leq_t, leq_f, gtr_t, gtr_f, geq_t, geq_f, eqi_t, eqi_f, nei_t, nei_f, rem_uw, conv_ui, conv_iu, conv_ii, not_bool, nil_ptr, fa_mk, ptrV, len_mk, cap_mk, eq_ptr_nil, ne_ptr_nil, eq_nil_nil, ne_nil_nil, eq_slice_nil, eq_nil_slice, ia_1, hlen1]; exact so_so) ?_ | refine vE_t (by simp only [gB_true, gB_false, gB_undef, Bool.not_true, Bool.not_false]) ?_ | refine vE_f (by simp only [gB_true, gB_false, gB_undef, Bool.not_true, Bool.not_false]) ?_)
    exact hK

end Go.Proofs
