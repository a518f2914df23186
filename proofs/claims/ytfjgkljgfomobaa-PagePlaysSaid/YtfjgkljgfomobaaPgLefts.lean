/-
  PageLefts returns true.
-/
import Derived.Test.YtfjgkljgfomobaaPgBest
import Derived.Test.YtfjgkljgfomobaaV15
set_option linter.unusedVariables false
set_option linter.unusedSimpArgs false
namespace Go.Proofs
open Go.Sl

theorem WFf_adj {n : Int} : ∀ {lo : Int} {l : List Run} {j : Nat} {x y : Run}, WFf n lo l → l[j]? = some x → l[j + 1]? = some y → x.1 + x.2 < y.1
  | _, [], _, _, _, _, h, _ => by simp at h
  | _, [_], _, _, _, _, _, h => by simp at h
  | _, r :: s :: l, 0, x, y, ⟨_, _, _, d⟩, h1, h2 => by
    simp at h1 h2
    subst h1; subst h2
    exact d.1
  | _, r :: s :: l, j + 1, x, y, ⟨_, _, _, d⟩, h1, h2 => WFf_adj (j := j) d (by simpa using h1) (by simpa using h2)

theorem nil_alloc {k : Int} {K : Value → Hp → Prop} {h : Hp} (hK : K (tup 0 1) h) : CallH Try.prog 9 #[.pointer none, .int .i64 k] K h := by
  refine C9 ?_
  unfold D9
  repeat (with_reducible first | refine vP_so ?_ | refine vB_t ?_ | refine vB_f ?_ | refine vP_to (by simp (disch := omega) only [gdW_true, gdW_false, gB_true, gB_false, gB_undef, pickV_true, pickV_false, Bool.not_true, Bool.not_false, Option.map_some, bin_add, bin_sub, bin_mul, bin_quo, bin_rem, lss_t, lss_f, leq_t, leq_f, gtr_t, gtr_f, geq_t, geq_f, eqi_t, eqi_f, nei_t, nei_f, rem_uw, conv_ui, conv_iu, conv_ii, not_bool, nil_ptr, fa_mk, ptrV, len_mk, cap_mk, eq_ptr_nil, ne_ptr_nil, eq_nil_nil, ne_nil_nil, eq_slice_nil, eq_nil_slice, ia_1]; exact so_so) ?_ | refine vE_t (by simp only [gB_true, gB_false, gB_undef, Bool.not_true, Bool.not_false]) ?_ | refine vE_f (by simp only [gB_true, gB_false, gB_undef, Bool.not_true, Bool.not_false]) ?_)
  exact hK

theorem nil_free {a k : Int} {K : Value → Hp → Prop} {h : Hp} (hK : K (.int .i64 1) h) : CallH Try.prog 11 #[.pointer none, .int .i64 a, .int .i64 k] K h := by
  refine C11 ?_
  unfold D11
  repeat (with_reducible first | refine vP_so ?_ | refine vB_t ?_ | refine vB_f ?_ | refine vP_to (by simp (disch := omega) only [gdW_true, gdW_false, gB_true, gB_false, gB_undef, pickV_true, pickV_false, Bool.not_true, Bool.not_false, Option.map_some, bin_add, bin_sub, bin_mul, bin_quo, bin_rem, lss_t, lss_f, leq_t, leq_f, gtr_t, gtr_f, geq_t, geq_f, eqi_t, eqi_f, nei_t, nei_f, rem_uw, conv_ui, conv_iu, conv_ii, not_bool, nil_ptr, fa_mk, ptrV, len_mk, cap_mk, eq_ptr_nil, ne_ptr_nil, eq_nil_nil, ne_nil_nil, eq_slice_nil, eq_nil_slice, ia_1]; exact so_so) ?_ | refine vE_t (by simp only [gB_true, gB_false, gB_undef, Bool.not_true, Bool.not_false]) ?_ | refine vE_f (by simp only [gB_true, gB_false, gB_undef, Bool.not_true, Bool.not_false]) ?_)
  exact hK

theorem nil_runs {K : Value → Hp → Prop} {h : Hp} (hK : K (.slice none 0 0) h) : CallH Try.prog 12 #[.pointer none] K h := by
  refine C12 ?_
  unfold D12
  repeat (with_reducible first | refine vP_so ?_ | refine vB_t ?_ | refine vB_f ?_ | refine vP_to (by simp (disch := omega) only [gdW_true, gdW_false, gB_true, gB_false, gB_undef, pickV_true, pickV_false, Bool.not_true, Bool.not_false, Option.map_some, bin_add, bin_sub, bin_mul, bin_quo, bin_rem, lss_t, lss_f, leq_t, leq_f, gtr_t, gtr_f, geq_t, geq_f, eqi_t, eqi_f, nei_t, nei_f, rem_uw, conv_ui, conv_iu, conv_ii, not_bool, nil_ptr, fa_mk, ptrV, len_mk, cap_mk, eq_ptr_nil, ne_ptr_nil, eq_nil_nil, ne_nil_nil, eq_slice_nil, eq_nil_slice, ia_1]; exact so_so) ?_ | refine vE_t (by simp only [gB_true, gB_false, gB_undef, Bool.not_true, Bool.not_false]) ?_ | refine vE_f (by simp only [gB_true, gB_false, gB_undef, Bool.not_true, Bool.not_false]) ?_)
  exact hK

theorem nil_left {K : Value → Hp → Prop} {h : Hp} (hK : K (.int .i64 0) h) : CallH Try.prog 13 #[.pointer none] K h := by
  refine C13 ?_
  unfold D13
  refine nil_runs ?_
  repeat (with_reducible first | refine vP_so ?_ | refine vB_t ?_ | refine vB_f ?_ | refine vP_to (by simp (disch := omega) only [gdW_true, gdW_false, gB_true, gB_false, gB_undef, pickV_true, pickV_false, Bool.not_true, Bool.not_false, Option.map_some, bin_add, bin_sub, bin_mul, bin_quo, bin_rem, lss_t, lss_f, leq_t, leq_f, gtr_t, gtr_f, geq_t, geq_f, eqi_t, eqi_f, nei_t, nei_f, rem_uw, conv_ui, conv_iu, conv_ii, not_bool, nil_ptr, fa_mk, ptrV, len_mk, cap_mk, eq_ptr_nil, ne_ptr_nil, eq_nil_nil, ne_nil_nil, eq_slice_nil, eq_nil_slice, ia_1]; exact so_so) ?_ | refine vE_t (by simp only [gB_true, gB_false, gB_undef, Bool.not_true, Bool.not_false]) ?_ | refine vE_f (by simp only [gB_true, gB_false, gB_undef, Bool.not_true, Bool.not_false]) ?_)
  refine ⟨fun n xs h' => n = 0 ∧ xs = [.int .i64 0, .int .i64 0] ∧ h' = h, ⟨0, rfl, rfl, rfl⟩, ?_⟩
  rintro n v8 v3 h2 ⟨rfl, hxs, rfl⟩ _
  obtain ⟨rfl, rfl⟩ : v8 = .int .i64 0 ∧ v3 = .int .i64 0 := by simpa using hxs
  repeat (with_reducible first | refine vP_so ?_ | refine vB_t ?_ | refine vB_f ?_ | refine vP_to (by simp (disch := omega) only [gdW_true, gdW_false, gB_true, gB_false, gB_undef, pickV_true, pickV_false, Bool.not_true, Bool.not_false, Option.map_some, bin_add, bin_sub, bin_mul, bin_quo, bin_rem, lss_t, lss_f, leq_t, leq_f, gtr_t, gtr_f, geq_t, geq_f, eqi_t, eqi_f, nei_t, nei_f, rem_uw, conv_ui, conv_iu, conv_ii, not_bool, nil_ptr, fa_mk, ptrV, len_mk, cap_mk, eq_ptr_nil, ne_ptr_nil, eq_nil_nil, ne_nil_nil, eq_slice_nil, eq_nil_slice, ia_1]; exact so_so) ?_ | refine vE_t (by simp only [gB_true, gB_false, gB_undef, Bool.not_true, Bool.not_false]) ?_ | refine vE_f (by simp only [gB_true, gB_false, gB_undef, Bool.not_true, Bool.not_false]) ?_)
  exact hK

theorem lefts_tr (g : Hp) (n : Int) (sv : Value) (xs : List Int) (hx : IntsAt g sv xs) : Tr Try.prog 7 #[.int .i64 n, sv] (own g) (fun v => pr (v = .bool true) * own g) := by
  refine Tr.of fun h hh => C7 ?_
  unfold D7
  have hlt := hx.lt
  by_cases h1 : 50 < xs.length
  · repeat (with_reducible first | refine vP_so ?_ | refine vB_t ?_ | refine vB_f ?_ | refine vP_to (by simp (disch := omega) only [gdW_true, gdW_false, gB_true, gB_false, gB_undef, pickV_true, pickV_false, Bool.not_true, Bool.not_false, Option.map_some, bin_add, bin_sub, bin_mul, bin_quo, bin_rem, lss_t, lss_f, leq_t, leq_f, gtr_t, gtr_f, geq_t, geq_f, eqi_t, eqi_f, nei_t, nei_f, rem_uw, conv_ui, conv_iu, conv_ii, not_bool, nil_ptr, fa_mk, ptrV, len_mk, cap_mk, eq_ptr_nil, ne_ptr_nil, eq_nil_nil, ne_nil_nil, eq_slice_nil, eq_nil_slice, ia_1, hx.len]; exact so_so) ?_ | refine vE_t (by simp only [gB_true, gB_false, gB_undef, Bool.not_true, Bool.not_false]) ?_ | refine vE_f (by simp only [gB_true, gB_false, gB_undef, Bool.not_true, Bool.not_false]) ?_)
    exact told_use hh fun h' q => ret (p := Value.bool true = Value.bool true) rfl q
  have hn := urem_lt (x := n) (b := 100) (by omega)
  repeat (with_reducible first | refine vP_so ?_ | refine vB_t ?_ | refine vB_f ?_ | refine vP_to (by simp (disch := omega) only [gdW_true, gdW_false, gB_true, gB_false, gB_undef, pickV_true, pickV_false, Bool.not_true, Bool.not_false, Option.map_some, bin_add, bin_sub, bin_mul, bin_quo, bin_rem, lss_t, lss_f, leq_t, leq_f, gtr_t, gtr_f, geq_t, geq_f, eqi_t, eqi_f, nei_t, nei_f, rem_uw, conv_ui, conv_iu, conv_ii, not_bool, nil_ptr, fa_mk, ptrV, len_mk, cap_mk, eq_ptr_nil, ne_ptr_nil, eq_nil_nil, ne_nil_nil, eq_slice_nil, eq_nil_slice, ia_1, hx.len, conv_u .i64 n]; exact so_so) ?_ | refine vE_t (by simp only [gB_true, gB_false, gB_undef, Bool.not_true, Bool.not_false]) ?_ | refine vE_f (by simp only [gB_true, gB_false, gB_undef, Bool.not_true, Bool.not_false]) ?_)
  refine use_new hh fun a h1' hh1 => ?_
  have ek : newN (1 + urem n 100) = 1 + urem n 100 := by unfold newN; omega
  obtain ⟨w1, _, hl1⟩ := new_wf (1 + urem n 100)
  rw [ek] at hh1 w1 hl1
  generalize newL (1 + urem n 100) = l1 at *
  have hk : 1 ≤ 1 + urem n 100 ∧ 1 + urem n 100 ≤ 100 := by omega
  generalize 1 + urem n 100 = k at *
  clear hn ek
  repeat (with_reducible first | refine vP_so ?_ | refine vB_t ?_ | refine vB_f ?_ | refine vP_to (by simp (disch := omega) only [gdW_true, gdW_false, gB_true, gB_false, gB_undef, pickV_true, pickV_false, Bool.not_true, Bool.not_false, Option.map_some, bin_add, bin_sub, bin_mul, bin_quo, bin_rem, lss_t, lss_f, leq_t, leq_f, gtr_t, gtr_f, geq_t, geq_f, eqi_t, eqi_f, nei_t, nei_f, rem_uw, conv_ui, conv_iu, conv_ii, not_bool, nil_ptr, fa_mk, ptrV, len_mk, cap_mk, eq_ptr_nil, ne_ptr_nil, eq_nil_nil, ne_nil_nil, eq_slice_nil, eq_nil_slice, ia_1, pv]; exact so_so) ?_ | refine vE_t (by simp only [gB_true, gB_false, gB_undef, Bool.not_true, Bool.not_false]) ?_ | refine vE_f (by simp only [gB_true, gB_false, gB_undef, Bool.not_true, Bool.not_false]) ?_)
  refine ⟨fun m ys h' => ∃ (i : Nat) (out : Int) (l : List Run), ys = [.int .i64 i, .int .i64 out] ∧ m = xs.length - i ∧ i ≤ xs.length ∧ WF k l ∧ leftS l + out = k - 1 ∧ 0 ≤ out ∧ (PG a k l * (own g * tt)) h',
    ⟨_, 0, 0, l1, rfl, rfl, by omega, w1, by omega, by omega, asr (by ac_rfl) hh1⟩, ?_⟩
  rintro m v8 v7 h3 ⟨i, out, l, hys, rfl, hi, hwf, hsum, hout, hh3⟩ _
  obtain ⟨rfl, rfl⟩ : v8 = .int .i64 i ∧ v7 = .int .i64 out := by simpa using hys
  have hl3 := WF_len hwf (by omega)
  by_cases hil : i < xs.length
  · have hown : (own g * (PG a k l * tt)) h3 := asr (by ac_rfl) hh3
    obtain ⟨p, f1, f2⟩ := hx.get i xs[i] .i64 (List.getElem?_eq_getElem hil)
    have f2 := own_ld1 hown f2
    generalize xs[i] = x at *
    have hn := urem_lt (x := x) (b := 12) (by omega)
    repeat (with_reducible first | refine vP_so ?_ | refine vB_t ?_ | refine vB_f ?_ | refine vP_to (by simp (disch := omega) only [gdW_true, gdW_false, gB_true, gB_false, gB_undef, pickV_true, pickV_false, Bool.not_true, Bool.not_false, Option.map_some, bin_add, bin_sub, bin_mul, bin_quo, bin_rem, lss_t, lss_f, leq_t, leq_f, gtr_t, gtr_f, geq_t, geq_f, eqi_t, eqi_f, nei_t, nei_f, rem_uw, conv_ui, conv_iu, conv_ii, not_bool, nil_ptr, fa_mk, ptrV, len_mk, cap_mk, eq_ptr_nil, ne_ptr_nil, eq_nil_nil, ne_nil_nil, eq_slice_nil, eq_nil_slice, ia_1, hx.len, f1, f2, conv_u .i64 x]; exact so_so) ?_ | refine vE_t (by simp only [gB_true, gB_false, gB_undef, Bool.not_true, Bool.not_false]) ?_ | refine vE_f (by simp only [gB_true, gB_false, gB_undef, Bool.not_true, Bool.not_false]) ?_)
    have hw : 1 ≤ 1 + urem x 12 ∧ 1 + urem x 12 ≤ 12 := by omega
    generalize 1 + urem x 12 = w at *
    refine use_alloc hwf (by omega) (by omega) hh3 fun v l4 h4 hv w4 hh4 => ?_
    obtain ⟨a4, e4, rfl⟩ : ∃ a4 e4, v = tup a4 e4 := by
      rcases hv with ⟨_, h, _⟩ | ⟨_, _, h, _⟩ | ⟨_, b, _, _, _, h, _⟩ <;> exact ⟨_, _, h⟩
    have hl4 := WF_len w4 (by omega)
    repeat (with_reducible first | refine vP_so ?_ | refine vB_t ?_ | refine vB_f ?_ | refine vP_to (by simp (disch := omega) only [gdW_true, gdW_false, gB_true, gB_false, gB_undef, pickV_true, pickV_false, Bool.not_true, Bool.not_false, Option.map_some, bin_add, bin_sub, bin_mul, bin_quo, bin_rem, lss_t, lss_f, leq_t, leq_f, gtr_t, gtr_f, geq_t, geq_f, eqi_t, eqi_f, nei_t, nei_f, rem_uw, conv_ui, conv_iu, conv_ii, not_bool, nil_ptr, fa_mk, ptrV, len_mk, cap_mk, eq_ptr_nil, ne_ptr_nil, eq_nil_nil, ne_nil_nil, eq_slice_nil, eq_nil_slice, ia_1, exV0, exV1]; exact so_so) ?_ | refine vE_t (by simp only [gB_true, gB_false, gB_undef, Bool.not_true, Bool.not_false]) ?_ | refine vE_f (by simp only [gB_true, gB_false, gB_undef, Bool.not_true, Bool.not_false]) ?_)
    intro J2 hJ2
    have hJ : ∀ (l5 : List Run) (out5 : Int) (h5 : Hp), WF k l5 → leftS l5 + out5 = k - 1 → 0 ≤ out5 → (e4 ≠ 0 → ∀ r ∈ l5, r.2 < w) → (PG a k l5 * (own g * tt)) h5 → J2 [.int .i64 out5] h5 := by
      intro l5 out5 h5 w5 hs5 ho5 he hh5
      refine hJ2 _ _ fun _ => ?_
      have hl5 := WF_len w5 (by omega)
      refine use_runs w5 (by omega) hh5 fun v70 h6 hh6 => ?_
      refine ⟨fun m ys h' => ∃ j : Nat, ys = [.int .i64 j, .int .i64 (leftS (l5.take j))] ∧ m = l5.length - j ∧ j ≤ l5.length ∧ (SL enc2 34 v70 l5 * (PG a k l5 * (own g * tt))) h',
        ⟨_, 0, rfl, rfl, by omega, hh6⟩, ?_⟩
      rintro m v14 v13 h7 ⟨j, hys, rfl, hj, hh7⟩ _
      obtain ⟨rfl, rfl⟩ : v14 = .int .i64 j ∧ v13 = .int .i64 (leftS (l5.take j)) := by simpa using hys
      have hlen := SL_len enc2 hh7
      have ht := leftS_take_le (l := l5) (fun r hr => by have := WFf_mem w5 (by omega) r hr; omega) j
      by_cases hjl : j < l5.length
      · obtain ⟨r, g1, g2, g3, _⟩ := el hh7 (List.getElem?_eq_getElem hjl) .i64
        have hm := WFf_mem w5 (by omega) l5[j] (List.getElem_mem hjl)
        have hts := leftS_take_succ hjl
        have ht' := leftS_take_le (l := l5) (fun r hr => by have := WFf_mem w5 (by omega) r hr; omega) (j + 1)
        have hfull : e4 ≠ 0 → l5[j].2 < w := fun q => he q _ (List.getElem_mem hjl)
        have hadj : 0 < j → ∃ y, l5[j - 1]? = some y ∧ y.1 + y.2 < l5[j].1 ∧ 1 ≤ y.1 ∧ 1 ≤ y.2 ∧ y.1 + y.2 ≤ k := fun hj0 => by
          have := WFf_mem w5 (by omega) l5[j - 1] (List.getElem_mem (by omega))
          exact ⟨_, List.getElem?_eq_getElem (by omega), WFf_adj (j := j - 1) w5 (List.getElem?_eq_getElem (by omega)) (by rw [show j - 1 + 1 = j by omega]; exact List.getElem?_eq_getElem hjl), this⟩
        have fin : ∃ m3, m3 < l5.length - j ∧ ∃ j' : Nat, [Value.int .i64 ((j : Int) + 1), .int .i64 (leftS (l5.take j) + l5[j].2)] = [.int .i64 j', .int .i64 (leftS (l5.take j'))] ∧ m3 = l5.length - j' ∧ j' ≤ l5.length ∧ (SL enc2 34 v70 l5 * (PG a k l5 * (own g * tt))) h7 :=
          ⟨l5.length - (j + 1), by omega, j + 1, by rw [hts]; simp, rfl, by omega, hh7⟩
        generalize l5[j] = rj at *
        rcases Nat.eq_zero_or_pos j with hj0 | hj0
        · by_cases hez : e4 = 0
          · repeat (with_reducible first | refine vP_so ?_ | refine vB_t ?_ | refine vB_f ?_ | refine vP_to (by simp (disch := omega) only [gdW_true, gdW_false, gB_true, gB_false, gB_undef, pickV_true, pickV_false, Bool.not_true, Bool.not_false, Option.map_some, bin_add, bin_sub, bin_mul, bin_quo, bin_rem, lss_t, lss_f, leq_t, leq_f, gtr_t, gtr_f, geq_t, geq_f, eqi_t, eqi_f, nei_t, nei_f, rem_uw, conv_ui, conv_iu, conv_ii, not_bool, nil_ptr, fa_mk, ptrV, len_mk, cap_mk, eq_ptr_nil, ne_ptr_nil, eq_nil_nil, ne_nil_nil, eq_slice_nil, eq_nil_slice, ia_1, hlen, g1, g2, g3]; exact so_so) ?_ | refine vE_t (by simp only [gB_true, gB_false, gB_undef, Bool.not_true, Bool.not_false]) ?_ | refine vE_f (by simp only [gB_true, gB_false, gB_undef, Bool.not_true, Bool.not_false]) ?_)
            exact fin
          · have := hfull hez
            repeat (with_reducible first | refine vP_so ?_ | refine vB_t ?_ | refine vB_f ?_ | refine vP_to (by simp (disch := omega) only [gdW_true, gdW_false, gB_true, gB_false, gB_undef, pickV_true, pickV_false, Bool.not_true, Bool.not_false, Option.map_some, bin_add, bin_sub, bin_mul, bin_quo, bin_rem, lss_t, lss_f, leq_t, leq_f, gtr_t, gtr_f, geq_t, geq_f, eqi_t, eqi_f, nei_t, nei_f, rem_uw, conv_ui, conv_iu, conv_ii, not_bool, nil_ptr, fa_mk, ptrV, len_mk, cap_mk, eq_ptr_nil, ne_ptr_nil, eq_nil_nil, ne_nil_nil, eq_slice_nil, eq_nil_slice, ia_1, hlen, g1, g2, g3]; exact so_so) ?_ | refine vE_t (by simp only [gB_true, gB_false, gB_undef, Bool.not_true, Bool.not_false]) ?_ | refine vE_f (by simp only [gB_true, gB_false, gB_undef, Bool.not_true, Bool.not_false]) ?_)
            exact fin
        · obtain ⟨y, hy, hyr, hyb⟩ := hadj hj0
          obtain ⟨r', q1, q2, q3, _⟩ := el hh7 hy .i64
          rw [show ((j - 1 : Nat) : Int) = (j : Int) - 1 by omega] at q1
          by_cases hez : e4 = 0
          · repeat (with_reducible first | refine vP_so ?_ | refine vB_t ?_ | refine vB_f ?_ | refine vP_to (by simp (disch := omega) only [gdW_true, gdW_false, gB_true, gB_false, gB_undef, pickV_true, pickV_false, Bool.not_true, Bool.not_false, Option.map_some, bin_add, bin_sub, bin_mul, bin_quo, bin_rem, lss_t, lss_f, leq_t, leq_f, gtr_t, gtr_f, geq_t, geq_f, eqi_t, eqi_f, nei_t, nei_f, rem_uw, conv_ui, conv_iu, conv_ii, not_bool, nil_ptr, fa_mk, ptrV, len_mk, cap_mk, eq_ptr_nil, ne_ptr_nil, eq_nil_nil, ne_nil_nil, eq_slice_nil, eq_nil_slice, ia_1, hlen, g1, g2, g3, q1, q2, q3]; exact so_so) ?_ | refine vE_t (by simp only [gB_true, gB_false, gB_undef, Bool.not_true, Bool.not_false]) ?_ | refine vE_f (by simp only [gB_true, gB_false, gB_undef, Bool.not_true, Bool.not_false]) ?_)
            exact fin
          · have := hfull hez
            repeat (with_reducible first | refine vP_so ?_ | refine vB_t ?_ | refine vB_f ?_ | refine vP_to (by simp (disch := omega) only [gdW_true, gdW_false, gB_true, gB_false, gB_undef, pickV_true, pickV_false, Bool.not_true, Bool.not_false, Option.map_some, bin_add, bin_sub, bin_mul, bin_quo, bin_rem, lss_t, lss_f, leq_t, leq_f, gtr_t, gtr_f, geq_t, geq_f, eqi_t, eqi_f, nei_t, nei_f, rem_uw, conv_ui, conv_iu, conv_ii, not_bool, nil_ptr, fa_mk, ptrV, len_mk, cap_mk, eq_ptr_nil, ne_ptr_nil, eq_nil_nil, ne_nil_nil, eq_slice_nil, eq_nil_slice, ia_1, hlen, g1, g2, g3, q1, q2, q3]; exact so_so) ?_ | refine vE_t (by simp only [gB_true, gB_false, gB_undef, Bool.not_true, Bool.not_false]) ?_ | refine vE_f (by simp only [gB_true, gB_false, gB_undef, Bool.not_true, Bool.not_false]) ?_)
            exact fin
      · have hje : j = l5.length := by omega
        subst hje
        rw [List.take_length]
        repeat (with_reducible first | refine vP_so ?_ | refine vB_t ?_ | refine vB_f ?_ | refine vP_to (by simp (disch := omega) only [gdW_true, gdW_false, gB_true, gB_false, gB_undef, pickV_true, pickV_false, Bool.not_true, Bool.not_false, Option.map_some, bin_add, bin_sub, bin_mul, bin_quo, bin_rem, lss_t, lss_f, leq_t, leq_f, gtr_t, gtr_f, geq_t, geq_f, eqi_t, eqi_f, nei_t, nei_f, rem_uw, conv_ui, conv_iu, conv_ii, not_bool, nil_ptr, fa_mk, ptrV, len_mk, cap_mk, eq_ptr_nil, ne_ptr_nil, eq_nil_nil, ne_nil_nil, eq_slice_nil, eq_nil_slice, ia_1, hlen]; exact so_so) ?_ | refine vE_t (by simp only [gB_true, gB_false, gB_undef, Bool.not_true, Bool.not_false]) ?_ | refine vE_f (by simp only [gB_true, gB_false, gB_undef, Bool.not_true, Bool.not_false]) ?_)
        refine use_left (F := own g * tt) w5 (by omega) (drp (Q := PG a k l5 * own g) (P := SL enc2 34 v70 l5) (asr (by ac_rfl) hh7) |> asr (star_assoc _ _ _)) fun h8 hh8 => ?_
        repeat (with_reducible first | refine vP_so ?_ | refine vB_t ?_ | refine vB_f ?_ | refine vP_to (by simp (disch := omega) only [gdW_true, gdW_false, gB_true, gB_false, gB_undef, pickV_true, pickV_false, Bool.not_true, Bool.not_false, Option.map_some, bin_add, bin_sub, bin_mul, bin_quo, bin_rem, lss_t, lss_f, leq_t, leq_f, gtr_t, gtr_f, geq_t, geq_f, eqi_t, eqi_f, nei_t, nei_f, rem_uw, conv_ui, conv_iu, conv_ii, not_bool, nil_ptr, fa_mk, ptrV, len_mk, cap_mk, eq_ptr_nil, ne_ptr_nil, eq_nil_nil, ne_nil_nil, eq_slice_nil, eq_nil_slice, ia_1]; exact so_so) ?_ | refine vE_t (by simp only [gB_true, gB_false, gB_undef, Bool.not_true, Bool.not_false]) ?_ | refine vE_f (by simp only [gB_true, gB_false, gB_undef, Bool.not_true, Bool.not_false]) ?_)
        exact ⟨xs.length - (i + 1), by omega, i + 1, out5, l5, by simp, rfl, by omega, w5, hs5, ho5, hh8⟩
    rcases hv with ⟨h, _⟩ | ⟨_, hfull, he, rfl⟩ | ⟨_, b, hb, hb2, _, he, hf4, hl4'⟩
    · omega
    · obtain ⟨rfl, rfl⟩ : a4 = 0 ∧ e4 = 3 := by simpa using he
      repeat (with_reducible first | refine vP_so ?_ | refine vB_t ?_ | refine vB_f ?_ | refine vP_to (by simp (disch := omega) only [gdW_true, gdW_false, gB_true, gB_false, gB_undef, pickV_true, pickV_false, Bool.not_true, Bool.not_false, Option.map_some, bin_add, bin_sub, bin_mul, bin_quo, bin_rem, lss_t, lss_f, leq_t, leq_f, gtr_t, gtr_f, geq_t, geq_f, eqi_t, eqi_f, nei_t, nei_f, rem_uw, conv_ui, conv_iu, conv_ii, not_bool, nil_ptr, fa_mk, ptrV, len_mk, cap_mk, eq_ptr_nil, ne_ptr_nil, eq_nil_nil, ne_nil_nil, eq_slice_nil, eq_nil_slice, ia_1]; exact so_so) ?_ | refine vE_t (by simp only [gB_true, gB_false, gB_undef, Bool.not_true, Bool.not_false]) ?_ | refine vE_f (by simp only [gB_true, gB_false, gB_undef, Bool.not_true, Bool.not_false]) ?_)
      exact hJ _ _ _ w4 (by omega) hout (fun _ => hfull) hh4
    · obtain ⟨rfl, rfl⟩ : a4 = b.1 ∧ e4 = 0 := by simpa using he
      have hbm := WFf_mem hwf (by omega) b hb
      by_cases hi3 : (i : Int) % 3 = 2
      · repeat (with_reducible first | refine vP_so ?_ | refine vB_t ?_ | refine vB_f ?_ | refine vP_to (by simp (disch := omega) only [gdW_true, gdW_false, gB_true, gB_false, gB_undef, pickV_true, pickV_false, Bool.not_true, Bool.not_false, Option.map_some, bin_add, bin_sub, bin_mul, bin_quo, bin_rem, lss_t, lss_f, leq_t, leq_f, gtr_t, gtr_f, geq_t, geq_f, eqi_t, eqi_f, nei_t, nei_f, rem_uw, conv_ui, conv_iu, conv_ii, not_bool, nil_ptr, fa_mk, ptrV, len_mk, cap_mk, eq_ptr_nil, ne_ptr_nil, eq_nil_nil, ne_nil_nil, eq_slice_nil, eq_nil_slice, ia_1]; exact so_so) ?_ | refine vE_t (by simp only [gB_true, gB_false, gB_undef, Bool.not_true, Bool.not_false]) ?_ | refine vE_f (by simp only [gB_true, gB_false, gB_undef, Bool.not_true, Bool.not_false]) ?_)
        refine use_free w4 (by omega) (by omega) hh4 fun v l9 h9 hv w9 hh9 => ?_
        rcases hv with ⟨hq, _⟩ | ⟨_, ⟨z, z1, z2, z3⟩, _⟩ | ⟨_, _, rfl, _, hl9⟩
        · exfalso; unfold badF at hq; omega
        · exfalso; have := (hf4 z).1 z3; omega
        · repeat (with_reducible first | refine vP_so ?_ | refine vB_t ?_ | refine vB_f ?_ | refine vP_to (by simp (disch := omega) only [gdW_true, gdW_false, gB_true, gB_false, gB_undef, pickV_true, pickV_false, Bool.not_true, Bool.not_false, Option.map_some, bin_add, bin_sub, bin_mul, bin_quo, bin_rem, lss_t, lss_f, leq_t, leq_f, gtr_t, gtr_f, geq_t, geq_f, eqi_t, eqi_f, nei_t, nei_f, rem_uw, conv_ui, conv_iu, conv_ii, not_bool, nil_ptr, fa_mk, ptrV, len_mk, cap_mk, eq_ptr_nil, ne_ptr_nil, eq_nil_nil, ne_nil_nil, eq_slice_nil, eq_nil_slice, ia_1]; exact so_so) ?_ | refine vE_t (by simp only [gB_true, gB_false, gB_undef, Bool.not_true, Bool.not_false]) ?_ | refine vE_f (by simp only [gB_true, gB_false, gB_undef, Bool.not_true, Bool.not_false]) ?_)
          exact hJ _ _ _ w9 (by omega) (by omega) (fun q => absurd rfl q) hh9
      · repeat (with_reducible first | refine vP_so ?_ | refine vB_t ?_ | refine vB_f ?_ | refine vP_to (by simp (disch := omega) only [gdW_true, gdW_false, gB_true, gB_false, gB_undef, pickV_true, pickV_false, Bool.not_true, Bool.not_false, Option.map_some, bin_add, bin_sub, bin_mul, bin_quo, bin_rem, lss_t, lss_f, leq_t, leq_f, gtr_t, gtr_f, geq_t, geq_f, eqi_t, eqi_f, nei_t, nei_f, rem_uw, conv_ui, conv_iu, conv_ii, not_bool, nil_ptr, fa_mk, ptrV, len_mk, cap_mk, eq_ptr_nil, ne_ptr_nil, eq_nil_nil, ne_nil_nil, eq_slice_nil, eq_nil_slice, ia_1]; exact so_so) ?_ | refine vE_t (by simp only [gB_true, gB_false, gB_undef, Bool.not_true, Bool.not_false]) ?_ | refine vE_f (by simp only [gB_true, gB_false, gB_undef, Bool.not_true, Bool.not_false]) ?_)
        exact hJ _ _ _ w4 (by omega) (by omega) (fun q => absurd rfl q) hh4
  · repeat (with_reducible first | refine vP_so ?_ | refine vB_t ?_ | refine vB_f ?_ | refine vP_to (by simp (disch := omega) only [gdW_true, gdW_false, gB_true, gB_false, gB_undef, pickV_true, pickV_false, Bool.not_true, Bool.not_false, Option.map_some, bin_add, bin_sub, bin_mul, bin_quo, bin_rem, lss_t, lss_f, leq_t, leq_f, gtr_t, gtr_f, geq_t, geq_f, eqi_t, eqi_f, nei_t, nei_f, rem_uw, conv_ui, conv_iu, conv_ii, not_bool, nil_ptr, fa_mk, ptrV, len_mk, cap_mk, eq_ptr_nil, ne_ptr_nil, eq_nil_nil, ne_nil_nil, eq_slice_nil, eq_nil_slice, ia_1, hx.len]; exact so_so) ?_ | refine vE_t (by simp only [gB_true, gB_false, gB_undef, Bool.not_true, Bool.not_false]) ?_ | refine vE_f (by simp only [gB_true, gB_false, gB_undef, Bool.not_true, Bool.not_false]) ?_)
    refine nil_alloc ?_
    repeat (with_reducible first | refine vP_so ?_ | refine vB_t ?_ | refine vB_f ?_ | refine vP_to (by simp (disch := omega) only [gdW_true, gdW_false, gB_true, gB_false, gB_undef, pickV_true, pickV_false, Bool.not_true, Bool.not_false, Option.map_some, bin_add, bin_sub, bin_mul, bin_quo, bin_rem, lss_t, lss_f, leq_t, leq_f, gtr_t, gtr_f, geq_t, geq_f, eqi_t, eqi_f, nei_t, nei_f, rem_uw, conv_ui, conv_iu, conv_ii, not_bool, nil_ptr, fa_mk, ptrV, len_mk, cap_mk, eq_ptr_nil, ne_ptr_nil, eq_nil_nil, ne_nil_nil, eq_slice_nil, eq_nil_slice, ia_1, exV0, exV1]; exact so_so) ?_ | refine vE_t (by simp only [gB_true, gB_false, gB_undef, Bool.not_true, Bool.not_false]) ?_ | refine vE_f (by simp only [gB_true, gB_false, gB_undef, Bool.not_true, Bool.not_false]) ?_)
    refine told_use hh3 fun h11 hh11 => ?_
    repeat (with_reducible first | refine vP_so ?_ | refine vB_t ?_ | refine vB_f ?_ | refine vP_to (by simp (disch := omega) only [gdW_true, gdW_false, gB_true, gB_false, gB_undef, pickV_true, pickV_false, Bool.not_true, Bool.not_false, Option.map_some, bin_add, bin_sub, bin_mul, bin_quo, bin_rem, lss_t, lss_f, leq_t, leq_f, gtr_t, gtr_f, geq_t, geq_f, eqi_t, eqi_f, nei_t, nei_f, rem_uw, conv_ui, conv_iu, conv_ii, not_bool, nil_ptr, fa_mk, ptrV, len_mk, cap_mk, eq_ptr_nil, ne_ptr_nil, eq_nil_nil, ne_nil_nil, eq_slice_nil, eq_nil_slice, ia_1]; exact so_so) ?_ | refine vE_t (by simp only [gB_true, gB_false, gB_undef, Bool.not_true, Bool.not_false]) ?_ | refine vE_f (by simp only [gB_true, gB_false, gB_undef, Bool.not_true, Bool.not_false]) ?_)
    refine nil_free ?_
    repeat (with_reducible first | refine vP_so ?_ | refine vB_t ?_ | refine vB_f ?_ | refine vP_to (by simp (disch := omega) only [gdW_true, gdW_false, gB_true, gB_false, gB_undef, pickV_true, pickV_false, Bool.not_true, Bool.not_false, Option.map_some, bin_add, bin_sub, bin_mul, bin_quo, bin_rem, lss_t, lss_f, leq_t, leq_f, gtr_t, gtr_f, geq_t, geq_f, eqi_t, eqi_f, nei_t, nei_f, rem_uw, conv_ui, conv_iu, conv_ii, not_bool, nil_ptr, fa_mk, ptrV, len_mk, cap_mk, eq_ptr_nil, ne_ptr_nil, eq_nil_nil, ne_nil_nil, eq_slice_nil, eq_nil_slice, ia_1]; exact so_so) ?_ | refine vE_t (by simp only [gB_true, gB_false, gB_undef, Bool.not_true, Bool.not_false]) ?_ | refine vE_f (by simp only [gB_true, gB_false, gB_undef, Bool.not_true, Bool.not_false]) ?_)
    refine nil_left ?_
    repeat (with_reducible first | refine vP_so ?_ | refine vB_t ?_ | refine vB_f ?_ | refine vP_to (by simp (disch := omega) only [gdW_true, gdW_false, gB_true, gB_false, gB_undef, pickV_true, pickV_false, Bool.not_true, Bool.not_false, Option.map_some, bin_add, bin_sub, bin_mul, bin_quo, bin_rem, lss_t, lss_f, leq_t, leq_f, gtr_t, gtr_f, geq_t, geq_f, eqi_t, eqi_f, nei_t, nei_f, rem_uw, conv_ui, conv_iu, conv_ii, not_bool, nil_ptr, fa_mk, ptrV, len_mk, cap_mk, eq_ptr_nil, ne_ptr_nil, eq_nil_nil, ne_nil_nil, eq_slice_nil, eq_nil_slice, ia_1]; exact so_so) ?_ | refine vE_t (by simp only [gB_true, gB_false, gB_undef, Bool.not_true, Bool.not_false]) ?_ | refine vE_f (by simp only [gB_true, gB_false, gB_undef, Bool.not_true, Bool.not_false]) ?_)
    refine nil_runs ?_
    repeat (with_reducible first | refine vP_so ?_ | refine vB_t ?_ | refine vB_f ?_ | refine vP_to (by simp (disch := omega) only [gdW_true, gdW_false, gB_true, gB_false, gB_undef, pickV_true, pickV_false, Bool.not_true, Bool.not_false, Option.map_some, bin_add, bin_sub, bin_mul, bin_quo, bin_rem, lss_t, lss_f, leq_t, leq_f, gtr_t, gtr_f, geq_t, geq_f, eqi_t, eqi_f, nei_t, nei_f, rem_uw, conv_ui, conv_iu, conv_ii, not_bool, nil_ptr, fa_mk, ptrV, len_mk, cap_mk, eq_ptr_nil, ne_ptr_nil, eq_nil_nil, ne_nil_nil, eq_slice_nil, eq_nil_slice, ia_1]; exact so_so) ?_ | refine vE_t (by simp only [gB_true, gB_false, gB_undef, Bool.not_true, Bool.not_false]) ?_ | refine vE_f (by simp only [gB_true, gB_false, gB_undef, Bool.not_true, Bool.not_false]) ?_)
    exact ret (p := Value.bool true = Value.bool true) rfl (drp hh11)

end Go.Proofs
