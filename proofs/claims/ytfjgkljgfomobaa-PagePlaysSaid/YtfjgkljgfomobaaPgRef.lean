/-
  The document's own pages (treadmillref5.Pages): the same law.
-/
import Derived.Test.YtfjgkljgfomobaaPgApart
set_option linter.unusedVariables false
set_option linter.unusedSimpArgs false
namespace Go.Proofs
open Go.Sl

/-! ### The plain law -/

theorem WFf_up {n : Int} : ∀ {lo : Int} {l : List Run}, WFf n lo l → WFf (n + 1) lo l
  | _, [], _ => trivial
  | _, _ :: _, ⟨a, b, c, d⟩ => ⟨a, b, by omega, WFf_up d⟩

theorem WFf_ext {i : Int} {r : Run} : ∀ {lo : Int} {init : List Run}, WFf i lo (init ++ [r]) → r.1 + r.2 = i → WFf (i + 1) lo (init ++ [(r.1, r.2 + 1)])
  | lo, [], ⟨a, b, c, _⟩, h => ⟨a, by simp only; omega, by simp only; omega, trivial⟩
  | lo, s :: init, ⟨a, b, c, d⟩, h => ⟨a, b, by omega, WFf_ext d h⟩

theorem WFf_last {i : Int} : ∀ {lo : Int} {l : List Run}, WFf i lo l → fr l (i - 1) → ∃ init r, l = init ++ [r] ∧ r.1 + r.2 = i
  | _, [], _, h => h.elim
  | lo, [r], ⟨a, b, c, _⟩, h => ⟨[], r, rfl, by
    rcases h with h | h
    · omega
    · exact h.elim⟩
  | lo, r :: s :: l, ⟨a, b, c, d⟩, h => by
    rcases h with h | h
    · have := d.1
      have := d.2.1
      have := d.2.2.1
      omega
    · obtain ⟨init, q, e, h1⟩ := WFf_last d h
      exact ⟨r :: init, q, by rw [e]; rfl, h1⟩

/-- One page more that is free. -/
theorem grow_t {i : Int} {out : List Run} (hw : WF i out) (hi : 1 ≤ i) :
    ∃ out', WF (i + 1) out' ∧ (∀ x, fr out' x ↔ fr out x ∨ x = i) ∧ leftS out' = leftS out + 1 ∧
      ((fr out (i - 1) ∧ ∃ init r, out = init ++ [r] ∧ out' = init ++ [(r.1, r.2 + 1)] ∧ 0 ≤ r.2 ∧ r.2 ≤ i) ∨ (¬ fr out (i - 1) ∧ out' = out ++ [(i, 1)])) := by
  rcases Classical.em (fr out (i - 1)) with h | h
  · obtain ⟨init, r, rfl, hr⟩ := WFf_last hw h
    have hm := WFf_mem hw (by omega) r (by simp)
    refine ⟨init ++ [(r.1, r.2 + 1)], WFf_ext hw hr, fun x => ?_, ?_, .inl ⟨h, init, r, rfl, rfl, by omega, by omega⟩⟩
    · rw [fr_append, fr_append]
      simp only [fr, or_false]
      constructor
      · rintro (h1 | h1)
        · exact .inl (.inl h1)
        · rcases Int.lt_or_le x i with h2 | h2
          · exact .inl (.inr (by omega))
          · exact .inr (by omega)
      · rintro ((h1 | h1) | h1)
        · exact .inl h1
        · exact .inr (by omega)
        · exact .inr (by omega)
    · rw [leftS_app, leftS_app]
      simp only [leftS, List.map_cons, List.map_nil, List.sum_cons, List.sum_nil]
      omega
  · refine ⟨out ++ [(i, 1)], WFf_snoc (r := (i, 1)) (by simp only; omega) (by simp only; omega) (WFf_up hw) (by simp only; omega) fun x hx => ?_, fun x => ?_, ?_, .inr ⟨h, rfl⟩⟩
    · have := fr_lo hw x hx
      rcases Int.lt_or_le (x + 1) i with h2 | h2
      · exact h2
      · obtain rfl : x = i - 1 := by omega
        exact (h hx).elim
    · rw [fr_append]
      simp only [fr, or_false]
      constructor
      · rintro (h1 | h1)
        · exact .inl h1
        · exact .inr (by omega)
      · rintro (h1 | h1)
        · exact .inl h1
        · exact .inr (by omega)
    · rw [leftS_app]
      simp only [leftS, List.map_cons, List.map_nil, List.sum_cons, List.sum_nil]
      omega

theorem freeR_some (l : List Run) (n first k : Int) : ∃ v l', FreeR l n first k v l' := by
  rcases Classical.em (badF n first k) with hb | hb
  · exact ⟨_, _, .inl ⟨hb, rfl, rfl⟩⟩
  · have h1 : ∀ (j : Nat) x, j < l.findIdx (fun r => decide (first ≤ r.1)) → l[j]? = some x → x.1 < first := fun j x hj hx => by
      have := List.not_of_lt_findIdx hj
      obtain ⟨hlt, e⟩ := List.getElem?_eq_some_iff.1 hx
      rw [e] at this
      simp at this
      omega
    have h2 : ∀ y, l[l.findIdx (fun r => decide (first ≤ r.1))]? = some y → first ≤ y.1 := fun y hy => by
      obtain ⟨hlt, e⟩ := List.getElem?_eq_some_iff.1 hy
      have := List.findIdx_getElem (w := hlt)
      rw [e] at this
      simpa using this
    rcases Classical.em (ovF l (l.findIdx (fun r => decide (first ≤ r.1))) first k) with ho | ho
    · exact ⟨_, _, .inr ⟨hb, _, List.findIdx_le_length, h1, h2, .inl ⟨ho, rfl, rfl⟩⟩⟩
    · exact ⟨_, _, .inr ⟨hb, _, List.findIdx_le_length, h1, h2, .inr ⟨ho, rfl, rfl⟩⟩⟩

theorem freeL_some {n : Int} {l : List Run} (hw : WF n l) (first k : Int) : ∃ v l', FreeL n l first k v l' ∧ WF n l' := by
  obtain ⟨v, l', h⟩ := freeR_some l n first k
  rcases free_law hw h with ⟨h1, h2, rfl⟩ | ⟨h1, h2, h3, rfl⟩ | ⟨h1, h2, h3, h6, h7, h8⟩
  · exact ⟨v, _, .inl ⟨h1, h2, rfl⟩, hw⟩
  · exact ⟨v, _, .inr (.inl ⟨h1, h2, h3, rfl⟩), hw⟩
  · exact ⟨v, _, .inr (.inr ⟨h1, h2, h3, h7, h8⟩), h6⟩

theorem FreeL_fun {n : Int} {l l1 l2 : List Run} {first k : Int} {v1 v2 : Value} (h1 : FreeL n l first k v1 l1) (h2 : FreeL n l first k v2 l2) (w1 : WF n l1) (w2 : WF n l2) : v1 = v2 ∧ l1 = l2 := by
  rcases h1 with ⟨a, rfl, rfl⟩ | ⟨a, b, rfl, rfl⟩ | ⟨a, b, rfl, c, _⟩ <;> rcases h2 with ⟨a', rfl, rfl⟩ | ⟨a', b', rfl, rfl⟩ | ⟨a', b', rfl, c', _⟩
  · exact ⟨rfl, rfl⟩
  · exact (a' a).elim
  · exact (a' a).elim
  · exact (a a').elim
  · exact ⟨rfl, rfl⟩
  · obtain ⟨x, h1, h2, h3⟩ := b; exact (b' x h1 h2 h3).elim
  · exact (a a').elim
  · obtain ⟨x, h1, h2, h3⟩ := b'; exact (b x h1 h2 h3).elim
  · exact ⟨rfl, WFf_unique w1 w2 fun x => by rw [c, c']⟩

theorem AllocL_fun {n : Int} {l l1 l2 : List Run} {k : Int} {v1 v2 : Value} (h1 : AllocL n l k v1 l1) (h2 : AllocL n l k v2 l2) (w1 : WF n l1) (w2 : WF n l2) : v1 = v2 ∧ l1 = l2 := by
  rcases h1 with ⟨a, rfl, rfl⟩ | ⟨a, b, rfl, rfl⟩ | ⟨a, b, hb, hk, hm, rfl, c, _⟩ <;> rcases h2 with ⟨a', rfl, rfl⟩ | ⟨a', b', rfl, rfl⟩ | ⟨a', b', hb', hk', hm', rfl, c', _⟩
  · exact ⟨rfl, rfl⟩
  · omega
  · omega
  · omega
  · exact ⟨rfl, rfl⟩
  · have := b b' hb'; omega
  · omega
  · have := b' b hb; omega
  · have h1 := hm b' hb' hk'
    have h2 := hm' b hb hk
    rw [nlt_iff] at h1 h2
    obtain rfl : b = b' := Prod.ext (by omega) (by omega)
    exact ⟨rfl, WFf_unique w1 w2 fun x => by rw [c, c']⟩

theorem WFf_rise {n : Int} : ∀ {lo : Int} {l : List Run} {i j : Nat} {x y : Run}, WFf n lo l → i < j → l[i]? = some x → l[j]? = some y → x.1 < y.1
  | _, [], _, _, _, _, _, _, h, _ => by simp at h
  | lo, r :: l, 0, j + 1, x, y, ⟨a, b, c, d⟩, _, h1, h2 => by
    simp at h1 h2
    subst h1
    have h3 := fr_start.WFf_memlo d y (List.mem_of_getElem? h2)
    omega
  | lo, r :: l, i + 1, j + 1, x, y, ⟨a, b, c, d⟩, hij, h1, h2 => WFf_rise (i := i) (j := j) d (by omega) (by simpa using h1) (by simpa using h2)

/-! ### The walks -/

/-- Flags, a page each: these runs. -/
def FLs (b : Nat) (n : Nat) (l : List Run) : Asrt := ex fun sv => ex fun fl : List Bool => pr (fl.length = n ∧ ∀ x : Nat, x < n → (fl[x]? = some true ↔ fr l x)) * (pt b (.cells #[sv] 58 (0, 0)) * SG bE 4 sv fl)

abbrev rv (b : Nat) : Value := .pointer (some ⟨b, 0, none⟩)

theorem FLs_elim {b n : Nat} {l : List Run} {F : Asrt} {h : Hp} (hh : (FLs b n l * F) h) :
    ∃ sv fl, fl.length = n ∧ (∀ x : Nat, x < n → (fl[x]? = some true ↔ fr l x)) ∧ (pt b (.cells #[sv] 58 (0, 0)) * (SG bE 4 sv fl * F)) h := by
  obtain ⟨sv, hh⟩ := ex_star.1 hh
  obtain ⟨fl, hh⟩ := ex_star.1 hh
  rw [star_assoc, pr_star] at hh
  exact ⟨sv, fl, hh.1.1, hh.1.2, asr (star_assoc _ _ _) hh.2⟩

theorem FLs_intro {b n : Nat} {l : List Run} {F : Asrt} {h : Hp} {sv : Value} {fl : List Bool} (h1 : fl.length = n) (h2 : ∀ x : Nat, x < n → (fl[x]? = some true ↔ fr l x)) (hh : (pt b (.cells #[sv] 58 (0, 0)) * (SG bE 4 sv fl * F)) h) : (FLs b n l * F) h := by
  refine ex_star.2 ⟨sv, ex_star.2 ⟨fl, ?_⟩⟩
  rw [star_assoc, pr_star]
  exact ⟨⟨h1, h2⟩, asr (star_assoc _ _ _).symm hh⟩

theorem fl_ld {b : Nat} {sv : Value} {F : Asrt} {h : Hp} (hh : (pt b (.cells #[sv] 58 (0, 0)) * F) h) : ld1 (.pointer (some ⟨b, 0 + 0, none⟩)) h = some sv := ld1_mk (pt_get hh) rfl

theorem use_rnew {n : Int} {F : Asrt} {K : Value → Hp → Prop} {h : Hp} (hh : F h) (hK : ∀ a h', (FLs a (newN n).toNat (newL n) * F) h' → K (rv a) h') : CallH Try.prog 15 #[.int .i64 n] K h := by
  refine C15 ?_
  unfold D15
  have e1 : min2V (.int .i64 n) (.int .i64 262144) = some (.int .i64 (min n 262144)) := by
    show some (Value.int .i64 (if 262144 < n then 262144 else n)) = _
    congr 2; omega
  have e2 : max2V (.int .i64 1) (.int .i64 (min n 262144)) = some (.int .i64 (newN n).toNat) := by
    show some (Value.int .i64 (if min n 262144 > 1 then min n 262144 else 1)) = _
    congr 2
    unfold newN
    omega
  have hN : 1 ≤ (newN n).toNat ∧ (newN n).toNat ≤ 262144 := by unfold newN; omega
  have hf := (new_wf n).2.1
  have hn0 : newN n = (newN n).toNat := by omega
  repeat (with_reducible first | refine vP_so ?_ | refine vB_t ?_ | refine vB_f ?_ | refine vP_to (by simp (disch := omega) only [gdW_true, gdW_false, gB_true, gB_false, gB_undef, pickV_true, pickV_false, Bool.not_true, Bool.not_false, Option.map_some, bin_add, bin_sub, bin_mul, bin_quo, bin_rem, lss_t, lss_f, leq_t, leq_f, gtr_t, gtr_f, geq_t, geq_f, eqi_t, eqi_f, nei_t, nei_f, rem_uw, conv_ui, conv_iu, conv_ii, not_bool, nil_ptr, fa_mk, ptrV, len_mk, cap_mk, eq_ptr_nil, ne_ptr_nil, eq_nil_nil, ne_nil_nil, eq_slice_nil, eq_nil_slice, ia_1, e1, e2]; exact so_so) ?_ | refine vE_t (by simp only [gB_true, gB_false, gB_undef, Bool.not_true, Bool.not_false]) ?_ | refine vE_f (by simp only [gB_true, gB_false, gB_undef, Bool.not_true, Bool.not_false]) ?_)
  generalize (newN n).toNat = N at *
  refine ms_SG bE (z := false) hh rfl rfl (by omega) (by omega) fun v8 h1 hh1 => ?_
  have eb : (bldV #[.slice none 0 0] [(0, 1, v8)]).map Value.agg = some (.agg #[v8]) := by
    rcases SG_elim bE hh1 with ⟨rfl, _⟩ | ⟨r, cap, pre, post, rfl, _⟩ <;> rfl
  repeat (with_reducible first | refine vP_so ?_ | refine vB_t ?_ | refine vB_f ?_ | refine vP_to (by simp (disch := omega) only [gdW_true, gdW_false, gB_true, gB_false, gB_undef, pickV_true, pickV_false, Bool.not_true, Bool.not_false, Option.map_some, bin_add, bin_sub, bin_mul, bin_quo, bin_rem, lss_t, lss_f, leq_t, leq_f, gtr_t, gtr_f, geq_t, geq_f, eqi_t, eqi_f, nei_t, nei_f, rem_uw, conv_ui, conv_iu, conv_ii, not_bool, nil_ptr, fa_mk, ptrV, len_mk, cap_mk, eq_ptr_nil, ne_ptr_nil, eq_nil_nil, ne_nil_nil, eq_slice_nil, eq_nil_slice, ia_1, eb]; exact so_so) ?_ | refine vE_t (by simp only [gB_true, gB_false, gB_undef, Bool.not_true, Bool.not_false]) ?_ | refine vE_f (by simp only [gB_true, gB_false, gB_undef, Bool.not_true, Bool.not_false]) ?_)
  refine vA_new hh1 fun r h2 hh2 => ?_
  refine ⟨fun q ys h' => ∃ (i : Nat) (fl : List Bool), ys = [.int .i64 i] ∧ q = N - i ∧ 1 ≤ i ∧ i ≤ N ∧ fl.length = N ∧ (∀ x : Nat, x < N → (fl[x]? = some true ↔ 1 ≤ x ∧ x < i)) ∧ (pt r (.cells #[v8] 58 (0, 0)) * (SG bE 4 v8 fl * F)) h',
    ⟨_, 1, List.replicate N false, rfl, rfl, by omega, by omega, List.length_replicate, fun x hx => ⟨fun q => ?_, fun q => by omega⟩, hh2⟩, ?_⟩
  · rw [List.getElem?_replicate] at q; split at q <;> simp at q
  rintro q v4 h3 ⟨i, fl, hys, rfl, hi1, hi2, hfl, hff, hh3⟩ _
  obtain rfl : v4 = .int .i64 i := by simpa using hys
  have hS : (SG bE 4 v8 fl * (pt r (.cells #[v8] 58 (0, 0)) * F)) h3 := asr (by ac_rfl) hh3
  have hlen := SG_len bE hS
  by_cases hil : i < N
  · obtain ⟨p, g1, _, g3⟩ := el1 hS (List.getElem?_eq_getElem (show i < fl.length by omega)) .i64
    repeat (with_reducible first | refine vP_so ?_ | refine vB_t ?_ | refine vB_f ?_ | refine vP_to (by simp (disch := omega) only [gdW_true, gdW_false, gB_true, gB_false, gB_undef, pickV_true, pickV_false, Bool.not_true, Bool.not_false, Option.map_some, bin_add, bin_sub, bin_mul, bin_quo, bin_rem, lss_t, lss_f, leq_t, leq_f, gtr_t, gtr_f, geq_t, geq_f, eqi_t, eqi_f, nei_t, nei_f, rem_uw, conv_ui, conv_iu, conv_ii, not_bool, nil_ptr, fa_mk, ptrV, len_mk, cap_mk, eq_ptr_nil, ne_ptr_nil, eq_nil_nil, ne_nil_nil, eq_slice_nil, eq_nil_slice, ia_1, fl_ld hh3, hlen, g1]; exact so_so) ?_ | refine vE_t (by simp only [gB_true, gB_false, gB_undef, Bool.not_true, Bool.not_false]) ?_ | refine vE_f (by simp only [gB_true, gB_false, gB_undef, Bool.not_true, Bool.not_false]) ?_)
    refine g3 true _ fun h4 hh4 => ?_
    repeat (with_reducible first | refine vP_so ?_ | refine vB_t ?_ | refine vB_f ?_ | refine vP_to (by simp (disch := omega) only [gdW_true, gdW_false, gB_true, gB_false, gB_undef, pickV_true, pickV_false, Bool.not_true, Bool.not_false, Option.map_some, bin_add, bin_sub, bin_mul, bin_quo, bin_rem, lss_t, lss_f, leq_t, leq_f, gtr_t, gtr_f, geq_t, geq_f, eqi_t, eqi_f, nei_t, nei_f, rem_uw, conv_ui, conv_iu, conv_ii, not_bool, nil_ptr, fa_mk, ptrV, len_mk, cap_mk, eq_ptr_nil, ne_ptr_nil, eq_nil_nil, ne_nil_nil, eq_slice_nil, eq_nil_slice, ia_1]; exact so_so) ?_ | refine vE_t (by simp only [gB_true, gB_false, gB_undef, Bool.not_true, Bool.not_false]) ?_ | refine vE_f (by simp only [gB_true, gB_false, gB_undef, Bool.not_true, Bool.not_false]) ?_)
    refine ⟨N - (i + 1), by omega, i + 1, fl.set i true, by simp, rfl, by omega, by omega, by simpa using hfl, fun x hx => ?_, asr (by ac_rfl) hh4⟩
    rw [List.getElem?_set]
    by_cases hxi : i = x
    · rw [if_pos hxi, if_pos (by omega)]
      simp only [true_iff]; omega
    · rw [if_neg hxi, hff x hx]; omega
  · repeat (with_reducible first | refine vP_so ?_ | refine vB_t ?_ | refine vB_f ?_ | refine vP_to (by simp (disch := omega) only [gdW_true, gdW_false, gB_true, gB_false, gB_undef, pickV_true, pickV_false, Bool.not_true, Bool.not_false, Option.map_some, bin_add, bin_sub, bin_mul, bin_quo, bin_rem, lss_t, lss_f, leq_t, leq_f, gtr_t, gtr_f, geq_t, geq_f, eqi_t, eqi_f, nei_t, nei_f, rem_uw, conv_ui, conv_iu, conv_ii, not_bool, nil_ptr, fa_mk, ptrV, len_mk, cap_mk, eq_ptr_nil, ne_ptr_nil, eq_nil_nil, ne_nil_nil, eq_slice_nil, eq_nil_slice, ia_1, fl_ld hh3, hlen]; exact so_so) ?_ | refine vE_t (by simp only [gB_true, gB_false, gB_undef, Bool.not_true, Bool.not_false]) ?_ | refine vE_f (by simp only [gB_true, gB_false, gB_undef, Bool.not_true, Bool.not_false]) ?_)
    refine hK r h3 (FLs_intro hfl (fun x hx => ?_) hh3)
    rw [hff x hx, hf]
    omega

theorem use_rruns {b n : Nat} {l : List Run} {F : Asrt} {K : Value → Hp → Prop} {h : Hp} (hw : WF n l) (hn : n ≤ 262144) (hh : (FLs b n l * (F * tt)) h)
    (hK : ∀ v h', (SG enc2 34 v l * (FLs b n l * (F * tt))) h' → K v h') : CallH Try.prog 19 #[rv b] K h := by
  refine C19 ?_
  unfold D19
  obtain ⟨sv, fl, hfl, hff, hp⟩ := FLs_elim hh
  have hfr0 : ∀ x, fr l x → 0 < x ∧ x < n := fr_lo hw
  refine ⟨fun q ys h' => ∃ (i : Nat) (v3 : Value) (out : List Run), ys = [.int .i64 i, v3] ∧ q = n - i ∧ i ≤ n ∧ WF i out ∧ (∀ x, fr out x ↔ fr l x ∧ x < i) ∧ (SG enc2 34 v3 out * (pt b (.cells #[sv] 58 (0, 0)) * (SG bE 4 sv fl * (F * tt)))) h',
    ⟨_, 0, .slice none 0 0, [], rfl, rfl, by omega, trivial, fun x => ⟨fun q => q.elim, fun q => by have := hfr0 x q.1; omega⟩, SG_nil enc2 hp⟩, ?_⟩
  rintro q v4 v3 h1 ⟨i, v3', out, hys, rfl, hi, hwo, hfo, hh1⟩ _
  obtain ⟨rfl, rfl⟩ : v4 = .int .i64 i ∧ v3 = v3' := by simpa using hys
  have hP : (pt b (.cells #[sv] 58 (0, 0)) * (SG enc2 34 v3 out * (SG bE 4 sv fl * (F * tt)))) h1 := asr (by ac_rfl) hh1
  have hS : (SG bE 4 sv fl * (SG enc2 34 v3 out * (pt b (.cells #[sv] 58 (0, 0)) * (F * tt)))) h1 := asr (by ac_rfl) hh1
  have hlen := SG_len bE hS
  have holen := SG_len enc2 hh1
  have hwl := WF_len hwo (by omega)
  by_cases hil : i < n
  · obtain ⟨p, g1, g2, _⟩ := el1 hS (List.getElem?_eq_getElem (show i < fl.length by omega)) .i64
    have hfi := hff i hil
    rw [List.getElem?_eq_getElem (show i < fl.length by omega)] at hfi
    generalize fl[i] = bi at *
    repeat (with_reducible first | refine vP_so ?_ | refine vB_t ?_ | refine vB_f ?_ | refine vP_to (by simp (disch := omega) only [gdW_true, gdW_false, gB_true, gB_false, gB_undef, pickV_true, pickV_false, Bool.not_true, Bool.not_false, Option.map_some, bin_add, bin_sub, bin_mul, bin_quo, bin_rem, lss_t, lss_f, leq_t, leq_f, gtr_t, gtr_f, geq_t, geq_f, eqi_t, eqi_f, nei_t, nei_f, rem_uw, conv_ui, conv_iu, conv_ii, not_bool, nil_ptr, fa_mk, ptrV, len_mk, cap_mk, eq_ptr_nil, ne_ptr_nil, eq_nil_nil, ne_nil_nil, eq_slice_nil, eq_nil_slice, ia_1, fl_ld hP, hlen]; exact so_so) ?_ | refine vE_t (by simp only [gB_true, gB_false, gB_undef, Bool.not_true, Bool.not_false]) ?_ | refine vE_f (by simp only [gB_true, gB_false, gB_undef, Bool.not_true, Bool.not_false]) ?_)
    intro J2 hJ2
    have hJ : ∀ v' out' h', WF ((i : Int) + 1) out' → (∀ x, fr out' x ↔ fr l x ∧ x < (i : Int) + 1) → (SG enc2 34 v' out' * (pt b (.cells #[sv] 58 (0, 0)) * (SG bE 4 sv fl * (F * tt)))) h' → J2 [v'] h' := fun v' out' h' a1 a2 a3 => by
      refine hJ2 _ _ fun _ => ?_
      repeat (with_reducible first | refine vP_so ?_ | refine vB_t ?_ | refine vB_f ?_ | refine vP_to (by simp (disch := omega) only [gdW_true, gdW_false, gB_true, gB_false, gB_undef, pickV_true, pickV_false, Bool.not_true, Bool.not_false, Option.map_some, bin_add, bin_sub, bin_mul, bin_quo, bin_rem, lss_t, lss_f, leq_t, leq_f, gtr_t, gtr_f, geq_t, geq_f, eqi_t, eqi_f, nei_t, nei_f, rem_uw, conv_ui, conv_iu, conv_ii, not_bool, nil_ptr, fa_mk, ptrV, len_mk, cap_mk, eq_ptr_nil, ne_ptr_nil, eq_nil_nil, ne_nil_nil, eq_slice_nil, eq_nil_slice, ia_1]; exact so_so) ?_ | refine vE_t (by simp only [gB_true, gB_false, gB_undef, Bool.not_true, Bool.not_false]) ?_ | refine vE_f (by simp only [gB_true, gB_false, gB_undef, Bool.not_true, Bool.not_false]) ?_)
      exact ⟨n - (i + 1), by omega, i + 1, v', out', rfl, rfl, by omega, by simpa using a1, by simpa using a2, a3⟩
    cases bi with
    | false =>
      repeat (with_reducible first | refine vP_so ?_ | refine vB_t ?_ | refine vB_f ?_ | refine vP_to (by simp (disch := omega) only [gdW_true, gdW_false, gB_true, gB_false, gB_undef, pickV_true, pickV_false, Bool.not_true, Bool.not_false, Option.map_some, bin_add, bin_sub, bin_mul, bin_quo, bin_rem, lss_t, lss_f, leq_t, leq_f, gtr_t, gtr_f, geq_t, geq_f, eqi_t, eqi_f, nei_t, nei_f, rem_uw, conv_ui, conv_iu, conv_ii, not_bool, nil_ptr, fa_mk, ptrV, len_mk, cap_mk, eq_ptr_nil, ne_ptr_nil, eq_nil_nil, ne_nil_nil, eq_slice_nil, eq_nil_slice, ia_1, fl_ld hP, hlen, g1, g2]; exact so_so) ?_ | refine vE_t (by simp only [gB_true, gB_false, gB_undef, Bool.not_true, Bool.not_false]) ?_ | refine vE_f (by simp only [gB_true, gB_false, gB_undef, Bool.not_true, Bool.not_false]) ?_)
      refine hJ v3 out h1 (WFf_up hwo) (fun x => ?_) hh1
      rw [hfo]
      constructor
      · exact fun h => ⟨h.1, by omega⟩
      · rintro ⟨h1, h2⟩
        refine ⟨h1, ?_⟩
        rcases Int.lt_or_le x i with h3 | h3
        · exact h3
        · obtain rfl : x = i := by omega
          have := hfi.2 h1; simp at this
    | true =>
      have hi1 : fr l i := hfi.1 rfl
      have hipos := hfr0 _ hi1
      have hfo' : ∀ out', (∀ x, fr out' x ↔ fr out x ∨ x = i) → ∀ x, fr out' x ↔ fr l x ∧ x < (i : Int) + 1 := fun out' h x => by
        rw [h, hfo]
        constructor
        · rintro (h1 | rfl)
          · exact ⟨h1.1, by omega⟩
          · exact ⟨hi1, by omega⟩
        · rintro ⟨h1, h2⟩
          rcases Int.lt_or_le x i with h3 | h3
          · exact .inl ⟨h1, h3⟩
          · exact .inr (by omega)
      obtain ⟨out', hw', hf', _, hcase⟩ := grow_t hwo (by omega)
      have hfp := hff (i - 1) (by omega)
      obtain ⟨p', q1, q2, _⟩ := el1 hS (List.getElem?_eq_getElem (show i - 1 < fl.length by omega)) .i64
      rw [show ((i - 1 : Nat) : Int) = (i : Int) - 1 by omega] at q1 hfp
      rw [List.getElem?_eq_getElem (show i - 1 < fl.length by omega)] at hfp
      generalize fl[i - 1] = bp at *
      rcases hcase with ⟨hfr, init, r, rfl, rfl, hr0, hri⟩ | ⟨hfr, rfl⟩
      · obtain rfl : bp = true := by simpa using hfp.2 ((hfo _).1 hfr).1
        have hl1 : (init ++ [r]).length = init.length + 1 := by simp
        obtain ⟨pb, po, e1, e2, _, _, e5⟩ := elG enc2 (i := init.length) (a := r) hh1 (by simp) .i64
        have e1 : iaS 2 v3 (.int .i64 init.length) = some (.pointer (some ⟨pb, po, none⟩)) := e1
        have e2 := e2 1 _ rfl
        have el : ((init ++ [r]).length : Int) - 1 = init.length := by omega
        repeat (with_reducible first | refine vP_so ?_ | refine vB_t ?_ | refine vB_f ?_ | refine vP_to (by simp (disch := omega) only [gdW_true, gdW_false, gB_true, gB_false, gB_undef, pickV_true, pickV_false, Bool.not_true, Bool.not_false, Option.map_some, bin_add, bin_sub, bin_mul, bin_quo, bin_rem, lss_t, lss_f, leq_t, leq_f, gtr_t, gtr_f, geq_t, geq_f, eqi_t, eqi_f, nei_t, nei_f, rem_uw, conv_ui, conv_iu, conv_ii, not_bool, nil_ptr, fa_mk, ptrV, len_mk, cap_mk, eq_ptr_nil, ne_ptr_nil, eq_nil_nil, ne_nil_nil, eq_slice_nil, eq_nil_slice, ia_1, fl_ld hP, hlen, g1, g2, q1, q2, holen, el, e1, e2]; exact so_so) ?_ | refine vE_t (by simp only [gB_true, gB_false, gB_undef, Bool.not_true, Bool.not_false]) ?_ | refine vE_f (by simp only [gB_true, gB_false, gB_undef, Bool.not_true, Bool.not_false]) ?_)
        refine e5 1 (.int .i64 (r.2 + 1)) (r.1, r.2 + 1) _ (by decide) rfl rfl fun h3 hh3 => ?_
        refine hJ v3 _ h3 hw' (hfo' _ hf') ?_
        rw [List.set_append_right _ _ (Nat.le_refl _), Nat.sub_self] at hh3
        exact hh3
      · obtain rfl : bp = false := by
          cases bp with
          | false => rfl
          | true => exact (hfr ((hfo _).2 ⟨hfp.1 rfl, by omega⟩)).elim
        have eb : bldV #[.int .i64 0, .int .i64 0] [(0, 1, .int .i64 i), (1, 1, .int .i64 1)] = some #[.int .i64 i, .int .i64 1] := rfl
        have eb2 : bldV #[.int .i64 0, .int .i64 0] [(0, 2, .agg #[.int .i64 i, .int .i64 1])] = some #[.int .i64 i, .int .i64 1] := rfl
        repeat (with_reducible first | refine vP_so ?_ | refine vB_t ?_ | refine vB_f ?_ | refine vP_to (by simp (disch := omega) only [gdW_true, gdW_false, gB_true, gB_false, gB_undef, pickV_true, pickV_false, Bool.not_true, Bool.not_false, Option.map_some, bin_add, bin_sub, bin_mul, bin_quo, bin_rem, lss_t, lss_f, leq_t, leq_f, gtr_t, gtr_f, geq_t, geq_f, eqi_t, eqi_f, nei_t, nei_f, rem_uw, conv_ui, conv_iu, conv_ii, not_bool, nil_ptr, fa_mk, ptrV, len_mk, cap_mk, eq_ptr_nil, ne_ptr_nil, eq_nil_nil, ne_nil_nil, eq_slice_nil, eq_nil_slice, ia_1, fl_ld hP, hlen, g1, g2, q1, q2, eb]; exact so_so) ?_ | refine vE_t (by simp only [gB_true, gB_false, gB_undef, Bool.not_true, Bool.not_false]) ?_ | refine vE_f (by simp only [gB_true, gB_false, gB_undef, Bool.not_true, Bool.not_false]) ?_)
        rw [eb2]
        refine vA_new (f := fun r => .slice (some ⟨r, 0, none⟩) 1 1) hh1 fun r9 h9 hh9 => ?_
        refine ap_new enc2 (l := out) (m := [((i : Int), (1 : Int))]) (F := pt b (.cells #[sv] 58 (0, 0)) * (SG bE 4 sv fl * F)) elRun2 rfl rfl niRuns rfl (by omega) (asr (by ac_rfl) hh9) rfl rfl (by simp only [List.length_singleton]; omega) fun v48 h10 hh10 => ?_
        exact hJ v48 _ h10 hw' (hfo' _ hf') (asr (by ac_rfl) hh10)
  · obtain rfl : i = n := by omega
    repeat (with_reducible first | refine vP_so ?_ | refine vB_t ?_ | refine vB_f ?_ | refine vP_to (by simp (disch := omega) only [gdW_true, gdW_false, gB_true, gB_false, gB_undef, pickV_true, pickV_false, Bool.not_true, Bool.not_false, Option.map_some, bin_add, bin_sub, bin_mul, bin_quo, bin_rem, lss_t, lss_f, leq_t, leq_f, gtr_t, gtr_f, geq_t, geq_f, eqi_t, eqi_f, nei_t, nei_f, rem_uw, conv_ui, conv_iu, conv_ii, not_bool, nil_ptr, fa_mk, ptrV, len_mk, cap_mk, eq_ptr_nil, ne_ptr_nil, eq_nil_nil, ne_nil_nil, eq_slice_nil, eq_nil_slice, ia_1, fl_ld hP, hlen]; exact so_so) ?_ | refine vE_t (by simp only [gB_true, gB_false, gB_undef, Bool.not_true, Bool.not_false]) ?_ | refine vE_f (by simp only [gB_true, gB_false, gB_undef, Bool.not_true, Bool.not_false]) ?_)
    obtain rfl : out = l := WFf_unique hwo hw fun x => by rw [hfo]; exact ⟨fun h => h.1, fun h => ⟨h, (hfr0 x h).2⟩⟩
    refine hK v3 h1 ?_
    have : (FLs b i out * (SG enc2 34 v3 out * (F * tt))) h1 := FLs_intro hfl hff (asr (by ac_rfl) hh1)
    exact asr (by ac_rfl) this

theorem use_rleft {b n : Nat} {l : List Run} {F : Asrt} {K : Value → Hp → Prop} {h : Hp} (hw : WF n l) (hn : n ≤ 262144) (hh : (FLs b n l * F) h)
    (hK : ∀ h', (FLs b n l * F) h' → K (.int .i64 (leftS l)) h') : CallH Try.prog 20 #[rv b] K h := by
  refine C20 ?_
  unfold D20
  obtain ⟨sv, fl, hfl, hff, hp⟩ := FLs_elim hh
  have hfr0 : ∀ x, fr l x → 0 < x ∧ x < n := fr_lo hw
  refine ⟨fun q ys h' => ∃ (i : Nat) (out : List Run), ys = [.int .i64 i, .int .i64 (leftS out)] ∧ q = n - i ∧ i ≤ n ∧ WF i out ∧ (∀ x, fr out x ↔ fr l x ∧ x < i) ∧ h' = h,
    ⟨_, 0, [], rfl, rfl, by omega, trivial, fun x => ⟨fun q => q.elim, fun q => by have := hfr0 x q.1; omega⟩, rfl⟩, ?_⟩
  rintro q v4 v3 h1 ⟨i, out, hys, rfl, hi, hwo, hfo, rfl⟩ _
  obtain ⟨rfl, rfl⟩ : v4 = .int .i64 i ∧ v3 = .int .i64 (leftS out) := by simpa using hys
  have hS : (SG bE 4 sv fl * (pt b (.cells #[sv] 58 (0, 0)) * F)) h1 := asr (by ac_rfl) hp
  have hlen := SG_len bE hS
  have hwl := WF_len hwo (by omega)
  by_cases hil : i < n
  · obtain ⟨p, g1, g2, _⟩ := el1 hS (List.getElem?_eq_getElem (show i < fl.length by omega)) .i64
    have hfi := hff i hil
    rw [List.getElem?_eq_getElem (show i < fl.length by omega)] at hfi
    generalize fl[i] = bi at *
    repeat (with_reducible first | refine vP_so ?_ | refine vB_t ?_ | refine vB_f ?_ | refine vP_to (by simp (disch := omega) only [gdW_true, gdW_false, gB_true, gB_false, gB_undef, pickV_true, pickV_false, Bool.not_true, Bool.not_false, Option.map_some, bin_add, bin_sub, bin_mul, bin_quo, bin_rem, lss_t, lss_f, leq_t, leq_f, gtr_t, gtr_f, geq_t, geq_f, eqi_t, eqi_f, nei_t, nei_f, rem_uw, conv_ui, conv_iu, conv_ii, not_bool, nil_ptr, fa_mk, ptrV, len_mk, cap_mk, eq_ptr_nil, ne_ptr_nil, eq_nil_nil, ne_nil_nil, eq_slice_nil, eq_nil_slice, ia_1, fl_ld hp, hlen]; exact so_so) ?_ | refine vE_t (by simp only [gB_true, gB_false, gB_undef, Bool.not_true, Bool.not_false]) ?_ | refine vE_f (by simp only [gB_true, gB_false, gB_undef, Bool.not_true, Bool.not_false]) ?_)
    intro J2 hJ2
    have hJ : ∀ out', WF ((i : Int) + 1) out' → (∀ x, fr out' x ↔ fr l x ∧ x < (i : Int) + 1) → J2 [.int .i64 (leftS out')] h1 := fun out' a1 a2 => by
      refine hJ2 _ _ fun _ => ?_
      repeat (with_reducible first | refine vP_so ?_ | refine vB_t ?_ | refine vB_f ?_ | refine vP_to (by simp (disch := omega) only [gdW_true, gdW_false, gB_true, gB_false, gB_undef, pickV_true, pickV_false, Bool.not_true, Bool.not_false, Option.map_some, bin_add, bin_sub, bin_mul, bin_quo, bin_rem, lss_t, lss_f, leq_t, leq_f, gtr_t, gtr_f, geq_t, geq_f, eqi_t, eqi_f, nei_t, nei_f, rem_uw, conv_ui, conv_iu, conv_ii, not_bool, nil_ptr, fa_mk, ptrV, len_mk, cap_mk, eq_ptr_nil, ne_ptr_nil, eq_nil_nil, ne_nil_nil, eq_slice_nil, eq_nil_slice, ia_1]; exact so_so) ?_ | refine vE_t (by simp only [gB_true, gB_false, gB_undef, Bool.not_true, Bool.not_false]) ?_ | refine vE_f (by simp only [gB_true, gB_false, gB_undef, Bool.not_true, Bool.not_false]) ?_)
      exact ⟨n - (i + 1), by omega, i + 1, out', rfl, rfl, by omega, by simpa using a1, by simpa using a2, rfl⟩
    cases bi with
    | false =>
      repeat (with_reducible first | refine vP_so ?_ | refine vB_t ?_ | refine vB_f ?_ | refine vP_to (by simp (disch := omega) only [gdW_true, gdW_false, gB_true, gB_false, gB_undef, pickV_true, pickV_false, Bool.not_true, Bool.not_false, Option.map_some, bin_add, bin_sub, bin_mul, bin_quo, bin_rem, lss_t, lss_f, leq_t, leq_f, gtr_t, gtr_f, geq_t, geq_f, eqi_t, eqi_f, nei_t, nei_f, rem_uw, conv_ui, conv_iu, conv_ii, not_bool, nil_ptr, fa_mk, ptrV, len_mk, cap_mk, eq_ptr_nil, ne_ptr_nil, eq_nil_nil, ne_nil_nil, eq_slice_nil, eq_nil_slice, ia_1, fl_ld hp, hlen, g1, g2]; exact so_so) ?_ | refine vE_t (by simp only [gB_true, gB_false, gB_undef, Bool.not_true, Bool.not_false]) ?_ | refine vE_f (by simp only [gB_true, gB_false, gB_undef, Bool.not_true, Bool.not_false]) ?_)
      refine hJ out (WFf_up hwo) (fun x => ?_)
      rw [hfo]
      constructor
      · exact fun h => ⟨h.1, by omega⟩
      · rintro ⟨h1, h2⟩
        refine ⟨h1, ?_⟩
        rcases Int.lt_or_le x i with h3 | h3
        · exact h3
        · obtain rfl : x = i := by omega
          have := hfi.2 h1; simp at this
    | true =>
      have hi1 : fr l i := hfi.1 rfl
      have hipos := hfr0 _ hi1
      obtain ⟨out', hw', hf', hlo, _⟩ := grow_t hwo (by omega)
      repeat (with_reducible first | refine vP_so ?_ | refine vB_t ?_ | refine vB_f ?_ | refine vP_to (by simp (disch := omega) only [gdW_true, gdW_false, gB_true, gB_false, gB_undef, pickV_true, pickV_false, Bool.not_true, Bool.not_false, Option.map_some, bin_add, bin_sub, bin_mul, bin_quo, bin_rem, lss_t, lss_f, leq_t, leq_f, gtr_t, gtr_f, geq_t, geq_f, eqi_t, eqi_f, nei_t, nei_f, rem_uw, conv_ui, conv_iu, conv_ii, not_bool, nil_ptr, fa_mk, ptrV, len_mk, cap_mk, eq_ptr_nil, ne_ptr_nil, eq_nil_nil, ne_nil_nil, eq_slice_nil, eq_nil_slice, ia_1, fl_ld hp, hlen, g1, g2]; exact so_so) ?_ | refine vE_t (by simp only [gB_true, gB_false, gB_undef, Bool.not_true, Bool.not_false]) ?_ | refine vE_f (by simp only [gB_true, gB_false, gB_undef, Bool.not_true, Bool.not_false]) ?_)
      rw [← hlo]
      refine hJ out' hw' fun x => ?_
      rw [hf', hfo]
      constructor
      · rintro (h1 | rfl)
        · exact ⟨h1.1, by omega⟩
        · exact ⟨hi1, by omega⟩
      · rintro ⟨h1, h2⟩
        rcases Int.lt_or_le x i with h3 | h3
        · exact .inl ⟨h1, h3⟩
        · exact .inr (by omega)
  · obtain rfl : i = n := by omega
    repeat (with_reducible first | refine vP_so ?_ | refine vB_t ?_ | refine vB_f ?_ | refine vP_to (by simp (disch := omega) only [gdW_true, gdW_false, gB_true, gB_false, gB_undef, pickV_true, pickV_false, Bool.not_true, Bool.not_false, Option.map_some, bin_add, bin_sub, bin_mul, bin_quo, bin_rem, lss_t, lss_f, leq_t, leq_f, gtr_t, gtr_f, geq_t, geq_f, eqi_t, eqi_f, nei_t, nei_f, rem_uw, conv_ui, conv_iu, conv_ii, not_bool, nil_ptr, fa_mk, ptrV, len_mk, cap_mk, eq_ptr_nil, ne_ptr_nil, eq_nil_nil, ne_nil_nil, eq_slice_nil, eq_nil_slice, ia_1, fl_ld hp, hlen]; exact so_so) ?_ | refine vE_t (by simp only [gB_true, gB_false, gB_undef, Bool.not_true, Bool.not_false]) ?_ | refine vE_f (by simp only [gB_true, gB_false, gB_undef, Bool.not_true, Bool.not_false]) ?_)
    obtain rfl : out = l := WFf_unique hwo hw fun x => by rw [hfo]; exact ⟨fun h => h.1, fun h => ⟨h, (hfr0 x h).2⟩⟩
    exact hK h1 hh

end Go.Proofs
