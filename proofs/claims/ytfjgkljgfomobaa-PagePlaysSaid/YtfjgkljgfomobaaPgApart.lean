/-
  PageApart returns true.
-/
import Derived.Test.YtfjgkljgfomobaaPgMerges
set_option linter.unusedVariables false
set_option linter.unusedSimpArgs false
namespace Go.Proofs
open Go.Sl

/-- What is handed out: within bounds, not free, apart. -/
structure Held (n : Int) (l got : List Run) : Prop where
  rng : ∀ r ∈ got, 1 ≤ r.1 ∧ 1 ≤ r.2 ∧ r.1 + r.2 ≤ n
  off : ∀ r ∈ got, ∀ x, r.1 ≤ x → x < r.1 + r.2 → ¬ fr l x
  dis : got.Pairwise fun r s => r.1 + r.2 ≤ s.1 ∨ s.1 + s.2 ≤ r.1

theorem Held_nil (n : Int) (l : List Run) : Held n l [] := ⟨by simp, by simp, by simp⟩

theorem Held_add {n k : Int} {l l' got : List Run} {b : Run} (hw : WF n l) (h : Held n l got) (hb : b ∈ l) (hk : 1 ≤ k) (hkb : k ≤ b.2) (hf : ∀ x, fr l' x ↔ fr l x ∧ ¬ (b.1 ≤ x ∧ x < b.1 + k)) : Held n l' (got ++ [(b.1, k)]) := by
  have hm := WFf_mem hw (by omega) b hb
  refine ⟨fun r hr => ?_, fun r hr x h1 h2 hx => ?_, ?_⟩
  · rw [List.mem_append, List.mem_singleton] at hr
    rcases hr with hr | rfl
    · exact h.rng r hr
    · exact ⟨hm.1, hk, by simp only; omega⟩
  · rw [hf] at hx
    rw [List.mem_append, List.mem_singleton] at hr
    rcases hr with hr | rfl
    · exact h.off r hr x h1 h2 hx.1
    · exact hx.2 ⟨h1, h2⟩
  · rw [List.pairwise_append]
    refine ⟨h.dis, by simp, fun r hr s hs => ?_⟩
    rw [List.mem_singleton] at hs
    subst hs
    simp only
    rcases Int.le_total r.1 b.1 with h1 | h1
    · rcases Int.lt_or_le b.1 (r.1 + r.2) with h2 | h2
      · exact (h.off r hr b.1 h1 h2 (fr_mem.2 ⟨b, hb, by omega, by omega⟩)).elim
      · exact .inl h2
    · rcases Int.lt_or_le r.1 (b.1 + k) with h2 | h2
      · exact (h.off r hr r.1 (by omega) (by have := h.rng r hr; omega) (fr_mem.2 ⟨b, hb, by omega, by omega⟩)).elim
      · exact .inr h2

theorem Held_free {n : Int} {l l' A B : List Run} {r : Run} (h : Held n l (A ++ r :: B)) (hf : ∀ x, fr l' x ↔ fr l x ∨ (r.1 ≤ x ∧ x < r.1 + r.2)) : Held n l' (A ++ B) := by
  have hsub : ∀ s ∈ A ++ B, s ∈ A ++ r :: B := fun s hs => by
    rw [List.mem_append] at hs ⊢
    rcases hs with hs | hs
    · exact .inl hs
    · exact .inr (List.mem_cons_of_mem _ hs)
  have hd := h.dis
  rw [List.pairwise_append, List.pairwise_cons] at hd
  obtain ⟨d1, ⟨d2, d3⟩, d4⟩ := hd
  refine ⟨fun s hs => h.rng s (hsub s hs), fun s hs x h1 h2 hx => ?_, ?_⟩
  · rw [hf] at hx
    rcases hx with hx | hx
    · exact h.off s (hsub s hs) x h1 h2 hx
    · rw [List.mem_append] at hs
      rcases hs with hs | hs
      · have := d4 s hs r (by simp); omega
      · have := d2 s hs; omega
  · rw [List.pairwise_append]
    exact ⟨d1, d3, fun a ha b hb => d4 a ha b (List.mem_cons_of_mem _ hb)⟩

/-- A run that is held is taken back. -/
theorem use_back {a : Nat} {n : Int} {l : List Run} {r : Run} {A B : List Run} {F : Asrt} {K : Value → Hp → Prop} {h : Hp} (hw : WF n l) (hn : 0 ≤ n ∧ n ≤ 262144) (hd : Held n l (A ++ r :: B)) (hh : (PG a n l * F) h)
    (hK : ∀ l' h', WF n l' → (∀ x, fr l' x ↔ fr l x ∨ (r.1 ≤ x ∧ x < r.1 + r.2)) → leftS l' = leftS l + r.2 → (PG a n l' * F) h' → K (.int .i64 0) h') : CallH Try.prog 11 #[pv a, .int .i64 r.1, .int .i64 r.2] K h := by
  have hr := hd.rng r (by simp)
  refine use_free hw hn (by omega) hh fun v l' h' hv w' hh' => ?_
  rcases hv with ⟨hq, _⟩ | ⟨_, ⟨z, z1, z2, z3⟩, _⟩ | ⟨_, _, rfl, hf, hl⟩
  · exfalso; unfold badF at hq; omega
  · exact (hd.off r (by simp) z z1 z2 z3).elim
  · exact hK l' h' w' hf hl hh'

theorem leftS_app (A B : List Run) : leftS (A ++ B) = leftS A + leftS B := by simp [leftS]

theorem enc2_agg (r : Run) : (Value.agg (enc2.enc r).toArray) = run r := rfl

theorem elRun2 : ElOk Try.prog 29 34 2 16 := elRun

theorem apart_tr (g : Hp) (sv : Value) (xs : List Int) (step : Int) (hx : IntsAt g sv xs) : Tr Try.prog 5 #[sv, .int .i64 step] (own g) (fun v => pr (v = .bool true) * own g) := by
  refine Tr.of fun h hh => C5 ?_
  unfold D5
  have hlt := hx.lt
  by_cases h1 : 40 < xs.length
  · repeat (with_reducible first | refine vP_so ?_ | refine vB_t ?_ | refine vB_f ?_ | refine vP_to (by simp (disch := omega) only [gdW_true, gdW_false, gB_true, gB_false, gB_undef, pickV_true, pickV_false, Bool.not_true, Bool.not_false, Option.map_some, bin_add, bin_sub, bin_mul, bin_quo, bin_rem, lss_t, lss_f, leq_t, leq_f, gtr_t, gtr_f, geq_t, geq_f, eqi_t, eqi_f, nei_t, nei_f, rem_uw, conv_ui, conv_iu, conv_ii, not_bool, nil_ptr, fa_mk, ptrV, len_mk, cap_mk, eq_ptr_nil, ne_ptr_nil, eq_nil_nil, ne_nil_nil, eq_slice_nil, eq_nil_slice, ia_1, hx.len]; exact so_so) ?_ | refine vE_t (by simp only [gB_true, gB_false, gB_undef, Bool.not_true, Bool.not_false]) ?_ | refine vE_f (by simp only [gB_true, gB_false, gB_undef, Bool.not_true, Bool.not_false]) ?_)
    exact told_use hh fun h' q => ret (p := Value.bool true = Value.bool true) rfl q
  repeat (with_reducible first | refine vP_so ?_ | refine vB_t ?_ | refine vB_f ?_ | refine vP_to (by simp (disch := omega) only [gdW_true, gdW_false, gB_true, gB_false, gB_undef, pickV_true, pickV_false, Bool.not_true, Bool.not_false, Option.map_some, bin_add, bin_sub, bin_mul, bin_quo, bin_rem, lss_t, lss_f, leq_t, leq_f, gtr_t, gtr_f, geq_t, geq_f, eqi_t, eqi_f, nei_t, nei_f, rem_uw, conv_ui, conv_iu, conv_ii, not_bool, nil_ptr, fa_mk, ptrV, len_mk, cap_mk, eq_ptr_nil, ne_ptr_nil, eq_nil_nil, ne_nil_nil, eq_slice_nil, eq_nil_slice, ia_1, hx.len]; exact so_so) ?_ | refine vE_t (by simp only [gB_true, gB_false, gB_undef, Bool.not_true, Bool.not_false]) ?_ | refine vE_f (by simp only [gB_true, gB_false, gB_undef, Bool.not_true, Bool.not_false]) ?_)
  refine use_new hh fun a h2 hh2 => ?_
  have e1 : newN 400 = 400 := by decide
  have e2 : newL 400 = [(1, 399)] := by decide
  rw [e1, e2] at hh2
  repeat (with_reducible first | refine vP_so ?_ | refine vB_t ?_ | refine vB_f ?_ | refine vP_to (by simp (disch := omega) only [gdW_true, gdW_false, gB_true, gB_false, gB_undef, pickV_true, pickV_false, Bool.not_true, Bool.not_false, Option.map_some, bin_add, bin_sub, bin_mul, bin_quo, bin_rem, lss_t, lss_f, leq_t, leq_f, gtr_t, gtr_f, geq_t, geq_f, eqi_t, eqi_f, nei_t, nei_f, rem_uw, conv_ui, conv_iu, conv_ii, not_bool, nil_ptr, fa_mk, ptrV, len_mk, cap_mk, eq_ptr_nil, ne_ptr_nil, eq_nil_nil, ne_nil_nil, eq_slice_nil, eq_nil_slice, ia_1, pv]; exact so_so) ?_ | refine vE_t (by simp only [gB_true, gB_false, gB_undef, Bool.not_true, Bool.not_false]) ?_ | refine vE_f (by simp only [gB_true, gB_false, gB_undef, Bool.not_true, Bool.not_false]) ?_)
  refine ms_SG bE (z := false) (n := 400) hh2 rfl rfl (by omega) (by omega) fun v25 h3 hh3 => ?_
  refine ⟨fun q ys h' => ∃ (i : Nat) (v7 : Value) (l got : List Run) (fl : List Bool) (T : Int), ys = [.int .i64 i, v7] ∧ q = xs.length - i ∧ i ≤ xs.length ∧ WF 400 l ∧ Held 400 l got ∧ leftS l + leftS got = 399 ∧ got.length ≤ i ∧
      fl.length = 400 ∧ (∀ x : Nat, fl[x]? = some true → ¬ fr l x) ∧ 0 ≤ T ∧ T ≤ 9 * i ∧ (∀ x, 1 + T ≤ x → x < 400 → fr l x) ∧ (PG a 400 l * (SG bE 4 v25 fl * (SG enc2 34 v7 got * (own g * tt)))) h',
    ⟨_, 0, .slice none 0 0, [(1, 399)], [], List.replicate 400 false, 0, rfl, rfl, by omega, WF_one 400 399 (by omega) (by omega), Held_nil _ _, rfl, Nat.le_refl 0, List.length_replicate, fun x q => ?_, by omega, by omega, fun x h1 h2 => .inl ⟨by simp only; omega, by simp only; omega⟩,
      asr (by ac_rfl) (SG_nil enc2 (E := 34) hh3)⟩, ?_⟩
  · rw [List.getElem?_replicate] at q; split at q <;> simp at q
  rintro q v8 v7 h4 ⟨i, v7', l, got, fl, T, hys, rfl, hi, hwf, hheld, hsum, hgl, hfl, hff, hT0, hT, hTf, hh4⟩ _
  obtain ⟨rfl, rfl⟩ : v8 = .int .i64 i ∧ v7 = v7' := by simpa using hys
  by_cases hil : i < xs.length
  · have hown : (own g * (PG a 400 l * (SG bE 4 v25 fl * (SG enc2 34 v7 got * tt)))) h4 := asr (by ac_rfl) hh4
    obtain ⟨p, f1, f2⟩ := hx.get i xs[i] .i64 (List.getElem?_eq_getElem hil)
    have f2 := own_ld1 hown f2
    generalize xs[i] = x at *
    have hn := urem_lt (x := x) (b := 9) (by omega)
    repeat (with_reducible first | refine vP_so ?_ | refine vB_t ?_ | refine vB_f ?_ | refine vP_to (by simp (disch := omega) only [gdW_true, gdW_false, gB_true, gB_false, gB_undef, pickV_true, pickV_false, Bool.not_true, Bool.not_false, Option.map_some, bin_add, bin_sub, bin_mul, bin_quo, bin_rem, lss_t, lss_f, leq_t, leq_f, gtr_t, gtr_f, geq_t, geq_f, eqi_t, eqi_f, nei_t, nei_f, rem_uw, conv_ui, conv_iu, conv_ii, not_bool, nil_ptr, fa_mk, ptrV, len_mk, cap_mk, eq_ptr_nil, ne_ptr_nil, eq_nil_nil, ne_nil_nil, eq_slice_nil, eq_nil_slice, ia_1, hx.len]; exact so_so) ?_ | refine vE_t (by simp only [gB_true, gB_false, gB_undef, Bool.not_true, Bool.not_false]) ?_ | refine vE_f (by simp only [gB_true, gB_false, gB_undef, Bool.not_true, Bool.not_false]) ?_)
    intro J2 hJ2
    have hJ : ∀ (v7' : Value) (l' got' : List Run) (fl' : List Bool) (T' : Int) (h' : Hp), WF 400 l' → Held 400 l' got' → leftS l' + leftS got' = 399 → got'.length ≤ i + 1 → fl'.length = 400 → (∀ x : Nat, fl'[x]? = some true → ¬ fr l' x) → 0 ≤ T' → T' ≤ 9 * (i + 1) → (∀ x, 1 + T' ≤ x → x < 400 → fr l' x) →
        (PG a 400 l' * (SG bE 4 v25 fl' * (SG enc2 34 v7' got' * (own g * tt)))) h' → J2 [v7'] h' := fun v7' l' got' fl' T' h' a1 a2 a3 a4 a5 a6 a7 a8 a9 a10 => by
      refine hJ2 _ _ fun _ => ?_
      repeat (with_reducible first | refine vP_so ?_ | refine vB_t ?_ | refine vB_f ?_ | refine vP_to (by simp (disch := omega) only [gdW_true, gdW_false, gB_true, gB_false, gB_undef, pickV_true, pickV_false, Bool.not_true, Bool.not_false, Option.map_some, bin_add, bin_sub, bin_mul, bin_quo, bin_rem, lss_t, lss_f, leq_t, leq_f, gtr_t, gtr_f, geq_t, geq_f, eqi_t, eqi_f, nei_t, nei_f, rem_uw, conv_ui, conv_iu, conv_ii, not_bool, nil_ptr, fa_mk, ptrV, len_mk, cap_mk, eq_ptr_nil, ne_ptr_nil, eq_nil_nil, ne_nil_nil, eq_slice_nil, eq_nil_slice, ia_1]; exact so_so) ?_ | refine vE_t (by simp only [gB_true, gB_false, gB_undef, Bool.not_true, Bool.not_false]) ?_ | refine vE_f (by simp only [gB_true, gB_false, gB_undef, Bool.not_true, Bool.not_false]) ?_)
      exact ⟨xs.length - (i + 1), by omega, i + 1, v7', l', got', fl', T', rfl, rfl, by omega, a1, a2, a3, a4, a5, a6, a7, by omega, a9, a10⟩
    repeat (with_reducible first | refine vP_so ?_ | refine vB_t ?_ | refine vB_f ?_ | refine vP_to (by simp (disch := omega) only [gdW_true, gdW_false, gB_true, gB_false, gB_undef, pickV_true, pickV_false, Bool.not_true, Bool.not_false, Option.map_some, bin_add, bin_sub, bin_mul, bin_quo, bin_rem, lss_t, lss_f, leq_t, leq_f, gtr_t, gtr_f, geq_t, geq_f, eqi_t, eqi_f, nei_t, nei_f, rem_uw, conv_ui, conv_iu, conv_ii, not_bool, nil_ptr, fa_mk, ptrV, len_mk, cap_mk, eq_ptr_nil, ne_ptr_nil, eq_nil_nil, ne_nil_nil, eq_slice_nil, eq_nil_slice, ia_1, hx.len, f1, f2, conv_u .i64 x]; exact so_so) ?_ | refine vE_t (by simp only [gB_true, gB_false, gB_undef, Bool.not_true, Bool.not_false]) ?_ | refine vE_f (by simp only [gB_true, gB_false, gB_undef, Bool.not_true, Bool.not_false]) ?_)
    have hw : 1 ≤ 1 + urem x 9 ∧ 1 + urem x 9 ≤ 9 := by omega
    generalize 1 + urem x 9 = k at *
    clear hn f1 f2 hown
    refine use_alloc hwf (by omega) (by omega) hh4 fun v l6 h6 hv w6 hh6 => ?_
    rcases hv with ⟨h, _⟩ | ⟨_, h, _⟩ | ⟨_, b, hb, hb2, _, rfl, hf6, hl6⟩
    · omega
    · obtain ⟨r, hr, r1, r2⟩ := fr_run (a := 1 + T) (b := 400) (by omega) hwf hTf
      have := h r hr; omega
    have hbm := WFf_mem hwf (by omega) b hb
    have hfb : ∀ x, b.1 ≤ x → x < b.1 + k → fr l x := fun x h1 h2 => fr_mem.2 ⟨b, hb, by omega, by omega⟩
    have hheld6 := Held_add hwf hheld hb hw.1 hb2 hf6
    have hT6 : ∀ x, 1 + (T + k) ≤ x → x < 400 → fr l6 x := fun x h1 h2 => by
      rw [hf6]
      refine ⟨hTf x (by omega) h2, fun h3 => fr_start hwf b hb (hTf _ (by omega) (by omega))⟩
    have hsum6 : leftS l6 + leftS (got ++ [(b.1, k)]) = 399 := by
      rw [leftS_app, hl6]
      simp only [leftS, List.map_cons, List.map_nil, List.sum_cons, List.sum_nil] at *
      omega
    repeat (with_reducible first | refine vP_so ?_ | refine vB_t ?_ | refine vB_f ?_ | refine vP_to (by simp (disch := omega) only [gdW_true, gdW_false, gB_true, gB_false, gB_undef, pickV_true, pickV_false, Bool.not_true, Bool.not_false, Option.map_some, bin_add, bin_sub, bin_mul, bin_quo, bin_rem, lss_t, lss_f, leq_t, leq_f, gtr_t, gtr_f, geq_t, geq_f, eqi_t, eqi_f, nei_t, nei_f, rem_uw, conv_ui, conv_iu, conv_ii, not_bool, nil_ptr, fa_mk, ptrV, len_mk, cap_mk, eq_ptr_nil, ne_ptr_nil, eq_nil_nil, ne_nil_nil, eq_slice_nil, eq_nil_slice, ia_1, exV0, exV1]; exact so_so) ?_ | refine vE_t (by simp only [gB_true, gB_false, gB_undef, Bool.not_true, Bool.not_false]) ?_ | refine vE_f (by simp only [gB_true, gB_false, gB_undef, Bool.not_true, Bool.not_false]) ?_)
    refine ⟨fun q ys h' => ∃ (j : Nat) (fl' : List Bool), ys = [.int .i64 j] ∧ q = k.toNat - j ∧ (j : Int) ≤ k ∧ fl'.length = 400 ∧ (∀ x : Nat, fl'[x]? = some true → fl[x]? = some true ∨ (b.1 ≤ x ∧ (x : Int) < b.1 + j)) ∧ (PG a 400 l6 * (SG bE 4 v25 fl' * (SG enc2 34 v7 got * (own g * tt)))) h',
      ⟨_, 0, fl, rfl, rfl, by omega, hfl, fun x h => .inl h, hh6⟩, ?_⟩
    rintro q v12 h7 ⟨j, fl', hys, rfl, hj, hfl', hff', hh7⟩ _
    obtain rfl : v12 = .int .i64 j := by simpa using hys
    by_cases hjk : (j : Int) < k
    · have hh7b : (SG bE 4 v25 fl' * (PG a 400 l6 * (SG enc2 34 v7 got * (own g * tt)))) h7 := asr (by ac_rfl) hh7
      obtain ⟨y, hy⟩ : ∃ y : Nat, b.1 + j = y := ⟨(b.1 + j).toNat, by omega⟩
      obtain ⟨p, g1, g2, g3⟩ := el1 hh7b (List.getElem?_eq_getElem (show y < fl'.length by omega)) .i64
      have hfalse : fl'[y]'(by omega) = false := by
        cases hq : fl'[y]'(by omega) with
        | false => rfl
        | true =>
          rcases hff' y (by rw [List.getElem?_eq_getElem (by omega), hq]) with h | h
          · exact (hff y h (by rw [← hy]; exact hfb _ (by omega) (by omega))).elim
          · omega
      rw [hfalse] at g2
      repeat (with_reducible first | refine vP_so ?_ | refine vB_t ?_ | refine vB_f ?_ | refine vP_to (by simp (disch := omega) only [gdW_true, gdW_false, gB_true, gB_false, gB_undef, pickV_true, pickV_false, Bool.not_true, Bool.not_false, Option.map_some, bin_add, bin_sub, bin_mul, bin_quo, bin_rem, lss_t, lss_f, leq_t, leq_f, gtr_t, gtr_f, geq_t, geq_f, eqi_t, eqi_f, nei_t, nei_f, rem_uw, conv_ui, conv_iu, conv_ii, not_bool, nil_ptr, fa_mk, ptrV, len_mk, cap_mk, eq_ptr_nil, ne_ptr_nil, eq_nil_nil, ne_nil_nil, eq_slice_nil, eq_nil_slice, ia_1, hy, g1, g2]; exact so_so) ?_ | refine vE_t (by simp only [gB_true, gB_false, gB_undef, Bool.not_true, Bool.not_false]) ?_ | refine vE_f (by simp only [gB_true, gB_false, gB_undef, Bool.not_true, Bool.not_false]) ?_)
      refine g3 true _ fun h8 hh8 => ?_
      repeat (with_reducible first | refine vP_so ?_ | refine vB_t ?_ | refine vB_f ?_ | refine vP_to (by simp (disch := omega) only [gdW_true, gdW_false, gB_true, gB_false, gB_undef, pickV_true, pickV_false, Bool.not_true, Bool.not_false, Option.map_some, bin_add, bin_sub, bin_mul, bin_quo, bin_rem, lss_t, lss_f, leq_t, leq_f, gtr_t, gtr_f, geq_t, geq_f, eqi_t, eqi_f, nei_t, nei_f, rem_uw, conv_ui, conv_iu, conv_ii, not_bool, nil_ptr, fa_mk, ptrV, len_mk, cap_mk, eq_ptr_nil, ne_ptr_nil, eq_nil_nil, ne_nil_nil, eq_slice_nil, eq_nil_slice, ia_1]; exact so_so) ?_ | refine vE_t (by simp only [gB_true, gB_false, gB_undef, Bool.not_true, Bool.not_false]) ?_ | refine vE_f (by simp only [gB_true, gB_false, gB_undef, Bool.not_true, Bool.not_false]) ?_)
      refine ⟨k.toNat - (j + 1), by omega, j + 1, fl'.set y true, by simp, rfl, by omega, by simpa using hfl', fun x hx => ?_, asr (by ac_rfl) hh8⟩
      rw [List.getElem?_set] at hx
      by_cases hxy : y = x
      · exact .inr (by omega)
      · rw [if_neg hxy] at hx
        rcases hff' x hx with h | h
        · exact .inl h
        · exact .inr (by omega)
    have hff7 : ∀ x : Nat, fl'[x]? = some true → ¬ fr l6 x := fun x hx hq => by
      rw [hf6] at hq
      rcases hff' x hx with h | h
      · exact hff x h hq.1
      · exact hq.2 (by omega)
    have eb : bldV #[.int .i64 0, .int .i64 0] [(0, 1, .int .i64 b.1), (1, 1, .int .i64 k)] = some #[.int .i64 b.1, .int .i64 k] := rfl
    have eb2 : bldV #[.int .i64 0, .int .i64 0] [(0, 2, .agg #[.int .i64 b.1, .int .i64 k])] = some #[.int .i64 b.1, .int .i64 k] := rfl
    repeat (with_reducible first | refine vP_so ?_ | refine vB_t ?_ | refine vB_f ?_ | refine vP_to (by simp (disch := omega) only [gdW_true, gdW_false, gB_true, gB_false, gB_undef, pickV_true, pickV_false, Bool.not_true, Bool.not_false, Option.map_some, bin_add, bin_sub, bin_mul, bin_quo, bin_rem, lss_t, lss_f, leq_t, leq_f, gtr_t, gtr_f, geq_t, geq_f, eqi_t, eqi_f, nei_t, nei_f, rem_uw, conv_ui, conv_iu, conv_ii, not_bool, nil_ptr, fa_mk, ptrV, len_mk, cap_mk, eq_ptr_nil, ne_ptr_nil, eq_nil_nil, ne_nil_nil, eq_slice_nil, eq_nil_slice, ia_1, eb]; exact so_so) ?_ | refine vE_t (by simp only [gB_true, gB_false, gB_undef, Bool.not_true, Bool.not_false]) ?_ | refine vE_f (by simp only [gB_true, gB_false, gB_undef, Bool.not_true, Bool.not_false]) ?_)
    rw [eb2]
    refine vA_new (f := fun r => .slice (some ⟨r, 0, none⟩) 1 1) hh7 fun r9 h9 hh9 => ?_
    refine ap_new enc2 (l := got) (m := [(b.1, k)]) (F := PG a 400 l6 * (SG bE 4 v25 fl' * own g)) elRun2 rfl rfl niRuns rfl (by omega) (asr (by ac_rfl) hh9) rfl rfl (by simp only [List.length_singleton]; omega) fun v77 h10 hh10 => ?_
    have hgl10 : (got ++ [(b.1, k)]).length ≤ i + 1 := by simp; omega
    have hne : got ++ [(b.1, k)] ≠ [] := by simp
    generalize got ++ [(b.1, k)] = got' at *
    have hh10 : (SG enc2 34 v77 got' * (PG a 400 l6 * (SG bE 4 v25 fl' * (own g * tt)))) h10 := asr (by ac_rfl) hh10
    by_cases hi5 : (i : Int) % 5 = 4
    · obtain ⟨r, rest, rfl⟩ := List.exists_cons_of_ne_nil hne
      obtain ⟨pb, po, g1, g2, g3, _, _⟩ := elG enc2 hh10 (i := 0) (a := r) rfl .i64
      have g1 : iaS 2 v77 (.int .i64 0) = some (.pointer (some ⟨pb, po, none⟩)) := g1
      have g3 : ldN 2 (.pointer (some ⟨pb, po, none⟩)) h10 = some (run r) := g3
      repeat (with_reducible first | refine vP_so ?_ | refine vB_t ?_ | refine vB_f ?_ | refine vP_to (by simp (disch := omega) only [gdW_true, gdW_false, gB_true, gB_false, gB_undef, pickV_true, pickV_false, Bool.not_true, Bool.not_false, Option.map_some, bin_add, bin_sub, bin_mul, bin_quo, bin_rem, lss_t, lss_f, leq_t, leq_f, gtr_t, gtr_f, geq_t, geq_f, eqi_t, eqi_f, nei_t, nei_f, rem_uw, conv_ui, conv_iu, conv_ii, not_bool, nil_ptr, fa_mk, ptrV, len_mk, cap_mk, eq_ptr_nil, ne_ptr_nil, eq_nil_nil, ne_nil_nil, eq_slice_nil, eq_nil_slice, ia_1, g1, g3]; exact so_so) ?_ | refine vE_t (by simp only [gB_true, gB_false, gB_undef, Bool.not_true, Bool.not_false]) ?_ | refine vE_f (by simp only [gB_true, gB_false, gB_undef, Bool.not_true, Bool.not_false]) ?_)
      refine vA_new hh10 fun r13 h11 hh11 => ?_
      refine stN_mk (cs := #[.int .i64 r.1, .int .i64 r.2]) hh11 rfl rfl (by simp) fun h12 hh12 => ?_
      have hc12 : ∀ {h : Hp} {F : Asrt}, (pt r13 (.cells #[.int .i64 r.1, .int .i64 r.2] 34 (0, 0)) * F) h → ld1 (.pointer (some ⟨r13, 0 + 0, none⟩)) h = some (.int .i64 r.1) ∧ ld1 (.pointer (some ⟨r13, 0 + 1, none⟩)) h = some (.int .i64 r.2) := fun q => ⟨ld1_mk (pt_get q) rfl, ld1_mk (pt_get q) rfl⟩
      have hh12 : (pt r13 (.cells #[.int .i64 r.1, .int .i64 r.2] 34 (0, 0)) * (SG enc2 34 v77 (r :: rest) * (PG a 400 l6 * (SG bE 4 v25 fl' * (own g * tt))))) h12 := hh12
      obtain ⟨v85, s1, hh12b⟩ := to_from enc2 (i := 1) (F := pt r13 (.cells #[.int .i64 r.1, .int .i64 r.2] 34 (0, 0)) * (PG a 400 l6 * (SG bE 4 v25 fl' * (own g * tt)))) (asr (by ac_rfl) hh12) (by simp) .i64
      have s1 : slV 2 v77 (some (.int .i64 1)) none none = some v85 := s1
      rw [List.drop_succ_cons, List.drop_zero] at hh12b
      repeat (with_reducible first | refine vP_so ?_ | refine vB_t ?_ | refine vB_f ?_ | refine vP_to (by simp (disch := omega) only [gdW_true, gdW_false, gB_true, gB_false, gB_undef, pickV_true, pickV_false, Bool.not_true, Bool.not_false, Option.map_some, bin_add, bin_sub, bin_mul, bin_quo, bin_rem, lss_t, lss_f, leq_t, leq_f, gtr_t, gtr_f, geq_t, geq_f, eqi_t, eqi_f, nei_t, nei_f, rem_uw, conv_ui, conv_iu, conv_ii, not_bool, nil_ptr, fa_mk, ptrV, len_mk, cap_mk, eq_ptr_nil, ne_ptr_nil, eq_nil_nil, ne_nil_nil, eq_slice_nil, eq_nil_slice, ia_1, s1, (hc12 hh12).1, (hc12 hh12).2]; exact so_so) ?_ | refine vE_t (by simp only [gB_true, gB_false, gB_undef, Bool.not_true, Bool.not_false]) ?_ | refine vE_f (by simp only [gB_true, gB_false, gB_undef, Bool.not_true, Bool.not_false]) ?_)
      refine use_back (A := []) (B := rest) (F := pt r13 (.cells #[.int .i64 r.1, .int .i64 r.2] 34 (0, 0)) * (SG bE 4 v25 fl' * (SG enc2 34 v85 rest * (own g * tt)))) w6 (by omega) hheld6 (asr (by ac_rfl) hh12b) fun l13 h13 w13 hf13 hl13 hh13 => ?_
      have hheld13 := Held_free (A := []) hheld6 hf13
      have hrr := hheld6.rng r (by simp)
      repeat (with_reducible first | refine vP_so ?_ | refine vB_t ?_ | refine vB_f ?_ | refine vP_to (by simp (disch := omega) only [gdW_true, gdW_false, gB_true, gB_false, gB_undef, pickV_true, pickV_false, Bool.not_true, Bool.not_false, Option.map_some, bin_add, bin_sub, bin_mul, bin_quo, bin_rem, lss_t, lss_f, leq_t, leq_f, gtr_t, gtr_f, geq_t, geq_f, eqi_t, eqi_f, nei_t, nei_f, rem_uw, conv_ui, conv_iu, conv_ii, not_bool, nil_ptr, fa_mk, ptrV, len_mk, cap_mk, eq_ptr_nil, ne_ptr_nil, eq_nil_nil, ne_nil_nil, eq_slice_nil, eq_nil_slice, ia_1]; exact so_so) ?_ | refine vE_t (by simp only [gB_true, gB_false, gB_undef, Bool.not_true, Bool.not_false]) ?_ | refine vE_f (by simp only [gB_true, gB_false, gB_undef, Bool.not_true, Bool.not_false]) ?_)
      refine ⟨fun q ys h' => ∃ (j : Nat) (fl2 : List Bool), ys = [.int .i64 j] ∧ q = r.2.toNat - j ∧ (j : Int) ≤ r.2 ∧ fl2.length = 400 ∧ (∀ x : Nat, fl2[x]? = some true → fl'[x]? = some true ∧ ¬ (r.1 ≤ x ∧ (x : Int) < r.1 + j)) ∧
          (pt r13 (.cells #[.int .i64 r.1, .int .i64 r.2] 34 (0, 0)) * (PG a 400 l13 * (SG bE 4 v25 fl2 * (SG enc2 34 v85 rest * (own g * tt))))) h',
        ⟨_, 0, fl', rfl, rfl, by omega, hfl', fun x h => ⟨h, by omega⟩, asr (by ac_rfl) hh13⟩, ?_⟩
      rintro q v14 h14 ⟨j2, fl2, hys, rfl, hj2, hfl2, hff2, hh14⟩ _
      obtain rfl : v14 = .int .i64 j2 := by simpa using hys
      by_cases hjr : (j2 : Int) < r.2
      · obtain ⟨y, hy⟩ : ∃ y : Nat, r.1 + j2 = y := ⟨(r.1 + j2).toNat, by omega⟩
        have hh14b : (SG bE 4 v25 fl2 * (pt r13 (.cells #[.int .i64 r.1, .int .i64 r.2] 34 (0, 0)) * (PG a 400 l13 * (SG enc2 34 v85 rest * (own g * tt))))) h14 := asr (by ac_rfl) hh14
        obtain ⟨p, g1, g2, g3⟩ := el1 hh14b (List.getElem?_eq_getElem (show y < fl2.length by omega)) .i64
        repeat (with_reducible first | refine vP_so ?_ | refine vB_t ?_ | refine vB_f ?_ | refine vP_to (by simp (disch := omega) only [gdW_true, gdW_false, gB_true, gB_false, gB_undef, pickV_true, pickV_false, Bool.not_true, Bool.not_false, Option.map_some, bin_add, bin_sub, bin_mul, bin_quo, bin_rem, lss_t, lss_f, leq_t, leq_f, gtr_t, gtr_f, geq_t, geq_f, eqi_t, eqi_f, nei_t, nei_f, rem_uw, conv_ui, conv_iu, conv_ii, not_bool, nil_ptr, fa_mk, ptrV, len_mk, cap_mk, eq_ptr_nil, ne_ptr_nil, eq_nil_nil, ne_nil_nil, eq_slice_nil, eq_nil_slice, ia_1, hy, g1, g2, (hc12 hh14).1, (hc12 hh14).2]; exact so_so) ?_ | refine vE_t (by simp only [gB_true, gB_false, gB_undef, Bool.not_true, Bool.not_false]) ?_ | refine vE_f (by simp only [gB_true, gB_false, gB_undef, Bool.not_true, Bool.not_false]) ?_)
        refine g3 false _ fun h15 hh15 => ?_
        repeat (with_reducible first | refine vP_so ?_ | refine vB_t ?_ | refine vB_f ?_ | refine vP_to (by simp (disch := omega) only [gdW_true, gdW_false, gB_true, gB_false, gB_undef, pickV_true, pickV_false, Bool.not_true, Bool.not_false, Option.map_some, bin_add, bin_sub, bin_mul, bin_quo, bin_rem, lss_t, lss_f, leq_t, leq_f, gtr_t, gtr_f, geq_t, geq_f, eqi_t, eqi_f, nei_t, nei_f, rem_uw, conv_ui, conv_iu, conv_ii, not_bool, nil_ptr, fa_mk, ptrV, len_mk, cap_mk, eq_ptr_nil, ne_ptr_nil, eq_nil_nil, ne_nil_nil, eq_slice_nil, eq_nil_slice, ia_1]; exact so_so) ?_ | refine vE_t (by simp only [gB_true, gB_false, gB_undef, Bool.not_true, Bool.not_false]) ?_ | refine vE_f (by simp only [gB_true, gB_false, gB_undef, Bool.not_true, Bool.not_false]) ?_)
        refine ⟨r.2.toNat - (j2 + 1), by omega, j2 + 1, fl2.set y false, by simp, rfl, by omega, by simpa using hfl2, fun x hx => ?_, asr (by ac_rfl) hh15⟩
        rw [List.getElem?_set] at hx
        by_cases hxy : y = x
        · rw [if_pos hxy] at hx
          split at hx <;> simp at hx
        · rw [if_neg hxy] at hx
          have := hff2 x hx
          exact ⟨this.1, by omega⟩
      repeat (with_reducible first | refine vP_so ?_ | refine vB_t ?_ | refine vB_f ?_ | refine vP_to (by simp (disch := omega) only [gdW_true, gdW_false, gB_true, gB_false, gB_undef, pickV_true, pickV_false, Bool.not_true, Bool.not_false, Option.map_some, bin_add, bin_sub, bin_mul, bin_quo, bin_rem, lss_t, lss_f, leq_t, leq_f, gtr_t, gtr_f, geq_t, geq_f, eqi_t, eqi_f, nei_t, nei_f, rem_uw, conv_ui, conv_iu, conv_ii, not_bool, nil_ptr, fa_mk, ptrV, len_mk, cap_mk, eq_ptr_nil, ne_ptr_nil, eq_nil_nil, ne_nil_nil, eq_slice_nil, eq_nil_slice, ia_1, (hc12 hh14).2]; exact so_so) ?_ | refine vE_t (by simp only [gB_true, gB_false, gB_undef, Bool.not_true, Bool.not_false]) ?_ | refine vE_f (by simp only [gB_true, gB_false, gB_undef, Bool.not_true, Bool.not_false]) ?_)
      refine hJ v85 l13 rest fl2 (T + k) h14 w13 hheld13 ?_ (by simp only [List.length_cons] at hgl10; omega) hfl2 (fun x hx hq => ?_) (by omega) (by omega) (fun x h1 h2 => (hf13 x).2 (.inl (hT6 x h1 h2))) (drp (P := pt r13 (.cells #[.int .i64 r.1, .int .i64 r.2] 34 (0, 0))) (Q := PG a 400 l13 * (SG bE 4 v25 fl2 * (SG enc2 34 v85 rest * own g))) (asr (by ac_rfl) hh14) |> asr (by ac_rfl))
      · rw [leftS_cons] at hsum6
        omega
      · rw [hf13] at hq
        have := hff2 x hx
        rcases hq with hq | hq
        · exact hff7 x this.1 hq
        · exact this.2 (by omega)
    · repeat (with_reducible first | refine vP_so ?_ | refine vB_t ?_ | refine vB_f ?_ | refine vP_to (by simp (disch := omega) only [gdW_true, gdW_false, gB_true, gB_false, gB_undef, pickV_true, pickV_false, Bool.not_true, Bool.not_false, Option.map_some, bin_add, bin_sub, bin_mul, bin_quo, bin_rem, lss_t, lss_f, leq_t, leq_f, gtr_t, gtr_f, geq_t, geq_f, eqi_t, eqi_f, nei_t, nei_f, rem_uw, conv_ui, conv_iu, conv_ii, not_bool, nil_ptr, fa_mk, ptrV, len_mk, cap_mk, eq_ptr_nil, ne_ptr_nil, eq_nil_nil, ne_nil_nil, eq_slice_nil, eq_nil_slice, ia_1]; exact so_so) ?_ | refine vE_t (by simp only [gB_true, gB_false, gB_undef, Bool.not_true, Bool.not_false]) ?_ | refine vE_f (by simp only [gB_true, gB_false, gB_undef, Bool.not_true, Bool.not_false]) ?_)
      exact hJ v77 l6 got' fl' (T + k) h10 w6 hheld6 hsum6 hgl10 hfl' hff7 (by omega) (by omega) hT6 (asr (by ac_rfl) hh10)
  · repeat (with_reducible first | refine vP_so ?_ | refine vB_t ?_ | refine vB_f ?_ | refine vP_to (by simp (disch := omega) only [gdW_true, gdW_false, gB_true, gB_false, gB_undef, pickV_true, pickV_false, Bool.not_true, Bool.not_false, Option.map_some, bin_add, bin_sub, bin_mul, bin_quo, bin_rem, lss_t, lss_f, leq_t, leq_f, gtr_t, gtr_f, geq_t, geq_f, eqi_t, eqi_f, nei_t, nei_f, rem_uw, conv_ui, conv_iu, conv_ii, not_bool, nil_ptr, fa_mk, ptrV, len_mk, cap_mk, eq_ptr_nil, ne_ptr_nil, eq_nil_nil, ne_nil_nil, eq_slice_nil, eq_nil_slice, ia_1, hx.len]; exact so_so) ?_ | refine vE_t (by simp only [gB_true, gB_false, gB_undef, Bool.not_true, Bool.not_false]) ?_ | refine vE_f (by simp only [gB_true, gB_false, gB_undef, Bool.not_true, Bool.not_false]) ?_)
    clear hff hTf hT0 hT T hfl
    have hh4 : (SG enc2 34 v7 got * (PG a 400 l * (own g * tt))) h4 := by
      have : (SG bE 4 v25 fl * (SG enc2 34 v7 got * (PG a 400 l * own g) * tt)) h4 := asr (by ac_rfl) hh4
      exact asr (by ac_rfl) (drp this)
    have hgl : got.length ≤ 40 := by omega
    refine ⟨fun q ys h' => ∃ (v7 : Value) (l got : List Run), ys = [v7] ∧ q = got.length ∧ got.length ≤ 40 ∧ WF 400 l ∧ Held 400 l got ∧ leftS l + leftS got = 399 ∧ (SG enc2 34 v7 got * (PG a 400 l * (own g * tt))) h',
      ⟨_, v7, l, got, rfl, rfl, hgl, hwf, hheld, hsum, hh4⟩, ?_⟩
    rintro q v7 h16 ⟨v7', l, got, hys, rfl, hgl, hwf, hheld, hsum, hh16⟩ _
    obtain rfl : v7 = v7' := by simpa using hys
    have hlen := SG_len enc2 hh16
    by_cases hg0 : 0 < got.length
    · have hs := urem_lt (x := step) (b := got.length) (by omega)
      obtain ⟨k, hk⟩ : ∃ k : Nat, urem step got.length = k := ⟨(urem step got.length).toNat, by omega⟩
      rw [hk] at hs
      repeat (with_reducible first | refine vP_so ?_ | refine vB_t ?_ | refine vB_f ?_ | refine vP_to (by simp (disch := omega) only [gdW_true, gdW_false, gB_true, gB_false, gB_undef, pickV_true, pickV_false, Bool.not_true, Bool.not_false, Option.map_some, bin_add, bin_sub, bin_mul, bin_quo, bin_rem, lss_t, lss_f, leq_t, leq_f, gtr_t, gtr_f, geq_t, geq_f, eqi_t, eqi_f, nei_t, nei_f, rem_uw, conv_ui, conv_iu, conv_ii, not_bool, nil_ptr, fa_mk, ptrV, len_mk, cap_mk, eq_ptr_nil, ne_ptr_nil, eq_nil_nil, ne_nil_nil, eq_slice_nil, eq_nil_slice, ia_1, hlen, conv_u .i64 step, hk]; exact so_so) ?_ | refine vE_t (by simp only [gB_true, gB_false, gB_undef, Bool.not_true, Bool.not_false]) ?_ | refine vE_f (by simp only [gB_true, gB_false, gB_undef, Bool.not_true, Bool.not_false]) ?_)
      have hkl : k < got.length := by omega
      obtain ⟨pb, po, g1, g2, g3, _, _⟩ := elG enc2 hh16 (i := k) (List.getElem?_eq_getElem hkl) .i64
      have hgot : got = got.take k ++ got[k] :: got.drop (k + 1) := by rw [← List.drop_eq_getElem_cons hkl, List.take_append_drop]
      generalize got[k] = r at *
      have g1 : iaS 2 v7 (.int .i64 k) = some (.pointer (some ⟨pb, po, none⟩)) := g1
      have g3 : ldN 2 (.pointer (some ⟨pb, po, none⟩)) h16 = some (run r) := g3
      repeat (with_reducible first | refine vP_so ?_ | refine vB_t ?_ | refine vB_f ?_ | refine vP_to (by simp (disch := omega) only [gdW_true, gdW_false, gB_true, gB_false, gB_undef, pickV_true, pickV_false, Bool.not_true, Bool.not_false, Option.map_some, bin_add, bin_sub, bin_mul, bin_quo, bin_rem, lss_t, lss_f, leq_t, leq_f, gtr_t, gtr_f, geq_t, geq_f, eqi_t, eqi_f, nei_t, nei_f, rem_uw, conv_ui, conv_iu, conv_ii, not_bool, nil_ptr, fa_mk, ptrV, len_mk, cap_mk, eq_ptr_nil, ne_ptr_nil, eq_nil_nil, ne_nil_nil, eq_slice_nil, eq_nil_slice, ia_1, g1, g3]; exact so_so) ?_ | refine vE_t (by simp only [gB_true, gB_false, gB_undef, Bool.not_true, Bool.not_false]) ?_ | refine vE_f (by simp only [gB_true, gB_false, gB_undef, Bool.not_true, Bool.not_false]) ?_)
      refine vA_new hh16 fun r16 h17 hh17 => ?_
      refine stN_mk (cs := #[.int .i64 r.1, .int .i64 r.2]) hh17 rfl rfl (by simp) fun h18 hh18 => ?_
      have hc : ∀ {h : Hp} {F : Asrt}, (pt r16 (.cells #[.int .i64 r.1, .int .i64 r.2] 34 (0, 0)) * F) h → ld1 (.pointer (some ⟨r16, 0 + 0, none⟩)) h = some (.int .i64 r.1) ∧ ld1 (.pointer (some ⟨r16, 0 + 1, none⟩)) h = some (.int .i64 r.2) := fun q => ⟨ld1_mk (pt_get q) rfl, ld1_mk (pt_get q) rfl⟩
      have hh18 : (pt r16 (.cells #[.int .i64 r.1, .int .i64 r.2] 34 (0, 0)) * (SG enc2 34 v7 got * (PG a 400 l * (own g * tt)))) h18 := hh18
      have hS18 : (SG enc2 34 v7 got * (pt r16 (.cells #[.int .i64 r.1, .int .i64 r.2] 34 (0, 0)) * (PG a 400 l * (own g * tt)))) h18 := asr (by ac_rfl) hh18
      obtain ⟨v122, s1, p1⟩ := part_to enc2 (j := k) hS18 (by omega) .i64
      obtain ⟨v127, s2, p2⟩ := part_from enc2 (i := k + 1) hS18 (by omega) .i64
      have s1 : slV 2 v7 none (some (.int .i64 k)) none = some v122 := s1
      have s2 : slV 2 v7 (some (.int .i64 ((k : Int) + 1))) none none = some v127 := s2
      have eb : bldV #[] [] = some #[] := rfl
      repeat (with_reducible first | refine vP_so ?_ | refine vB_t ?_ | refine vB_f ?_ | refine vP_to (by simp (disch := omega) only [gdW_true, gdW_false, gB_true, gB_false, gB_undef, pickV_true, pickV_false, Bool.not_true, Bool.not_false, Option.map_some, bin_add, bin_sub, bin_mul, bin_quo, bin_rem, lss_t, lss_f, leq_t, leq_f, gtr_t, gtr_f, geq_t, geq_f, eqi_t, eqi_f, nei_t, nei_f, rem_uw, conv_ui, conv_iu, conv_ii, not_bool, nil_ptr, fa_mk, ptrV, len_mk, cap_mk, eq_ptr_nil, ne_ptr_nil, eq_nil_nil, ne_nil_nil, eq_slice_nil, eq_nil_slice, ia_1, s1, s2]; exact so_so) ?_ | refine vE_t (by simp only [gB_true, gB_false, gB_undef, Bool.not_true, Bool.not_false]) ?_ | refine vE_f (by simp only [gB_true, gB_false, gB_undef, Bool.not_true, Bool.not_false]) ?_)
      rw [eb]
      have hz : (([] : List Value) ++ (enc2.cs ([] : List Run) ++ [])).toArray = (#[] : Array Value) := rfl
      refine vA_new (f := fun r => .slice (some ⟨r, 0, none⟩) 0 0) hS18 fun r19 h19 hh19 => ?_
      have hh19 : (SG enc2 34 (.slice (some ⟨r19, 0, none⟩) 0 0) [] * (SG enc2 34 v7 got * (pt r16 (.cells #[.int .i64 r.1, .int .i64 r.2] 34 (0, 0)) * (PG a 400 l * own g)) * tt)) h19 :=
        SG_intro enc2 (pre := []) (post := []) rfl rfl (by simp) (by omega) (by simp) (asr (by rw [hz]; ac_rfl) hh19)
      refine ap_part enc2 (G := SG enc2 34 (.slice (some ⟨r19, 0, none⟩) 0 0) [] * (pt r16 (.cells #[.int .i64 r.1, .int .i64 r.2] 34 (0, 0)) * (PG a 400 l * (own g * tt)))) elRun2 rfl rfl niRuns rfl (by omega) hh19 p1 (asr (by ac_rfl) hh19) (by simp only [List.length_nil, List.length_take]; omega) fun v123 h20 hh20 => ?_
      refine ap_part enc2 (G := SG enc2 34 v123 ([] ++ got.take k) * (pt r16 (.cells #[.int .i64 r.1, .int .i64 r.2] 34 (0, 0)) * (PG a 400 l * (own g * tt)))) elRun2 rfl rfl niRuns rfl (by omega) hh20 p2 (asr (by ac_rfl) hh20) (by simp only [List.nil_append, List.length_take, List.length_drop]; omega) fun v128 h21 hh21 => ?_
      rw [List.nil_append] at hh21
      have hgl' : (got.take k ++ got.drop (k + 1)).length < got.length := by simp only [List.length_append, List.length_take, List.length_drop]; omega
      generalize got.take k = A at *
      generalize got.drop (k + 1) = B at *
      subst hgot
      have hh21a : (pt r16 (.cells #[.int .i64 r.1, .int .i64 r.2] 34 (0, 0)) * (SG enc2 34 v128 (A ++ B) * (PG a 400 l * (own g * tt)))) h21 := by
        have : (SG enc2 34 v7 (A ++ r :: B) * (pt r16 (.cells #[.int .i64 r.1, .int .i64 r.2] 34 (0, 0)) * (SG enc2 34 v128 (A ++ B) * (PG a 400 l * own g)) * tt)) h21 := asr (by ac_rfl) hh21
        exact asr (by ac_rfl) (drp this)
      repeat (with_reducible first | refine vP_so ?_ | refine vB_t ?_ | refine vB_f ?_ | refine vP_to (by simp (disch := omega) only [gdW_true, gdW_false, gB_true, gB_false, gB_undef, pickV_true, pickV_false, Bool.not_true, Bool.not_false, Option.map_some, bin_add, bin_sub, bin_mul, bin_quo, bin_rem, lss_t, lss_f, leq_t, leq_f, gtr_t, gtr_f, geq_t, geq_f, eqi_t, eqi_f, nei_t, nei_f, rem_uw, conv_ui, conv_iu, conv_ii, not_bool, nil_ptr, fa_mk, ptrV, len_mk, cap_mk, eq_ptr_nil, ne_ptr_nil, eq_nil_nil, ne_nil_nil, eq_slice_nil, eq_nil_slice, ia_1, (hc hh21a).1, (hc hh21a).2]; exact so_so) ?_ | refine vE_t (by simp only [gB_true, gB_false, gB_undef, Bool.not_true, Bool.not_false]) ?_ | refine vE_f (by simp only [gB_true, gB_false, gB_undef, Bool.not_true, Bool.not_false]) ?_)
      refine use_back (A := A) (B := B) (F := pt r16 (.cells #[.int .i64 r.1, .int .i64 r.2] 34 (0, 0)) * (SG enc2 34 v128 (A ++ B) * (own g * tt))) hwf (by omega) hheld (asr (by ac_rfl) hh21a) fun l22 h22 w22 hf22 hl22 hh22 => ?_
      have hheld22 := Held_free hheld hf22
      have hrr := hheld.rng r (by simp)
      have hh22a : (pt r16 (.cells #[.int .i64 r.1, .int .i64 r.2] 34 (0, 0)) * (PG a 400 l22 * (SG enc2 34 v128 (A ++ B) * (own g * tt)))) h22 := asr (by ac_rfl) hh22
      repeat (with_reducible first | refine vP_so ?_ | refine vB_t ?_ | refine vB_f ?_ | refine vP_to (by simp (disch := omega) only [gdW_true, gdW_false, gB_true, gB_false, gB_undef, pickV_true, pickV_false, Bool.not_true, Bool.not_false, Option.map_some, bin_add, bin_sub, bin_mul, bin_quo, bin_rem, lss_t, lss_f, leq_t, leq_f, gtr_t, gtr_f, geq_t, geq_f, eqi_t, eqi_f, nei_t, nei_f, rem_uw, conv_ui, conv_iu, conv_ii, not_bool, nil_ptr, fa_mk, ptrV, len_mk, cap_mk, eq_ptr_nil, ne_ptr_nil, eq_nil_nil, ne_nil_nil, eq_slice_nil, eq_nil_slice, ia_1, pv, (hc hh22a).1, (hc hh22a).2]; exact so_so) ?_ | refine vE_t (by simp only [gB_true, gB_false, gB_undef, Bool.not_true, Bool.not_false]) ?_ | refine vE_f (by simp only [gB_true, gB_false, gB_undef, Bool.not_true, Bool.not_false]) ?_)
      refine use_free w22 (by omega) (by omega) hh22 fun v l23 h23 hv w23 hh23 => ?_
      rcases hv with ⟨hq, _⟩ | ⟨_, _, rfl, rfl⟩ | ⟨_, hq, _⟩
      · exfalso; unfold badF at hq; omega
      · repeat (with_reducible first | refine vP_so ?_ | refine vB_t ?_ | refine vB_f ?_ | refine vP_to (by simp (disch := omega) only [gdW_true, gdW_false, gB_true, gB_false, gB_undef, pickV_true, pickV_false, Bool.not_true, Bool.not_false, Option.map_some, bin_add, bin_sub, bin_mul, bin_quo, bin_rem, lss_t, lss_f, leq_t, leq_f, gtr_t, gtr_f, geq_t, geq_f, eqi_t, eqi_f, nei_t, nei_f, rem_uw, conv_ui, conv_iu, conv_ii, not_bool, nil_ptr, fa_mk, ptrV, len_mk, cap_mk, eq_ptr_nil, ne_ptr_nil, eq_nil_nil, ne_nil_nil, eq_slice_nil, eq_nil_slice, ia_1]; exact so_so) ?_ | refine vE_t (by simp only [gB_true, gB_false, gB_undef, Bool.not_true, Bool.not_false]) ?_ | refine vE_f (by simp only [gB_true, gB_false, gB_undef, Bool.not_true, Bool.not_false]) ?_)
        refine ⟨(A ++ B).length, hgl', v128, l23, A ++ B, rfl, rfl, by omega, w23, hheld22, ?_, ?_⟩
        · rw [hl22, leftS_app]
          rw [leftS_app, leftS_cons] at hsum
          omega
        · have : (pt r16 (.cells #[.int .i64 r.1, .int .i64 r.2] 34 (0, 0)) * (SG enc2 34 v128 (A ++ B) * (PG a 400 l23 * own g) * tt)) h23 := asr (by ac_rfl) hh23
          exact asr (by ac_rfl) (drp this)
      · exact (hq r.1 (by omega) (by omega) ((hf22 _).2 (.inr ⟨by omega, by omega⟩))).elim
    · obtain rfl : got = [] := List.length_eq_zero_iff.1 (by omega)
      have hle : l = [((0 : Int) + 1, (400 : Int) - 0 - 1)] := WFf_full hwf (by simp only [leftS, List.map_nil, List.sum_nil] at hsum ⊢; omega) (by omega)
      repeat (with_reducible first | refine vP_so ?_ | refine vB_t ?_ | refine vB_f ?_ | refine vP_to (by simp (disch := omega) only [gdW_true, gdW_false, gB_true, gB_false, gB_undef, pickV_true, pickV_false, Bool.not_true, Bool.not_false, Option.map_some, bin_add, bin_sub, bin_mul, bin_quo, bin_rem, lss_t, lss_f, leq_t, leq_f, gtr_t, gtr_f, geq_t, geq_f, eqi_t, eqi_f, nei_t, nei_f, rem_uw, conv_ui, conv_iu, conv_ii, not_bool, nil_ptr, fa_mk, ptrV, len_mk, cap_mk, eq_ptr_nil, ne_ptr_nil, eq_nil_nil, ne_nil_nil, eq_slice_nil, eq_nil_slice, ia_1, hlen]; exact so_so) ?_ | refine vE_t (by simp only [gB_true, gB_false, gB_undef, Bool.not_true, Bool.not_false]) ?_ | refine vE_f (by simp only [gB_true, gB_false, gB_undef, Bool.not_true, Bool.not_false]) ?_)
      refine use_runs (F := SG enc2 34 v7 [] * (own g * tt)) hwf (by omega) (asr (by ac_rfl) hh16) fun v146 h24 hh24 => ?_
      refine told_use hh24 fun h25 hh25 => ?_
      have hlen := SL_len enc2 hh25
      subst hle
      obtain ⟨r, g1, _, _, g4, _⟩ := el hh25 (i := 0) (a := ((0 : Int) + 1, (400 : Int) - 0 - 1)) rfl .i64
      have g1 : iaS 2 v146 (.int .i64 0) = some (.pointer (some ⟨r, 0 * 2, none⟩)) := g1
      have e5 : bldV #[.int .i64 0, .int .i64 0] [(0, 1, .int .i64 1), (1, 1, .int .i64 399)] = some #[.int .i64 1, .int .i64 399] := rfl
      have e6 : eqA [1, 1] false (run ((0 : Int) + 1, (400 : Int) - 0 - 1)) (.agg #[.int .i64 1, .int .i64 399]) = some (.bool true) := by
        have := eqA_run ((0 : Int) + 1, (400 : Int) - 0 - 1) (1, 399)
        rw [decide_eq_true (by decide)] at this
        exact this
      have e7 : ((([((0 : Int) + 1, (400 : Int) - 0 - 1)] : List Run).length : Nat) : Int) = 1 := rfl
      repeat (with_reducible first | refine vP_so ?_ | refine vB_t ?_ | refine vB_f ?_ | refine vP_to (by simp (disch := omega) only [gdW_true, gdW_false, gB_true, gB_false, gB_undef, pickV_true, pickV_false, Bool.not_true, Bool.not_false, Option.map_some, bin_add, bin_sub, bin_mul, bin_quo, bin_rem, lss_t, lss_f, leq_t, leq_f, gtr_t, gtr_f, geq_t, geq_f, eqi_t, eqi_f, nei_t, nei_f, rem_uw, conv_ui, conv_iu, conv_ii, not_bool, nil_ptr, fa_mk, ptrV, len_mk, cap_mk, eq_ptr_nil, ne_ptr_nil, eq_nil_nil, ne_nil_nil, eq_slice_nil, eq_nil_slice, ia_1, hlen, e7, g1, g4, e5, e6]; exact so_so) ?_ | refine vE_t (by simp only [gB_true, gB_false, gB_undef, Bool.not_true, Bool.not_false]) ?_ | refine vE_f (by simp only [gB_true, gB_false, gB_undef, Bool.not_true, Bool.not_false]) ?_)
      exact ret (p := Value.bool true = Value.bool true) rfl (drp (P := SL enc2 34 v146 [((0 : Int) + 1, (400 : Int) - 0 - 1)] * (PG a 400 [((0 : Int) + 1, (400 : Int) - 0 - 1)] * SG enc2 34 v7 [])) (asr (by ac_rfl) hh25))

end Go.Proofs
