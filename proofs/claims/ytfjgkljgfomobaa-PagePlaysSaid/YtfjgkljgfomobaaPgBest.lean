/-
  PageBest returns true.
-/
import Derived.Test.YtfjgkljgfomobaaPg7
import Derived.Test.YtfjgkljgfomobaaV13
set_option linter.unusedVariables false
set_option linter.unusedSimpArgs false
namespace Go.Proofs
open Go.Sl

theorem WFf_snoc {n : Int} {r : Run} (h2 : 1 ≤ r.2) (h3 : r.1 + r.2 ≤ n) : ∀ {lo : Int} {l : List Run}, WFf n lo l → lo < r.1 → (∀ x, fr l x → x + 1 < r.1) → WFf n lo (l ++ [r])
  | _, [], _, h, _ => ⟨h, h2, h3, trivial⟩
  | _, s :: l, ⟨a, b, c, d⟩, h, hx => by
    have := hx (s.1 + s.2 - 1) (.inl (by omega))
    exact ⟨a, b, c, WFf_snoc h2 h3 d (by omega) fun x hf => hx x (.inr hf)⟩

theorem fr_append {l m : List Run} {x : Int} : fr (l ++ m) x ↔ fr l x ∨ fr m x := by
  rw [fr_mem, fr_mem, fr_mem]
  simp only [List.mem_append]
  constructor
  · rintro ⟨r, h | h, g⟩
    · exact .inl ⟨r, h, g⟩
    · exact .inr ⟨r, h, g⟩
  · rintro (⟨r, h, g⟩ | ⟨r, h, g⟩)
    · exact ⟨r, .inl h, g⟩
    · exact ⟨r, .inr h, g⟩

theorem leftS_append (l m : List Run) : leftS (l ++ m) = leftS l + leftS m := by simp [leftS]

/-- The least that serves, so far: or none. -/
def BestOf (w : Int) (l : List Run) (b : Run) : Prop := (b = (0, 0) ∧ ∀ r ∈ l, r.2 < w) ∨ (1 ≤ b.2 ∧ b ∈ l ∧ w ≤ b.2 ∧ ∀ y ∈ l, w ≤ y.2 → lt y b = false)

theorem told_use {F : Asrt} {K : Value → Hp → Prop} {h : Hp} (hh : F h) (hK : ∀ h', F h' → K (.bool true) h') : CallH Try.prog 14 #[] K h := by
  refine told_tr.use (F := F) (by rw [emp_star]; exact hh) fun v h' hv => ?_
  rw [pr_star] at hv
  rw [hv.1]
  exact hK h' hv.2

theorem exV0 (a b : Int) : exV (tup a b) 0 = some (.int .i64 a) := rfl
theorem exV1 (a b : Int) : exV (tup a b) 1 = some (.int .i64 b) := rfl

theorem best_tr (g : Hp) (sv : Value) (xs : List Int) (k : Int) (hx : IntsAt g sv xs) : Tr Try.prog 6 #[sv, .int .i64 k] (own g) (fun v => pr (v = .bool true) * own g) := by
  refine Tr.of fun h hh => C6 ?_
  unfold D6
  have hlt := hx.lt
  simp only [hx.len, vP_some, eq_int]
  have short : ∀ h', (own g * tt) h' → CallH Try.prog 14 #[] (fun v h' => (pr (v = .bool true) * own g * tt) h') h' := fun h' q => told_use q fun h' q => ret rfl q
  by_cases h0 : xs.length = 0
  · have d0 : decide ((xs.length : Int) = 0) = true := decide_eq_true (by omega)
    simp only [vP_some, vB_true, vB_false, vB_dec, gdW_true, gdW_false, gB_true, gB_false, gB_undef, ptrV, pickV_true, pickV_false, vE_true, vE_false, bin_add, bin_sub, bin_lss, bin_leq, bin_gtr, bin_geq, eq_int, ne_int, eq_ptr_nil, ne_ptr_nil, eq_nil_nil, ne_nil_nil, eq_slice_nil, eq_nil_slice, not_bool, nil_ptr, fa_mk, len_mk, cap_mk, decide_true, decide_false, decide_eq_true, decide_eq_false, if_true, if_false, Bool.not_true, Bool.not_false, Bool.false_eq_true, d0, hx.len]
    exact short h hh
  have d0 : decide ((xs.length : Int) = 0) = false := decide_eq_false (by omega)
  by_cases h1 : 10 < xs.length
  · have d1 : decide (10 < (xs.length : Int)) = true := decide_eq_true (by omega)
    simp only [vP_some, vB_true, vB_false, gdW_true, gdW_false, gB_true, gB_false, gB_undef, pickV_true, pickV_false, bin_gtr, Bool.not_true, Bool.not_false, d0, d1, hx.len]
    exact short h hh
  have d1 : decide (10 < (xs.length : Int)) = false := decide_eq_false (by omega)
  simp only [vP_some, vB_true, vB_false, gdW_true, gdW_false, gB_true, gB_false, gB_undef, pickV_true, pickV_false, bin_gtr, Bool.not_true, Bool.not_false, d0, d1, hx.len]
  refine use_new hh fun a h1' hh1 => ?_
  have e1 : newN 120 = 120 := by decide
  have e2 : newL 120 = [(1, 119)] := by decide
  rw [e1, e2] at hh1
  simp only [pv, eq_ptr_nil, vP_some, vB_false]
  refine use_alloc (WF_one 120 119 (by omega) (by omega)) (by omega) (by omega) hh1 fun v l2 h2 hv w2 hh2 => ?_
  rcases hv with ⟨h, _⟩ | ⟨_, h, _⟩ | ⟨_, b, hb, hb2, _, rfl, hf2, hl2⟩
  · omega
  · have := h (1, 119) (by simp); simp only at this; omega
  obtain rfl : b = (1, 119) := by simpa using hb
  have hl2' : l2 = [] := by
    refine WFf_unique w2 (show WF 120 [] from trivial) fun x => ?_
    rw [hf2]
    constructor
    · rintro ⟨h | h, g⟩
      · exact g h
      · exact h
    · exact False.elim
  subst hl2'
  have ne0 : eqV 1 true (.int .i64 0) (.int .i64 0) = some (.bool false) := by rw [ne_int]; rfl
  have eb : (bldV #[.int .i64 0, .int .i64 0] []).map Value.agg = some (.agg #[.int .i64 0, .int .i64 0]) := rfl
  simp only [exV0, exV1, vP_some, ne0, vB_false, eb]
  refine vA_new hh2 fun r9 h3 hh3 => ?_
  refine stN_mk hh3 rfl rfl (by simp) fun h4 hh4 => ?_
  have hrem : binV .rem (.int .u64 (IntKind.u64.wrap k)) (.int .u64 9) = some (.int .u64 (urem k 9)) := bin_rem_u (wrap_u_nonneg k).1 (by omega)
  have hw := urem_lt (x := k) (b := 9) (by omega)
  have hcv : convV .i64 (.int .u64 (urem k 9)) = some (.int .i64 (urem k 9)) := conv_i (by omega)
  simp only [conv_u, vP_some, hrem, hcv]
  rw [bin_add (by omega), vP_some]
  generalize hwq : 1 + urem k 9 = w at *
  have hw' : 1 ≤ w ∧ w ≤ 9 := by omega
  clear hwq hrem hcv hw
  refine ⟨fun m ys h' => ∃ (i : Nat) (at' : Int) (l : List Run) (b : Run), ys = [.int .i64 i, .int .i64 at'] ∧ m = xs.length - i ∧ i ≤ xs.length ∧ 2 ≤ at' ∧ at' ≤ 2 + 10 * i ∧ WF 120 l ∧ (∀ x, fr l x → x + 1 < at') ∧ BestOf w l b ∧
      (PG a 120 l * (pt r9 (.cells #[.int .i64 b.1, .int .i64 b.2] 34 (0, 0)) * (own g * tt))) h',
    ⟨_, 0, 2, [], (0, 0), rfl, rfl, by omega, by omega, by omega, trivial, fun x h => h.elim, .inl ⟨rfl, by simp⟩, asr (by ac_rfl) hh4⟩, ?_⟩
  rintro m v11 v8 h6 ⟨i, at', l, b, hys, rfl, hi, ha2, ha, hwf, hfr, hbest, hh6⟩ _
  obtain ⟨rfl, rfl⟩ : v11 = .int .i64 i ∧ v8 = .int .i64 at' := by simpa using hys
  simp only [vP_some, bin_lss, hx.len]
  by_cases hil : i < xs.length
  · have d2 : decide ((i : Int) < (xs.length : Int)) = true := decide_eq_true (by omega)
    have hown : (own g * (PG a 120 l * (pt r9 (.cells #[.int .i64 b.1, .int .i64 b.2] 34 (0, 0)) * tt))) h6 := asr (by ac_rfl) hh6
    obtain ⟨p, f1, f2⟩ := hx.get i xs[i] .i64 (List.getElem?_eq_getElem hil)
    have f2 := own_ld1 hown f2
    generalize xs[i] = x at *
    have hrem : binV .rem (.int .u64 (IntKind.u64.wrap x)) (.int .u64 9) = some (.int .u64 (urem x 9)) := bin_rem_u (wrap_u_nonneg x).1 (by omega)
    have hn := urem_lt (x := x) (b := 9) (by omega)
    have hcv : convV .i64 (.int .u64 (urem x 9)) = some (.int .i64 (urem x 9)) := conv_i (by omega)
    simp only [d2, vB_true, f1, f2, conv_u, vP_some, hrem, hcv]
    rw [bin_add (by omega), vP_some]
    generalize hnq : 1 + urem x 9 = n at *
    have hn' : 1 ≤ n ∧ n ≤ 9 := by omega
    clear hnq hrem hcv hn f1 f2
    refine use_free hwf (by omega) (by omega) hh6 fun v l7 h7 hv w7 hh7 => ?_
    rcases hv with ⟨hb, _⟩ | ⟨_, ⟨z, z1, z2, z3⟩, _⟩ | ⟨_, _, rfl, hf7, hl7⟩
    · exfalso; unfold badF at hb; omega
    · exfalso; have := hfr z z3; omega
    have hl7' : l7 = l ++ [(at', n)] := by
      refine WFf_unique w7 (WFf_snoc (n := 120) (r := (at', n)) hn'.1 (by simp only; omega) hwf (by simp only; omega) hfr) fun z => ?_
      rw [hf7, fr_append]
      simp only [fr, or_false]
    subst hl7'
    simp only [ne0, vP_some, vB_false]
    intro J2 hJ2
    have hJ2' : ∀ h8 b', BestOf w (l ++ [(at', n)]) b' → (PG a 120 (l ++ [(at', n)]) * (pt r9 (.cells #[.int .i64 b'.1, .int .i64 b'.2] 34 (0, 0)) * (own g * tt))) h8 → J2 [] h8 := fun h8 b' hb' q => by
      refine hJ2 _ fun _ => ?_
      rw [bin_add (by omega), vP_some, bin_add (by omega), vP_some, bin_add (by omega), vP_some]
      refine ⟨xs.length - (i + 1), by omega, i + 1, at' + n + 1, l ++ [(at', n)], b', by simp, rfl, by omega, by omega, by omega, w7, fun z hz => ?_, hb', q⟩
      rw [fr_append] at hz
      rcases hz with hz | hz
      · have := hfr z hz; omega
      · simp only [fr, or_false] at hz; omega
    have hq9 : (pt r9 (.cells #[.int .i64 b.1, .int .i64 b.2] 34 (0, 0)) * (PG a 120 (l ++ [(at', n)]) * (own g * tt))) h7 := asr (by ac_rfl) hh7
    have hb1 : ld1 (.pointer (some ⟨r9, 0 + 1, none⟩)) h7 = some (.int .i64 b.2) := ld1_mk (pt_get hq9) rfl
    have bl : bldV #[.int .i64 0, .int .i64 0] [(0, 1, .int .i64 at'), (1, 1, .int .i64 n)] = some #[.int .i64 at', .int .i64 n] := rfl
    have upd : BestOf w (l ++ [(at', n)]) (at', n) → stN 2 (.pointer (some ⟨r9, 0, none⟩)) (.agg #[.int .i64 at', .int .i64 n]) (fun _ h9 => J2 [] h9) h7 := fun hb => by
      refine stN_mk hq9 rfl rfl (by simp) fun h9 hh9 => ?_
      exact hJ2' h9 (at', n) hb (asr (by ac_rfl) hh9)
    by_cases hnw : w ≤ n
    · have d3 : decide (w ≤ n) = true := decide_eq_true hnw
      rcases hbest with ⟨rfl, hnone⟩ | ⟨hb2, hbl, hbw, hmin⟩
      · have d4 : decide ((0 : Int) = 0) = true := decide_eq_true rfl
        simp only [vP_some, vB_true, vB_false, gdW_true, gdW_false, gB_true, gB_false, gB_undef, pickV_true, pickV_false, ptrV, fa_mk, bin_geq, eq_int, Bool.not_true, Bool.not_false, d3, hb1, d4, bl, Option.map_some]
        refine upd (.inr ⟨hn'.1, by simp, hnw, fun y hy hyw => ?_⟩)
        rw [List.mem_append, List.mem_singleton] at hy
        rcases hy with hy | rfl
        · have := hnone y hy; omega
        · exact nlt_self _
      · have d4 : decide (b.2 = 0) = false := decide_eq_false (by omega)
        by_cases hnb : n < b.2
        · have d5 : decide (n < b.2) = true := decide_eq_true hnb
          simp only [vP_some, vB_true, vB_false, gdW_true, gdW_false, gB_true, gB_false, gB_undef, pickV_true, pickV_false, ptrV, fa_mk, bin_geq, bin_lss, eq_int, Bool.not_true, Bool.not_false, d3, hb1, d4, d5, bl, Option.map_some]
          refine upd (.inr ⟨hn'.1, by simp, hnw, fun y hy hyw => ?_⟩)
          rw [List.mem_append, List.mem_singleton] at hy
          rcases hy with hy | rfl
          · have := hmin y hy hyw
            rw [nlt_iff] at *
            simp only
            omega
          · exact nlt_self _
        · have d5 : decide (n < b.2) = false := decide_eq_false hnb
          simp only [vP_some, vB_true, vB_false, gdW_true, gdW_false, gB_true, gB_false, gB_undef, pickV_true, pickV_false, ptrV, fa_mk, bin_geq, bin_lss, eq_int, Bool.not_true, Bool.not_false, d3, hb1, d4, d5]
          refine hJ2' h7 b (.inr ⟨hb2, by simp [hbl], hbw, fun y hy hyw => ?_⟩) hh7
          rw [List.mem_append, List.mem_singleton] at hy
          rcases hy with hy | rfl
          · exact hmin y hy hyw
          · have := hfr b.1 (fr_mem.2 ⟨b, hbl, by omega, by omega⟩)
            rw [nlt_iff]
            simp only
            omega
    · have d3 : decide (w ≤ n) = false := decide_eq_false hnw
      simp only [vP_some, vB_true, vB_false, gdW_true, gdW_false, gB_true, gB_false, gB_undef, pickV_true, pickV_false, ptrV, fa_mk, bin_geq, eq_int, Bool.not_true, Bool.not_false, d3]
      refine hJ2' h7 b ?_ hh7
      rcases hbest with ⟨rfl, hnone⟩ | ⟨hb2, hbl, hbw, hmin⟩
      · refine .inl ⟨rfl, fun y hy => ?_⟩
        rw [List.mem_append, List.mem_singleton] at hy
        rcases hy with hy | rfl
        · exact hnone y hy
        · simp only; omega
      · refine .inr ⟨hb2, by simp [hbl], hbw, fun y hy hyw => ?_⟩
        rw [List.mem_append, List.mem_singleton] at hy
        rcases hy with hy | rfl
        · exact hmin y hy hyw
        · simp only at hyw; omega
  · have d2 : decide ((i : Int) < (xs.length : Int)) = false := decide_eq_false (by omega)
    simp only [d2, vB_false]
    refine use_left hwf (by omega) hh6 fun h10 hh10 => ?_
    refine use_alloc hwf (by omega) (by omega) hh10 fun v l11 h11 hv w11 hh11 => ?_
    have hq9 : (pt r9 (.cells #[.int .i64 b.1, .int .i64 b.2] 34 (0, 0)) * (PG a 120 l11 * (own g * tt))) h11 := asr (by ac_rfl) hh11
    have hb1 : ld1 (.pointer (some ⟨r9, 0 + 1, none⟩)) h11 = some (.int .i64 b.2) := ld1_mk (pt_get hq9) rfl
    have hlen11 := WF_len w11 (by omega)
    have hlen := WF_len hwf (by omega)
    rcases hbest with ⟨rfl, hnone⟩ | ⟨hb2, hbl, hbw, hmin⟩
    · rcases hv with ⟨h, _⟩ | ⟨_, _, rfl, rfl⟩ | ⟨_, c, hc, hc2, _⟩
      · omega
      · have d4 : decide ((0 : Int) = 0) = true := decide_eq_true rfl
        simp only [vP_some, vB_true, vB_false, exV0, exV1, ptrV, fa_mk, hb1, eq_int, d4]
        refine told_use hh11 fun h12 hh12 => ?_
        simp only [vP_some, gdW_true, gB_true, pickV_true, vE_true, eq_refl_int]
        refine use_left w11 (by omega) hh12 fun h13 hh13 => ?_
        simp only [vP_some, gdW_true, gB_true, pickV_true, vE_true, eq_refl_int]
        exact ret (by trivial) (drp2 hh13)
      · have := hnone c hc; omega
    · have d4 : decide (b.2 = 0) = false := decide_eq_false (by omega)
      rcases hv with ⟨h, _⟩ | ⟨_, h, _⟩ | ⟨_, c, hc, hc2, hcm, rfl, hcf, hcl⟩
      · omega
      · have := h b hbl; omega
      · have hcb : c = b := by
          have h1 := hcm b hbl hbw
          have h2 := hmin c hc hc2
          rw [nlt_iff] at h1 h2
          exact Prod.ext (by omega) (by omega)
        subst hcb
        simp only [vP_some, vB_true, vB_false, exV0, exV1, ptrV, fa_mk, hb1, eq_int, d4]
        refine told_use hh11 fun h12 hh12 => ?_
        have hq12 : (pt r9 (.cells #[.int .i64 c.1, .int .i64 c.2] 34 (0, 0)) * (PG a 120 l11 * (own g * tt))) h12 := asr (by ac_rfl) hh12
        have hb0 : ld1 (.pointer (some ⟨r9, 0 + 0, none⟩)) h12 = some (.int .i64 c.1) := ld1_mk (pt_get hq12) rfl
        simp only [vP_some, gdW_true, gB_true, pickV_true, vE_true, eq_refl_int, fa_mk, hb0]
        refine use_left w11 (by omega) hh12 fun h13 hh13 => ?_
        have b9 : binV .sub (.int .i64 (leftS l)) (.int .i64 w) = some (.int .i64 (leftS l - w)) := bin_sub (by omega)
        simp only [vP_some, gdW_true, gB_true, pickV_true, vE_true, b9, ← hcl, eq_refl_int]
        exact ret (by trivial) (drp2 hh13)

end Go.Proofs
