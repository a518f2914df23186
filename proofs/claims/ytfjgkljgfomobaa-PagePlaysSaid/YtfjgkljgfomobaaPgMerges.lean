/-
  PageMerges returns true.
-/
import Derived.Test.YtfjgkljgfomobaaPgQ
set_option linter.unusedVariables false
set_option linter.unusedSimpArgs false
namespace Go.Proofs
open Go.Sl

abbrev bE : Enc Bool := enc1 (fun b => .bool b) (fun _ => rfl)

theorem use_gcd {a b : Nat} {K : Value → Hp → Prop} {h : Hp} (ha : a < 4611686018427387904) (hb : b < 4611686018427387904) (hK : K (.int .i64 (Nat.gcd a b)) h) : CallH Try.prog 10 #[.int .i64 a, .int .i64 b] K h := by
  refine C10 ?_
  unfold D10
  refine ⟨fun m ys h' => ∃ x y : Nat, ys = [.int .i64 y, .int .i64 x] ∧ m = y ∧ Nat.gcd x y = Nat.gcd a b ∧ x < 4611686018427387904 ∧ y < 4611686018427387904 ∧ h' = h, ⟨_, a, b, rfl, rfl, rfl, ha, hb, rfl⟩, ?_⟩
  rintro m v1 v0 h1 ⟨x, y, hys, hmy, hg, hx, hy, rfl⟩ _
  subst hmy
  obtain ⟨rfl, rfl⟩ : v1 = .int .i64 m ∧ v0 = .int .i64 x := by simpa using hys
  rcases Nat.eq_zero_or_pos m with h0 | h0
  · subst h0
    repeat (with_reducible first | refine vP_so ?_ | refine vB_t ?_ | refine vB_f ?_ | refine vP_to (by simp (disch := omega) only [gdW_true, gdW_false, gB_true, gB_false, gB_undef, pickV_true, pickV_false, Bool.not_true, Bool.not_false, Option.map_some, bin_add, bin_sub, bin_mul, bin_quo, bin_rem, lss_t, lss_f, leq_t, leq_f, gtr_t, gtr_f, geq_t, geq_f, eqi_t, eqi_f, nei_t, nei_f, rem_uw, conv_ui, conv_iu, conv_ii, not_bool, nil_ptr, fa_mk, ptrV, len_mk, cap_mk, eq_ptr_nil, ne_ptr_nil, eq_nil_nil, ne_nil_nil, eq_slice_nil, eq_nil_slice, ia_1]; exact so_so) ?_ | refine vE_t (by simp only [gB_true, gB_false, gB_undef, Bool.not_true, Bool.not_false]) ?_ | refine vE_f (by simp only [gB_true, gB_false, gB_undef, Bool.not_true, Bool.not_false]) ?_)
    rw [Nat.gcd_zero_right] at hg
    rw [hg]; exact hK
  · repeat (with_reducible first | refine vP_so ?_ | refine vB_t ?_ | refine vB_f ?_ | refine vP_to (by simp (disch := omega) only [gdW_true, gdW_false, gB_true, gB_false, gB_undef, pickV_true, pickV_false, Bool.not_true, Bool.not_false, Option.map_some, bin_add, bin_sub, bin_mul, bin_quo, bin_rem, lss_t, lss_f, leq_t, leq_f, gtr_t, gtr_f, geq_t, geq_f, eqi_t, eqi_f, nei_t, nei_f, rem_uw, conv_ui, conv_iu, conv_ii, not_bool, nil_ptr, fa_mk, ptrV, len_mk, cap_mk, eq_ptr_nil, ne_ptr_nil, eq_nil_nil, ne_nil_nil, eq_slice_nil, eq_nil_slice, ia_1]; exact so_so) ?_ | refine vE_t (by simp only [gB_true, gB_false, gB_undef, Bool.not_true, Bool.not_false]) ?_ | refine vE_f (by simp only [gB_true, gB_false, gB_undef, Bool.not_true, Bool.not_false]) ?_)
    have hlt := Nat.mod_lt x h0
    refine ⟨x % m, hlt, m, x % m, by simp, rfl, ?_, by omega, by omega, rfl⟩
    rw [← hg, Nat.gcd_comm m, ← Nat.gcd_rec, Nat.gcd_comm]

theorem mul_inj {d m i j : Nat} (hg : Nat.gcd d m = 1) (hj : j < i) (hi : i < m) (he : j * d % m = i * d % m) : False := by
  have h1 : (i * d - j * d) % m = 0 := Nat.sub_mod_eq_zero_of_mod_eq he.symm
  rw [← Nat.sub_mul] at h1
  have h2 : m ∣ (i - j) * d := Nat.dvd_of_mod_eq_zero h1
  have h3 : m ∣ i - j := Nat.Coprime.dvd_of_dvd_mul_right (show Nat.gcd m d = 1 by rw [Nat.gcd_comm]; exact hg) h2
  have := Nat.le_of_dvd (by omega) h3
  omega

def Lc (i k : Int) : List Run := if i < k then [(i, k - i)] else []

theorem WF_Lc {i k : Int} (h : 1 ≤ i) : WF k (Lc i k) := by
  unfold Lc
  split
  · exact ⟨by simp only; omega, by simp only; omega, by simp only; omega, trivial⟩
  · trivial

theorem fr_Lc {i k x : Int} : fr (Lc i k) x ↔ i ≤ x ∧ x < k := by
  unfold Lc
  split
  · simp only [fr, or_false]; omega
  · simp only [fr]
    exact ⟨False.elim, fun h => by omega⟩

theorem merges_tr (g : Hp) (n step : Int) : Tr Try.prog 3 #[.int .i64 n, .int .i64 step] (own g) (fun v => pr (v = .bool true) * own g) := by
  refine Tr.of fun h hh => C3 ?_
  unfold D3
  have hn := urem_lt (x := n) (b := 60) (by omega)
  repeat (with_reducible first | refine vP_so ?_ | refine vB_t ?_ | refine vB_f ?_ | refine vP_to (by simp (disch := omega) only [gdW_true, gdW_false, gB_true, gB_false, gB_undef, pickV_true, pickV_false, Bool.not_true, Bool.not_false, Option.map_some, bin_add, bin_sub, bin_mul, bin_quo, bin_rem, lss_t, lss_f, leq_t, leq_f, gtr_t, gtr_f, geq_t, geq_f, eqi_t, eqi_f, nei_t, nei_f, rem_uw, conv_ui, conv_iu, conv_ii, not_bool, nil_ptr, fa_mk, ptrV, len_mk, cap_mk, eq_ptr_nil, ne_ptr_nil, eq_nil_nil, ne_nil_nil, eq_slice_nil, eq_nil_slice, ia_1, conv_u .i64 n]; exact so_so) ?_ | refine vE_t (by simp only [gB_true, gB_false, gB_undef, Bool.not_true, Bool.not_false]) ?_ | refine vE_f (by simp only [gB_true, gB_false, gB_undef, Bool.not_true, Bool.not_false]) ?_)
  refine use_new hh fun a h1' hh1 => ?_
  obtain ⟨m, hm⟩ : ∃ m : Nat, 2 + urem n 60 = (m : Int) + 1 := ⟨(1 + urem n 60).toNat, by omega⟩
  rw [hm] at hh1 ⊢
  have hm1 : 1 ≤ m ∧ m ≤ 60 := by omega
  clear hm hn
  have ek : newN ((m : Int) + 1) = (m : Int) + 1 := by unfold newN; omega
  have el : newL ((m : Int) + 1) = Lc 1 ((m : Int) + 1) := by unfold newL Lc; rw [ek]
  rw [ek, el] at hh1
  repeat (with_reducible first | refine vP_so ?_ | refine vB_t ?_ | refine vB_f ?_ | refine vP_to (by simp (disch := omega) only [gdW_true, gdW_false, gB_true, gB_false, gB_undef, pickV_true, pickV_false, Bool.not_true, Bool.not_false, Option.map_some, bin_add, bin_sub, bin_mul, bin_quo, bin_rem, lss_t, lss_f, leq_t, leq_f, gtr_t, gtr_f, geq_t, geq_f, eqi_t, eqi_f, nei_t, nei_f, rem_uw, conv_ui, conv_iu, conv_ii, not_bool, nil_ptr, fa_mk, ptrV, len_mk, cap_mk, eq_ptr_nil, ne_ptr_nil, eq_nil_nil, ne_nil_nil, eq_slice_nil, eq_nil_slice, ia_1, pv]; exact so_so) ?_ | refine vE_t (by simp only [gB_true, gB_false, gB_undef, Bool.not_true, Bool.not_false]) ?_ | refine vE_f (by simp only [gB_true, gB_false, gB_undef, Bool.not_true, Bool.not_false]) ?_)
  refine ⟨fun q ys h' => ∃ i : Int, ys = [.int .i64 i] ∧ 1 ≤ i ∧ i ≤ (m : Int) + 1 ∧ q = ((m : Int) + 1 - i).toNat ∧ (PG a ((m : Int) + 1) (Lc i ((m : Int) + 1)) * (own g * tt)) h', ⟨_, 1, rfl, by omega, by omega, rfl, asr (by ac_rfl) hh1⟩, ?_⟩
  rintro q v7 h2 ⟨i, hys, hi1, hi2, rfl, hh2⟩ _
  obtain rfl : v7 = .int .i64 i := by simpa using hys
  have wi := WF_Lc (k := (m : Int) + 1) hi1
  by_cases hil : i < (m : Int) + 1
  · repeat (with_reducible first | refine vP_so ?_ | refine vB_t ?_ | refine vB_f ?_ | refine vP_to (by simp (disch := omega) only [gdW_true, gdW_false, gB_true, gB_false, gB_undef, pickV_true, pickV_false, Bool.not_true, Bool.not_false, Option.map_some, bin_add, bin_sub, bin_mul, bin_quo, bin_rem, lss_t, lss_f, leq_t, leq_f, gtr_t, gtr_f, geq_t, geq_f, eqi_t, eqi_f, nei_t, nei_f, rem_uw, conv_ui, conv_iu, conv_ii, not_bool, nil_ptr, fa_mk, ptrV, len_mk, cap_mk, eq_ptr_nil, ne_ptr_nil, eq_nil_nil, ne_nil_nil, eq_slice_nil, eq_nil_slice, ia_1]; exact so_so) ?_ | refine vE_t (by simp only [gB_true, gB_false, gB_undef, Bool.not_true, Bool.not_false]) ?_ | refine vE_f (by simp only [gB_true, gB_false, gB_undef, Bool.not_true, Bool.not_false]) ?_)
    refine use_alloc wi (by omega) (by omega) hh2 fun v l' h3 hv w3 hh3 => ?_
    rcases hv with ⟨h, _⟩ | ⟨_, h, _⟩ | ⟨_, b, hb, hb2, _, rfl, hf3, hl3⟩
    · omega
    · have := h (i, (m : Int) + 1 - i) (by unfold Lc; rw [if_pos hil]; simp)
      simp only at this; omega
    · obtain rfl : b = (i, (m : Int) + 1 - i) := by unfold Lc at hb; rw [if_pos hil] at hb; simpa using hb
      have hl' : l' = Lc (i + 1) ((m : Int) + 1) := by
        refine WFf_unique w3 (WF_Lc (by omega)) fun x => ?_
        rw [hf3, fr_Lc, fr_Lc]
        simp only
        omega
      subst hl'
      repeat (with_reducible first | refine vP_so ?_ | refine vB_t ?_ | refine vB_f ?_ | refine vP_to (by simp (disch := omega) only [gdW_true, gdW_false, gB_true, gB_false, gB_undef, pickV_true, pickV_false, Bool.not_true, Bool.not_false, Option.map_some, bin_add, bin_sub, bin_mul, bin_quo, bin_rem, lss_t, lss_f, leq_t, leq_f, gtr_t, gtr_f, geq_t, geq_f, eqi_t, eqi_f, nei_t, nei_f, rem_uw, conv_ui, conv_iu, conv_ii, not_bool, nil_ptr, fa_mk, ptrV, len_mk, cap_mk, eq_ptr_nil, ne_ptr_nil, eq_nil_nil, ne_nil_nil, eq_slice_nil, eq_nil_slice, ia_1, exV0, exV1]; exact so_so) ?_ | refine vE_t (by simp only [gB_true, gB_false, gB_undef, Bool.not_true, Bool.not_false]) ?_ | refine vE_f (by simp only [gB_true, gB_false, gB_undef, Bool.not_true, Bool.not_false]) ?_)
      exact ⟨((m : Int) + 1 - (i + 1)).toNat, by omega, i + 1, rfl, by omega, by omega, rfl, hh3⟩
  obtain rfl : i = (m : Int) + 1 := by omega
  have hs := urem_lt (x := step) (b := (m : Int)) (by omega)
  repeat (with_reducible first | refine vP_so ?_ | refine vB_t ?_ | refine vB_f ?_ | refine vP_to (by simp (disch := omega) only [gdW_true, gdW_false, gB_true, gB_false, gB_undef, pickV_true, pickV_false, Bool.not_true, Bool.not_false, Option.map_some, bin_add, bin_sub, bin_mul, bin_quo, bin_rem, lss_t, lss_f, leq_t, leq_f, gtr_t, gtr_f, geq_t, geq_f, eqi_t, eqi_f, nei_t, nei_f, rem_uw, conv_ui, conv_iu, conv_ii, not_bool, nil_ptr, fa_mk, ptrV, len_mk, cap_mk, eq_ptr_nil, ne_ptr_nil, eq_nil_nil, ne_nil_nil, eq_slice_nil, eq_nil_slice, ia_1, conv_u .i64 step, Int.add_sub_cancel]; exact so_so) ?_ | refine vE_t (by simp only [gB_true, gB_false, gB_undef, Bool.not_true, Bool.not_false]) ?_ | refine vE_f (by simp only [gB_true, gB_false, gB_undef, Bool.not_true, Bool.not_false]) ?_)
  obtain ⟨d0, hd0⟩ : ∃ d0 : Nat, 1 + urem step m = (d0 : Int) := ⟨(1 + urem step m).toNat, by omega⟩
  rw [hd0]
  have hd1 : 1 ≤ d0 ∧ d0 ≤ m := by omega
  clear hs hd0
  refine ⟨fun q ys h' => ∃ d : Nat, ys = [.int .i64 d] ∧ 1 ≤ d ∧ d ≤ m + 1 ∧ q = m + 1 - d ∧ h' = h2, ⟨_, d0, rfl, by omega, by omega, rfl, rfl⟩, ?_⟩
  rintro q v10 h4 ⟨d, hys, hd2, hd3, rfl, rfl⟩ _
  obtain rfl : v10 = .int .i64 d := by simpa using hys
  clear hd1 d0
  repeat (with_reducible first | refine vP_so ?_ | refine vB_t ?_ | refine vB_f ?_ | refine vP_to (by simp (disch := omega) only [gdW_true, gdW_false, gB_true, gB_false, gB_undef, pickV_true, pickV_false, Bool.not_true, Bool.not_false, Option.map_some, bin_add, bin_sub, bin_mul, bin_quo, bin_rem, lss_t, lss_f, leq_t, leq_f, gtr_t, gtr_f, geq_t, geq_f, eqi_t, eqi_f, nei_t, nei_f, rem_uw, conv_ui, conv_iu, conv_ii, not_bool, nil_ptr, fa_mk, ptrV, len_mk, cap_mk, eq_ptr_nil, ne_ptr_nil, eq_nil_nil, ne_nil_nil, eq_slice_nil, eq_nil_slice, ia_1, Int.add_sub_cancel]; exact so_so) ?_ | refine vE_t (by simp only [gB_true, gB_false, gB_undef, Bool.not_true, Bool.not_false]) ?_ | refine vE_f (by simp only [gB_true, gB_false, gB_undef, Bool.not_true, Bool.not_false]) ?_)
  refine use_gcd (by omega) (by omega) ?_
  by_cases hg : ¬ Nat.gcd d m = 1
  · have hd4 : d ≠ m + 1 := by
      rintro rfl
      apply hg
      rw [Nat.gcd_comm, Nat.gcd_rec, Nat.add_mod_left]
      rcases Nat.lt_or_ge 1 m with q | q
      · rw [Nat.mod_eq_of_lt q]; exact Nat.gcd_one_left m
      · rw [show m = 1 by omega]; rfl
    repeat (with_reducible first | refine vP_so ?_ | refine vB_t ?_ | refine vB_f ?_ | refine vP_to (by simp (disch := omega) only [gdW_true, gdW_false, gB_true, gB_false, gB_undef, pickV_true, pickV_false, Bool.not_true, Bool.not_false, Option.map_some, bin_add, bin_sub, bin_mul, bin_quo, bin_rem, lss_t, lss_f, leq_t, leq_f, gtr_t, gtr_f, geq_t, geq_f, eqi_t, eqi_f, nei_t, nei_f, rem_uw, conv_ui, conv_iu, conv_ii, not_bool, nil_ptr, fa_mk, ptrV, len_mk, cap_mk, eq_ptr_nil, ne_ptr_nil, eq_nil_nil, ne_nil_nil, eq_slice_nil, eq_nil_slice, ia_1]; exact so_so) ?_ | refine vE_t (by simp only [gB_true, gB_false, gB_undef, Bool.not_true, Bool.not_false]) ?_ | refine vE_f (by simp only [gB_true, gB_false, gB_undef, Bool.not_true, Bool.not_false]) ?_)
    exact ⟨m + 1 - (d + 1), by omega, d + 1, by simp, by omega, by omega, rfl, rfl⟩
  have hg : Nat.gcd d m = 1 := by omega
  repeat (with_reducible first | refine vP_so ?_ | refine vB_t ?_ | refine vB_f ?_ | refine vP_to (by simp (disch := omega) only [gdW_true, gdW_false, gB_true, gB_false, gB_undef, pickV_true, pickV_false, Bool.not_true, Bool.not_false, Option.map_some, bin_add, bin_sub, bin_mul, bin_quo, bin_rem, lss_t, lss_f, leq_t, leq_f, gtr_t, gtr_f, geq_t, geq_f, eqi_t, eqi_f, nei_t, nei_f, rem_uw, conv_ui, conv_iu, conv_ii, not_bool, nil_ptr, fa_mk, ptrV, len_mk, cap_mk, eq_ptr_nil, ne_ptr_nil, eq_nil_nil, ne_nil_nil, eq_slice_nil, eq_nil_slice, ia_1, hg]; exact so_so) ?_ | refine vE_t (by simp only [gB_true, gB_false, gB_undef, Bool.not_true, Bool.not_false]) ?_ | refine vE_f (by simp only [gB_true, gB_false, gB_undef, Bool.not_true, Bool.not_false]) ?_)
  refine ms_SG bE (z := false) (n := m + 1 + 1) hh2 rfl rfl (by omega) (by omega) fun v60 h6 hh6 => ?_
  -- the pages come back, one by one
  have fr0 : ∀ x, ¬ fr (Lc ((m : Int) + 1) ((m : Int) + 1)) x := fun x hx => by rw [fr_Lc] at hx; omega
  have l0 : leftS (Lc ((m : Int) + 1) ((m : Int) + 1)) = 0 := by unfold Lc; rw [if_neg hil]; rfl
  generalize Lc ((m : Int) + 1) ((m : Int) + 1) = l0' at *
  refine ⟨fun q ys h' => ∃ (i : Nat) (l : List Run) (fl : List Bool), ys = [.int .i64 i, .int .i64 (i * d % m : Nat)] ∧ q = m - i ∧ i ≤ m ∧ WF ((m : Int) + 1) l ∧ leftS l = i ∧ fl.length = m + 1 + 1 ∧
      (∀ x : Nat, x ≤ m → (fl[x]? = some true ↔ fr l x)) ∧ (∀ x : Nat, fl[x]? = some true → ∃ j, j < i ∧ x = j * d % m + 1) ∧ (SG bE 4 v60 fl * (PG a ((m : Int) + 1) l * (own g * tt))) h',
    ⟨_, 0, l0', List.replicate (m + 1 + 1) false, by simp, rfl, by omega, wi, l0, by simp, fun x hx => ⟨fun q => ?_, fun q => (fr0 _ q).elim⟩, fun x q => ?_, hh6⟩, ?_⟩
  · rw [List.getElem?_replicate] at q; split at q <;> simp at q
  · rw [List.getElem?_replicate] at q; split at q <;> simp at q
  rintro q v13 v12 h7 ⟨i, l, fl, hys, rfl, hi, hwf, hlf, hfl, hff, hfj, hh7⟩ _
  obtain ⟨rfl, rfl⟩ : v13 = .int .i64 i ∧ v12 = .int .i64 (i * d % m : Nat) := by simpa using hys
  clear fr0 l0 wi hh6 hh2
  by_cases him : i < m
  · have hat : i * d % m < m := Nat.mod_lt _ (by omega)
    have hnew : ∀ j, j < i → ¬ (i * d % m = j * d % m) := fun j hj e => mul_inj hg hj him e.symm
    have hnext : (((i * d % m : Nat) : Int) + d) % m = ((i + 1) * d % m : Nat) := by
      rw [Nat.succ_mul, ← Nat.mod_add_mod]; exact_mod_cast rfl
    generalize hae : i * d % m = at' at *
    repeat (with_reducible first | refine vP_so ?_ | refine vB_t ?_ | refine vB_f ?_ | refine vP_to (by simp (disch := omega) only [gdW_true, gdW_false, gB_true, gB_false, gB_undef, pickV_true, pickV_false, Bool.not_true, Bool.not_false, Option.map_some, bin_add, bin_sub, bin_mul, bin_quo, bin_rem, lss_t, lss_f, leq_t, leq_f, gtr_t, gtr_f, geq_t, geq_f, eqi_t, eqi_f, nei_t, nei_f, rem_uw, conv_ui, conv_iu, conv_ii, not_bool, nil_ptr, fa_mk, ptrV, len_mk, cap_mk, eq_ptr_nil, ne_ptr_nil, eq_nil_nil, ne_nil_nil, eq_slice_nil, eq_nil_slice, ia_1, Int.add_sub_cancel]; exact so_so) ?_ | refine vE_t (by simp only [gB_true, gB_false, gB_undef, Bool.not_true, Bool.not_false]) ?_ | refine vE_f (by simp only [gB_true, gB_false, gB_undef, Bool.not_true, Bool.not_false]) ?_)
    refine use_free (F := SG bE 4 v60 fl * (own g * tt)) hwf (by omega) (by omega) (asr (by ac_rfl) hh7) fun v l' h8 hv w8 hh8 => ?_
    rcases hv with ⟨hq, _⟩ | ⟨_, ⟨z, z1, z2, z3⟩, _⟩ | ⟨_, _, rfl, hf8, hl8⟩
    · exfalso; unfold badF at hq; omega
    · exfalso
      obtain rfl : z = ((at' + 1 : Nat) : Int) := by omega
      obtain ⟨j, hj, e⟩ := hfj _ ((hff (at' + 1) (by omega)).2 z3)
      exact hnew j hj (by omega)
    have hh8 : (SG bE 4 v60 fl * (PG a ((m : Int) + 1) l' * (own g * tt))) h8 := asr (by ac_rfl) hh8
    obtain ⟨p, g1, _, g3⟩ := el1 hh8 (List.getElem?_eq_getElem (show at' + 1 < fl.length by omega)) .i64
    rw [show ((at' + 1 : Nat) : Int) = (at' : Int) + 1 by omega] at g1
    repeat (with_reducible first | refine vP_so ?_ | refine vB_t ?_ | refine vB_f ?_ | refine vP_to (by simp (disch := omega) only [gdW_true, gdW_false, gB_true, gB_false, gB_undef, pickV_true, pickV_false, Bool.not_true, Bool.not_false, Option.map_some, bin_add, bin_sub, bin_mul, bin_quo, bin_rem, lss_t, lss_f, leq_t, leq_f, gtr_t, gtr_f, geq_t, geq_f, eqi_t, eqi_f, nei_t, nei_f, rem_uw, conv_ui, conv_iu, conv_ii, not_bool, nil_ptr, fa_mk, ptrV, len_mk, cap_mk, eq_ptr_nil, ne_ptr_nil, eq_nil_nil, ne_nil_nil, eq_slice_nil, eq_nil_slice, ia_1, g1]; exact so_so) ?_ | refine vE_t (by simp only [gB_true, gB_false, gB_undef, Bool.not_true, Bool.not_false]) ?_ | refine vE_f (by simp only [gB_true, gB_false, gB_undef, Bool.not_true, Bool.not_false]) ?_)
    refine g3 true _ fun h9 hh9 => ?_
    have hff' : ∀ x : Nat, x ≤ m → ((fl.set (at' + 1) true)[x]? = some true ↔ fr l' x) := fun x hx => by
      rw [hf8, ← hff x hx, List.getElem?_set]
      by_cases hxa : at' + 1 = x
      · rw [if_pos hxa, if_pos (by omega)]
        simp only [true_iff]
        right; omega
      · rw [if_neg hxa]
        constructor
        · exact .inl
        · rintro (h | h)
          · exact h
          · omega
    have hfj' : ∀ x : Nat, (fl.set (at' + 1) true)[x]? = some true → ∃ j, j < i + 1 ∧ x = j * d % m + 1 := fun x hx => by
      rw [List.getElem?_set] at hx
      by_cases hxa : at' + 1 = x
      · exact ⟨i, by omega, by rw [hae, hxa]⟩
      · rw [if_neg hxa] at hx
        obtain ⟨j, hj, e⟩ := hfj x hx
        exact ⟨j, by omega, e⟩
    have hlen' : (fl.set (at' + 1) true).length = m + 1 + 1 := by simpa using hfl
    generalize fl.set (at' + 1) true = fl' at *
    refine ⟨fun q ys h' => ∃ j : Nat, ys = [.int .i64 j, .int .i64 (st l' j : Nat)] ∧ q = m + 1 - j ∧ 1 ≤ j ∧ j ≤ m + 1 ∧ (SG bE 4 v60 fl' * (PG a ((m : Int) + 1) l' * (own g * tt))) h',
      ⟨_, 1, by rw [show ((1 : Nat) : Int) = 1 from rfl, st_one w8]; rfl, rfl, by omega, by omega, hh9⟩, ?_⟩
    rintro q v15 v14 h10 ⟨j, hys, rfl, hj1, hj2, hh10⟩ _
    obtain ⟨rfl, rfl⟩ : v15 = .int .i64 j ∧ v14 = .int .i64 (st l' j : Nat) := by simpa using hys
    have hw8 := WF_len w8 (by omega)
    have hst : st l' j ≤ l'.length := List.countP_le_length
    by_cases hjm : j < m + 1
    · obtain ⟨p1, q1, q2, _⟩ := el1 hh10 (List.getElem?_eq_getElem (show j < fl'.length by omega)) .i64
      obtain ⟨p0, r1, r2, _⟩ := el1 hh10 (List.getElem?_eq_getElem (show j - 1 < fl'.length by omega)) .i64
      rw [show ((j - 1 : Nat) : Int) = (j : Int) - 1 by omega] at r1
      have f1 := hff' j (by omega)
      have f0 := hff' (j - 1) (by omega)
      rw [List.getElem?_eq_getElem (show j < fl'.length by omega)] at f1
      rw [List.getElem?_eq_getElem (show j - 1 < fl'.length by omega), show ((j - 1 : Nat) : Int) = (j : Int) - 1 by omega] at f0
      have ec : ((j + 1 : Nat) : Int) = (j : Int) + 1 := by omega
      generalize fl'[j] = bj at *
      generalize fl'[j - 1] = bp at *
      repeat (with_reducible first | refine vP_so ?_ | refine vB_t ?_ | refine vB_f ?_ | refine vP_to (by simp (disch := omega) only [gdW_true, gdW_false, gB_true, gB_false, gB_undef, pickV_true, pickV_false, Bool.not_true, Bool.not_false, Option.map_some, bin_add, bin_sub, bin_mul, bin_quo, bin_rem, lss_t, lss_f, leq_t, leq_f, gtr_t, gtr_f, geq_t, geq_f, eqi_t, eqi_f, nei_t, nei_f, rem_uw, conv_ui, conv_iu, conv_ii, not_bool, nil_ptr, fa_mk, ptrV, len_mk, cap_mk, eq_ptr_nil, ne_ptr_nil, eq_nil_nil, ne_nil_nil, eq_slice_nil, eq_nil_slice, ia_1, q1, q2]; exact so_so) ?_ | refine vE_t (by simp only [gB_true, gB_false, gB_undef, Bool.not_true, Bool.not_false]) ?_ | refine vE_f (by simp only [gB_true, gB_false, gB_undef, Bool.not_true, Bool.not_false]) ?_)
      intro J5 hJ5
      have hJ : ∀ c : Nat, c = st l' ((j : Int) + 1) → J5 [.int .i64 c] h10 := fun c hc => by
        refine hJ5 _ _ fun _ => ?_
        repeat (with_reducible first | refine vP_so ?_ | refine vB_t ?_ | refine vB_f ?_ | refine vP_to (by simp (disch := omega) only [gdW_true, gdW_false, gB_true, gB_false, gB_undef, pickV_true, pickV_false, Bool.not_true, Bool.not_false, Option.map_some, bin_add, bin_sub, bin_mul, bin_quo, bin_rem, lss_t, lss_f, leq_t, leq_f, gtr_t, gtr_f, geq_t, geq_f, eqi_t, eqi_f, nei_t, nei_f, rem_uw, conv_ui, conv_iu, conv_ii, not_bool, nil_ptr, fa_mk, ptrV, len_mk, cap_mk, eq_ptr_nil, ne_ptr_nil, eq_nil_nil, ne_nil_nil, eq_slice_nil, eq_nil_slice, ia_1]; exact so_so) ?_ | refine vE_t (by simp only [gB_true, gB_false, gB_undef, Bool.not_true, Bool.not_false]) ?_ | refine vE_f (by simp only [gB_true, gB_false, gB_undef, Bool.not_true, Bool.not_false]) ?_)
        exact ⟨m + 1 - (j + 1), by omega, j + 1, by rw [ec, ← hc], rfl, by omega, by omega, hh10⟩
      have e8 : ((st l' j : Nat) : Int) + 1 = ((st l' j + 1 : Nat) : Int) := by omega
      cases bj with
      | false =>
        repeat (with_reducible first | refine vP_so ?_ | refine vB_t ?_ | refine vB_f ?_ | refine vP_to (by simp (disch := omega) only [gdW_true, gdW_false, gB_true, gB_false, gB_undef, pickV_true, pickV_false, Bool.not_true, Bool.not_false, Option.map_some, bin_add, bin_sub, bin_mul, bin_quo, bin_rem, lss_t, lss_f, leq_t, leq_f, gtr_t, gtr_f, geq_t, geq_f, eqi_t, eqi_f, nei_t, nei_f, rem_uw, conv_ui, conv_iu, conv_ii, not_bool, nil_ptr, fa_mk, ptrV, len_mk, cap_mk, eq_ptr_nil, ne_ptr_nil, eq_nil_nil, ne_nil_nil, eq_slice_nil, eq_nil_slice, ia_1, q1, q2]; exact so_so) ?_ | refine vE_t (by simp only [gB_true, gB_false, gB_undef, Bool.not_true, Bool.not_false]) ?_ | refine vE_f (by simp only [gB_true, gB_false, gB_undef, Bool.not_true, Bool.not_false]) ?_)
        exact hJ _ (st_f w8 fun q => by have := f1.2 q; simp at this).symm
      | true =>
        have g1' := f1.1 rfl
        cases bp with
        | false =>
          repeat (with_reducible first | refine vP_so ?_ | refine vB_t ?_ | refine vB_f ?_ | refine vP_to (by simp (disch := omega) only [gdW_true, gdW_false, gB_true, gB_false, gB_undef, pickV_true, pickV_false, Bool.not_true, Bool.not_false, Option.map_some, bin_add, bin_sub, bin_mul, bin_quo, bin_rem, lss_t, lss_f, leq_t, leq_f, gtr_t, gtr_f, geq_t, geq_f, eqi_t, eqi_f, nei_t, nei_f, rem_uw, conv_ui, conv_iu, conv_ii, not_bool, nil_ptr, fa_mk, ptrV, len_mk, cap_mk, eq_ptr_nil, ne_ptr_nil, eq_nil_nil, ne_nil_nil, eq_slice_nil, eq_nil_slice, ia_1, q1, q2, r1, r2]; exact so_so) ?_ | refine vE_t (by simp only [gB_true, gB_false, gB_undef, Bool.not_true, Bool.not_false]) ?_ | refine vE_f (by simp only [gB_true, gB_false, gB_undef, Bool.not_true, Bool.not_false]) ?_)
          rw [e8]
          exact hJ _ (st_t w8 g1' fun q => by have := f0.2 q; simp at this).symm
        | true =>
          repeat (with_reducible first | refine vP_so ?_ | refine vB_t ?_ | refine vB_f ?_ | refine vP_to (by simp (disch := omega) only [gdW_true, gdW_false, gB_true, gB_false, gB_undef, pickV_true, pickV_false, Bool.not_true, Bool.not_false, Option.map_some, bin_add, bin_sub, bin_mul, bin_quo, bin_rem, lss_t, lss_f, leq_t, leq_f, gtr_t, gtr_f, geq_t, geq_f, eqi_t, eqi_f, nei_t, nei_f, rem_uw, conv_ui, conv_iu, conv_ii, not_bool, nil_ptr, fa_mk, ptrV, len_mk, cap_mk, eq_ptr_nil, ne_ptr_nil, eq_nil_nil, ne_nil_nil, eq_slice_nil, eq_nil_slice, ia_1, q1, q2, r1, r2]; exact so_so) ?_ | refine vE_t (by simp only [gB_true, gB_false, gB_undef, Bool.not_true, Bool.not_false]) ?_ | refine vE_f (by simp only [gB_true, gB_false, gB_undef, Bool.not_true, Bool.not_false]) ?_)
          exact hJ _ (st_f w8 fun _ => f0.1 rfl).symm
    obtain rfl : j = m + 1 := by omega
    have hsa : st l' ((m + 1 : Nat) : Int) = l'.length := st_all (n := (m : Int) + 1) w8
    have hP : ∀ {h : Hp}, (SG bE 4 v60 fl' * (PG a ((m : Int) + 1) l' * (own g * tt))) h → (PG a ((m : Int) + 1) l' * (SG bE 4 v60 fl' * (own g * tt))) h := fun q => asr (by ac_rfl) q
    repeat (with_reducible first | refine vP_so ?_ | refine vB_t ?_ | refine vB_f ?_ | refine vP_to (by simp (disch := omega) only [gdW_true, gdW_false, gB_true, gB_false, gB_undef, pickV_true, pickV_false, Bool.not_true, Bool.not_false, Option.map_some, bin_add, bin_sub, bin_mul, bin_quo, bin_rem, lss_t, lss_f, leq_t, leq_f, gtr_t, gtr_f, geq_t, geq_f, eqi_t, eqi_f, nei_t, nei_f, rem_uw, conv_ui, conv_iu, conv_ii, not_bool, nil_ptr, fa_mk, ptrV, len_mk, cap_mk, eq_ptr_nil, ne_ptr_nil, eq_nil_nil, ne_nil_nil, eq_slice_nil, eq_nil_slice, ia_1]; exact so_so) ?_ | refine vE_t (by simp only [gB_true, gB_false, gB_undef, Bool.not_true, Bool.not_false]) ?_ | refine vE_f (by simp only [gB_true, gB_false, gB_undef, Bool.not_true, Bool.not_false]) ?_)
    refine use_runs w8 (by omega) (hP hh10) fun v96 h12 hh12 => ?_
    repeat (with_reducible first | refine vP_so ?_ | refine vB_t ?_ | refine vB_f ?_ | refine vP_to (by simp (disch := omega) only [gdW_true, gdW_false, gB_true, gB_false, gB_undef, pickV_true, pickV_false, Bool.not_true, Bool.not_false, Option.map_some, bin_add, bin_sub, bin_mul, bin_quo, bin_rem, lss_t, lss_f, leq_t, leq_f, gtr_t, gtr_f, geq_t, geq_f, eqi_t, eqi_f, nei_t, nei_f, rem_uw, conv_ui, conv_iu, conv_ii, not_bool, nil_ptr, fa_mk, ptrV, len_mk, cap_mk, eq_ptr_nil, ne_ptr_nil, eq_nil_nil, ne_nil_nil, eq_slice_nil, eq_nil_slice, ia_1, SL_len enc2 hh12, hsa]; exact so_so) ?_ | refine vE_t (by simp only [gB_true, gB_false, gB_undef, Bool.not_true, Bool.not_false]) ?_ | refine vE_f (by simp only [gB_true, gB_false, gB_undef, Bool.not_true, Bool.not_false]) ?_)
    refine use_left (F := SL enc2 34 v96 l' * (SG bE 4 v60 fl' * (own g * tt))) w8 (by omega) (asr (by ac_rfl) hh12) fun h13 hh13 => ?_
    repeat (with_reducible first | refine vP_so ?_ | refine vB_t ?_ | refine vB_f ?_ | refine vP_to (by simp (disch := omega) only [gdW_true, gdW_false, gB_true, gB_false, gB_undef, pickV_true, pickV_false, Bool.not_true, Bool.not_false, Option.map_some, bin_add, bin_sub, bin_mul, bin_quo, bin_rem, lss_t, lss_f, leq_t, leq_f, gtr_t, gtr_f, geq_t, geq_f, eqi_t, eqi_f, nei_t, nei_f, rem_uw, conv_ui, conv_iu, conv_ii, not_bool, nil_ptr, fa_mk, ptrV, len_mk, cap_mk, eq_ptr_nil, ne_ptr_nil, eq_nil_nil, ne_nil_nil, eq_slice_nil, eq_nil_slice, ia_1, Int.add_sub_cancel, hnext]; exact so_so) ?_ | refine vE_t (by simp only [gB_true, gB_false, gB_undef, Bool.not_true, Bool.not_false]) ?_ | refine vE_f (by simp only [gB_true, gB_false, gB_undef, Bool.not_true, Bool.not_false]) ?_)
    refine ⟨m - (i + 1), by omega, i + 1, l', fl', rfl, rfl, by omega, w8, by rw [hl8]; omega, hlen', hff', hfj', ?_⟩
    exact drp (P := SL enc2 34 v96 l') (Q := SG bE 4 v60 fl' * (PG a ((m : Int) + 1) l' * own g)) (asr (by ac_rfl) hh13) |> asr (by ac_rfl)
  obtain rfl : i = m := by omega
  have hle : l = [((0 : Int) + 1, (i : Int) + 1 - 0 - 1)] := WFf_full hwf (by omega) (by omega)
  repeat (with_reducible first | refine vP_so ?_ | refine vB_t ?_ | refine vB_f ?_ | refine vP_to (by simp (disch := omega) only [gdW_true, gdW_false, gB_true, gB_false, gB_undef, pickV_true, pickV_false, Bool.not_true, Bool.not_false, Option.map_some, bin_add, bin_sub, bin_mul, bin_quo, bin_rem, lss_t, lss_f, leq_t, leq_f, gtr_t, gtr_f, geq_t, geq_f, eqi_t, eqi_f, nei_t, nei_f, rem_uw, conv_ui, conv_iu, conv_ii, not_bool, nil_ptr, fa_mk, ptrV, len_mk, cap_mk, eq_ptr_nil, ne_ptr_nil, eq_nil_nil, ne_nil_nil, eq_slice_nil, eq_nil_slice, ia_1, Int.add_sub_cancel]; exact so_so) ?_ | refine vE_t (by simp only [gB_true, gB_false, gB_undef, Bool.not_true, Bool.not_false]) ?_ | refine vE_f (by simp only [gB_true, gB_false, gB_undef, Bool.not_true, Bool.not_false]) ?_)
  refine use_runs (F := SG bE 4 v60 fl * (own g * tt)) hwf (by omega) (asr (by ac_rfl) hh7) fun v114 h14 hh14 => ?_
  refine told_use hh14 fun h15 hh15 => ?_
  have hlen := SL_len enc2 hh15
  subst hle
  obtain ⟨r, g1, _, _, g4, _⟩ := Go.Proofs.el hh15 (i := 0) (a := ((0 : Int) + 1, (i : Int) + 1 - 0 - 1)) rfl .i64
  have g1 : iaS 2 v114 (.int .i64 0) = some (.pointer (some ⟨r, 0 * 2, none⟩)) := g1
  have e5 : bldV #[.int .i64 0, .int .i64 0] [(0, 1, .int .i64 1), (1, 1, .int .i64 i)] = some #[.int .i64 1, .int .i64 i] := rfl
  have e6 : eqA [1, 1] false (run ((0 : Int) + 1, (i : Int) + 1 - 0 - 1)) (.agg #[.int .i64 1, .int .i64 i]) = some (.bool true) := by
    have := eqA_run ((0 : Int) + 1, (i : Int) + 1 - 0 - 1) (1, i)
    rw [decide_eq_true (Prod.ext (by simp only; omega) (by simp only; omega))] at this
    exact this
  have e7 : ((([((0 : Int) + 1, (i : Int) + 1 - 0 - 1)] : List Run).length : Nat) : Int) = 1 := rfl
  repeat (with_reducible first | refine vP_so ?_ | refine vB_t ?_ | refine vB_f ?_ | refine vP_to (by simp (disch := omega) only [gdW_true, gdW_false, gB_true, gB_false, gB_undef, pickV_true, pickV_false, Bool.not_true, Bool.not_false, Option.map_some, bin_add, bin_sub, bin_mul, bin_quo, bin_rem, lss_t, lss_f, leq_t, leq_f, gtr_t, gtr_f, geq_t, geq_f, eqi_t, eqi_f, nei_t, nei_f, rem_uw, conv_ui, conv_iu, conv_ii, not_bool, nil_ptr, fa_mk, ptrV, len_mk, cap_mk, eq_ptr_nil, ne_ptr_nil, eq_nil_nil, ne_nil_nil, eq_slice_nil, eq_nil_slice, ia_1, hlen, e7, g1, g4, e5, e6, Int.add_sub_cancel]; exact so_so) ?_ | refine vE_t (by simp only [gB_true, gB_false, gB_undef, Bool.not_true, Bool.not_false]) ?_ | refine vE_f (by simp only [gB_true, gB_false, gB_undef, Bool.not_true, Bool.not_false]) ?_)
  exact ret (p := Value.bool true = Value.bool true) rfl (drp (P := SL enc2 34 v114 [((0 : Int) + 1, (i : Int) + 1 - 0 - 1)] * (PG a ((i : Int) + 1) [((0 : Int) + 1, (i : Int) + 1 - 0 - 1)] * SG bE 4 v60 fl)) (asr (by ac_rfl) hh15))

end Go.Proofs
