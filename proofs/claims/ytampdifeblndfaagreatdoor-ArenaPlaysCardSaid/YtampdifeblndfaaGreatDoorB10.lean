/-
  Texts of the proof, in one file: Bt, St, Rp, Rs, Ap, Rs2, Sw, Ar.
-/
import Derived.Test.YtampdifeblndfaaGreatDoorB8
import Derived.Test.YtampdifeblndfaaGreatDoorB9
import Derived.Test.YtampdifeblndfaaGreatDoorB7
import Derived.Test.YtampdifeblndfaaGreatDoorB4
set_option linter.unusedVariables false
set_option linter.unusedSimpArgs false
/-
  Classes' pages and places; sets of at most 64 numbers.
-/
set_option maxRecDepth 100000
namespace Go.Proofs
open Go.Sl
theorem use_pages {k : Int} (hk : 0 ≤ k ∧ k < 16) {F : Asrt} {K : Value → Hp → Prop} {h : Hp} (hh : (F * tt) h) (hK : ∀ h', (F * tt) h' → K (.int .i64 (pgS k)) h') : CallH Tryz.prog 33 #[.int .i64 k] K h := by
  refine C33 ?_
  unfold D33
  refine use_size hh fun h1 hh1 => ?_
  have hs := szS_pos hk
  have hp := pgS_pos hk
  repeat (with_reducible first | refine vP_so ?_ | refine vB_t ?_ | refine vB_f ?_ | refine vE_tt ?_ | refine vE_ff ?_ | refine vE_tf ?_ | refine vE_ft ?_ | refine vE_u ?_ | refine vP_to (by simp (disch := omega) only [gdW_true, gdW_false, gB_true, gB_false, gB_undef, pickV_true, pickV_false, Bool.not_true, Bool.not_false, Option.map_some, bin_add, bin_sub, bin_mul, bin_quo, bin_rem, lss_t, lss_f, leq_t, leq_f, gtr_t, gtr_f, geq_t, geq_f, eqi_t, eqi_f, nei_t, nei_f, rem_uw, conv_ui, conv_iu, conv_ii, not_bool, nil_ptr, fa_mk, ptrV, len_mk, cap_mk, eq_ptr_nil, ne_ptr_nil, eq_nil_nil, ne_nil_nil, eq_slice_nil, eq_nil_slice, ia_1]; exact so_so) ?_)
  refine ⟨fun m zs h' => ∃ p : Nat, zs = [.int .i64 p] ∧ m = 4 - p ∧ 1 ≤ p ∧ (p : Int) ≤ pgS k ∧ h' = h1, ⟨_, 1, rfl, rfl, by omega, by omega, rfl⟩, ?_⟩
  rintro m v4 h2 ⟨p, hzs, rfl, hp1, hp2, rfl⟩ _
  obtain rfl : v4 = .int .i64 p := by simpa using hzs
  have r1 : 0 ≤ (p : Int) * 64 % szS k := Int.emod_nonneg _ (by omega)
  have r2 : (p : Int) * 64 % szS k < szS k := Int.emod_lt_of_pos _ (by omega)
  by_cases hq : (p : Int) < pgS k
  · have hno := pgS_no hk ⟨show (1 : Int) ≤ p by omega, hq⟩
    repeat (with_reducible first | refine vP_so ?_ | refine vB_t ?_ | refine vB_f ?_ | refine vE_tt ?_ | refine vE_ff ?_ | refine vE_tf ?_ | refine vE_ft ?_ | refine vE_u ?_ | refine vP_to (by simp (disch := omega) only [gdW_true, gdW_false, gB_true, gB_false, gB_undef, pickV_true, pickV_false, Bool.not_true, Bool.not_false, Option.map_some, bin_add, bin_sub, bin_mul, bin_quo, bin_rem, lss_t, lss_f, leq_t, leq_f, gtr_t, gtr_f, geq_t, geq_f, eqi_t, eqi_f, nei_t, nei_f, rem_uw, conv_ui, conv_iu, conv_ii, not_bool, nil_ptr, fa_mk, ptrV, len_mk, cap_mk, eq_ptr_nil, ne_ptr_nil, eq_nil_nil, ne_nil_nil, eq_slice_nil, eq_nil_slice, ia_1]; exact so_so) ?_)
    exact ⟨4 - (p + 1), by omega, p + 1, by simp, rfl, by omega, by omega, rfl⟩
  · have e : (p : Int) = pgS k := by omega
    have hy := pgS_yes hk
    rw [← e] at hy hK
    repeat (with_reducible first | refine vP_so ?_ | refine vB_t ?_ | refine vB_f ?_ | refine vE_tt ?_ | refine vE_ff ?_ | refine vE_tf ?_ | refine vE_ft ?_ | refine vE_u ?_ | refine vP_to (by simp (disch := omega) only [gdW_true, gdW_false, gB_true, gB_false, gB_undef, pickV_true, pickV_false, Bool.not_true, Bool.not_false, Option.map_some, bin_add, bin_sub, bin_mul, bin_quo, bin_rem, lss_t, lss_f, leq_t, leq_f, gtr_t, gtr_f, geq_t, geq_f, eqi_t, eqi_f, nei_t, nei_f, rem_uw, conv_ui, conv_iu, conv_ii, not_bool, nil_ptr, fa_mk, ptrV, len_mk, cap_mk, eq_ptr_nil, ne_ptr_nil, eq_nil_nil, ne_nil_nil, eq_slice_nil, eq_nil_slice, ia_1]; exact so_so) ?_)
    exact hK h2 hh1
theorem use_slots {k : Int} (hk : 0 ≤ k ∧ k < 16) {F : Asrt} {K : Value → Hp → Prop} {h : Hp} (hh : (F * tt) h) (hK : ∀ h', (F * tt) h' → K (.int .i64 (slS k)) h') : CallH Tryz.prog 74 #[.int .i64 k] K h := by
  refine C74 ?_
  unfold D74
  refine use_size hh fun h1 hh1 => ?_
  have hs := szS_pos hk
  have hp := pgS_pos hk
  repeat (with_reducible first | refine vP_so ?_ | refine vB_t ?_ | refine vB_f ?_ | refine vE_tt ?_ | refine vE_ff ?_ | refine vE_tf ?_ | refine vE_ft ?_ | refine vE_u ?_ | refine vP_to (by simp (disch := omega) only [gdW_true, gdW_false, gB_true, gB_false, gB_undef, pickV_true, pickV_false, Bool.not_true, Bool.not_false, Option.map_some, bin_add, bin_sub, bin_mul, bin_quo, bin_rem, lss_t, lss_f, leq_t, leq_f, gtr_t, gtr_f, geq_t, geq_f, eqi_t, eqi_f, nei_t, nei_f, rem_uw, conv_ui, conv_iu, conv_ii, not_bool, nil_ptr, fa_mk, ptrV, len_mk, cap_mk, eq_ptr_nil, ne_ptr_nil, eq_nil_nil, ne_nil_nil, eq_slice_nil, eq_nil_slice, ia_1]; exact so_so) ?_)
  refine use_pages hk hh1 fun h2 hh2 => ?_
  have e := (slS_eq hk).1
  rw [← e] at hK
  repeat (with_reducible first | refine vP_so ?_ | refine vB_t ?_ | refine vB_f ?_ | refine vE_tt ?_ | refine vE_ff ?_ | refine vE_tf ?_ | refine vE_ft ?_ | refine vE_u ?_ | refine vP_to (by simp (disch := omega) only [gdW_true, gdW_false, gB_true, gB_false, gB_undef, pickV_true, pickV_false, Bool.not_true, Bool.not_false, Option.map_some, bin_add, bin_sub, bin_mul, bin_quo, bin_rem, lss_t, lss_f, leq_t, leq_f, gtr_t, gtr_f, geq_t, geq_f, eqi_t, eqi_f, nei_t, nei_f, rem_uw, conv_ui, conv_iu, conv_ii, not_bool, nil_ptr, fa_mk, ptrV, len_mk, cap_mk, eq_ptr_nil, ne_ptr_nil, eq_nil_nil, ne_nil_nil, eq_slice_nil, eq_nil_slice, ia_1]; exact so_so) ?_)
  exact hK h2 hh2
def BS (b : Nat) (l : List Bool) : Asrt := ex fun r : Nat => pt b (.cells #[.int .i64 l.length, .slice (some ⟨r, 0, none⟩) 1 1, .int .i64 (l.count true : Nat)] 121 (0, 0)) * pt r (.cells #[.int .u64 (wd l)] 122 (0, 0))
abbrev pB (b : Nat) : Value := .pointer (some ⟨b, 0, none⟩)
theorem BS_elim {b : Nat} {l : List Bool} {F : Asrt} {h : Hp} (hh : (BS b l * F) h) :
    ∃ r, (pt b (.cells #[.int .i64 l.length, .slice (some ⟨r, 0, none⟩) 1 1, .int .i64 (l.count true : Nat)] 121 (0, 0)) * (pt r (.cells #[.int .u64 (wd l)] 122 (0, 0)) * F)) h := by
  obtain ⟨r, hh⟩ := ex_star.1 hh
  exact ⟨r, asr (star_assoc _ _ _) hh⟩
theorem BS_intro {b r : Nat} {l : List Bool} {F : Asrt} {h : Hp} (hh : (pt b (.cells #[.int .i64 l.length, .slice (some ⟨r, 0, none⟩) 1 1, .int .i64 (l.count true : Nat)] 121 (0, 0)) * (pt r (.cells #[.int .u64 (wd l)] 122 (0, 0)) * F)) h) : (BS b l * F) h :=
  ex_star.2 ⟨r, asr (star_assoc _ _ _).symm hh⟩
theorem bs_ld {b r : Nat} {n c : Int} {w : Nat} {F : Asrt} {h : Hp} (hh : (pt b (.cells #[.int .i64 n, .slice (some ⟨r, 0, none⟩) 1 1, .int .i64 c] 121 (0, 0)) * (pt r (.cells #[.int .u64 (w : Int)] 122 (0, 0)) * F)) h) :
    ld1 (.pointer (some ⟨b, 0 + 0, none⟩)) h = some (.int .i64 n) ∧ ld1 (.pointer (some ⟨b, 0 + 1, none⟩)) h = some (.slice (some ⟨r, 0, none⟩) 1 1) ∧ ld1 (.pointer (some ⟨b, 0 + 2, none⟩)) h = some (.int .i64 c) ∧
    ld1 (.pointer (some ⟨r, 0 + Int.toNat 0 * 1, none⟩)) h = some (.int .u64 w) := by
  have hb := pt_get hh
  have hr := pt_get (show (pt r (.cells #[.int .u64 (w : Int)] 122 (0, 0)) * (pt b (.cells #[.int .i64 n, .slice (some ⟨r, 0, none⟩) 1 1, .int .i64 c] 121 (0, 0)) * F)) h from asr (by ac_rfl) hh)
  exact ⟨ld1_mk hb rfl, ld1_mk hb rfl, ld1_mk hb rfl, ld1_mk hr rfl⟩
theorem use_bnew {n : Int} (hn : 1 ≤ n ∧ n ≤ 64) {F : Asrt} {K : Value → Hp → Prop} {h : Hp} (hh : F h) (hK : ∀ b h', (BS b (List.replicate n.toNat false) * F) h' → K (pB b) h') : CallH Tryz.prog 75 #[.int .i64 n] K h := by
  refine C75 ?_
  unfold D75
  have e1 : max2V (.int .i64 n) (.int .i64 0) = some (.int .i64 n) := by
    show some (Value.int .i64 (if 0 > n then 0 else n)) = _
    rw [if_neg (by omega)]
  have e2 : min2V (.int .i64 n) (.int .i64 16777216) = some (.int .i64 n) := by
    show some (Value.int .i64 (if 16777216 < n then 16777216 else n)) = _
    rw [if_neg (by omega)]
  have e3 : (n + 63) / 64 = 1 := by omega
  have e4 : msV 8 1 122 #[.int .u64 0] (.int .i64 1) (.int .i64 1) = some (.cells #[.int .u64 0] 122 (0, 0), fun r => .slice (some ⟨r, 0, none⟩) 1 1) := by
    have c : (0 : Int) ≤ 1 ∧ (1 : Int) ≤ 1 ∧ (1 : Int) * ((8 : Nat) : Int) ≤ 140737488355328 ∧ (1 : Int) ≤ 9223372036854775807 := by decide
    unfold msV
    simp only
    have e : Array.range (Int.toNat 1 * 1) = #[0] := by decide
    rw [if_pos c, e]
    simp
  have e5 : ∀ r : Nat, bldV #[.int .i64 0, .slice none 0 0, .int .i64 0] [(0, 1, .int .i64 n), (1, 1, .slice (some ⟨r, 0, none⟩) 1 1)] = some #[.int .i64 n, .slice (some ⟨r, 0, none⟩) 1 1, .int .i64 0] := fun r => rfl
  repeat (with_reducible first | refine vP_so ?_ | refine vB_t ?_ | refine vB_f ?_ | refine vE_tt ?_ | refine vE_ff ?_ | refine vE_tf ?_ | refine vE_ft ?_ | refine vE_u ?_ | refine vP_to (by simp (disch := omega) only [gdW_true, gdW_false, gB_true, gB_false, gB_undef, pickV_true, pickV_false, Bool.not_true, Bool.not_false, Option.map_some, bin_add, bin_sub, bin_mul, bin_quo, bin_rem, lss_t, lss_f, leq_t, leq_f, gtr_t, gtr_f, geq_t, geq_f, eqi_t, eqi_f, nei_t, nei_f, rem_uw, conv_ui, conv_iu, conv_ii, not_bool, nil_ptr, fa_mk, ptrV, len_mk, cap_mk, eq_ptr_nil, ne_ptr_nil, eq_nil_nil, ne_nil_nil, eq_slice_nil, eq_nil_slice, ia_1, e1, e2, e3]; exact so_so) ?_)
  rw [e4]
  refine vA_new (f := fun r => .slice (some ⟨r, 0, none⟩) 1 1) hh fun r h1 hh1 => ?_
  repeat (with_reducible first | refine vP_so ?_ | refine vB_t ?_ | refine vB_f ?_ | refine vE_tt ?_ | refine vE_ff ?_ | refine vE_tf ?_ | refine vE_ft ?_ | refine vE_u ?_ | refine vP_to (by simp (disch := omega) only [gdW_true, gdW_false, gB_true, gB_false, gB_undef, pickV_true, pickV_false, Bool.not_true, Bool.not_false, Option.map_some, bin_add, bin_sub, bin_mul, bin_quo, bin_rem, lss_t, lss_f, leq_t, leq_f, gtr_t, gtr_f, geq_t, geq_f, eqi_t, eqi_f, nei_t, nei_f, rem_uw, conv_ui, conv_iu, conv_ii, not_bool, nil_ptr, fa_mk, ptrV, len_mk, cap_mk, eq_ptr_nil, ne_ptr_nil, eq_nil_nil, ne_nil_nil, eq_slice_nil, eq_nil_slice, ia_1, e5]; exact so_so) ?_)
  refine vA_new hh1 fun b h2 hh2 => ?_
  refine hK b h2 (BS_intro (r := r) ?_)
  have z1 : (List.replicate n.toNat false).count true = 0 := by simp [List.count_replicate]
  have z2 : wd (List.replicate n.toNat false) = 0 := by have := wd_pad [] n.toNat; simpa [wd] using this
  rw [z1, z2, List.length_replicate, show ((n.toNat : Nat) : Int) = n by omega]
  exact hh2
theorem use_blen {b : Nat} {l : List Bool} {F : Asrt} {K : Value → Hp → Prop} {h : Hp} (hh : (BS b l * F) h) (hK : K (.int .i64 l.length) h) : CallH Tryz.prog 107 #[pB b] K h := by
  refine C107 ?_
  unfold D107
  obtain ⟨r, hp⟩ := BS_elim hh
  have l1 := bs_ld hp
  repeat (with_reducible first | refine vP_so ?_ | refine vB_t ?_ | refine vB_f ?_ | refine vE_tt ?_ | refine vE_ff ?_ | refine vE_tf ?_ | refine vE_ft ?_ | refine vE_u ?_ | refine vP_to (by simp (disch := omega) only [gdW_true, gdW_false, gB_true, gB_false, gB_undef, pickV_true, pickV_false, Bool.not_true, Bool.not_false, Option.map_some, bin_add, bin_sub, bin_mul, bin_quo, bin_rem, lss_t, lss_f, leq_t, leq_f, gtr_t, gtr_f, geq_t, geq_f, eqi_t, eqi_f, nei_t, nei_f, rem_uw, conv_ui, conv_iu, conv_ii, not_bool, nil_ptr, fa_mk, ptrV, len_mk, cap_mk, eq_ptr_nil, ne_ptr_nil, eq_nil_nil, ne_nil_nil, eq_slice_nil, eq_nil_slice, ia_1, pB, l1.1]; exact so_so) ?_)
  exact hK
theorem use_bcount {b : Nat} {l : List Bool} {F : Asrt} {K : Value → Hp → Prop} {h : Hp} (hh : (BS b l * F) h) (hK : K (.int .i64 (l.count true : Nat)) h) : CallH Tryz.prog 81 #[pB b] K h := by
  refine C81 ?_
  unfold D81
  obtain ⟨r, hp⟩ := BS_elim hh
  have l1 := bs_ld hp
  repeat (with_reducible first | refine vP_so ?_ | refine vB_t ?_ | refine vB_f ?_ | refine vE_tt ?_ | refine vE_ff ?_ | refine vE_tf ?_ | refine vE_ft ?_ | refine vE_u ?_ | refine vP_to (by simp (disch := omega) only [gdW_true, gdW_false, gB_true, gB_false, gB_undef, pickV_true, pickV_false, Bool.not_true, Bool.not_false, Option.map_some, bin_add, bin_sub, bin_mul, bin_quo, bin_rem, lss_t, lss_f, leq_t, leq_f, gtr_t, gtr_f, geq_t, geq_f, eqi_t, eqi_f, nei_t, nei_f, rem_uw, conv_ui, conv_iu, conv_ii, not_bool, nil_ptr, fa_mk, ptrV, len_mk, cap_mk, eq_ptr_nil, ne_ptr_nil, eq_nil_nil, ne_nil_nil, eq_slice_nil, eq_nil_slice, ia_1, pB, l1.2.2.1]; exact so_so) ?_)
  exact hK
def hasB (l : List Bool) (i : Int) : Bool := decide (0 ≤ i) && (l[i.toNat]?.getD false)
theorem hasB_nat (l : List Bool) (i : Nat) : hasB l i = l[i]?.getD false := by simp [hasB]
theorem use_bhas {b : Nat} {l : List Bool} {i : Int} (hl : l.length ≤ 64) {F : Asrt} {K : Value → Hp → Prop} {h : Hp} (hh : (BS b l * F) h) (hK : K (.bool (hasB l i)) h) : CallH Tryz.prog 85 #[pB b, .int .i64 i] K h := by
  refine C85 ?_
  unfold D85
  obtain ⟨r, hp⟩ := BS_elim hh
  have l1 := bs_ld hp
  have ne : eqV 4 true (pB b) (.pointer none) = some (.bool true) := rfl
  by_cases h1 : i < 0
  · have e : hasB l i = false := by unfold hasB; rw [decide_eq_false (by omega)]; rfl
    rw [e] at hK
    repeat (with_reducible first | refine vP_so ?_ | refine vB_t ?_ | refine vB_f ?_ | refine vE_tt ?_ | refine vE_ff ?_ | refine vE_tf ?_ | refine vE_ft ?_ | refine vE_u ?_ | refine vP_to (by simp (disch := omega) only [gdW_true, gdW_false, gB_true, gB_false, gB_undef, pickV_true, pickV_false, Bool.not_true, Bool.not_false, Option.map_some, bin_add, bin_sub, bin_mul, bin_quo, bin_rem, lss_t, lss_f, leq_t, leq_f, gtr_t, gtr_f, geq_t, geq_f, eqi_t, eqi_f, nei_t, nei_f, rem_uw, conv_ui, conv_iu, conv_ii, not_bool, nil_ptr, fa_mk, ptrV, len_mk, cap_mk, eq_ptr_nil, ne_ptr_nil, eq_nil_nil, ne_nil_nil, eq_slice_nil, eq_nil_slice, ia_1, ne]; exact so_so) ?_)
    exact hK
  obtain ⟨k, rfl⟩ : ∃ k : Nat, i = k := ⟨i.toNat, by omega⟩
  rw [hasB_nat] at hK
  by_cases h2 : l.length ≤ k
  · rw [List.getElem?_eq_none h2] at hK
    repeat (with_reducible first | refine vP_so ?_ | refine vB_t ?_ | refine vB_f ?_ | refine vE_tt ?_ | refine vE_ff ?_ | refine vE_tf ?_ | refine vE_ft ?_ | refine vE_u ?_ | refine vP_to (by simp (disch := omega) only [gdW_true, gdW_false, gB_true, gB_false, gB_undef, pickV_true, pickV_false, Bool.not_true, Bool.not_false, Option.map_some, bin_add, bin_sub, bin_mul, bin_quo, bin_rem, lss_t, lss_f, leq_t, leq_f, gtr_t, gtr_f, geq_t, geq_f, eqi_t, eqi_f, nei_t, nei_f, rem_uw, conv_ui, conv_iu, conv_ii, not_bool, nil_ptr, fa_mk, ptrV, len_mk, cap_mk, eq_ptr_nil, ne_ptr_nil, eq_nil_nil, ne_nil_nil, eq_slice_nil, eq_nil_slice, ia_1, ne, pB, l1.1]; exact so_so) ?_)
    exact hK
  have q1 : (k : Int) / 64 = 0 := by omega
  have q2 : (k : Int) % 64 = k := by omega
  have w1 := wd_64 (l := l.drop k) (by rw [List.length_drop]; omega)
  have w2 := wd_mod (l.drop k)
  have w3 : (l.drop k).headD false = l[k]?.getD false := by
    rw [List.drop_eq_getElem_cons (by omega), List.getElem?_eq_getElem (by omega)]; rfl
  rw [w3] at w2
  have s1 := shr_wd (l := l) (k := .u64) (i := k) (by omega)
  have s2 := and_one _ w1
  rw [w2] at s2
  generalize l[k]?.getD false = c at *
  repeat (with_reducible first | refine vP_so ?_ | refine vB_t ?_ | refine vB_f ?_ | refine vE_tt ?_ | refine vE_ff ?_ | refine vE_tf ?_ | refine vE_ft ?_ | refine vE_u ?_ | refine vP_to (by simp (disch := omega) only [gdW_true, gdW_false, gB_true, gB_false, gB_undef, pickV_true, pickV_false, Bool.not_true, Bool.not_false, Option.map_some, bin_add, bin_sub, bin_mul, bin_quo, bin_rem, lss_t, lss_f, leq_t, leq_f, gtr_t, gtr_f, geq_t, geq_f, eqi_t, eqi_f, nei_t, nei_f, rem_uw, conv_ui, conv_iu, conv_ii, not_bool, nil_ptr, fa_mk, ptrV, len_mk, cap_mk, eq_ptr_nil, ne_ptr_nil, eq_nil_nil, ne_nil_nil, eq_slice_nil, eq_nil_slice, ia_1, ne, pB, l1.1, l1.2.1, l1.2.2.2, q1, q2, s1, s2]; exact so_so) ?_)
  cases c
  · have e : eqV 1 false (.int .u64 ((false.toNat : Nat) : Int)) (.int .u64 1) = some (.bool false) := rfl
    repeat (with_reducible first | refine vP_so ?_ | refine vB_t ?_ | refine vB_f ?_ | refine vE_tt ?_ | refine vE_ff ?_ | refine vE_tf ?_ | refine vE_ft ?_ | refine vE_u ?_ | refine vP_to (by simp (disch := omega) only [gdW_true, gdW_false, gB_true, gB_false, gB_undef, pickV_true, pickV_false, Bool.not_true, Bool.not_false, Option.map_some, bin_add, bin_sub, bin_mul, bin_quo, bin_rem, lss_t, lss_f, leq_t, leq_f, gtr_t, gtr_f, geq_t, geq_f, eqi_t, eqi_f, nei_t, nei_f, rem_uw, conv_ui, conv_iu, conv_ii, not_bool, nil_ptr, fa_mk, ptrV, len_mk, cap_mk, eq_ptr_nil, ne_ptr_nil, eq_nil_nil, ne_nil_nil, eq_slice_nil, eq_nil_slice, ia_1, e]; exact so_so) ?_)
    exact hK
  · have e : eqV 1 false (.int .u64 ((true.toNat : Nat) : Int)) (.int .u64 1) = some (.bool true) := rfl
    repeat (with_reducible first | refine vP_so ?_ | refine vB_t ?_ | refine vB_f ?_ | refine vE_tt ?_ | refine vE_ff ?_ | refine vE_tf ?_ | refine vE_ft ?_ | refine vE_u ?_ | refine vP_to (by simp (disch := omega) only [gdW_true, gdW_false, gB_true, gB_false, gB_undef, pickV_true, pickV_false, Bool.not_true, Bool.not_false, Option.map_some, bin_add, bin_sub, bin_mul, bin_quo, bin_rem, lss_t, lss_f, leq_t, leq_f, gtr_t, gtr_f, geq_t, geq_f, eqi_t, eqi_f, nei_t, nei_f, rem_uw, conv_ui, conv_iu, conv_ii, not_bool, nil_ptr, fa_mk, ptrV, len_mk, cap_mk, eq_ptr_nil, ne_ptr_nil, eq_nil_nil, ne_nil_nil, eq_slice_nil, eq_nil_slice, ia_1, e]; exact so_so) ?_)
    exact hK
theorem use_turn {b : Nat} {l : List Bool} {k : Nat} {m : Int} (hl : l.length ≤ 64) (hk : k < l.length) (hm : ((l.set k (!l[k])).count true : Nat) = (l.count true : Nat) + m) {F : Asrt} {K : Value → Hp → Prop} {h : Hp} (hh : (BS b l * F) h)
    (hK : ∀ h', (BS b (l.set k (!l[k])) * F) h' → K (.tuple #[]) h') : CallH Tryz.prog 106 #[pB b, .int .i64 k, .int .i64 m] K h := by
  refine C106 ?_
  unfold D106
  obtain ⟨r, hp⟩ := BS_elim hh
  have l1 := bs_ld hp
  have q1 : (k : Int) / 64 = 0 := by omega
  have q2 : (k : Int) % 64 = k := by omega
  have s1 := shl_one (k := .u64) (i := k) (by omega)
  have s2 := xor_wd hk hl
  have hc := List.count_le_length (l := l) (a := true)
  have hc' := List.count_le_length (l := l.set k (!l[k])) (a := true)
  rw [List.length_set] at hc'
  repeat (with_reducible first | refine vP_so ?_ | refine vB_t ?_ | refine vB_f ?_ | refine vE_tt ?_ | refine vE_ff ?_ | refine vE_tf ?_ | refine vE_ft ?_ | refine vE_u ?_ | refine vP_to (by simp (disch := omega) only [gdW_true, gdW_false, gB_true, gB_false, gB_undef, pickV_true, pickV_false, Bool.not_true, Bool.not_false, Option.map_some, bin_add, bin_sub, bin_mul, bin_quo, bin_rem, lss_t, lss_f, leq_t, leq_f, gtr_t, gtr_f, geq_t, geq_f, eqi_t, eqi_f, nei_t, nei_f, rem_uw, conv_ui, conv_iu, conv_ii, not_bool, nil_ptr, fa_mk, ptrV, len_mk, cap_mk, eq_ptr_nil, ne_ptr_nil, eq_nil_nil, ne_nil_nil, eq_slice_nil, eq_nil_slice, ia_1, pB, l1.1, l1.2.1, l1.2.2.2, q1, q2, s1, s2]; exact so_so) ?_)
  have hp2 : (pt r (.cells #[.int .u64 (wd l)] 122 (0, 0)) * (pt b (.cells #[.int .i64 l.length, .slice (some ⟨r, 0, none⟩) 1 1, .int .i64 (l.count true : Nat)] 121 (0, 0)) * F)) h := asr (by ac_rfl) hp
  refine st1_mk hp2 rfl (by simp) fun h1 hh1 => ?_
  have hp3 : (pt b (.cells #[.int .i64 l.length, .slice (some ⟨r, 0, none⟩) 1 1, .int .i64 (l.count true : Nat)] 121 (0, 0)) * (pt r (.cells #[.int .u64 (wd (l.set k (!l[k])))] 122 (0, 0)) * F)) h1 := asr (by ac_rfl) hh1
  have l2 := bs_ld hp3
  repeat (with_reducible first | refine vP_so ?_ | refine vB_t ?_ | refine vB_f ?_ | refine vE_tt ?_ | refine vE_ff ?_ | refine vE_tf ?_ | refine vE_ft ?_ | refine vE_u ?_ | refine vP_to (by simp (disch := omega) only [gdW_true, gdW_false, gB_true, gB_false, gB_undef, pickV_true, pickV_false, Bool.not_true, Bool.not_false, Option.map_some, bin_add, bin_sub, bin_mul, bin_quo, bin_rem, lss_t, lss_f, leq_t, leq_f, gtr_t, gtr_f, geq_t, geq_f, eqi_t, eqi_f, nei_t, nei_f, rem_uw, conv_ui, conv_iu, conv_ii, not_bool, nil_ptr, fa_mk, ptrV, len_mk, cap_mk, eq_ptr_nil, ne_ptr_nil, eq_nil_nil, ne_nil_nil, eq_slice_nil, eq_nil_slice, ia_1, pB, l2.2.2.1]; exact so_so) ?_)
  refine st1_mk hp3 rfl (by simp) fun h2 hh2 => ?_
  refine hK h2 (BS_intro (r := r) ?_)
  rw [List.length_set, hm]
  exact hh2
theorem use_bset {b : Nat} {l : List Bool} {k : Nat} (hl : l.length ≤ 64) (hk : k < l.length) {F : Asrt} {K : Value → Hp → Prop} {h : Hp} (hh : (BS b l * F) h)
    (hK : ∀ h', (BS b (l.set k true) * F) h' → K (.bool !l[k]) h') : CallH Tryz.prog 79 #[pB b, .int .i64 k] K h := by
  refine C79 ?_
  unfold D79
  obtain ⟨r, hp⟩ := BS_elim hh
  have l1 := bs_ld hp
  have ne : eqV 4 false (pB b) (.pointer none) = some (.bool false) := rfl
  repeat (with_reducible first | refine vP_so ?_ | refine vB_t ?_ | refine vB_f ?_ | refine vE_tt ?_ | refine vE_ff ?_ | refine vE_tf ?_ | refine vE_ft ?_ | refine vE_u ?_ | refine vP_to (by simp (disch := omega) only [gdW_true, gdW_false, gB_true, gB_false, gB_undef, pickV_true, pickV_false, Bool.not_true, Bool.not_false, Option.map_some, bin_add, bin_sub, bin_mul, bin_quo, bin_rem, lss_t, lss_f, leq_t, leq_f, gtr_t, gtr_f, geq_t, geq_f, eqi_t, eqi_f, nei_t, nei_f, rem_uw, conv_ui, conv_iu, conv_ii, not_bool, nil_ptr, fa_mk, ptrV, len_mk, cap_mk, eq_ptr_nil, ne_ptr_nil, eq_nil_nil, ne_nil_nil, eq_slice_nil, eq_nil_slice, ia_1, ne, pB, l1.1]; exact so_so) ?_)
  refine use_bhas hl hh ?_
  rw [hasB_nat, List.getElem?_eq_getElem hk, Option.getD_some]
  cases hc : l[k] with
  | true =>
    rw [hc] at hK
    have e : l.set k true = l := by rw [← hc]; exact List.set_getElem_self hk
    rw [e] at hK
    repeat (with_reducible first | refine vP_so ?_ | refine vB_t ?_ | refine vB_f ?_ | refine vE_tt ?_ | refine vE_ff ?_ | refine vE_tf ?_ | refine vE_ft ?_ | refine vE_u ?_ | refine vP_to (by simp (disch := omega) only [gdW_true, gdW_false, gB_true, gB_false, gB_undef, pickV_true, pickV_false, Bool.not_true, Bool.not_false, Option.map_some, bin_add, bin_sub, bin_mul, bin_quo, bin_rem, lss_t, lss_f, leq_t, leq_f, gtr_t, gtr_f, geq_t, geq_f, eqi_t, eqi_f, nei_t, nei_f, rem_uw, conv_ui, conv_iu, conv_ii, not_bool, nil_ptr, fa_mk, ptrV, len_mk, cap_mk, eq_ptr_nil, ne_ptr_nil, eq_nil_nil, ne_nil_nil, eq_slice_nil, eq_nil_slice, ia_1]; exact so_so) ?_)
    exact hK h hh
  | false =>
    repeat (with_reducible first | refine vP_so ?_ | refine vB_t ?_ | refine vB_f ?_ | refine vE_tt ?_ | refine vE_ff ?_ | refine vE_tf ?_ | refine vE_ft ?_ | refine vE_u ?_ | refine vP_to (by simp (disch := omega) only [gdW_true, gdW_false, gB_true, gB_false, gB_undef, pickV_true, pickV_false, Bool.not_true, Bool.not_false, Option.map_some, bin_add, bin_sub, bin_mul, bin_quo, bin_rem, lss_t, lss_f, leq_t, leq_f, gtr_t, gtr_f, geq_t, geq_f, eqi_t, eqi_f, nei_t, nei_f, rem_uw, conv_ui, conv_iu, conv_ii, not_bool, nil_ptr, fa_mk, ptrV, len_mk, cap_mk, eq_ptr_nil, ne_ptr_nil, eq_nil_nil, ne_nil_nil, eq_slice_nil, eq_nil_slice, ia_1]; exact so_so) ?_)
    have hc2 : l[k]? = some false := by rw [List.getElem?_eq_getElem hk, hc]
    refine use_turn (m := 1) hl hk (by rw [hc, Bool.not_false, count_set hc2]; omega) hh fun h1 hh1 => ?_
    rw [hc, Bool.not_false] at hh1 hK
    repeat (with_reducible first | refine vP_so ?_ | refine vB_t ?_ | refine vB_f ?_ | refine vE_tt ?_ | refine vE_ff ?_ | refine vE_tf ?_ | refine vE_ft ?_ | refine vE_u ?_ | refine vP_to (by simp (disch := omega) only [gdW_true, gdW_false, gB_true, gB_false, gB_undef, pickV_true, pickV_false, Bool.not_true, Bool.not_false, Option.map_some, bin_add, bin_sub, bin_mul, bin_quo, bin_rem, lss_t, lss_f, leq_t, leq_f, gtr_t, gtr_f, geq_t, geq_f, eqi_t, eqi_f, nei_t, nei_f, rem_uw, conv_ui, conv_iu, conv_ii, not_bool, nil_ptr, fa_mk, ptrV, len_mk, cap_mk, eq_ptr_nil, ne_ptr_nil, eq_nil_nil, ne_nil_nil, eq_slice_nil, eq_nil_slice, ia_1]; exact so_so) ?_)
    exact hK h1 hh1
theorem use_bclear {b : Nat} {l : List Bool} {k : Nat} (hl : l.length ≤ 64) (hk : k < l.length) {F : Asrt} {K : Value → Hp → Prop} {h : Hp} (hh : (BS b l * F) h)
    (hK : ∀ h', (BS b (l.set k false) * F) h' → K (.bool l[k]) h') : CallH Tryz.prog 87 #[pB b, .int .i64 k] K h := by
  refine C87 ?_
  unfold D87
  refine use_bhas hl hh ?_
  rw [hasB_nat, List.getElem?_eq_getElem hk, Option.getD_some]
  cases hc : l[k] with
  | false =>
    rw [hc] at hK
    have e : l.set k false = l := by rw [← hc]; exact List.set_getElem_self hk
    rw [e] at hK
    repeat (with_reducible first | refine vP_so ?_ | refine vB_t ?_ | refine vB_f ?_ | refine vE_tt ?_ | refine vE_ff ?_ | refine vE_tf ?_ | refine vE_ft ?_ | refine vE_u ?_ | refine vP_to (by simp (disch := omega) only [gdW_true, gdW_false, gB_true, gB_false, gB_undef, pickV_true, pickV_false, Bool.not_true, Bool.not_false, Option.map_some, bin_add, bin_sub, bin_mul, bin_quo, bin_rem, lss_t, lss_f, leq_t, leq_f, gtr_t, gtr_f, geq_t, geq_f, eqi_t, eqi_f, nei_t, nei_f, rem_uw, conv_ui, conv_iu, conv_ii, not_bool, nil_ptr, fa_mk, ptrV, len_mk, cap_mk, eq_ptr_nil, ne_ptr_nil, eq_nil_nil, ne_nil_nil, eq_slice_nil, eq_nil_slice, ia_1]; exact so_so) ?_)
    exact hK h hh
  | true =>
    repeat (with_reducible first | refine vP_so ?_ | refine vB_t ?_ | refine vB_f ?_ | refine vE_tt ?_ | refine vE_ff ?_ | refine vE_tf ?_ | refine vE_ft ?_ | refine vE_u ?_ | refine vP_to (by simp (disch := omega) only [gdW_true, gdW_false, gB_true, gB_false, gB_undef, pickV_true, pickV_false, Bool.not_true, Bool.not_false, Option.map_some, bin_add, bin_sub, bin_mul, bin_quo, bin_rem, lss_t, lss_f, leq_t, leq_f, gtr_t, gtr_f, geq_t, geq_f, eqi_t, eqi_f, nei_t, nei_f, rem_uw, conv_ui, conv_iu, conv_ii, not_bool, nil_ptr, fa_mk, ptrV, len_mk, cap_mk, eq_ptr_nil, ne_ptr_nil, eq_nil_nil, ne_nil_nil, eq_slice_nil, eq_nil_slice, ia_1]; exact so_so) ?_)
    have hc2 : l[k]? = some true := by rw [List.getElem?_eq_getElem hk, hc]
    refine use_turn (m := -1) hl hk (by rw [hc, Bool.not_true]; have := count_clr hc2; omega) hh fun h1 hh1 => ?_
    rw [hc, Bool.not_true] at hh1
    rw [hc] at hK
    repeat (with_reducible first | refine vP_so ?_ | refine vB_t ?_ | refine vB_f ?_ | refine vE_tt ?_ | refine vE_ff ?_ | refine vE_tf ?_ | refine vE_ft ?_ | refine vE_u ?_ | refine vP_to (by simp (disch := omega) only [gdW_true, gdW_false, gB_true, gB_false, gB_undef, pickV_true, pickV_false, Bool.not_true, Bool.not_false, Option.map_some, bin_add, bin_sub, bin_mul, bin_quo, bin_rem, lss_t, lss_f, leq_t, leq_f, gtr_t, gtr_f, geq_t, geq_f, eqi_t, eqi_f, nei_t, nei_f, rem_uw, conv_ui, conv_iu, conv_ii, not_bool, nil_ptr, fa_mk, ptrV, len_mk, cap_mk, eq_ptr_nil, ne_ptr_nil, eq_nil_nil, ne_nil_nil, eq_slice_nil, eq_nil_slice, ia_1]; exact so_so) ?_)
    exact hK h1 hh1
theorem use_tz {g : Hp} (hg : TabG 0 g) {x : Nat} (h0 : x ≠ 0) (hx : x < 18446744073709551616) {F : Asrt} {K : Value → Hp → Prop} {h : Hp} (hh : (own g * F) h) (hK : K (.int .i64 (Lib.ctz 64 x : Nat)) h) : CallH Tryz.prog 104 #[.int .u64 x] K h := by
  refine C104 ?_
  unfold D104
  obtain ⟨a, idx, ha, e1, e2, hi, e3, e4⟩ := tz_steps h0 hx
  have s0 : eqV 1 false (.int .u64 (x : Int)) (.int .u64 0) = some (.bool false) := eqi_f (by omega)
  have s1 := neg_u h0 hx
  have s2 := and_nat (x := x) (y := 18446744073709551616 - x) hx (by omega)
  rw [e1] at s2
  have s3 : binV .mul (.int .u64 (a : Int)) (.int .u64 285870213051353865) = some (.int .u64 ((a * 285870213051353865 % 18446744073709551616 : Nat) : Int)) := mul_u (y := 285870213051353865)
  have s4 := shr_nat (x := a * 285870213051353865 % 18446744073709551616) (i := 58) (k := .u64) (by omega)
  rw [e2] at s4
  have s4 : binV .shr (.int .u64 ((a * 285870213051353865 % 18446744073709551616 : Nat) : Int)) (.int .u64 58) = some (.int .u64 (idx : Int)) := s4
  have s5 : iaA 64 1 (.pointer (some ⟨0, 0, none⟩)) (.int .u64 (idx : Int)) = some (.pointer (some ⟨0, idx, none⟩)) := by rw [iaA_nat hi, Nat.mul_one, Nat.zero_add]
  have s6 := own_tab hg hh hi
  rw [e3] at s6
  have s7 := conv_i8 (k := .u8) e4
  generalize a * 285870213051353865 % 18446744073709551616 = y at *
  generalize 18446744073709551616 - x = z at *
  generalize Lib.ctz 64 x = c at *
  repeat (with_reducible first | refine vP_so ?_ | refine vB_t ?_ | refine vB_f ?_ | refine vE_tt ?_ | refine vE_ff ?_ | refine vE_tf ?_ | refine vE_ft ?_ | refine vE_u ?_ | refine vP_to (by simp (disch := omega) only [gdW_true, gdW_false, gB_true, gB_false, gB_undef, pickV_true, pickV_false, Bool.not_true, Bool.not_false, Option.map_some, bin_add, bin_sub, bin_mul, bin_quo, bin_rem, lss_t, lss_f, leq_t, leq_f, gtr_t, gtr_f, geq_t, geq_f, eqi_t, eqi_f, nei_t, nei_f, rem_uw, conv_ui, conv_iu, conv_ii, not_bool, nil_ptr, fa_mk, ptrV, len_mk, cap_mk, eq_ptr_nil, ne_ptr_nil, eq_nil_nil, ne_nil_nil, eq_slice_nil, eq_nil_slice, ia_1, s0, s1, s2, s3, s4, s5, s6, s7]; exact so_so) ?_)
  exact hK
def nxI (l : List Bool) (i : Nat) (b : Bool) : Int := match nx l i b with | some j => (j : Int) | none => -1
set_option maxHeartbeats 1000000 in
theorem use_bnext {g : Hp} (hg : TabG 0 g) {b : Nat} {l : List Bool} {i : Nat} {has : Bool} (hl : l.length ≤ 64) (hi64 : i ≤ 64) {F : Asrt} {K : Value → Hp → Prop} {h : Hp} (hh : (BS b l * (own g * F)) h)
    (hK : K (.int .i64 (nxI l i has)) h) : CallH Tryz.prog 77 #[pB b, .int .i64 i, .bool has] K h := by
  refine C77 ?_
  unfold D77
  obtain ⟨r, hp⟩ := BS_elim hh
  have l1 := bs_ld hp
  have ne : eqV 4 false (pB b) (.pointer none) = some (.bool false) := rfl
  by_cases hil : l.length ≤ i
  · have e : nxI l i has = -1 := by
      unfold nxI nx
      rw [List.drop_of_length_le hil]; rfl
    rw [e] at hK
    repeat (with_reducible first | refine vP_so ?_ | refine vB_t ?_ | refine vB_f ?_ | refine vE_tt ?_ | refine vE_ff ?_ | refine vE_tf ?_ | refine vE_ft ?_ | refine vE_u ?_ | refine vP_to (by simp (disch := omega) only [gdW_true, gdW_false, gB_true, gB_false, gB_undef, pickV_true, pickV_false, Bool.not_true, Bool.not_false, Option.map_some, bin_add, bin_sub, bin_mul, bin_quo, bin_rem, lss_t, lss_f, leq_t, leq_f, gtr_t, gtr_f, geq_t, geq_f, eqi_t, eqi_f, nei_t, nei_f, rem_uw, conv_ui, conv_iu, conv_ii, not_bool, nil_ptr, fa_mk, ptrV, len_mk, cap_mk, eq_ptr_nil, ne_ptr_nil, eq_nil_nil, ne_nil_nil, eq_slice_nil, eq_nil_slice, ia_1, ne, pB, l1.1]; exact so_so) ?_)
    exact hK
  have hown : (own g * (BS b l * F)) h := asr (by ac_rfl) hh
  have e1 : max2V (.int .i64 (i : Int)) (.int .i64 0) = some (.int .i64 (i : Int)) := by
    show some (Value.int .i64 (if 0 > (i : Int) then 0 else (i : Int))) = _
    rw [if_neg (by omega)]
  have q1 : (i : Int) / 64 = 0 := by omega
  have q2 : (i : Int) % 64 = i := by omega
  have hlk := nx_lookB (l := l) (i := i) (has := has) hl (by omega)
  have hll := lookB_len (l := l) (has := has) hl
  have s1 := shr_wd (l := lookB l has) (k := .u64) (i := i) (by omega)
  have hw := wd_64 (l := (lookB l has).drop i) (by rw [List.length_drop]; omega)
  have hctz := fun h0 => ctz_wd (l := (lookB l has).drop i) (by rw [List.length_drop]; omega) h0
  have hfl : ((lookB l has).drop i).findIdx id ≤ 64 := by
    have := List.findIdx_le_length (p := id) (xs := (lookB l has).drop i)
    rw [List.length_drop] at this; omega
  repeat (with_reducible first | refine vP_so ?_ | refine vB_t ?_ | refine vB_f ?_ | refine vE_tt ?_ | refine vE_ff ?_ | refine vE_tf ?_ | refine vE_ft ?_ | refine vE_u ?_ | refine vP_to (by simp (disch := omega) only [gdW_true, gdW_false, gB_true, gB_false, gB_undef, pickV_true, pickV_false, Bool.not_true, Bool.not_false, Option.map_some, bin_add, bin_sub, bin_mul, bin_quo, bin_rem, lss_t, lss_f, leq_t, leq_f, gtr_t, gtr_f, geq_t, geq_f, eqi_t, eqi_f, nei_t, nei_f, rem_uw, conv_ui, conv_iu, conv_ii, not_bool, nil_ptr, fa_mk, ptrV, len_mk, cap_mk, eq_ptr_nil, ne_ptr_nil, eq_nil_nil, ne_nil_nil, eq_slice_nil, eq_nil_slice, ia_1, ne, pB, l1.1, e1]; exact so_so) ?_)
  refine ⟨fun n zs h' => (zs = [.int .i64 i] ∧ n = 1 ∧ h' = h) ∨ (zs = [.int .i64 64] ∧ n = 0 ∧ h' = h ∧ nxI l i has = -1), ⟨1, .inl ⟨rfl, rfl, rfl⟩⟩, ?_⟩
  rintro n v1 h1 (⟨hzs, rfl, rfl⟩ | ⟨hzs, rfl, rfl, hno⟩) _
  · obtain rfl : v1 = .int .i64 i := by simpa using hzs
    repeat (with_reducible first | refine vP_so ?_ | refine vB_t ?_ | refine vB_f ?_ | refine vE_tt ?_ | refine vE_ff ?_ | refine vE_tf ?_ | refine vE_ft ?_ | refine vE_u ?_ | refine vP_to (by simp (disch := omega) only [gdW_true, gdW_false, gB_true, gB_false, gB_undef, pickV_true, pickV_false, Bool.not_true, Bool.not_false, Option.map_some, bin_add, bin_sub, bin_mul, bin_quo, bin_rem, lss_t, lss_f, leq_t, leq_f, gtr_t, gtr_f, geq_t, geq_f, eqi_t, eqi_f, nei_t, nei_f, rem_uw, conv_ui, conv_iu, conv_ii, not_bool, nil_ptr, fa_mk, ptrV, len_mk, cap_mk, eq_ptr_nil, ne_ptr_nil, eq_nil_nil, ne_nil_nil, eq_slice_nil, eq_nil_slice, ia_1, pB, l1.1, l1.2.1, l1.2.2.2, q1]; exact so_so) ?_)
    intro J2 hJ2
    have hJ : J2 [.int .u64 (wd (lookB l has))] h1 := by
      refine hJ2 _ _ fun _ => ?_
      repeat (with_reducible first | refine vP_so ?_ | refine vB_t ?_ | refine vB_f ?_ | refine vE_tt ?_ | refine vE_ff ?_ | refine vE_tf ?_ | refine vE_ft ?_ | refine vE_u ?_ | refine vP_to (by simp (disch := omega) only [gdW_true, gdW_false, gB_true, gB_false, gB_undef, pickV_true, pickV_false, Bool.not_true, Bool.not_false, Option.map_some, bin_add, bin_sub, bin_mul, bin_quo, bin_rem, lss_t, lss_f, leq_t, leq_f, gtr_t, gtr_f, geq_t, geq_f, eqi_t, eqi_f, nei_t, nei_f, rem_uw, conv_ui, conv_iu, conv_ii, not_bool, nil_ptr, fa_mk, ptrV, len_mk, cap_mk, eq_ptr_nil, ne_ptr_nil, eq_nil_nil, ne_nil_nil, eq_slice_nil, eq_nil_slice, ia_1, q2, s1]; exact so_so) ?_)
      by_cases h0 : wd ((lookB l has).drop i) = 0
      · have hno : nxI l i has = -1 := by
          unfold nxI
          cases hq : nx l i has with
          | none => rfl
          | some j => rw [hq] at hlk; exact (hlk.1 h0).elim
        rw [h0]
        have z : eqV 1 true (.int .u64 ((0 : Nat) : Int)) (.int .u64 0) = some (.bool false) := rfl
        have q3 : ((i : Int) / 64 + 1) * 64 = 64 := by omega
        repeat (with_reducible first | refine vP_so ?_ | refine vB_t ?_ | refine vB_f ?_ | refine vE_tt ?_ | refine vE_ff ?_ | refine vE_tf ?_ | refine vE_ft ?_ | refine vE_u ?_ | refine vP_to (by simp (disch := omega) only [gdW_true, gdW_false, gB_true, gB_false, gB_undef, pickV_true, pickV_false, Bool.not_true, Bool.not_false, Option.map_some, bin_add, bin_sub, bin_mul, bin_quo, bin_rem, lss_t, lss_f, leq_t, leq_f, gtr_t, gtr_f, geq_t, geq_f, eqi_t, eqi_f, nei_t, nei_f, rem_uw, conv_ui, conv_iu, conv_ii, not_bool, nil_ptr, fa_mk, ptrV, len_mk, cap_mk, eq_ptr_nil, ne_ptr_nil, eq_nil_nil, ne_nil_nil, eq_slice_nil, eq_nil_slice, ia_1, z, q1]; exact so_so) ?_)
        exact ⟨0, by omega, .inr ⟨by simp, rfl, rfl, hno⟩⟩
      · have z : eqV 1 true (.int .u64 ((wd ((lookB l has).drop i) : Nat) : Int)) (.int .u64 0) = some (.bool true) := nei_t (by omega)
        repeat (with_reducible first | refine vP_so ?_ | refine vB_t ?_ | refine vB_f ?_ | refine vE_tt ?_ | refine vE_ff ?_ | refine vE_tf ?_ | refine vE_ft ?_ | refine vE_u ?_ | refine vP_to (by simp (disch := omega) only [gdW_true, gdW_false, gB_true, gB_false, gB_undef, pickV_true, pickV_false, Bool.not_true, Bool.not_false, Option.map_some, bin_add, bin_sub, bin_mul, bin_quo, bin_rem, lss_t, lss_f, leq_t, leq_f, gtr_t, gtr_f, geq_t, geq_f, eqi_t, eqi_f, nei_t, nei_f, rem_uw, conv_ui, conv_iu, conv_ii, not_bool, nil_ptr, fa_mk, ptrV, len_mk, cap_mk, eq_ptr_nil, ne_ptr_nil, eq_nil_nil, ne_nil_nil, eq_slice_nil, eq_nil_slice, ia_1, z]; exact so_so) ?_)
        refine use_tz hg h0 hw hown ?_
        rw [hctz h0]
        cases hq : nx l i has with
        | some j =>
          rw [hq] at hlk
          have e : (i : Int) + ((((lookB l has).drop i).findIdx id : Nat) : Int) = (j : Int) := by omega
          have e2 : nxI l i has = j := by unfold nxI; rw [hq]
          rw [e2] at hK
          have := hlk.2.2
          repeat (with_reducible first | refine vP_so ?_ | refine vB_t ?_ | refine vB_f ?_ | refine vE_tt ?_ | refine vE_ff ?_ | refine vE_tf ?_ | refine vE_ft ?_ | refine vE_u ?_ | refine vP_to (by simp (disch := omega) only [gdW_true, gdW_false, gB_true, gB_false, gB_undef, pickV_true, pickV_false, Bool.not_true, Bool.not_false, Option.map_some, bin_add, bin_sub, bin_mul, bin_quo, bin_rem, lss_t, lss_f, leq_t, leq_f, gtr_t, gtr_f, geq_t, geq_f, eqi_t, eqi_f, nei_t, nei_f, rem_uw, conv_ui, conv_iu, conv_ii, not_bool, nil_ptr, fa_mk, ptrV, len_mk, cap_mk, eq_ptr_nil, ne_ptr_nil, eq_nil_nil, ne_nil_nil, eq_slice_nil, eq_nil_slice, ia_1, e, pB, l1.1]; exact so_so) ?_)
          exact hK
        | none =>
          rw [hq] at hlk
          have e2 : nxI l i has = -1 := by unfold nxI; rw [hq]
          rw [e2] at hK
          have hge : l.length ≤ ((lookB l has).drop i).findIdx id + i := by
            rcases hlk with hlk | hlk
            · exact (h0 hlk).elim
            · exact hlk
          repeat (with_reducible first | refine vP_so ?_ | refine vB_t ?_ | refine vB_f ?_ | refine vE_tt ?_ | refine vE_ff ?_ | refine vE_tf ?_ | refine vE_ft ?_ | refine vE_u ?_ | refine vP_to (by simp (disch := omega) only [gdW_true, gdW_false, gB_true, gB_false, gB_undef, pickV_true, pickV_false, Bool.not_true, Bool.not_false, Option.map_some, bin_add, bin_sub, bin_mul, bin_quo, bin_rem, lss_t, lss_f, leq_t, leq_f, gtr_t, gtr_f, geq_t, geq_f, eqi_t, eqi_f, nei_t, nei_f, rem_uw, conv_ui, conv_iu, conv_ii, not_bool, nil_ptr, fa_mk, ptrV, len_mk, cap_mk, eq_ptr_nil, ne_ptr_nil, eq_nil_nil, ne_nil_nil, eq_slice_nil, eq_nil_slice, ia_1, pB, l1.1]; exact so_so) ?_)
          exact hK
    cases has
    · have nn := not_wd hl
      have e3 : lookB l false = (pad l).map not := rfl
      rw [e3] at hJ
      repeat (with_reducible first | refine vP_so ?_ | refine vB_t ?_ | refine vB_f ?_ | refine vE_tt ?_ | refine vE_ff ?_ | refine vE_tf ?_ | refine vE_ft ?_ | refine vE_u ?_ | refine vP_to (by simp (disch := omega) only [gdW_true, gdW_false, gB_true, gB_false, gB_undef, pickV_true, pickV_false, Bool.not_true, Bool.not_false, Option.map_some, bin_add, bin_sub, bin_mul, bin_quo, bin_rem, lss_t, lss_f, leq_t, leq_f, gtr_t, gtr_f, geq_t, geq_f, eqi_t, eqi_f, nei_t, nei_f, rem_uw, conv_ui, conv_iu, conv_ii, not_bool, nil_ptr, fa_mk, ptrV, len_mk, cap_mk, eq_ptr_nil, ne_ptr_nil, eq_nil_nil, ne_nil_nil, eq_slice_nil, eq_nil_slice, ia_1, nn]; exact so_so) ?_)
      exact hJ
    · have e3 : wd (lookB l true) = wd l := pad_wd l
      rw [e3] at hJ
      repeat (with_reducible first | refine vP_so ?_ | refine vB_t ?_ | refine vB_f ?_ | refine vE_tt ?_ | refine vE_ff ?_ | refine vE_tf ?_ | refine vE_ft ?_ | refine vE_u ?_ | refine vP_to (by simp (disch := omega) only [gdW_true, gdW_false, gB_true, gB_false, gB_undef, pickV_true, pickV_false, Bool.not_true, Bool.not_false, Option.map_some, bin_add, bin_sub, bin_mul, bin_quo, bin_rem, lss_t, lss_f, leq_t, leq_f, gtr_t, gtr_f, geq_t, geq_f, eqi_t, eqi_f, nei_t, nei_f, rem_uw, conv_ui, conv_iu, conv_ii, not_bool, nil_ptr, fa_mk, ptrV, len_mk, cap_mk, eq_ptr_nil, ne_ptr_nil, eq_nil_nil, ne_nil_nil, eq_slice_nil, eq_nil_slice, ia_1]; exact so_so) ?_)
      exact hJ
  · obtain rfl : v1 = .int .i64 64 := by simpa using hzs
    rw [hno] at hK
    repeat (with_reducible first | refine vP_so ?_ | refine vB_t ?_ | refine vB_f ?_ | refine vE_tt ?_ | refine vE_ff ?_ | refine vE_tf ?_ | refine vE_ft ?_ | refine vE_u ?_ | refine vP_to (by simp (disch := omega) only [gdW_true, gdW_false, gB_true, gB_false, gB_undef, pickV_true, pickV_false, Bool.not_true, Bool.not_false, Option.map_some, bin_add, bin_sub, bin_mul, bin_quo, bin_rem, lss_t, lss_f, leq_t, leq_f, gtr_t, gtr_f, geq_t, geq_f, eqi_t, eqi_f, nei_t, nei_f, rem_uw, conv_ui, conv_iu, conv_ii, not_bool, nil_ptr, fa_mk, ptrV, len_mk, cap_mk, eq_ptr_nil, ne_ptr_nil, eq_nil_nil, ne_nil_nil, eq_slice_nil, eq_nil_slice, ia_1, pB, l1.1]; exact so_so) ?_)
    exact hK
def idsI (l : List Bool) : List Int := (ids l).map fun (i : Nat) => (i : Int)
theorem idsI_len (l : List Bool) : (idsI l).length = l.count true := by rw [idsI, List.length_map, ids_len]
theorem idsI_get {l : List Bool} {i : Nat} : (idsI l)[i]? = ((ids l)[i]?).map fun (i : Nat) => (i : Int) := by rw [idsI, List.getElem?_map]
theorem use_ball {g : Hp} (hg : TabG 0 g) {b : Nat} {l : List Bool} (hl : l.length ≤ 64) {F : Asrt} {K : Value → Hp → Prop} {h : Hp} (hh : (BS b l * (own g * (F * tt))) h)
    (hK : ∀ v h', (SG iE 3 v (idsI l) * (BS b l * (own g * (F * tt)))) h' → K v h') : CallH Tryz.prog 86 #[pB b] K h := by
  refine C86 ?_
  unfold D86
  refine use_bcount hh ?_
  have hc := List.count_le_length (l := l) (a := true)
  have hlen := idsI_len l
  refine ⟨fun m zs h' => ∃ (i : Nat) (v3 : Value), zs = [.int .i64 i, v3] ∧ m = l.count true - i ∧ i ≤ l.count true ∧ (SG iE 3 v3 ((idsI l).take i) * (BS b l * (own g * (F * tt)))) h', ⟨_, 0, .slice none 0 0, rfl, rfl, by omega, SG_nil iE hh⟩, ?_⟩
  rintro m v7 v3 h1 ⟨i, v3', hzs, rfl, hi, hh1⟩ _
  obtain ⟨rfl, rfl⟩ : v7 = .int .i64 i ∧ v3 = v3' := by simpa using hzs
  by_cases hic : i < l.count true
  · have hlen3 := SG_len iE hh1
    rw [List.length_take, hlen, Nat.min_eq_left hi] at hlen3
    obtain ⟨x, hx⟩ : ∃ x, (ids l)[i]? = some x := ⟨_, List.getElem?_eq_getElem (by rw [ids_len]; exact hic)⟩
    have hxl : x < l.length := ids_lt (List.mem_of_getElem? hx)
    have hxI : (idsI l)[i]? = some (x : Int) := by rw [idsI_get, hx]; rfl
    repeat (with_reducible first | refine vP_so ?_ | refine vB_t ?_ | refine vB_f ?_ | refine vE_tt ?_ | refine vE_ff ?_ | refine vE_tf ?_ | refine vE_ft ?_ | refine vE_u ?_ | refine vP_to (by simp (disch := omega) only [gdW_true, gdW_false, gB_true, gB_false, gB_undef, pickV_true, pickV_false, Bool.not_true, Bool.not_false, Option.map_some, bin_add, bin_sub, bin_mul, bin_quo, bin_rem, lss_t, lss_f, leq_t, leq_f, gtr_t, gtr_f, geq_t, geq_f, eqi_t, eqi_f, nei_t, nei_f, rem_uw, conv_ui, conv_iu, conv_ii, not_bool, nil_ptr, fa_mk, ptrV, len_mk, cap_mk, eq_ptr_nil, ne_ptr_nil, eq_nil_nil, ne_nil_nil, eq_slice_nil, eq_nil_slice, ia_1]; exact so_so) ?_)
    intro J2 hJ2
    have hJ : ∀ (v4 : Nat), v4 ≤ 64 → nx l v4 true = some x → J2 [.int .i64 v4] h1 := fun v4 h64 hnx => by
      refine hJ2 _ _ fun _ => ?_
      refine use_bnext (F := SG iE 3 v3 ((idsI l).take i) * (F * tt)) hg hl h64 (asr (by ac_rfl) hh1) ?_
      have e : nxI l v4 true = x := by unfold nxI; rw [hnx]
      rw [e]
      have eb : bldV #[.int .i64 0] [(0, 1, .int .i64 (x : Int))] = some #[.int .i64 (x : Int)] := rfl
      rw [eb]
      refine vA_new (f := fun r => .slice (some ⟨r, 0, none⟩) 1 1) hh1 fun r9 h9 hh9 => ?_
      refine ap_new iE (l := (idsI l).take i) (m := [(x : Int)]) (F := BS b l * (own g * F)) elInt rfl rfl niInts rfl (by omega) (asr (by ac_rfl) hh9) rfl rfl (by simp only [List.length_singleton, List.length_take]; omega) fun v48 h10 hh10 => ?_
      repeat (with_reducible first | refine vP_so ?_ | refine vB_t ?_ | refine vB_f ?_ | refine vE_tt ?_ | refine vE_ff ?_ | refine vE_tf ?_ | refine vE_ft ?_ | refine vE_u ?_ | refine vP_to (by simp (disch := omega) only [gdW_true, gdW_false, gB_true, gB_false, gB_undef, pickV_true, pickV_false, Bool.not_true, Bool.not_false, Option.map_some, bin_add, bin_sub, bin_mul, bin_quo, bin_rem, lss_t, lss_f, leq_t, leq_f, gtr_t, gtr_f, geq_t, geq_f, eqi_t, eqi_f, nei_t, nei_f, rem_uw, conv_ui, conv_iu, conv_ii, not_bool, nil_ptr, fa_mk, ptrV, len_mk, cap_mk, eq_ptr_nil, ne_ptr_nil, eq_nil_nil, ne_nil_nil, eq_slice_nil, eq_nil_slice, ia_1]; exact so_so) ?_)
      refine ⟨l.count true - (i + 1), by omega, i + 1, v48, by simp, rfl, by omega, ?_⟩
      have e2 : (idsI l).take (i + 1) = (idsI l).take i ++ [(x : Int)] := by
        rw [List.take_add_one, hxI]; rfl
      rw [e2]
      exact asr (by ac_rfl) hh10
    cases i with
    | zero =>
      repeat (with_reducible first | refine vP_so ?_ | refine vB_t ?_ | refine vB_f ?_ | refine vE_tt ?_ | refine vE_ff ?_ | refine vE_tf ?_ | refine vE_ft ?_ | refine vE_u ?_ | refine vP_to (by simp (disch := omega) only [gdW_true, gdW_false, gB_true, gB_false, gB_undef, pickV_true, pickV_false, Bool.not_true, Bool.not_false, Option.map_some, bin_add, bin_sub, bin_mul, bin_quo, bin_rem, lss_t, lss_f, leq_t, leq_f, gtr_t, gtr_f, geq_t, geq_f, eqi_t, eqi_f, nei_t, nei_f, rem_uw, conv_ui, conv_iu, conv_ii, not_bool, nil_ptr, fa_mk, ptrV, len_mk, cap_mk, eq_ptr_nil, ne_ptr_nil, eq_nil_nil, ne_nil_nil, eq_slice_nil, eq_nil_slice, ia_1, hlen3]; exact so_so) ?_)
      refine hJ 0 (by omega) ?_
      rw [ids_first, ← List.head?_eq_getElem?] at *
      exact hx
    | succ i =>
      obtain ⟨y, hy⟩ : ∃ y, (ids l)[i]? = some y := ⟨_, List.getElem?_eq_getElem (by rw [ids_len]; omega)⟩
      have hyl : y < l.length := ids_lt (List.mem_of_getElem? hy)
      have hyI : ((idsI l).take (i + 1))[i]? = some (y : Int) := by rw [List.getElem?_take_of_lt (by omega), idsI_get, hy]; rfl
      obtain ⟨p, e1, e2, _⟩ := el1 hh1 hyI .i64
      have e0 : (((i + 1 : Nat) : Int)) - 1 = (i : Int) := by omega
      repeat (with_reducible first | refine vP_so ?_ | refine vB_t ?_ | refine vB_f ?_ | refine vE_tt ?_ | refine vE_ff ?_ | refine vE_tf ?_ | refine vE_ft ?_ | refine vE_u ?_ | refine vP_to (by simp (disch := omega) only [gdW_true, gdW_false, gB_true, gB_false, gB_undef, pickV_true, pickV_false, Bool.not_true, Bool.not_false, Option.map_some, bin_add, bin_sub, bin_mul, bin_quo, bin_rem, lss_t, lss_f, leq_t, leq_f, gtr_t, gtr_f, geq_t, geq_f, eqi_t, eqi_f, nei_t, nei_f, rem_uw, conv_ui, conv_iu, conv_ii, not_bool, nil_ptr, fa_mk, ptrV, len_mk, cap_mk, eq_ptr_nil, ne_ptr_nil, eq_nil_nil, ne_nil_nil, eq_slice_nil, eq_nil_slice, ia_1, hlen3, e0, e1, e2]; exact so_so) ?_)
      have := hJ (y + 1) (by omega) (by rw [ids_next hy]; exact hx)
      rw [show ((y + 1 : Nat) : Int) = (y : Int) + 1 by omega] at this
      exact this
  · obtain rfl : i = l.count true := by omega
    repeat (with_reducible first | refine vP_so ?_ | refine vB_t ?_ | refine vB_f ?_ | refine vE_tt ?_ | refine vE_ff ?_ | refine vE_tf ?_ | refine vE_ft ?_ | refine vE_u ?_ | refine vP_to (by simp (disch := omega) only [gdW_true, gdW_false, gB_true, gB_false, gB_undef, pickV_true, pickV_false, Bool.not_true, Bool.not_false, Option.map_some, bin_add, bin_sub, bin_mul, bin_quo, bin_rem, lss_t, lss_f, leq_t, leq_f, gtr_t, gtr_f, geq_t, geq_f, eqi_t, eqi_f, nei_t, nei_f, rem_uw, conv_ui, conv_iu, conv_ii, not_bool, nil_ptr, fa_mk, ptrV, len_mk, cap_mk, eq_ptr_nil, ne_ptr_nil, eq_nil_nil, ne_nil_nil, eq_slice_nil, eq_nil_slice, ia_1]; exact so_so) ?_)
    refine hK v3 h1 ?_
    rw [← hlen, List.take_length] at hh1
    exact hh1
end Go.Proofs

/-
  Contracts of package span.
-/
set_option maxRecDepth 100000
namespace Go.Proofs
open Go.Sl
def SPN (p : Nat) (s : Sp) : Asrt := ex fun bu : Nat => ex fun bm : Nat => ex fun fr : Nat => pr (∀ i : Nat, i < fr → s.used[i]? = some true) *
  (pt p (.cells #[.int .i64 s.first, .int .i64 s.cls, pB bu, pB bm, .int .i64 fr] 103 (0, 0)) * (BS bu s.used * BS bm s.marks))
theorem SPN_elim {p : Nat} {s : Sp} {F : Asrt} {h : Hp} (hh : (SPN p s * F) h) : ∃ (bu bm fr : Nat), (∀ i : Nat, i < fr → s.used[i]? = some true) ∧
    (pt p (.cells #[.int .i64 s.first, .int .i64 s.cls, pB bu, pB bm, .int .i64 fr] 103 (0, 0)) * (BS bu s.used * (BS bm s.marks * F))) h := by
  obtain ⟨bu, hh⟩ := ex_star.1 hh
  obtain ⟨bm, hh⟩ := ex_star.1 hh
  obtain ⟨fr, hh⟩ := ex_star.1 hh
  rw [star_assoc, pr_star] at hh
  exact ⟨bu, bm, fr, hh.1, asr (by ac_rfl) hh.2⟩
theorem SPN_intro {p bu bm fr : Nat} {s : Sp} {F : Asrt} {h : Hp} (h1 : ∀ i : Nat, i < fr → s.used[i]? = some true)
    (hh : (pt p (.cells #[.int .i64 s.first, .int .i64 s.cls, pB bu, pB bm, .int .i64 fr] 103 (0, 0)) * (BS bu s.used * (BS bm s.marks * F))) h) : (SPN p s * F) h := by
  refine ex_star.2 ⟨bu, ex_star.2 ⟨bm, ex_star.2 ⟨fr, ?_⟩⟩⟩
  rw [star_assoc, pr_star]
  exact ⟨h1, asr (by ac_rfl) hh⟩
theorem spn_ld {p : Nat} {a b c d e : Value} {F : Asrt} {h : Hp} (hh : (pt p (.cells #[a, b, c, d, e] 103 (0, 0)) * F) h) :
    ld1 (.pointer (some ⟨p, 0 + 0, none⟩)) h = some a ∧ ld1 (.pointer (some ⟨p, 0 + 1, none⟩)) h = some b ∧ ld1 (.pointer (some ⟨p, 0 + 2, none⟩)) h = some c ∧
    ld1 (.pointer (some ⟨p, 0 + 3, none⟩)) h = some d ∧ ld1 (.pointer (some ⟨p, 0 + 4, none⟩)) h = some e :=
  ⟨ld1_mk (pt_get hh) rfl, ld1_mk (pt_get hh) rfl, ld1_mk (pt_get hh) rfl, ld1_mk (pt_get hh) rfl, ld1_mk (pt_get hh) rfl⟩
theorem nilP (b : Nat) : eqV 4 false (pB b) (.pointer none) = some (.bool false) := rfl
theorem nilP' (b : Nat) : eqV 4 true (pB b) (.pointer none) = some (.bool true) := rfl
theorem use_snew {first k : Int} (hk : 0 ≤ k ∧ k < 16) (hf : 1 ≤ first ∧ first ≤ 262144) {F : Asrt} {K : Value → Hp → Prop} {h : Hp} (hh : (F * tt) h)
    (hK : ∀ p h', (SPN p (newSp first k) * (F * tt)) h' → K (.tuple #[pB p, .int .i64 0]) h') : CallH Tryz.prog 34 #[.int .i64 first, .int .i64 k] K h := by
  refine C34 ?_
  unfold D34
  refine use_size hh fun h1 hh1 => ?_
  have hs := szS_pos hk
  have hl := slS_pos hk
  repeat (with_reducible first | refine vP_so ?_ | refine vB_t ?_ | refine vB_f ?_ | refine vE_tt ?_ | refine vE_ff ?_ | refine vE_tf ?_ | refine vE_ft ?_ | refine vE_u ?_ | refine vP_to (by simp (disch := omega) only [gdW_true, gdW_false, gB_true, gB_false, gB_undef, pickV_true, pickV_false, Bool.not_true, Bool.not_false, Option.map_some, bin_add, bin_sub, bin_mul, bin_quo, bin_rem, lss_t, lss_f, leq_t, leq_f, gtr_t, gtr_f, geq_t, geq_f, eqi_t, eqi_f, nei_t, nei_f, rem_uw, conv_ui, conv_iu, conv_ii, not_bool, nil_ptr, fa_mk, ptrV, len_mk, cap_mk, eq_ptr_nil, ne_ptr_nil, eq_nil_nil, ne_nil_nil, eq_slice_nil, eq_nil_slice, ia_1]; exact so_so) ?_)
  refine use_slots hk hh1 fun h2 hh2 => ?_
  repeat (with_reducible first | refine vP_so ?_ | refine vB_t ?_ | refine vB_f ?_ | refine vE_tt ?_ | refine vE_ff ?_ | refine vE_tf ?_ | refine vE_ft ?_ | refine vE_u ?_ | refine vP_to (by simp (disch := omega) only [gdW_true, gdW_false, gB_true, gB_false, gB_undef, pickV_true, pickV_false, Bool.not_true, Bool.not_false, Option.map_some, bin_add, bin_sub, bin_mul, bin_quo, bin_rem, lss_t, lss_f, leq_t, leq_f, gtr_t, gtr_f, geq_t, geq_f, eqi_t, eqi_f, nei_t, nei_f, rem_uw, conv_ui, conv_iu, conv_ii, not_bool, nil_ptr, fa_mk, ptrV, len_mk, cap_mk, eq_ptr_nil, ne_ptr_nil, eq_nil_nil, ne_nil_nil, eq_slice_nil, eq_nil_slice, ia_1]; exact so_so) ?_)
  refine use_bnew hl hh2 fun bu h3 hh3 => ?_
  refine use_bnew hl hh3 fun bm h4 hh4 => ?_
  have e5 : bldV #[.int .i64 0, .int .i64 0, .pointer none, .pointer none, .int .i64 0] [(0, 1, .int .i64 first), (1, 1, .int .i64 k), (2, 1, pB bu), (3, 1, pB bm)] = some #[.int .i64 first, .int .i64 k, pB bu, pB bm, .int .i64 0] := rfl
  repeat (with_reducible first | refine vP_so ?_ | refine vB_t ?_ | refine vB_f ?_ | refine vE_tt ?_ | refine vE_ff ?_ | refine vE_tf ?_ | refine vE_ft ?_ | refine vE_u ?_ | refine vP_to (by simp (disch := omega) only [gdW_true, gdW_false, gB_true, gB_false, gB_undef, pickV_true, pickV_false, Bool.not_true, Bool.not_false, Option.map_some, bin_add, bin_sub, bin_mul, bin_quo, bin_rem, lss_t, lss_f, leq_t, leq_f, gtr_t, gtr_f, geq_t, geq_f, eqi_t, eqi_f, nei_t, nei_f, rem_uw, conv_ui, conv_iu, conv_ii, not_bool, nil_ptr, fa_mk, ptrV, len_mk, cap_mk, eq_ptr_nil, ne_ptr_nil, eq_nil_nil, ne_nil_nil, eq_slice_nil, eq_nil_slice, ia_1, e5]; exact so_so) ?_)
  refine vA_new hh4 fun p h5 hh5 => ?_
  exact hK p h5 (SPN_intro (bu := bu) (bm := bm) (fr := 0) (fun i hi => by omega) (asr (by ac_rfl) hh5))
theorem use_sclass {p : Nat} {s : Sp} {F : Asrt} {K : Value → Hp → Prop} {h : Hp} (hh : (SPN p s * F) h) (hK : K (.int .i64 s.cls) h) : CallH Tryz.prog 36 #[pB p] K h := by
  refine C36 ?_
  unfold D36
  obtain ⟨bu, bm, fr, _, hp⟩ := SPN_elim hh
  have l := spn_ld hp
  repeat (with_reducible first | refine vP_so ?_ | refine vB_t ?_ | refine vB_f ?_ | refine vE_tt ?_ | refine vE_ff ?_ | refine vE_tf ?_ | refine vE_ft ?_ | refine vE_u ?_ | refine vP_to (by simp (disch := omega) only [gdW_true, gdW_false, gB_true, gB_false, gB_undef, pickV_true, pickV_false, Bool.not_true, Bool.not_false, Option.map_some, bin_add, bin_sub, bin_mul, bin_quo, bin_rem, lss_t, lss_f, leq_t, leq_f, gtr_t, gtr_f, geq_t, geq_f, eqi_t, eqi_f, nei_t, nei_f, rem_uw, conv_ui, conv_iu, conv_ii, not_bool, nil_ptr, fa_mk, ptrV, len_mk, cap_mk, eq_ptr_nil, ne_ptr_nil, eq_nil_nil, ne_nil_nil, eq_slice_nil, eq_nil_slice, ia_1, nilP, l.2.1]; exact so_so) ?_)
  exact hK
theorem use_sbase {p : Nat} {s : Sp} (hs : SpOk s) {F : Asrt} {K : Value → Hp → Prop} {h : Hp} (hh : (SPN p s * F) h) (hK : K (.int .i64 (s.first * 64)) h) : CallH Tryz.prog 42 #[pB p] K h := by
  refine C42 ?_
  unfold D42
  obtain ⟨bu, bm, fr, _, hp⟩ := SPN_elim hh
  have l := spn_ld hp
  have hf := hs.first
  repeat (with_reducible first | refine vP_so ?_ | refine vB_t ?_ | refine vB_f ?_ | refine vE_tt ?_ | refine vE_ff ?_ | refine vE_tf ?_ | refine vE_ft ?_ | refine vE_u ?_ | refine vP_to (by simp (disch := omega) only [gdW_true, gdW_false, gB_true, gB_false, gB_undef, pickV_true, pickV_false, Bool.not_true, Bool.not_false, Option.map_some, bin_add, bin_sub, bin_mul, bin_quo, bin_rem, lss_t, lss_f, leq_t, leq_f, gtr_t, gtr_f, geq_t, geq_f, eqi_t, eqi_f, nei_t, nei_f, rem_uw, conv_ui, conv_iu, conv_ii, not_bool, nil_ptr, fa_mk, ptrV, len_mk, cap_mk, eq_ptr_nil, ne_ptr_nil, eq_nil_nil, ne_nil_nil, eq_slice_nil, eq_nil_slice, ia_1, nilP, l.1]; exact so_so) ?_)
  exact hK
theorem use_sslots {p : Nat} {s : Sp} {F : Asrt} {K : Value → Hp → Prop} {h : Hp} (hh : (SPN p s * F) h) (hK : K (.int .i64 s.used.length) h) : CallH Tryz.prog 80 #[pB p] K h := by
  refine C80 ?_
  unfold D80
  obtain ⟨bu, bm, fr, _, hp⟩ := SPN_elim hh
  have l := spn_ld hp
  have hb : (BS bu s.used * (pt p (.cells #[.int .i64 s.first, .int .i64 s.cls, pB bu, pB bm, .int .i64 fr] 103 (0, 0)) * (BS bm s.marks * F))) h := asr (by ac_rfl) hp
  repeat (with_reducible first | refine vP_so ?_ | refine vB_t ?_ | refine vB_f ?_ | refine vE_tt ?_ | refine vE_ff ?_ | refine vE_tf ?_ | refine vE_ft ?_ | refine vE_u ?_ | refine vP_to (by simp (disch := omega) only [gdW_true, gdW_false, gB_true, gB_false, gB_undef, pickV_true, pickV_false, Bool.not_true, Bool.not_false, Option.map_some, bin_add, bin_sub, bin_mul, bin_quo, bin_rem, lss_t, lss_f, leq_t, leq_f, gtr_t, gtr_f, geq_t, geq_f, eqi_t, eqi_f, nei_t, nei_f, rem_uw, conv_ui, conv_iu, conv_ii, not_bool, nil_ptr, fa_mk, ptrV, len_mk, cap_mk, eq_ptr_nil, ne_ptr_nil, eq_nil_nil, ne_nil_nil, eq_slice_nil, eq_nil_slice, ia_1, nilP, l.2.2.1]; exact so_so) ?_)
  exact use_blen hb hK
theorem addr_bd {s : Sp} (hs : SpOk s) {i : Nat} (hi : i < s.used.length) : 64 ≤ s.addr i ∧ s.addr i < 16777216 + 16448 ∧ 0 ≤ (i : Int) * szS s.cls ∧ (i : Int) * szS s.cls ≤ 16384 ∧ (i : Int) * szS s.cls + szS s.cls ≤ pgS s.cls * 64 := by
  have h1 := hs.first
  have h2 := szS_pos hs.cls
  have h3 := hs.len
  have h4 : 0 ≤ (i : Int) * szS s.cls := Int.mul_nonneg (by omega) (by omega)
  have h5 : ((i : Int) + 1) * szS s.cls ≤ slS s.cls * szS s.cls := Int.mul_le_mul_of_nonneg_right (by have := hs.ul; omega) (by omega)
  have h6 := (slS_eq hs.cls).2
  have h7 := pgS_pos hs.cls
  rw [Int.add_mul, Int.one_mul] at h5
  unfold Sp.addr
  generalize (i : Int) * szS s.cls = z at *
  omega
theorem use_saddr {p : Nat} {s : Sp} (hs : SpOk s) {i : Nat} (hi : i < s.used.length) {F : Asrt} {K : Value → Hp → Prop} {h : Hp} (hh : (SPN p s * (F * tt)) h)
    (hK : ∀ h', (SPN p s * (F * tt)) h' → K (.int .i64 (s.addr i)) h') : CallH Tryz.prog 40 #[pB p, .int .i64 i] K h := by
  refine C40 ?_
  unfold D40
  obtain ⟨bu, bm, fr, _, hp⟩ := SPN_elim hh
  have l := spn_ld hp
  have hl := hs.len
  have ha := addr_bd hs hi
  have hf := hs.first
  repeat (with_reducible first | refine vP_so ?_ | refine vB_t ?_ | refine vB_f ?_ | refine vE_tt ?_ | refine vE_ff ?_ | refine vE_tf ?_ | refine vE_ft ?_ | refine vE_u ?_ | refine vP_to (by simp (disch := omega) only [gdW_true, gdW_false, gB_true, gB_false, gB_undef, pickV_true, pickV_false, Bool.not_true, Bool.not_false, Option.map_some, bin_add, bin_sub, bin_mul, bin_quo, bin_rem, lss_t, lss_f, leq_t, leq_f, gtr_t, gtr_f, geq_t, geq_f, eqi_t, eqi_f, nei_t, nei_f, rem_uw, conv_ui, conv_iu, conv_ii, not_bool, nil_ptr, fa_mk, ptrV, len_mk, cap_mk, eq_ptr_nil, ne_ptr_nil, eq_nil_nil, ne_nil_nil, eq_slice_nil, eq_nil_slice, ia_1, nilP]; exact so_so) ?_)
  refine use_sslots hh ?_
  repeat (with_reducible first | refine vP_so ?_ | refine vB_t ?_ | refine vB_f ?_ | refine vE_tt ?_ | refine vE_ff ?_ | refine vE_tf ?_ | refine vE_ft ?_ | refine vE_u ?_ | refine vP_to (by simp (disch := omega) only [gdW_true, gdW_false, gB_true, gB_false, gB_undef, pickV_true, pickV_false, Bool.not_true, Bool.not_false, Option.map_some, bin_add, bin_sub, bin_mul, bin_quo, bin_rem, lss_t, lss_f, leq_t, leq_f, gtr_t, gtr_f, geq_t, geq_f, eqi_t, eqi_f, nei_t, nei_f, rem_uw, conv_ui, conv_iu, conv_ii, not_bool, nil_ptr, fa_mk, ptrV, len_mk, cap_mk, eq_ptr_nil, ne_ptr_nil, eq_nil_nil, ne_nil_nil, eq_slice_nil, eq_nil_slice, ia_1, nilP, l.2.1]; exact so_so) ?_)
  refine use_sbase hs hh ?_
  refine ⟨l.2.1, ?_⟩
  refine use_size (F := SPN p s * F) (asr (by ac_rfl) hh) fun h1 hh1 => ?_
  have e : s.addr i = s.first * 64 + (i : Int) * szS s.cls := rfl
  rw [e] at hK ha
  generalize hz : (i : Int) * szS s.cls = z at *
  have hm : binV .mul (.int .i64 (i : Int)) (.int .i64 (szS s.cls)) = some (.int .i64 z) := by rw [bin_mul (by omega), hz]
  repeat (with_reducible first | refine vP_so ?_ | refine vB_t ?_ | refine vB_f ?_ | refine vE_tt ?_ | refine vE_ff ?_ | refine vE_tf ?_ | refine vE_ft ?_ | refine vE_u ?_ | refine vP_to (by simp (disch := omega) only [gdW_true, gdW_false, gB_true, gB_false, gB_undef, pickV_true, pickV_false, Bool.not_true, Bool.not_false, Option.map_some, bin_add, bin_sub, bin_mul, bin_quo, bin_rem, lss_t, lss_f, leq_t, leq_f, gtr_t, gtr_f, geq_t, geq_f, eqi_t, eqi_f, nei_t, nei_f, rem_uw, conv_ui, conv_iu, conv_ii, not_bool, nil_ptr, fa_mk, ptrV, len_mk, cap_mk, eq_ptr_nil, ne_ptr_nil, eq_nil_nil, ne_nil_nil, eq_slice_nil, eq_nil_slice, ia_1, hm]; exact so_so) ?_)
  exact hK h1 (asr (by ac_rfl) hh1)
theorem use_sat {p : Nat} {s : Sp} (hs : SpOk s) {i : Nat} (hi : i < s.used.length) {F : Asrt} {K : Value → Hp → Prop} {h : Hp} (hh : (SPN p s * (F * tt)) h)
    (hK : ∀ h', (SPN p s * (F * tt)) h' → K (.tuple #[.int .i64 i, .bool true]) h') : CallH Tryz.prog 45 #[pB p, .int .i64 (s.addr i)] K h := by
  refine C45 ?_
  unfold D45
  obtain ⟨bu, bm, fr, _, hp⟩ := SPN_elim hh
  have l := spn_ld hp
  have hl := hs.len
  have ha := addr_bd hs hi
  have hf := hs.first
  have hsz := szS_pos hs.cls
  have e : s.addr i = s.first * 64 + (i : Int) * szS s.cls := rfl
  have m1 : (i : Int) * szS s.cls % szS s.cls = 0 := Int.mul_emod_left _ _
  have m2 : (i : Int) * szS s.cls / szS s.cls = i := Int.mul_ediv_cancel _ (by omega)
  rw [e] at ha ⊢
  generalize hz : (i : Int) * szS s.cls = z at *
  repeat (with_reducible first | refine vP_so ?_ | refine vB_t ?_ | refine vB_f ?_ | refine vE_tt ?_ | refine vE_ff ?_ | refine vE_tf ?_ | refine vE_ft ?_ | refine vE_u ?_ | refine vP_to (by simp (disch := omega) only [gdW_true, gdW_false, gB_true, gB_false, gB_undef, pickV_true, pickV_false, Bool.not_true, Bool.not_false, Option.map_some, bin_add, bin_sub, bin_mul, bin_quo, bin_rem, lss_t, lss_f, leq_t, leq_f, gtr_t, gtr_f, geq_t, geq_f, eqi_t, eqi_f, nei_t, nei_f, rem_uw, conv_ui, conv_iu, conv_ii, not_bool, nil_ptr, fa_mk, ptrV, len_mk, cap_mk, eq_ptr_nil, ne_ptr_nil, eq_nil_nil, ne_nil_nil, eq_slice_nil, eq_nil_slice, ia_1, nilP]; exact so_so) ?_)
  refine use_sbase hs hh ?_
  repeat (with_reducible first | refine vP_so ?_ | refine vB_t ?_ | refine vB_f ?_ | refine vE_tt ?_ | refine vE_ff ?_ | refine vE_tf ?_ | refine vE_ft ?_ | refine vE_u ?_ | refine vP_to (by simp (disch := omega) only [gdW_true, gdW_false, gB_true, gB_false, gB_undef, pickV_true, pickV_false, Bool.not_true, Bool.not_false, Option.map_some, bin_add, bin_sub, bin_mul, bin_quo, bin_rem, lss_t, lss_f, leq_t, leq_f, gtr_t, gtr_f, geq_t, geq_f, eqi_t, eqi_f, nei_t, nei_f, rem_uw, conv_ui, conv_iu, conv_ii, not_bool, nil_ptr, fa_mk, ptrV, len_mk, cap_mk, eq_ptr_nil, ne_ptr_nil, eq_nil_nil, ne_nil_nil, eq_slice_nil, eq_nil_slice, ia_1, nilP, l.2.1]; exact so_so) ?_)
  refine use_sbase hs hh ?_
  refine ⟨l.2.1, ?_⟩
  have e2 : s.first * 64 + z - s.first * 64 = z := by omega
  repeat (with_reducible first | refine vP_so ?_ | refine vB_t ?_ | refine vB_f ?_ | refine vE_tt ?_ | refine vE_ff ?_ | refine vE_tf ?_ | refine vE_ft ?_ | refine vE_u ?_ | refine vP_to (by simp (disch := omega) only [gdW_true, gdW_false, gB_true, gB_false, gB_undef, pickV_true, pickV_false, Bool.not_true, Bool.not_false, Option.map_some, bin_add, bin_sub, bin_mul, bin_quo, bin_rem, lss_t, lss_f, leq_t, leq_f, gtr_t, gtr_f, geq_t, geq_f, eqi_t, eqi_f, nei_t, nei_f, rem_uw, conv_ui, conv_iu, conv_ii, not_bool, nil_ptr, fa_mk, ptrV, len_mk, cap_mk, eq_ptr_nil, ne_ptr_nil, eq_nil_nil, ne_nil_nil, eq_slice_nil, eq_nil_slice, ia_1, e2]; exact so_so) ?_)
  refine use_size (F := SPN p s * F) (asr (by ac_rfl) hh) fun h1 hh1 => ?_
  have hh1 : (SPN p s * (F * tt)) h1 := asr (by ac_rfl) hh1
  repeat (with_reducible first | refine vP_so ?_ | refine vB_t ?_ | refine vB_f ?_ | refine vE_tt ?_ | refine vE_ff ?_ | refine vE_tf ?_ | refine vE_ft ?_ | refine vE_u ?_ | refine vP_to (by simp (disch := omega) only [gdW_true, gdW_false, gB_true, gB_false, gB_undef, pickV_true, pickV_false, Bool.not_true, Bool.not_false, Option.map_some, bin_add, bin_sub, bin_mul, bin_quo, bin_rem, lss_t, lss_f, leq_t, leq_f, gtr_t, gtr_f, geq_t, geq_f, eqi_t, eqi_f, nei_t, nei_f, rem_uw, conv_ui, conv_iu, conv_ii, not_bool, nil_ptr, fa_mk, ptrV, len_mk, cap_mk, eq_ptr_nil, ne_ptr_nil, eq_nil_nil, ne_nil_nil, eq_slice_nil, eq_nil_slice, ia_1, m1, m2]; exact so_so) ?_)
  refine use_sslots hh1 ?_
  repeat (with_reducible first | refine vP_so ?_ | refine vB_t ?_ | refine vB_f ?_ | refine vE_tt ?_ | refine vE_ff ?_ | refine vE_tf ?_ | refine vE_ft ?_ | refine vE_u ?_ | refine vP_to (by simp (disch := omega) only [gdW_true, gdW_false, gB_true, gB_false, gB_undef, pickV_true, pickV_false, Bool.not_true, Bool.not_false, Option.map_some, bin_add, bin_sub, bin_mul, bin_quo, bin_rem, lss_t, lss_f, leq_t, leq_f, gtr_t, gtr_f, geq_t, geq_f, eqi_t, eqi_f, nei_t, nei_f, rem_uw, conv_ui, conv_iu, conv_ii, not_bool, nil_ptr, fa_mk, ptrV, len_mk, cap_mk, eq_ptr_nil, ne_ptr_nil, eq_nil_nil, ne_nil_nil, eq_slice_nil, eq_nil_slice, ia_1, m1, m2]; exact so_so) ?_)
  exact hK h1 hh1
theorem use_sfull {g : Hp} (hg : TabG 0 g) {p : Nat} {s : Sp} (hs : SpOk s) {F : Asrt} {K : Value → Hp → Prop} {h : Hp} (hh : (SPN p s * (own g * F)) h)
    (hK : K (.bool (ff s.used).isNone) h) : CallH Tryz.prog 37 #[pB p] K h := by
  refine C37 ?_
  unfold D37
  obtain ⟨bu, bm, fr, hfr, hp⟩ := SPN_elim hh
  have l := spn_ld hp
  have hl := hs.len
  have hfl : fr ≤ 64 := by
    rcases Nat.lt_or_ge 64 fr with q | q
    · have := (List.getElem?_eq_some_iff.1 (hfr 64 q)).1; omega
    · exact q
  repeat (with_reducible first | refine vP_so ?_ | refine vB_t ?_ | refine vB_f ?_ | refine vE_tt ?_ | refine vE_ff ?_ | refine vE_tf ?_ | refine vE_ft ?_ | refine vE_u ?_ | refine vP_to (by simp (disch := omega) only [gdW_true, gdW_false, gB_true, gB_false, gB_undef, pickV_true, pickV_false, Bool.not_true, Bool.not_false, Option.map_some, bin_add, bin_sub, bin_mul, bin_quo, bin_rem, lss_t, lss_f, leq_t, leq_f, gtr_t, gtr_f, geq_t, geq_f, eqi_t, eqi_f, nei_t, nei_f, rem_uw, conv_ui, conv_iu, conv_ii, not_bool, nil_ptr, fa_mk, ptrV, len_mk, cap_mk, eq_ptr_nil, ne_ptr_nil, eq_nil_nil, ne_nil_nil, eq_slice_nil, eq_nil_slice, ia_1, nilP, l.2.2.1, l.2.2.2.2]; exact so_so) ?_)
  refine use_bnext (b := bu) (l := s.used) (F := pt p (.cells #[.int .i64 s.first, .int .i64 s.cls, pB bu, pB bm, .int .i64 fr] 103 (0, 0)) * (BS bm s.marks * F)) hg hl.2 hfl (asr (by ac_rfl) hp) ?_
  cases hq : ff s.used with
  | some j =>
    have e : nxI s.used fr false = (j : Int) := by unfold nxI; rw [nx_from hfr, hq]
    rw [e]
    rw [hq] at hK
    repeat (with_reducible first | refine vP_so ?_ | refine vB_t ?_ | refine vB_f ?_ | refine vE_tt ?_ | refine vE_ff ?_ | refine vE_tf ?_ | refine vE_ft ?_ | refine vE_u ?_ | refine vP_to (by simp (disch := omega) only [gdW_true, gdW_false, gB_true, gB_false, gB_undef, pickV_true, pickV_false, Bool.not_true, Bool.not_false, Option.map_some, bin_add, bin_sub, bin_mul, bin_quo, bin_rem, lss_t, lss_f, leq_t, leq_f, gtr_t, gtr_f, geq_t, geq_f, eqi_t, eqi_f, nei_t, nei_f, rem_uw, conv_ui, conv_iu, conv_ii, not_bool, nil_ptr, fa_mk, ptrV, len_mk, cap_mk, eq_ptr_nil, ne_ptr_nil, eq_nil_nil, ne_nil_nil, eq_slice_nil, eq_nil_slice, ia_1, nilP]; exact so_so) ?_)
    exact hK
  | none =>
    have e : nxI s.used fr false = -1 := by unfold nxI; rw [nx_from hfr, hq]
    rw [e]
    rw [hq] at hK
    repeat (with_reducible first | refine vP_so ?_ | refine vB_t ?_ | refine vB_f ?_ | refine vE_tt ?_ | refine vE_ff ?_ | refine vE_tf ?_ | refine vE_ft ?_ | refine vE_u ?_ | refine vP_to (by simp (disch := omega) only [gdW_true, gdW_false, gB_true, gB_false, gB_undef, pickV_true, pickV_false, Bool.not_true, Bool.not_false, Option.map_some, bin_add, bin_sub, bin_mul, bin_quo, bin_rem, lss_t, lss_f, leq_t, leq_f, gtr_t, gtr_f, geq_t, geq_f, eqi_t, eqi_f, nei_t, nei_f, rem_uw, conv_ui, conv_iu, conv_ii, not_bool, nil_ptr, fa_mk, ptrV, len_mk, cap_mk, eq_ptr_nil, ne_ptr_nil, eq_nil_nil, ne_nil_nil, eq_slice_nil, eq_nil_slice, ia_1, nilP]; exact so_so) ?_)
    exact hK
theorem use_salloc {g : Hp} (hg : TabG 0 g) {p : Nat} {s : Sp} (hs : SpOk s) {black : Bool} {F : Asrt} {K : Value → Hp → Prop} {h : Hp} (hh : (SPN p s * (own g * F)) h)
    (hfull : ff s.used = none → K (.tuple #[.int .i64 0, .bool false]) h)
    (hK : ∀ i h', ff s.used = some i → (SPN p (s.take i black) * (own g * F)) h' → K (.tuple #[.int .i64 i, .bool true]) h') : CallH Tryz.prog 39 #[pB p, .bool black] K h := by
  refine C39 ?_
  unfold D39
  refine use_sfull hg hs hh ?_
  cases hq : ff s.used with
  | none =>
    rw [Option.isNone_none]
    repeat (with_reducible first | refine vP_so ?_ | refine vB_t ?_ | refine vB_f ?_ | refine vE_tt ?_ | refine vE_ff ?_ | refine vE_tf ?_ | refine vE_ft ?_ | refine vE_u ?_ | refine vP_to (by simp (disch := omega) only [gdW_true, gdW_false, gB_true, gB_false, gB_undef, pickV_true, pickV_false, Bool.not_true, Bool.not_false, Option.map_some, bin_add, bin_sub, bin_mul, bin_quo, bin_rem, lss_t, lss_f, leq_t, leq_f, gtr_t, gtr_f, geq_t, geq_f, eqi_t, eqi_f, nei_t, nei_f, rem_uw, conv_ui, conv_iu, conv_ii, not_bool, nil_ptr, fa_mk, ptrV, len_mk, cap_mk, eq_ptr_nil, ne_ptr_nil, eq_nil_nil, ne_nil_nil, eq_slice_nil, eq_nil_slice, ia_1]; exact so_so) ?_)
    exact hfull hq
  | some i =>
    rw [Option.isNone_some]
    obtain ⟨bu, bm, fr, hfr, hp⟩ := SPN_elim hh
    have l := spn_ld hp
    have hl := hs.len
    have hfl : fr ≤ 64 := by
      rcases Nat.lt_or_ge 64 fr with q | q
      · have := (List.getElem?_eq_some_iff.1 (hfr 64 q)).1; omega
      · exact q
    obtain ⟨hi1, hi2⟩ := ff_some hq
    have hil := (List.getElem?_eq_some_iff.1 hi1).1
    have hml := hs.ml
    have e : nxI s.used fr false = (i : Int) := by unfold nxI; rw [nx_from hfr, hq]
    repeat (with_reducible first | refine vP_so ?_ | refine vB_t ?_ | refine vB_f ?_ | refine vE_tt ?_ | refine vE_ff ?_ | refine vE_tf ?_ | refine vE_ft ?_ | refine vE_u ?_ | refine vP_to (by simp (disch := omega) only [gdW_true, gdW_false, gB_true, gB_false, gB_undef, pickV_true, pickV_false, Bool.not_true, Bool.not_false, Option.map_some, bin_add, bin_sub, bin_mul, bin_quo, bin_rem, lss_t, lss_f, leq_t, leq_f, gtr_t, gtr_f, geq_t, geq_f, eqi_t, eqi_f, nei_t, nei_f, rem_uw, conv_ui, conv_iu, conv_ii, not_bool, nil_ptr, fa_mk, ptrV, len_mk, cap_mk, eq_ptr_nil, ne_ptr_nil, eq_nil_nil, ne_nil_nil, eq_slice_nil, eq_nil_slice, ia_1, l.2.2.1, l.2.2.2.2]; exact so_so) ?_)
    refine use_bnext (b := bu) (l := s.used) (F := pt p (.cells #[.int .i64 s.first, .int .i64 s.cls, pB bu, pB bm, .int .i64 fr] 103 (0, 0)) * (BS bm s.marks * F)) hg hl.2 hfl (asr (by ac_rfl) hp) ?_
    rw [e]
    repeat (with_reducible first | refine vP_so ?_ | refine vB_t ?_ | refine vB_f ?_ | refine vE_tt ?_ | refine vE_ff ?_ | refine vE_tf ?_ | refine vE_ft ?_ | refine vE_u ?_ | refine vP_to (by simp (disch := omega) only [gdW_true, gdW_false, gB_true, gB_false, gB_undef, pickV_true, pickV_false, Bool.not_true, Bool.not_false, Option.map_some, bin_add, bin_sub, bin_mul, bin_quo, bin_rem, lss_t, lss_f, leq_t, leq_f, gtr_t, gtr_f, geq_t, geq_f, eqi_t, eqi_f, nei_t, nei_f, rem_uw, conv_ui, conv_iu, conv_ii, not_bool, nil_ptr, fa_mk, ptrV, len_mk, cap_mk, eq_ptr_nil, ne_ptr_nil, eq_nil_nil, ne_nil_nil, eq_slice_nil, eq_nil_slice, ia_1, l.2.2.1]; exact so_so) ?_)
    refine use_bset (b := bu) (F := pt p (.cells #[.int .i64 s.first, .int .i64 s.cls, pB bu, pB bm, .int .i64 fr] 103 (0, 0)) * (BS bm s.marks * (own g * F))) hl.2 hil (asr (by ac_rfl) hp) fun h1 hh1 => ?_
    have hh1 : (pt p (.cells #[.int .i64 s.first, .int .i64 s.cls, pB bu, pB bm, .int .i64 fr] 103 (0, 0)) * (BS bu (s.used.set i true) * (BS bm s.marks * (own g * F)))) h1 := asr (by ac_rfl) hh1
    intro J1 hJ1
    have hJ : ∀ m h', m = (if black then s.marks.set i true else s.marks) → (pt p (.cells #[.int .i64 s.first, .int .i64 s.cls, pB bu, pB bm, .int .i64 i] 103 (0, 0)) * (BS bu (s.used.set i true) * (BS bm m * (own g * F)))) h' → J1 [] h' := fun m h' em q => by
      refine hJ1 _ fun _ => ?_
      subst em
      refine hK i h' hq (SPN_intro (s := s.take i black) (bu := bu) (bm := bm) (fr := i) (fun k hk => ?_) q)
      show (s.used.set i true)[k]? = some true
      rw [List.getElem?_set_ne (by omega)]
      exact hi2 k hk
    repeat (with_reducible first | refine vP_so ?_ | refine vB_t ?_ | refine vB_f ?_ | refine vE_tt ?_ | refine vE_ff ?_ | refine vE_tf ?_ | refine vE_ft ?_ | refine vE_u ?_ | refine vP_to (by simp (disch := omega) only [gdW_true, gdW_false, gB_true, gB_false, gB_undef, pickV_true, pickV_false, Bool.not_true, Bool.not_false, Option.map_some, bin_add, bin_sub, bin_mul, bin_quo, bin_rem, lss_t, lss_f, leq_t, leq_f, gtr_t, gtr_f, geq_t, geq_f, eqi_t, eqi_f, nei_t, nei_f, rem_uw, conv_ui, conv_iu, conv_ii, not_bool, nil_ptr, fa_mk, ptrV, len_mk, cap_mk, eq_ptr_nil, ne_ptr_nil, eq_nil_nil, ne_nil_nil, eq_slice_nil, eq_nil_slice, ia_1]; exact so_so) ?_)
    refine st1_mk hh1 rfl (by simp) fun h2 hh2 => ?_
    have hh2 : (pt p (.cells #[.int .i64 s.first, .int .i64 s.cls, pB bu, pB bm, .int .i64 i] 103 (0, 0)) * (BS bu (s.used.set i true) * (BS bm s.marks * (own g * F)))) h2 := hh2
    have l2 := spn_ld hh2
    cases black with
    | false =>
      repeat (with_reducible first | refine vP_so ?_ | refine vB_t ?_ | refine vB_f ?_ | refine vE_tt ?_ | refine vE_ff ?_ | refine vE_tf ?_ | refine vE_ft ?_ | refine vE_u ?_ | refine vP_to (by simp (disch := omega) only [gdW_true, gdW_false, gB_true, gB_false, gB_undef, pickV_true, pickV_false, Bool.not_true, Bool.not_false, Option.map_some, bin_add, bin_sub, bin_mul, bin_quo, bin_rem, lss_t, lss_f, leq_t, leq_f, gtr_t, gtr_f, geq_t, geq_f, eqi_t, eqi_f, nei_t, nei_f, rem_uw, conv_ui, conv_iu, conv_ii, not_bool, nil_ptr, fa_mk, ptrV, len_mk, cap_mk, eq_ptr_nil, ne_ptr_nil, eq_nil_nil, ne_nil_nil, eq_slice_nil, eq_nil_slice, ia_1]; exact so_so) ?_)
      exact hJ s.marks h2 rfl hh2
    | true =>
      repeat (with_reducible first | refine vP_so ?_ | refine vB_t ?_ | refine vB_f ?_ | refine vE_tt ?_ | refine vE_ff ?_ | refine vE_tf ?_ | refine vE_ft ?_ | refine vE_u ?_ | refine vP_to (by simp (disch := omega) only [gdW_true, gdW_false, gB_true, gB_false, gB_undef, pickV_true, pickV_false, Bool.not_true, Bool.not_false, Option.map_some, bin_add, bin_sub, bin_mul, bin_quo, bin_rem, lss_t, lss_f, leq_t, leq_f, gtr_t, gtr_f, geq_t, geq_f, eqi_t, eqi_f, nei_t, nei_f, rem_uw, conv_ui, conv_iu, conv_ii, not_bool, nil_ptr, fa_mk, ptrV, len_mk, cap_mk, eq_ptr_nil, ne_ptr_nil, eq_nil_nil, ne_nil_nil, eq_slice_nil, eq_nil_slice, ia_1, l2.2.2.2.1]; exact so_so) ?_)
      refine use_bset (b := bm) (l := s.marks) (k := i) (F := pt p (.cells #[.int .i64 s.first, .int .i64 s.cls, pB bu, pB bm, .int .i64 i] 103 (0, 0)) * (BS bu (s.used.set i true) * (own g * F))) (by omega) (by omega) (asr (by ac_rfl) hh2) fun h3 hh3 => ?_
      exact hJ _ h3 rfl (asr (by ac_rfl) hh3)
theorem use_sused {p : Nat} {s : Sp} (hs : SpOk s) {i : Int} {F : Asrt} {K : Value → Hp → Prop} {h : Hp} (hh : (SPN p s * F) h) (hK : K (.bool (hasB s.used i)) h) : CallH Tryz.prog 101 #[pB p, .int .i64 i] K h := by
  refine C101 ?_
  unfold D101
  obtain ⟨bu, bm, fr, _, hp⟩ := SPN_elim hh
  have l := spn_ld hp
  have hl := hs.len
  repeat (with_reducible first | refine vP_so ?_ | refine vB_t ?_ | refine vB_f ?_ | refine vE_tt ?_ | refine vE_ff ?_ | refine vE_tf ?_ | refine vE_ft ?_ | refine vE_u ?_ | refine vP_to (by simp (disch := omega) only [gdW_true, gdW_false, gB_true, gB_false, gB_undef, pickV_true, pickV_false, Bool.not_true, Bool.not_false, Option.map_some, bin_add, bin_sub, bin_mul, bin_quo, bin_rem, lss_t, lss_f, leq_t, leq_f, gtr_t, gtr_f, geq_t, geq_f, eqi_t, eqi_f, nei_t, nei_f, rem_uw, conv_ui, conv_iu, conv_ii, not_bool, nil_ptr, fa_mk, ptrV, len_mk, cap_mk, eq_ptr_nil, ne_ptr_nil, eq_nil_nil, ne_nil_nil, eq_slice_nil, eq_nil_slice, ia_1, nilP', l.2.2.1]; exact so_so) ?_)
  refine use_bhas (b := bu) (l := s.used) (F := pt p (.cells #[.int .i64 s.first, .int .i64 s.cls, pB bu, pB bm, .int .i64 fr] 103 (0, 0)) * (BS bm s.marks * F)) hl.2 (asr (by ac_rfl) hp) ?_
  repeat (with_reducible first | refine vP_so ?_ | refine vB_t ?_ | refine vB_f ?_ | refine vE_tt ?_ | refine vE_ff ?_ | refine vE_tf ?_ | refine vE_ft ?_ | refine vE_u ?_ | refine vP_to (by simp (disch := omega) only [gdW_true, gdW_false, gB_true, gB_false, gB_undef, pickV_true, pickV_false, Bool.not_true, Bool.not_false, Option.map_some, bin_add, bin_sub, bin_mul, bin_quo, bin_rem, lss_t, lss_f, leq_t, leq_f, gtr_t, gtr_f, geq_t, geq_f, eqi_t, eqi_f, nei_t, nei_f, rem_uw, conv_ui, conv_iu, conv_ii, not_bool, nil_ptr, fa_mk, ptrV, len_mk, cap_mk, eq_ptr_nil, ne_ptr_nil, eq_nil_nil, ne_nil_nil, eq_slice_nil, eq_nil_slice, ia_1, nilP']; exact so_so) ?_)
  exact hK
theorem use_smarked {p : Nat} {s : Sp} (hs : SpOk s) {i : Int} {F : Asrt} {K : Value → Hp → Prop} {h : Hp} (hh : (SPN p s * F) h) (hK : K (.bool (hasB s.marks i)) h) : CallH Tryz.prog 66 #[pB p, .int .i64 i] K h := by
  refine C66 ?_
  unfold D66
  obtain ⟨bu, bm, fr, _, hp⟩ := SPN_elim hh
  have l := spn_ld hp
  have hl := hs.len
  have hm := hs.ml
  repeat (with_reducible first | refine vP_so ?_ | refine vB_t ?_ | refine vB_f ?_ | refine vE_tt ?_ | refine vE_ff ?_ | refine vE_tf ?_ | refine vE_ft ?_ | refine vE_u ?_ | refine vP_to (by simp (disch := omega) only [gdW_true, gdW_false, gB_true, gB_false, gB_undef, pickV_true, pickV_false, Bool.not_true, Bool.not_false, Option.map_some, bin_add, bin_sub, bin_mul, bin_quo, bin_rem, lss_t, lss_f, leq_t, leq_f, gtr_t, gtr_f, geq_t, geq_f, eqi_t, eqi_f, nei_t, nei_f, rem_uw, conv_ui, conv_iu, conv_ii, not_bool, nil_ptr, fa_mk, ptrV, len_mk, cap_mk, eq_ptr_nil, ne_ptr_nil, eq_nil_nil, ne_nil_nil, eq_slice_nil, eq_nil_slice, ia_1, nilP', l.2.2.2.1]; exact so_so) ?_)
  refine use_bhas (b := bm) (l := s.marks) (F := pt p (.cells #[.int .i64 s.first, .int .i64 s.cls, pB bu, pB bm, .int .i64 fr] 103 (0, 0)) * (BS bu s.used * F)) (by omega) (asr (by ac_rfl) hp) ?_
  repeat (with_reducible first | refine vP_so ?_ | refine vB_t ?_ | refine vB_f ?_ | refine vE_tt ?_ | refine vE_ff ?_ | refine vE_tf ?_ | refine vE_ft ?_ | refine vE_u ?_ | refine vP_to (by simp (disch := omega) only [gdW_true, gdW_false, gB_true, gB_false, gB_undef, pickV_true, pickV_false, Bool.not_true, Bool.not_false, Option.map_some, bin_add, bin_sub, bin_mul, bin_quo, bin_rem, lss_t, lss_f, leq_t, leq_f, gtr_t, gtr_f, geq_t, geq_f, eqi_t, eqi_f, nei_t, nei_f, rem_uw, conv_ui, conv_iu, conv_ii, not_bool, nil_ptr, fa_mk, ptrV, len_mk, cap_mk, eq_ptr_nil, ne_ptr_nil, eq_nil_nil, ne_nil_nil, eq_slice_nil, eq_nil_slice, ia_1, nilP']; exact so_so) ?_)
  exact hK
theorem use_smark {p : Nat} {s : Sp} (hs : SpOk s) {i : Nat} (hi : s.used[i]? = some true) {F : Asrt} {K : Value → Hp → Prop} {h : Hp} (hh : (SPN p s * F) h)
    (hK : ∀ h', (SPN p (s.mark i) * F) h' → K (.bool !(hasB s.marks i)) h') : CallH Tryz.prog 67 #[pB p, .int .i64 i] K h := by
  refine C67 ?_
  unfold D67
  refine use_sused hs hh ?_
  rw [hasB_nat, hi, Option.getD_some]
  obtain ⟨bu, bm, fr, hfr, hp⟩ := SPN_elim hh
  have l := spn_ld hp
  have hl := hs.len
  have hm := hs.ml
  have hil := (List.getElem?_eq_some_iff.1 hi).1
  repeat (with_reducible first | refine vP_so ?_ | refine vB_t ?_ | refine vB_f ?_ | refine vE_tt ?_ | refine vE_ff ?_ | refine vE_tf ?_ | refine vE_ft ?_ | refine vE_u ?_ | refine vP_to (by simp (disch := omega) only [gdW_true, gdW_false, gB_true, gB_false, gB_undef, pickV_true, pickV_false, Bool.not_true, Bool.not_false, Option.map_some, bin_add, bin_sub, bin_mul, bin_quo, bin_rem, lss_t, lss_f, leq_t, leq_f, gtr_t, gtr_f, geq_t, geq_f, eqi_t, eqi_f, nei_t, nei_f, rem_uw, conv_ui, conv_iu, conv_ii, not_bool, nil_ptr, fa_mk, ptrV, len_mk, cap_mk, eq_ptr_nil, ne_ptr_nil, eq_nil_nil, ne_nil_nil, eq_slice_nil, eq_nil_slice, ia_1, l.2.2.2.1]; exact so_so) ?_)
  refine use_bset (b := bm) (l := s.marks) (k := i) (F := pt p (.cells #[.int .i64 s.first, .int .i64 s.cls, pB bu, pB bm, .int .i64 fr] 103 (0, 0)) * (BS bu s.used * F)) (by omega) (by omega) (asr (by ac_rfl) hp) fun h1 hh1 => ?_
  repeat (with_reducible first | refine vP_so ?_ | refine vB_t ?_ | refine vB_f ?_ | refine vE_tt ?_ | refine vE_ff ?_ | refine vE_tf ?_ | refine vE_ft ?_ | refine vE_u ?_ | refine vP_to (by simp (disch := omega) only [gdW_true, gdW_false, gB_true, gB_false, gB_undef, pickV_true, pickV_false, Bool.not_true, Bool.not_false, Option.map_some, bin_add, bin_sub, bin_mul, bin_quo, bin_rem, lss_t, lss_f, leq_t, leq_f, gtr_t, gtr_f, geq_t, geq_f, eqi_t, eqi_f, nei_t, nei_f, rem_uw, conv_ui, conv_iu, conv_ii, not_bool, nil_ptr, fa_mk, ptrV, len_mk, cap_mk, eq_ptr_nil, ne_ptr_nil, eq_nil_nil, ne_nil_nil, eq_slice_nil, eq_nil_slice, ia_1]; exact so_so) ?_)
  rw [hasB_nat, List.getElem?_eq_getElem (by omega), Option.getD_some] at hK
  exact hK h1 (SPN_intro (s := s.mark i) (bu := bu) (bm := bm) (fr := fr) hfr (asr (by ac_rfl) hh1))
theorem use_slive {p : Nat} {s : Sp} {F : Asrt} {K : Value → Hp → Prop} {h : Hp} (hh : (SPN p s * F) h) (hK : K (.int .i64 (s.used.count true : Nat)) h) : CallH Tryz.prog 41 #[pB p] K h := by
  refine C41 ?_
  unfold D41
  obtain ⟨bu, bm, fr, _, hp⟩ := SPN_elim hh
  have l := spn_ld hp
  repeat (with_reducible first | refine vP_so ?_ | refine vB_t ?_ | refine vB_f ?_ | refine vE_tt ?_ | refine vE_ff ?_ | refine vE_tf ?_ | refine vE_ft ?_ | refine vE_u ?_ | refine vP_to (by simp (disch := omega) only [gdW_true, gdW_false, gB_true, gB_false, gB_undef, pickV_true, pickV_false, Bool.not_true, Bool.not_false, Option.map_some, bin_add, bin_sub, bin_mul, bin_quo, bin_rem, lss_t, lss_f, leq_t, leq_f, gtr_t, gtr_f, geq_t, geq_f, eqi_t, eqi_f, nei_t, nei_f, rem_uw, conv_ui, conv_iu, conv_ii, not_bool, nil_ptr, fa_mk, ptrV, len_mk, cap_mk, eq_ptr_nil, ne_ptr_nil, eq_nil_nil, ne_nil_nil, eq_slice_nil, eq_nil_slice, ia_1, nilP, l.2.2.1]; exact so_so) ?_)
  exact use_bcount (b := bu) (F := pt p (.cells #[.int .i64 s.first, .int .i64 s.cls, pB bu, pB bm, .int .i64 fr] 103 (0, 0)) * (BS bm s.marks * F)) (asr (by ac_rfl) hp) hK
end Go.Proofs

/-
  Contracts: treadmillref1's pages and places of a class.
-/
set_option maxRecDepth 100000
namespace Go.Proofs
open Go.Sl
theorem use_refPages {k : Int} (hk : 0 ≤ k ∧ k < 16) {F : Asrt} {K : Value → Hp → Prop} {h : Hp} (hh : (F * tt) h) (hK : ∀ h', (F * tt) h' → K (.int .i64 (pgS k)) h') : CallH Tryz.prog 8 #[.int .i64 k] K h := by
  refine C8 ?_
  unfold D8
  refine use_rsize hh fun h1 hh1 => ?_
  have hs := szS_pos hk
  have hp := pgS_pos hk
  repeat (with_reducible first | refine vP_so ?_ | refine vB_t ?_ | refine vB_f ?_ | refine vE_tt ?_ | refine vE_ff ?_ | refine vE_tf ?_ | refine vE_ft ?_ | refine vE_u ?_ | refine vP_to (by simp (disch := omega) only [gdW_true, gdW_false, gB_true, gB_false, gB_undef, pickV_true, pickV_false, Bool.not_true, Bool.not_false, Option.map_some, bin_add, bin_sub, bin_mul, bin_quo, bin_rem, lss_t, lss_f, leq_t, leq_f, gtr_t, gtr_f, geq_t, geq_f, eqi_t, eqi_f, nei_t, nei_f, rem_uw, conv_ui, conv_iu, conv_ii, not_bool, nil_ptr, fa_mk, ptrV, len_mk, cap_mk, eq_ptr_nil, ne_ptr_nil, eq_nil_nil, ne_nil_nil, eq_slice_nil, eq_nil_slice, ia_1]; exact so_so) ?_)
  refine ⟨fun m zs h' => ∃ p : Nat, zs = [.int .i64 p] ∧ m = 4 - p ∧ 1 ≤ p ∧ (p : Int) ≤ pgS k ∧ h' = h1, ⟨_, 1, rfl, rfl, by omega, by omega, rfl⟩, ?_⟩
  rintro m v4 h2 ⟨p, hzs, rfl, hp1, hp2, rfl⟩ _
  obtain rfl : v4 = .int .i64 p := by simpa using hzs
  have r1 : 0 ≤ (p : Int) * 64 % szS k := Int.emod_nonneg _ (by omega)
  have r2 : (p : Int) * 64 % szS k < szS k := Int.emod_lt_of_pos _ (by omega)
  by_cases hq : (p : Int) < pgS k
  · have hno := pgS_no' hk ⟨show (1 : Int) ≤ p by omega, hq⟩
    by_cases hge : szS k ≤ (p : Int) * 64
    · have hno2 : ¬ ((p : Int) * 64 % szS k * 8 ≤ (p : Int) * 64) := fun e => hno ⟨hge, e⟩
      repeat (with_reducible first | refine vP_so ?_ | refine vB_t ?_ | refine vB_f ?_ | refine vE_tt ?_ | refine vE_ff ?_ | refine vE_tf ?_ | refine vE_ft ?_ | refine vE_u ?_ | refine vP_to (by simp (disch := omega) only [gdW_true, gdW_false, gB_true, gB_false, gB_undef, pickV_true, pickV_false, Bool.not_true, Bool.not_false, Option.map_some, bin_add, bin_sub, bin_mul, bin_quo, bin_rem, lss_t, lss_f, leq_t, leq_f, gtr_t, gtr_f, geq_t, geq_f, eqi_t, eqi_f, nei_t, nei_f, rem_uw, conv_ui, conv_iu, conv_ii, not_bool, nil_ptr, fa_mk, ptrV, len_mk, cap_mk, eq_ptr_nil, ne_ptr_nil, eq_nil_nil, ne_nil_nil, eq_slice_nil, eq_nil_slice, ia_1]; exact so_so) ?_)
      exact ⟨4 - (p + 1), by omega, p + 1, by simp, rfl, by omega, by omega, rfl⟩
    · repeat (with_reducible first | refine vP_so ?_ | refine vB_t ?_ | refine vB_f ?_ | refine vE_tt ?_ | refine vE_ff ?_ | refine vE_tf ?_ | refine vE_ft ?_ | refine vE_u ?_ | refine vP_to (by simp (disch := omega) only [gdW_true, gdW_false, gB_true, gB_false, gB_undef, pickV_true, pickV_false, Bool.not_true, Bool.not_false, Option.map_some, bin_add, bin_sub, bin_mul, bin_quo, bin_rem, lss_t, lss_f, leq_t, leq_f, gtr_t, gtr_f, geq_t, geq_f, eqi_t, eqi_f, nei_t, nei_f, rem_uw, conv_ui, conv_iu, conv_ii, not_bool, nil_ptr, fa_mk, ptrV, len_mk, cap_mk, eq_ptr_nil, ne_ptr_nil, eq_nil_nil, ne_nil_nil, eq_slice_nil, eq_nil_slice, ia_1]; exact so_so) ?_)
      exact ⟨4 - (p + 1), by omega, p + 1, by simp, rfl, by omega, by omega, rfl⟩
  · have e : (p : Int) = pgS k := by omega
    have hy := pgS_yes' hk
    rw [← e] at hy hK
    obtain ⟨hy1, hy2⟩ := hy
    repeat (with_reducible first | refine vP_so ?_ | refine vB_t ?_ | refine vB_f ?_ | refine vE_tt ?_ | refine vE_ff ?_ | refine vE_tf ?_ | refine vE_ft ?_ | refine vE_u ?_ | refine vP_to (by simp (disch := omega) only [gdW_true, gdW_false, gB_true, gB_false, gB_undef, pickV_true, pickV_false, Bool.not_true, Bool.not_false, Option.map_some, bin_add, bin_sub, bin_mul, bin_quo, bin_rem, lss_t, lss_f, leq_t, leq_f, gtr_t, gtr_f, geq_t, geq_f, eqi_t, eqi_f, nei_t, nei_f, rem_uw, conv_ui, conv_iu, conv_ii, not_bool, nil_ptr, fa_mk, ptrV, len_mk, cap_mk, eq_ptr_nil, ne_ptr_nil, eq_nil_nil, ne_nil_nil, eq_slice_nil, eq_nil_slice, ia_1]; exact so_so) ?_)
    exact hK h2 hh1
theorem szS_out {k : Int} (h : ¬ (0 ≤ k ∧ k < 16)) : szS k = 0 := by unfold szS; first | rw [if_neg h] | (split <;> first | rfl | omega)
theorem use_refPages0 {k : Int} {F : Asrt} {K : Value → Hp → Prop} {h : Hp} (hh : (F * tt) h) (hK : ∀ h', (F * tt) h' → K (.int .i64 (pgS k)) h') : CallH Tryz.prog 8 #[.int .i64 k] K h := by
  by_cases hk : 0 ≤ k ∧ k < 16
  · exact use_refPages hk hh hK
  · rw [pgS_out hk] at hK
    refine C8 ?_
    unfold D8
    refine use_rsize hh fun h1 hh1 => ?_
    rw [szS_out hk]
    repeat (with_reducible first | refine vP_so ?_ | refine vB_t ?_ | refine vB_f ?_ | refine vE_tt ?_ | refine vE_ff ?_ | refine vE_tf ?_ | refine vE_ft ?_ | refine vE_u ?_ | refine vP_to (by simp (disch := omega) only [gdW_true, gdW_false, gB_true, gB_false, gB_undef, pickV_true, pickV_false, Bool.not_true, Bool.not_false, Option.map_some, bin_add, bin_sub, bin_mul, bin_quo, bin_rem, lss_t, lss_f, leq_t, leq_f, gtr_t, gtr_f, geq_t, geq_f, eqi_t, eqi_f, nei_t, nei_f, rem_uw, conv_ui, conv_iu, conv_ii, not_bool, nil_ptr, fa_mk, ptrV, len_mk, cap_mk, eq_ptr_nil, ne_ptr_nil, eq_nil_nil, ne_nil_nil, eq_slice_nil, eq_nil_slice, ia_1]; exact so_so) ?_)
    exact hK h1 hh1
theorem use_refSlots {k : Int} (hk : 0 ≤ k ∧ k < 16) {F : Asrt} {K : Value → Hp → Prop} {h : Hp} (hh : (F * tt) h) (hK : ∀ h', (F * tt) h' → K (.int .i64 (slS k)) h') : CallH Tryz.prog 114 #[.int .i64 k] K h := by
  refine C114 ?_
  unfold D114
  refine use_rsize hh fun h1 hh1 => ?_
  have hs := szS_pos hk
  have hp := pgS_pos hk
  repeat (with_reducible first | refine vP_so ?_ | refine vB_t ?_ | refine vB_f ?_ | refine vE_tt ?_ | refine vE_ff ?_ | refine vE_tf ?_ | refine vE_ft ?_ | refine vE_u ?_ | refine vP_to (by simp (disch := omega) only [gdW_true, gdW_false, gB_true, gB_false, gB_undef, pickV_true, pickV_false, Bool.not_true, Bool.not_false, Option.map_some, bin_add, bin_sub, bin_mul, bin_quo, bin_rem, lss_t, lss_f, leq_t, leq_f, gtr_t, gtr_f, geq_t, geq_f, eqi_t, eqi_f, nei_t, nei_f, rem_uw, conv_ui, conv_iu, conv_ii, not_bool, nil_ptr, fa_mk, ptrV, len_mk, cap_mk, eq_ptr_nil, ne_ptr_nil, eq_nil_nil, ne_nil_nil, eq_slice_nil, eq_nil_slice, ia_1]; exact so_so) ?_)
  refine use_refPages hk hh1 fun h2 hh2 => ?_
  have e := (slS_eq hk).1
  repeat (with_reducible first | refine vP_so ?_ | refine vB_t ?_ | refine vB_f ?_ | refine vE_tt ?_ | refine vE_ff ?_ | refine vE_tf ?_ | refine vE_ft ?_ | refine vE_u ?_ | refine vP_to (by simp (disch := omega) only [gdW_true, gdW_false, gB_true, gB_false, gB_undef, pickV_true, pickV_false, Bool.not_true, Bool.not_false, Option.map_some, bin_add, bin_sub, bin_mul, bin_quo, bin_rem, lss_t, lss_f, leq_t, leq_f, gtr_t, gtr_f, geq_t, geq_f, eqi_t, eqi_f, nei_t, nei_f, rem_uw, conv_ui, conv_iu, conv_ii, not_bool, nil_ptr, fa_mk, ptrV, len_mk, cap_mk, eq_ptr_nil, ne_ptr_nil, eq_nil_nil, ne_nil_nil, eq_slice_nil, eq_nil_slice, ia_1]; exact so_so) ?_)
  refine use_rsize hh2 fun h3 hh3 => ?_
  rw [← e] at hK
  repeat (with_reducible first | refine vP_so ?_ | refine vB_t ?_ | refine vB_f ?_ | refine vE_tt ?_ | refine vE_ff ?_ | refine vE_tf ?_ | refine vE_ft ?_ | refine vE_u ?_ | refine vP_to (by simp (disch := omega) only [gdW_true, gdW_false, gB_true, gB_false, gB_undef, pickV_true, pickV_false, Bool.not_true, Bool.not_false, Option.map_some, bin_add, bin_sub, bin_mul, bin_quo, bin_rem, lss_t, lss_f, leq_t, leq_f, gtr_t, gtr_f, geq_t, geq_f, eqi_t, eqi_f, nei_t, nei_f, rem_uw, conv_ui, conv_iu, conv_ii, not_bool, nil_ptr, fa_mk, ptrV, len_mk, cap_mk, eq_ptr_nil, ne_ptr_nil, eq_nil_nil, ne_nil_nil, eq_slice_nil, eq_nil_slice, ia_1]; exact so_so) ?_)
  exact hK h3 hh3
end Go.Proofs

/-
  Contracts: the document's own spans (treadmillref5.Span), over the same plain spans.
-/
set_option maxRecDepth 100000
set_option maxHeartbeats 1000000
namespace Go.Proofs
open Go.Sl
def RSP (p : Nat) (s : Sp) : Asrt := ex fun vu : Value => ex fun vm : Value => ex fun fr : Nat => pr (fr ≤ s.used.length ∧ ∀ i : Nat, i < fr → s.used[i]? = some true) *
  (pt p (.cells #[.int .i64 s.first, .int .i64 s.cls, vu, vm, .int .i64 fr] 79 (0, 0)) * (SG bE 4 vu s.used * SG bE 4 vm s.marks))
theorem RSP_elim {p : Nat} {s : Sp} {F : Asrt} {h : Hp} (hh : (RSP p s * F) h) : ∃ (vu vm : Value) (fr : Nat), fr ≤ s.used.length ∧ (∀ i : Nat, i < fr → s.used[i]? = some true) ∧
    (pt p (.cells #[.int .i64 s.first, .int .i64 s.cls, vu, vm, .int .i64 fr] 79 (0, 0)) * (SG bE 4 vu s.used * (SG bE 4 vm s.marks * F))) h := by
  obtain ⟨bu, hh⟩ := ex_star.1 hh
  obtain ⟨bm, hh⟩ := ex_star.1 hh
  obtain ⟨fr, hh⟩ := ex_star.1 hh
  rw [star_assoc, pr_star] at hh
  exact ⟨bu, bm, fr, hh.1.1, hh.1.2, asr (by ac_rfl) hh.2⟩
theorem RSP_intro {p fr : Nat} {vu vm : Value} {s : Sp} {F : Asrt} {h : Hp} (h0 : fr ≤ s.used.length) (h1 : ∀ i : Nat, i < fr → s.used[i]? = some true)
    (hh : (pt p (.cells #[.int .i64 s.first, .int .i64 s.cls, vu, vm, .int .i64 fr] 79 (0, 0)) * (SG bE 4 vu s.used * (SG bE 4 vm s.marks * F))) h) : (RSP p s * F) h := by
  refine ex_star.2 ⟨vu, ex_star.2 ⟨vm, ex_star.2 ⟨fr, ?_⟩⟩⟩
  rw [star_assoc, pr_star]
  exact ⟨⟨h0, h1⟩, asr (by ac_rfl) hh⟩
theorem rsp_ld {p : Nat} {a b c d e : Value} {F : Asrt} {h : Hp} (hh : (pt p (.cells #[a, b, c, d, e] 79 (0, 0)) * F) h) :
    ld1 (.pointer (some ⟨p, 0 + 0, none⟩)) h = some a ∧ ld1 (.pointer (some ⟨p, 0 + 1, none⟩)) h = some b ∧ ld1 (.pointer (some ⟨p, 0 + 2, none⟩)) h = some c ∧
    ld1 (.pointer (some ⟨p, 0 + 3, none⟩)) h = some d ∧ ld1 (.pointer (some ⟨p, 0 + 4, none⟩)) h = some e :=
  ⟨ld1_mk (pt_get hh) rfl, ld1_mk (pt_get hh) rfl, ld1_mk (pt_get hh) rfl, ld1_mk (pt_get hh) rfl, ld1_mk (pt_get hh) rfl⟩
theorem rsp_u {p fr : Nat} {vu vm : Value} {s : Sp} {F : Asrt} {h : Hp} (hh : (pt p (.cells #[.int .i64 s.first, .int .i64 s.cls, vu, vm, .int .i64 fr] 79 (0, 0)) * (SG bE 4 vu s.used * (SG bE 4 vm s.marks * F))) h) :
    lenV vu = some (.int .i64 s.used.length) ∧ lenV vm = some (.int .i64 s.marks.length) :=
  ⟨SG_len bE (show (SG bE 4 vu s.used * (pt p (.cells #[.int .i64 s.first, .int .i64 s.cls, vu, vm, .int .i64 fr] 79 (0, 0)) * (SG bE 4 vm s.marks * F))) h from asr (by ac_rfl) hh),
   SG_len bE (show (SG bE 4 vm s.marks * (pt p (.cells #[.int .i64 s.first, .int .i64 s.cls, vu, vm, .int .i64 fr] 79 (0, 0)) * (SG bE 4 vu s.used * F))) h from asr (by ac_rfl) hh)⟩
theorem use_rsnew {first k : Int} (hk : 0 ≤ k ∧ k < 16) (hf : 1 ≤ first ∧ first ≤ 262144) {F : Asrt} {K : Value → Hp → Prop} {h : Hp} (hh : (F * tt) h)
    (hK : ∀ p h', (RSP p (newSp first k) * (F * tt)) h' → K (pB p) h') : CallH Tryz.prog 93 #[.int .i64 first, .int .i64 k] K h := by
  refine C93 ?_
  unfold D93
  have hl := slS_pos hk
  refine use_refSlots hk hh fun h2 hh2 => ?_
  obtain ⟨n, hn⟩ : ∃ n : Nat, slS k = n := ⟨(slS k).toNat, by omega⟩
  have hl' : 1 ≤ n ∧ n ≤ 64 := by omega
  rw [hn]
  repeat (with_reducible first | refine vP_so ?_ | refine vB_t ?_ | refine vB_f ?_ | refine vE_tt ?_ | refine vE_ff ?_ | refine vE_tf ?_ | refine vE_ft ?_ | refine vE_u ?_ | refine vP_to (by simp (disch := omega) only [gdW_true, gdW_false, gB_true, gB_false, gB_undef, pickV_true, pickV_false, Bool.not_true, Bool.not_false, Option.map_some, bin_add, bin_sub, bin_mul, bin_quo, bin_rem, lss_t, lss_f, leq_t, leq_f, gtr_t, gtr_f, geq_t, geq_f, eqi_t, eqi_f, nei_t, nei_f, rem_uw, conv_ui, conv_iu, conv_ii, not_bool, nil_ptr, fa_mk, ptrV, len_mk, cap_mk, eq_ptr_nil, ne_ptr_nil, eq_nil_nil, ne_nil_nil, eq_slice_nil, eq_nil_slice, ia_1]; exact so_so) ?_)
  refine ms_SG bE (E := 4) (z := false) (n := n) hh2 rfl rfl (by omega) (by omega) fun v21 h3 hh3 => ?_
  refine ms_SG bE (E := 4) (z := false) (n := n) hh3 rfl rfl (by omega) (by omega) fun v23 h4 hh4 => ?_
  have e5 : bldV #[.int .i64 0, .int .i64 0, .slice none 0 0, .slice none 0 0, .int .i64 0] [(0, 1, .int .i64 first), (1, 1, .int .i64 k), (2, 1, v21), (3, 1, v23)] = some #[.int .i64 first, .int .i64 k, v21, v23, .int .i64 0] := by
    have q2 : (SG bE 4 v21 (List.replicate n false) * (SG bE 4 v23 (List.replicate n false) * (F * tt))) h4 := asr (by ac_rfl) hh4
    rcases SG_elim bE hh4 with ⟨rfl, _⟩ | ⟨r, cap, pre, post, rfl, _⟩ <;> rcases SG_elim bE q2 with ⟨rfl, _⟩ | ⟨r2, cap2, pre2, post2, rfl, _⟩ <;> rfl
  repeat (with_reducible first | refine vP_so ?_ | refine vB_t ?_ | refine vB_f ?_ | refine vE_tt ?_ | refine vE_ff ?_ | refine vE_tf ?_ | refine vE_ft ?_ | refine vE_u ?_ | refine vP_to (by simp (disch := omega) only [gdW_true, gdW_false, gB_true, gB_false, gB_undef, pickV_true, pickV_false, Bool.not_true, Bool.not_false, Option.map_some, bin_add, bin_sub, bin_mul, bin_quo, bin_rem, lss_t, lss_f, leq_t, leq_f, gtr_t, gtr_f, geq_t, geq_f, eqi_t, eqi_f, nei_t, nei_f, rem_uw, conv_ui, conv_iu, conv_ii, not_bool, nil_ptr, fa_mk, ptrV, len_mk, cap_mk, eq_ptr_nil, ne_ptr_nil, eq_nil_nil, ne_nil_nil, eq_slice_nil, eq_nil_slice, ia_1, e5]; exact so_so) ?_)
  refine vA_new hh4 fun p h5 hh5 => ?_
  refine hK p h5 (RSP_intro (fr := 0) (vu := v21) (vm := v23) (by omega) (fun i hi => by omega) ?_)
  have eu : (newSp first k).used = List.replicate n false := by show List.replicate (slS k).toNat false = _; rw [hn, Int.toNat_natCast]
  have em : (newSp first k).marks = List.replicate n false := eu
  rw [eu, em]
  exact asr (by ac_rfl) hh5
theorem use_rsaddr {p : Nat} {s : Sp} (hs : SpOk s) {i : Nat} (hi : i < s.used.length) {F : Asrt} {K : Value → Hp → Prop} {h : Hp} (hh : (RSP p s * (F * tt)) h)
    (hK : ∀ h', (RSP p s * (F * tt)) h' → K (.int .i64 (s.addr i)) h') : CallH Tryz.prog 63 #[pB p, .int .i64 i] K h := by
  refine C63 ?_
  unfold D63
  obtain ⟨vu, vm, fr, hfr, hfu, hp⟩ := RSP_elim hh
  have l := rsp_ld hp
  have hu := (rsp_u hp).1
  have ha := addr_bd hs hi
  have hl := hs.len
  have hf := hs.first
  have hz := szS_pos hs.cls
  have hsh : ∀ {h' : Hp}, (RSP p s * (F * tt)) h' → ld1 (.pointer (some ⟨p, 0 + 0, none⟩)) h' = some (.int .i64 s.first) := fun q => by
    obtain ⟨vu, vm, fr, _, _, hp⟩ := RSP_elim q
    exact (rsp_ld hp).1
  repeat (with_reducible first | refine vP_so ?_ | refine vB_t ?_ | refine vB_f ?_ | refine vE_tt ?_ | refine vE_ff ?_ | refine vE_tf ?_ | refine vE_ft ?_ | refine vE_u ?_ | refine vP_to (by simp (disch := omega) only [gdW_true, gdW_false, gB_true, gB_false, gB_undef, pickV_true, pickV_false, Bool.not_true, Bool.not_false, Option.map_some, bin_add, bin_sub, bin_mul, bin_quo, bin_rem, lss_t, lss_f, leq_t, leq_f, gtr_t, gtr_f, geq_t, geq_f, eqi_t, eqi_f, nei_t, nei_f, rem_uw, conv_ui, conv_iu, conv_ii, not_bool, nil_ptr, fa_mk, ptrV, len_mk, cap_mk, eq_ptr_nil, ne_ptr_nil, eq_nil_nil, ne_nil_nil, eq_slice_nil, eq_nil_slice, ia_1, l.1, l.2.1, l.2.2.1, hu]; exact so_so) ?_)
  refine use_rsize (F := RSP p s * F) (asr (by ac_rfl) hh) fun h1 hh1 => ?_
  have hh1 : (RSP p s * (F * tt)) h1 := asr (by ac_rfl) hh1
  refine ⟨hsh hh1, ?_⟩
  unfold Sp.addr at hK ha
  repeat (with_reducible first | refine vP_so ?_ | refine vB_t ?_ | refine vB_f ?_ | refine vE_tt ?_ | refine vE_ff ?_ | refine vE_tf ?_ | refine vE_ft ?_ | refine vE_u ?_ | refine vP_to (by simp (disch := omega) only [gdW_true, gdW_false, gB_true, gB_false, gB_undef, pickV_true, pickV_false, Bool.not_true, Bool.not_false, Option.map_some, bin_add, bin_sub, bin_mul, bin_quo, bin_rem, lss_t, lss_f, leq_t, leq_f, gtr_t, gtr_f, geq_t, geq_f, eqi_t, eqi_f, nei_t, nei_f, rem_uw, conv_ui, conv_iu, conv_ii, not_bool, nil_ptr, fa_mk, ptrV, len_mk, cap_mk, eq_ptr_nil, ne_ptr_nil, eq_nil_nil, ne_nil_nil, eq_slice_nil, eq_nil_slice, ia_1]; exact so_so) ?_)
  exact hK h1 hh1
theorem ff_at {l : List Bool} {i : Nat} (h1 : l[i]? = some false) (h2 : ∀ j : Nat, j < i → l[j]? = some true) : ff l = some i := by
  cases h : ff l with
  | none =>
    have := ff_none h i (List.getElem?_eq_some_iff.1 h1).1
    rw [h1] at this; cases this
  | some k =>
    obtain ⟨b, c⟩ := ff_some h
    rcases Nat.lt_trichotomy i k with q | q | q
    · have := c i q; rw [h1] at this; cases this
    · rw [q]
    · have := h2 k q; rw [b] at this; cases this
theorem ff_no {l : List Bool} (h : ∀ j : Nat, j < l.length → l[j]? = some true) : ff l = none := by
  cases h1 : ff l with
  | none => rfl
  | some k =>
    obtain ⟨b, _⟩ := ff_some h1
    have := h k (List.getElem?_eq_some_iff.1 b).1
    rw [b] at this; cases this
theorem use_rsfull {p : Nat} {s : Sp} (hs : SpOk s) {F : Asrt} {K : Value → Hp → Prop} {h : Hp} (hh : (RSP p s * F) h) (hK : K (.bool (ff s.used).isNone) h) : CallH Tryz.prog 99 #[pB p] K h := by
  refine C99 ?_
  unfold D99
  obtain ⟨vu, vm, fr, hfr, hfu, hp⟩ := RSP_elim hh
  have l := rsp_ld hp
  have hu := (rsp_u hp).1
  have hl := hs.len
  repeat (with_reducible first | refine vP_so ?_ | refine vB_t ?_ | refine vB_f ?_ | refine vE_tt ?_ | refine vE_ff ?_ | refine vE_tf ?_ | refine vE_ft ?_ | refine vE_u ?_ | refine vP_to (by simp (disch := omega) only [gdW_true, gdW_false, gB_true, gB_false, gB_undef, pickV_true, pickV_false, Bool.not_true, Bool.not_false, Option.map_some, bin_add, bin_sub, bin_mul, bin_quo, bin_rem, lss_t, lss_f, leq_t, leq_f, gtr_t, gtr_f, geq_t, geq_f, eqi_t, eqi_f, nei_t, nei_f, rem_uw, conv_ui, conv_iu, conv_ii, not_bool, nil_ptr, fa_mk, ptrV, len_mk, cap_mk, eq_ptr_nil, ne_ptr_nil, eq_nil_nil, ne_nil_nil, eq_slice_nil, eq_nil_slice, ia_1, l.2.2.2.2]; exact so_so) ?_)
  refine ⟨fun m zs h' => ∃ i : Nat, zs = [.int .i64 i] ∧ m = s.used.length - i ∧ i ≤ s.used.length ∧ (∀ j : Nat, j < i → s.used[j]? = some true) ∧ h' = h, ⟨_, fr, rfl, rfl, hfr, hfu, rfl⟩, ?_⟩
  rintro m v3 h1 ⟨i, hzs, rfl, hi, hiu, rfl⟩ _
  obtain rfl : v3 = .int .i64 i := by simpa using hzs
  by_cases hil : i < s.used.length
  · obtain ⟨q, g1, g2, _⟩ := el1 (show (SG bE 4 vu s.used * (pt p (.cells #[.int .i64 s.first, .int .i64 s.cls, vu, vm, .int .i64 fr] 79 (0, 0)) * (SG bE 4 vm s.marks * F))) h1 from asr (by ac_rfl) hp) (List.getElem?_eq_getElem hil) .i64
    have hb : s.used[i]? = some s.used[i] := List.getElem?_eq_getElem hil
    generalize s.used[i] = b at *
    cases b with
    | true =>
      repeat (with_reducible first | refine vP_so ?_ | refine vB_t ?_ | refine vB_f ?_ | refine vE_tt ?_ | refine vE_ff ?_ | refine vE_tf ?_ | refine vE_ft ?_ | refine vE_u ?_ | refine vP_to (by simp (disch := omega) only [gdW_true, gdW_false, gB_true, gB_false, gB_undef, pickV_true, pickV_false, Bool.not_true, Bool.not_false, Option.map_some, bin_add, bin_sub, bin_mul, bin_quo, bin_rem, lss_t, lss_f, leq_t, leq_f, gtr_t, gtr_f, geq_t, geq_f, eqi_t, eqi_f, nei_t, nei_f, rem_uw, conv_ui, conv_iu, conv_ii, not_bool, nil_ptr, fa_mk, ptrV, len_mk, cap_mk, eq_ptr_nil, ne_ptr_nil, eq_nil_nil, ne_nil_nil, eq_slice_nil, eq_nil_slice, ia_1, l.2.2.1, hu, g1, g2]; exact so_so) ?_)
      exact ⟨s.used.length - (i + 1), by omega, i + 1, rfl, rfl, by omega, fun j hj => by
        rcases Nat.lt_or_ge j i with q | q
        · exact hiu j q
        · obtain rfl : j = i := by omega
          exact hb, rfl⟩
    | false =>
      rw [ff_at hb hiu] at hK
      repeat (with_reducible first | refine vP_so ?_ | refine vB_t ?_ | refine vB_f ?_ | refine vE_tt ?_ | refine vE_ff ?_ | refine vE_tf ?_ | refine vE_ft ?_ | refine vE_u ?_ | refine vP_to (by simp (disch := omega) only [gdW_true, gdW_false, gB_true, gB_false, gB_undef, pickV_true, pickV_false, Bool.not_true, Bool.not_false, Option.map_some, bin_add, bin_sub, bin_mul, bin_quo, bin_rem, lss_t, lss_f, leq_t, leq_f, gtr_t, gtr_f, geq_t, geq_f, eqi_t, eqi_f, nei_t, nei_f, rem_uw, conv_ui, conv_iu, conv_ii, not_bool, nil_ptr, fa_mk, ptrV, len_mk, cap_mk, eq_ptr_nil, ne_ptr_nil, eq_nil_nil, ne_nil_nil, eq_slice_nil, eq_nil_slice, ia_1, l.2.2.1, hu, g1, g2]; exact so_so) ?_)
      exact hK
  · rw [ff_no (fun j hj => hiu j (by omega))] at hK
    repeat (with_reducible first | refine vP_so ?_ | refine vB_t ?_ | refine vB_f ?_ | refine vE_tt ?_ | refine vE_ff ?_ | refine vE_tf ?_ | refine vE_ft ?_ | refine vE_u ?_ | refine vP_to (by simp (disch := omega) only [gdW_true, gdW_false, gB_true, gB_false, gB_undef, pickV_true, pickV_false, Bool.not_true, Bool.not_false, Option.map_some, bin_add, bin_sub, bin_mul, bin_quo, bin_rem, lss_t, lss_f, leq_t, leq_f, gtr_t, gtr_f, geq_t, geq_f, eqi_t, eqi_f, nei_t, nei_f, rem_uw, conv_ui, conv_iu, conv_ii, not_bool, nil_ptr, fa_mk, ptrV, len_mk, cap_mk, eq_ptr_nil, ne_ptr_nil, eq_nil_nil, ne_nil_nil, eq_slice_nil, eq_nil_slice, ia_1, l.2.2.1, hu]; exact so_so) ?_)
    exact hK
theorem use_rslive {p : Nat} {s : Sp} (hs : SpOk s) {F : Asrt} {K : Value → Hp → Prop} {h : Hp} (hh : (RSP p s * F) h) (hK : K (.int .i64 (s.used.count true : Nat)) h) : CallH Tryz.prog 64 #[pB p] K h := by
  refine C64 ?_
  unfold D64
  obtain ⟨vu, vm, fr, hfr, hfu, hp⟩ := RSP_elim hh
  have l := rsp_ld hp
  have hu := (rsp_u hp).1
  have hl := hs.len
  refine ⟨fun m zs h' => ∃ i : Nat, zs = [.int .i64 i, .int .i64 ((s.used.take i).count true : Nat)] ∧ m = s.used.length - i ∧ i ≤ s.used.length ∧ h' = h, ⟨_, 0, by simp, rfl, by omega, rfl⟩, ?_⟩
  rintro m v4 v3 h1 ⟨i, hzs, rfl, hi, rfl⟩ _
  obtain ⟨rfl, rfl⟩ : v4 = .int .i64 i ∧ v3 = .int .i64 ((s.used.take i).count true : Nat) := by simpa using hzs
  by_cases hil : i < s.used.length
  · obtain ⟨q, g1, g2, _⟩ := el1 (show (SG bE 4 vu s.used * (pt p (.cells #[.int .i64 s.first, .int .i64 s.cls, vu, vm, .int .i64 fr] 79 (0, 0)) * (SG bE 4 vm s.marks * F))) h1 from asr (by ac_rfl) hp) (List.getElem?_eq_getElem hil) .i64
    have ht := List.take_succ_eq_append_getElem hil
    have hc : (s.used.take i).count true ≤ i := by have := List.count_le_length (l := s.used.take i) (a := true); rw [List.length_take] at this; omega
    generalize s.used[i] = b at *
    repeat (with_reducible first | refine vP_so ?_ | refine vB_t ?_ | refine vB_f ?_ | refine vE_tt ?_ | refine vE_ff ?_ | refine vE_tf ?_ | refine vE_ft ?_ | refine vE_u ?_ | refine vP_to (by simp (disch := omega) only [gdW_true, gdW_false, gB_true, gB_false, gB_undef, pickV_true, pickV_false, Bool.not_true, Bool.not_false, Option.map_some, bin_add, bin_sub, bin_mul, bin_quo, bin_rem, lss_t, lss_f, leq_t, leq_f, gtr_t, gtr_f, geq_t, geq_f, eqi_t, eqi_f, nei_t, nei_f, rem_uw, conv_ui, conv_iu, conv_ii, not_bool, nil_ptr, fa_mk, ptrV, len_mk, cap_mk, eq_ptr_nil, ne_ptr_nil, eq_nil_nil, ne_nil_nil, eq_slice_nil, eq_nil_slice, ia_1, l.2.2.1, hu]; exact so_so) ?_)
    intro J2 hJ2
    cases b with
    | true =>
      repeat (with_reducible first | refine vP_so ?_ | refine vB_t ?_ | refine vB_f ?_ | refine vE_tt ?_ | refine vE_ff ?_ | refine vE_tf ?_ | refine vE_ft ?_ | refine vE_u ?_ | refine vP_to (by simp (disch := omega) only [gdW_true, gdW_false, gB_true, gB_false, gB_undef, pickV_true, pickV_false, Bool.not_true, Bool.not_false, Option.map_some, bin_add, bin_sub, bin_mul, bin_quo, bin_rem, lss_t, lss_f, leq_t, leq_f, gtr_t, gtr_f, geq_t, geq_f, eqi_t, eqi_f, nei_t, nei_f, rem_uw, conv_ui, conv_iu, conv_ii, not_bool, nil_ptr, fa_mk, ptrV, len_mk, cap_mk, eq_ptr_nil, ne_ptr_nil, eq_nil_nil, ne_nil_nil, eq_slice_nil, eq_nil_slice, ia_1, l.2.2.1, g1, g2]; exact so_so) ?_)
      refine hJ2 _ _ fun _ => ?_
      repeat (with_reducible first | refine vP_so ?_ | refine vB_t ?_ | refine vB_f ?_ | refine vE_tt ?_ | refine vE_ff ?_ | refine vE_tf ?_ | refine vE_ft ?_ | refine vE_u ?_ | refine vP_to (by simp (disch := omega) only [gdW_true, gdW_false, gB_true, gB_false, gB_undef, pickV_true, pickV_false, Bool.not_true, Bool.not_false, Option.map_some, bin_add, bin_sub, bin_mul, bin_quo, bin_rem, lss_t, lss_f, leq_t, leq_f, gtr_t, gtr_f, geq_t, geq_f, eqi_t, eqi_f, nei_t, nei_f, rem_uw, conv_ui, conv_iu, conv_ii, not_bool, nil_ptr, fa_mk, ptrV, len_mk, cap_mk, eq_ptr_nil, ne_ptr_nil, eq_nil_nil, ne_nil_nil, eq_slice_nil, eq_nil_slice, ia_1]; exact so_so) ?_)
      refine ⟨s.used.length - (i + 1), by omega, i + 1, ?_, rfl, by omega, rfl⟩
      rw [ht, List.count_append]
      simp
    | false =>
      repeat (with_reducible first | refine vP_so ?_ | refine vB_t ?_ | refine vB_f ?_ | refine vE_tt ?_ | refine vE_ff ?_ | refine vE_tf ?_ | refine vE_ft ?_ | refine vE_u ?_ | refine vP_to (by simp (disch := omega) only [gdW_true, gdW_false, gB_true, gB_false, gB_undef, pickV_true, pickV_false, Bool.not_true, Bool.not_false, Option.map_some, bin_add, bin_sub, bin_mul, bin_quo, bin_rem, lss_t, lss_f, leq_t, leq_f, gtr_t, gtr_f, geq_t, geq_f, eqi_t, eqi_f, nei_t, nei_f, rem_uw, conv_ui, conv_iu, conv_ii, not_bool, nil_ptr, fa_mk, ptrV, len_mk, cap_mk, eq_ptr_nil, ne_ptr_nil, eq_nil_nil, ne_nil_nil, eq_slice_nil, eq_nil_slice, ia_1, l.2.2.1, g1, g2]; exact so_so) ?_)
      refine hJ2 _ _ fun _ => ?_
      repeat (with_reducible first | refine vP_so ?_ | refine vB_t ?_ | refine vB_f ?_ | refine vE_tt ?_ | refine vE_ff ?_ | refine vE_tf ?_ | refine vE_ft ?_ | refine vE_u ?_ | refine vP_to (by simp (disch := omega) only [gdW_true, gdW_false, gB_true, gB_false, gB_undef, pickV_true, pickV_false, Bool.not_true, Bool.not_false, Option.map_some, bin_add, bin_sub, bin_mul, bin_quo, bin_rem, lss_t, lss_f, leq_t, leq_f, gtr_t, gtr_f, geq_t, geq_f, eqi_t, eqi_f, nei_t, nei_f, rem_uw, conv_ui, conv_iu, conv_ii, not_bool, nil_ptr, fa_mk, ptrV, len_mk, cap_mk, eq_ptr_nil, ne_ptr_nil, eq_nil_nil, ne_nil_nil, eq_slice_nil, eq_nil_slice, ia_1]; exact so_so) ?_)
      refine ⟨s.used.length - (i + 1), by omega, i + 1, ?_, rfl, by omega, rfl⟩
      rw [ht, List.count_append]
      simp
  · obtain rfl : i = s.used.length := by omega
    rw [List.take_length]
    repeat (with_reducible first | refine vP_so ?_ | refine vB_t ?_ | refine vB_f ?_ | refine vE_tt ?_ | refine vE_ff ?_ | refine vE_tf ?_ | refine vE_ft ?_ | refine vE_u ?_ | refine vP_to (by simp (disch := omega) only [gdW_true, gdW_false, gB_true, gB_false, gB_undef, pickV_true, pickV_false, Bool.not_true, Bool.not_false, Option.map_some, bin_add, bin_sub, bin_mul, bin_quo, bin_rem, lss_t, lss_f, leq_t, leq_f, gtr_t, gtr_f, geq_t, geq_f, eqi_t, eqi_f, nei_t, nei_f, rem_uw, conv_ui, conv_iu, conv_ii, not_bool, nil_ptr, fa_mk, ptrV, len_mk, cap_mk, eq_ptr_nil, ne_ptr_nil, eq_nil_nil, ne_nil_nil, eq_slice_nil, eq_nil_slice, ia_1, l.2.2.1, hu]; exact so_so) ?_)
    exact hK
theorem use_rsset {p : Nat} {s : Sp} (hs : SpOk s) {i : Nat} (hi : s.used[i]? = some true) {F : Asrt} {K : Value → Hp → Prop} {h : Hp} (hh : (RSP p s * F) h)
    (hK : ∀ h', (RSP p (s.mark i) * F) h' → K (.bool !(hasB s.marks i)) h') : CallH Tryz.prog 97 #[pB p, .int .i64 i] K h := by
  refine C97 ?_
  unfold D97
  obtain ⟨vu, vm, fr, hfr, hfu, hp⟩ := RSP_elim hh
  have l := rsp_ld hp
  have hu := (rsp_u hp).1
  have hl := hs.len
  have hil := (List.getElem?_eq_some_iff.1 hi).1
  obtain ⟨q, g1, g2, _⟩ := el1 (show (SG bE 4 vu s.used * (pt p (.cells #[.int .i64 s.first, .int .i64 s.cls, vu, vm, .int .i64 fr] 79 (0, 0)) * (SG bE 4 vm s.marks * F))) h from asr (by ac_rfl) hp) hi .i64
  have him : s.marks[i]? = some (s.marks[i]'(by have := hs.ml; omega)) := List.getElem?_eq_getElem _
  rw [hasB_nat, him] at hK
  obtain ⟨q2, m1, m2, m3⟩ := el1 (show (SG bE 4 vm s.marks * (pt p (.cells #[.int .i64 s.first, .int .i64 s.cls, vu, vm, .int .i64 fr] 79 (0, 0)) * (SG bE 4 vu s.used * F))) h from asr (by ac_rfl) hp) him .i64
  generalize s.marks[i]'(by have := hs.ml; omega) = b at *
  cases b with
  | true =>
    repeat (with_reducible first | refine vP_so ?_ | refine vB_t ?_ | refine vB_f ?_ | refine vE_tt ?_ | refine vE_ff ?_ | refine vE_tf ?_ | refine vE_ft ?_ | refine vE_u ?_ | refine vP_to (by simp (disch := omega) only [gdW_true, gdW_false, gB_true, gB_false, gB_undef, pickV_true, pickV_false, Bool.not_true, Bool.not_false, Option.map_some, bin_add, bin_sub, bin_mul, bin_quo, bin_rem, lss_t, lss_f, leq_t, leq_f, gtr_t, gtr_f, geq_t, geq_f, eqi_t, eqi_f, nei_t, nei_f, rem_uw, conv_ui, conv_iu, conv_ii, not_bool, nil_ptr, fa_mk, ptrV, len_mk, cap_mk, eq_ptr_nil, ne_ptr_nil, eq_nil_nil, ne_nil_nil, eq_slice_nil, eq_nil_slice, ia_1, l.2.2.1, l.2.2.2.1, hu, g1, g2, m1, m2]; exact so_so) ?_)
    have e : s.mark i = s := by
      have : s.marks.set i true = s.marks := by rw [← List.getElem?_eq_some_iff.1 him |>.2]; exact List.set_getElem_self _
      unfold Sp.mark; rw [this]
    rw [e] at hK
    exact hK h hh
  | false =>
    repeat (with_reducible first | refine vP_so ?_ | refine vB_t ?_ | refine vB_f ?_ | refine vE_tt ?_ | refine vE_ff ?_ | refine vE_tf ?_ | refine vE_ft ?_ | refine vE_u ?_ | refine vP_to (by simp (disch := omega) only [gdW_true, gdW_false, gB_true, gB_false, gB_undef, pickV_true, pickV_false, Bool.not_true, Bool.not_false, Option.map_some, bin_add, bin_sub, bin_mul, bin_quo, bin_rem, lss_t, lss_f, leq_t, leq_f, gtr_t, gtr_f, geq_t, geq_f, eqi_t, eqi_f, nei_t, nei_f, rem_uw, conv_ui, conv_iu, conv_ii, not_bool, nil_ptr, fa_mk, ptrV, len_mk, cap_mk, eq_ptr_nil, ne_ptr_nil, eq_nil_nil, ne_nil_nil, eq_slice_nil, eq_nil_slice, ia_1, l.2.2.1, l.2.2.2.1, hu, g1, g2, m1, m2]; exact so_so) ?_)
    refine m3 true _ fun h' hh' => ?_
    exact hK h' (RSP_intro (s := s.mark i) (vu := vu) (vm := vm) hfr hfu (asr (by show _ = _; simp only [Sp.mark]; ac_rfl) hh'))
theorem use_rsalloc {p : Nat} {s : Sp} (hs : SpOk s) {black : Bool} {F : Asrt} {K : Value → Hp → Prop} {h : Hp} (hh : (RSP p s * F) h)
    (hfull : ∀ h', ff s.used = none → (RSP p s * F) h' → K (.tuple #[.int .i64 0, .bool false]) h')
    (hK : ∀ (i : Nat) h', ff s.used = some i → (RSP p (s.take i black) * F) h' → K (.tuple #[.int .i64 i, .bool true]) h') : CallH Tryz.prog 95 #[pB p, .bool black] K h := by
  refine C95 ?_
  unfold D95
  obtain ⟨vu, vm, fr, hfr, hfu, hp⟩ := RSP_elim hh
  have l := rsp_ld hp
  have hu := (rsp_u hp).1
  have hl := hs.len
  repeat (with_reducible first | refine vP_so ?_ | refine vB_t ?_ | refine vB_f ?_ | refine vE_tt ?_ | refine vE_ff ?_ | refine vE_tf ?_ | refine vE_ft ?_ | refine vE_u ?_ | refine vP_to (by simp (disch := omega) only [gdW_true, gdW_false, gB_true, gB_false, gB_undef, pickV_true, pickV_false, Bool.not_true, Bool.not_false, Option.map_some, bin_add, bin_sub, bin_mul, bin_quo, bin_rem, lss_t, lss_f, leq_t, leq_f, gtr_t, gtr_f, geq_t, geq_f, eqi_t, eqi_f, nei_t, nei_f, rem_uw, conv_ui, conv_iu, conv_ii, not_bool, nil_ptr, fa_mk, ptrV, len_mk, cap_mk, eq_ptr_nil, ne_ptr_nil, eq_nil_nil, ne_nil_nil, eq_slice_nil, eq_nil_slice, ia_1, l.2.2.2.2]; exact so_so) ?_)
  refine ⟨fun m zs h' => ∃ i : Nat, zs = [.int .i64 i] ∧ m = s.used.length - i ∧ i ≤ s.used.length ∧ (∀ j : Nat, j < i → s.used[j]? = some true) ∧ h' = h, ⟨_, fr, rfl, rfl, hfr, hfu, rfl⟩, ?_⟩
  rintro m v6 h1 ⟨i, hzs, rfl, hi, hiu, rfl⟩ _
  obtain rfl : v6 = .int .i64 i := by simpa using hzs
  by_cases hil : i < s.used.length
  · obtain ⟨q, g1, g2, g3⟩ := el1 (show (SG bE 4 vu s.used * (pt p (.cells #[.int .i64 s.first, .int .i64 s.cls, vu, vm, .int .i64 fr] 79 (0, 0)) * (SG bE 4 vm s.marks * F))) h1 from asr (by ac_rfl) hp) (List.getElem?_eq_getElem hil) .i64
    have hb : s.used[i]? = some s.used[i] := List.getElem?_eq_getElem hil
    generalize s.used[i] = b at *
    cases b with
    | true =>
      repeat (with_reducible first | refine vP_so ?_ | refine vB_t ?_ | refine vB_f ?_ | refine vE_tt ?_ | refine vE_ff ?_ | refine vE_tf ?_ | refine vE_ft ?_ | refine vE_u ?_ | refine vP_to (by simp (disch := omega) only [gdW_true, gdW_false, gB_true, gB_false, gB_undef, pickV_true, pickV_false, Bool.not_true, Bool.not_false, Option.map_some, bin_add, bin_sub, bin_mul, bin_quo, bin_rem, lss_t, lss_f, leq_t, leq_f, gtr_t, gtr_f, geq_t, geq_f, eqi_t, eqi_f, nei_t, nei_f, rem_uw, conv_ui, conv_iu, conv_ii, not_bool, nil_ptr, fa_mk, ptrV, len_mk, cap_mk, eq_ptr_nil, ne_ptr_nil, eq_nil_nil, ne_nil_nil, eq_slice_nil, eq_nil_slice, ia_1, l.2.2.1, hu, g1, g2]; exact so_so) ?_)
      exact ⟨s.used.length - (i + 1), by omega, i + 1, rfl, rfl, by omega, fun j hj => by
        rcases Nat.lt_or_ge j i with q | q
        · exact hiu j q
        · obtain rfl : j = i := by omega
          exact hb, rfl⟩
    | false =>
      have hff := ff_at hb hiu
      have hmf : s.marks[i]? = some false := by
        have hml := hs.ml
        cases hq : s.marks[i]? with
        | none => rw [List.getElem?_eq_none_iff] at hq; omega
        | some b =>
          cases b with
          | false => rfl
          | true => have := hs.sub i hq; rw [hb] at this; cases this
      repeat (with_reducible first | refine vP_so ?_ | refine vB_t ?_ | refine vB_f ?_ | refine vE_tt ?_ | refine vE_ff ?_ | refine vE_tf ?_ | refine vE_ft ?_ | refine vE_u ?_ | refine vP_to (by simp (disch := omega) only [gdW_true, gdW_false, gB_true, gB_false, gB_undef, pickV_true, pickV_false, Bool.not_true, Bool.not_false, Option.map_some, bin_add, bin_sub, bin_mul, bin_quo, bin_rem, lss_t, lss_f, leq_t, leq_f, gtr_t, gtr_f, geq_t, geq_f, eqi_t, eqi_f, nei_t, nei_f, rem_uw, conv_ui, conv_iu, conv_ii, not_bool, nil_ptr, fa_mk, ptrV, len_mk, cap_mk, eq_ptr_nil, ne_ptr_nil, eq_nil_nil, ne_nil_nil, eq_slice_nil, eq_nil_slice, ia_1, l.2.2.1, hu, g1, g2]; exact so_so) ?_)
      refine g3 true _ fun h2 hh2 => ?_
      have hh2 : (SG bE 4 vu (s.used.set i true) * (pt p (.cells #[.int .i64 s.first, .int .i64 s.cls, vu, vm, .int .i64 fr] 79 (0, 0)) * (SG bE 4 vm s.marks * F))) h2 := hh2
      have hp2 : (pt p (.cells #[.int .i64 s.first, .int .i64 s.cls, vu, vm, .int .i64 fr] 79 (0, 0)) * (SG bE 4 vu (s.used.set i true) * (SG bE 4 vm s.marks * F))) h2 := asr (by ac_rfl) hh2
      have l2 := rsp_ld hp2
      obtain ⟨q2, m1, _, m3⟩ := el1 (show (SG bE 4 vm s.marks * (pt p (.cells #[.int .i64 s.first, .int .i64 s.cls, vu, vm, .int .i64 fr] 79 (0, 0)) * (SG bE 4 vu (s.used.set i true) * F))) h2 from asr (by ac_rfl) hp2) hmf .i64
      repeat (with_reducible first | refine vP_so ?_ | refine vB_t ?_ | refine vB_f ?_ | refine vE_tt ?_ | refine vE_ff ?_ | refine vE_tf ?_ | refine vE_ft ?_ | refine vE_u ?_ | refine vP_to (by simp (disch := omega) only [gdW_true, gdW_false, gB_true, gB_false, gB_undef, pickV_true, pickV_false, Bool.not_true, Bool.not_false, Option.map_some, bin_add, bin_sub, bin_mul, bin_quo, bin_rem, lss_t, lss_f, leq_t, leq_f, gtr_t, gtr_f, geq_t, geq_f, eqi_t, eqi_f, nei_t, nei_f, rem_uw, conv_ui, conv_iu, conv_ii, not_bool, nil_ptr, fa_mk, ptrV, len_mk, cap_mk, eq_ptr_nil, ne_ptr_nil, eq_nil_nil, ne_nil_nil, eq_slice_nil, eq_nil_slice, ia_1, l2.2.2.2.1, m1]; exact so_so) ?_)
      refine m3 black _ fun h3 hh3 => ?_
      have hh3 : (SG bE 4 vm (s.marks.set i black) * (pt p (.cells #[.int .i64 s.first, .int .i64 s.cls, vu, vm, .int .i64 fr] 79 (0, 0)) * (SG bE 4 vu (s.used.set i true) * F))) h3 := hh3
      have hp3 : (pt p (.cells #[.int .i64 s.first, .int .i64 s.cls, vu, vm, .int .i64 fr] 79 (0, 0)) * (SG bE 4 vu (s.used.set i true) * (SG bE 4 vm (s.marks.set i black) * F))) h3 := asr (by ac_rfl) hh3
      repeat (with_reducible first | refine vP_so ?_ | refine vB_t ?_ | refine vB_f ?_ | refine vE_tt ?_ | refine vE_ff ?_ | refine vE_tf ?_ | refine vE_ft ?_ | refine vE_u ?_ | refine vP_to (by simp (disch := omega) only [gdW_true, gdW_false, gB_true, gB_false, gB_undef, pickV_true, pickV_false, Bool.not_true, Bool.not_false, Option.map_some, bin_add, bin_sub, bin_mul, bin_quo, bin_rem, lss_t, lss_f, leq_t, leq_f, gtr_t, gtr_f, geq_t, geq_f, eqi_t, eqi_f, nei_t, nei_f, rem_uw, conv_ui, conv_iu, conv_ii, not_bool, nil_ptr, fa_mk, ptrV, len_mk, cap_mk, eq_ptr_nil, ne_ptr_nil, eq_nil_nil, ne_nil_nil, eq_slice_nil, eq_nil_slice, ia_1]; exact so_so) ?_)
      refine st1_mk hp3 rfl (by simp) fun h4 hh4 => ?_
      have em : s.marks.set i black = (s.take i black).marks := by
        unfold Sp.take
        cases black with
        | true => rfl
        | false =>
          show s.marks.set i false = s.marks
          rw [← List.getElem?_eq_some_iff.1 hmf |>.2]; exact List.set_getElem_self _
      rw [em] at hh4
      exact hK i h4 hff (RSP_intro (s := s.take i black) (vu := vu) (vm := vm) (fr := i) (by show i ≤ (s.used.set i true).length; rw [List.length_set]; omega) (fun j hj => by show (s.used.set i true)[j]? = _; rw [List.getElem?_set_ne (by omega)]; exact hiu j hj) hh4)
  · obtain rfl : i = s.used.length := by omega
    repeat (with_reducible first | refine vP_so ?_ | refine vB_t ?_ | refine vB_f ?_ | refine vE_tt ?_ | refine vE_ff ?_ | refine vE_tf ?_ | refine vE_ft ?_ | refine vE_u ?_ | refine vP_to (by simp (disch := omega) only [gdW_true, gdW_false, gB_true, gB_false, gB_undef, pickV_true, pickV_false, Bool.not_true, Bool.not_false, Option.map_some, bin_add, bin_sub, bin_mul, bin_quo, bin_rem, lss_t, lss_f, leq_t, leq_f, gtr_t, gtr_f, geq_t, geq_f, eqi_t, eqi_f, nei_t, nei_f, rem_uw, conv_ui, conv_iu, conv_ii, not_bool, nil_ptr, fa_mk, ptrV, len_mk, cap_mk, eq_ptr_nil, ne_ptr_nil, eq_nil_nil, ne_nil_nil, eq_slice_nil, eq_nil_slice, ia_1, l.2.2.1, hu]; exact so_so) ?_)
    refine st1_mk hp rfl (by simp) fun h4 hh4 => ?_
    exact hfull h4 (ff_no hiu) (RSP_intro (vu := vu) (vm := vm) (fr := s.used.length) (Nat.le_refl _) hiu hh4)
end Go.Proofs

/-
  Arenas, plainly: pages, spans upon them, objects; what must hold of them, and what an operation does.
-/
set_option maxRecDepth 100000
namespace Go.Proofs
open Go.Sl
structure Ar where
  n : Nat
  runs : List Run
  sp : Int → Option Sp
  ow : Int → Option Int
  ob : Int → Option (List Int)
  live : Int
def wt : Option Sp → Int
  | none => 0
  | some s => (s.used.count true : Nat) * szS s.cls
def tot (sp : Int → Option Sp) : Nat → Int
  | 0 => 0
  | j + 1 => tot sp j + wt (sp (j : Int))
theorem tot_congr {sp sp' : Int → Option Sp} : ∀ {N : Nat}, (∀ j : Nat, j < N → wt (sp (j : Int)) = wt (sp' (j : Int))) → tot sp N = tot sp' N
  | 0, _ => rfl
  | N + 1, h => by rw [tot, tot, tot_congr (N := N) fun j hj => h j (by omega), h N (by omega)]
theorem tot_one {sp sp' : Int → Option Sp} {k : Nat} (h : ∀ j : Nat, j ≠ k → sp' (j : Int) = sp (j : Int)) : ∀ {N : Nat}, k < N → tot sp' N = tot sp N - wt (sp (k : Int)) + wt (sp' (k : Int))
  | 0, hk => by omega
  | N + 1, hk => by
    rw [tot, tot]
    by_cases hN : k = N
    · subst hN
      have e : tot sp' k = tot sp k := tot_congr fun j hj => by rw [h j (by omega)]
      rw [e]
      omega
    · rw [tot_one h (N := N) (by omega), h N (fun e => hN e.symm)]
      omega
theorem tot_more {sp : Int → Option Sp} {N M : Nat} (h : N ≤ M) (hn : ∀ j : Nat, N ≤ j → sp (j : Int) = none) : tot sp M = tot sp N := by
  induction M with
  | zero =>
    obtain rfl : N = 0 := by omega
    rfl
  | succ M ih =>
    by_cases hN : N = M + 1
    · rw [hN]
    · rw [tot, ih (by omega), hn M (by omega)]
      simp [wt]
structure AOk (st : Ar) (N : Nat) : Prop where
  n : 1 ≤ st.n ∧ st.n ≤ 262144
  wf : WF st.n st.runs
  sp : ∀ id s, st.sp id = some s → 0 ≤ id ∧ id < N ∧ SpOk s ∧ s.first + pgS s.cls ≤ st.n
  pg : ∀ id s x, st.sp id = some s → s.first ≤ x → x < s.first + pgS s.cls → ¬ fr st.runs x ∧ st.ow x = some id
  ob : ∀ a, (st.ob a).isSome = true ↔ ∃ id s, ∃ i : Nat, st.sp id = some s ∧ s.used[i]? = some true ∧ a = s.addr i
  ol : ∀ id s (i : Nat) l, st.sp id = some s → s.used[i]? = some true → st.ob (s.addr i) = some l → 1 ≤ l.length ∧ (l.length : Int) ≤ szS s.cls
  live : st.live = tot st.sp N
theorem wt_bd {s : Sp} (h : SpOk s) : 0 ≤ wt (some s) ∧ wt (some s) ≤ 256 := by
  have h1 := szS_pos h.cls
  have h2 := (slS_eq h.cls).2
  have h3 := pgS_pos h.cls
  have h4 := List.count_le_length (l := s.used) (a := true)
  have h5 := h.ul
  have h6 : (0 : Int) ≤ (s.used.count true : Nat) * szS s.cls := Int.mul_nonneg (by omega) (by omega)
  have h7 : ((s.used.count true : Nat) : Int) * szS s.cls ≤ slS s.cls * szS s.cls := Int.mul_le_mul_of_nonneg_right (by omega) (by omega)
  unfold wt
  simp only
  omega
theorem tot_bd {sp : Int → Option Sp} (h : ∀ id s, sp id = some s → SpOk s) : ∀ N, 0 ≤ tot sp N ∧ tot sp N ≤ 256 * N
  | 0 => by simp [tot]
  | N + 1 => by
    have h1 := tot_bd h N
    rw [tot]
    have h2 : 0 ≤ wt (sp (N : Int)) ∧ wt (sp (N : Int)) ≤ 256 := by
      cases hq : sp (N : Int) with
      | none => simp [wt]
      | some s => exact wt_bd (h _ s hq)
    omega
theorem AOk.live_bd {st : Ar} {N : Nat} (h : AOk st N) : 0 ≤ st.live ∧ st.live ≤ 256 * N := by
  rw [h.live]
  exact tot_bd (fun id s e => (h.sp id s e).2.2.1) N
theorem addr_page {s : Sp} (hs : SpOk s) {i : Nat} (hi : i < s.used.length) : s.first ≤ s.addr i / 64 ∧ s.addr i / 64 < s.first + pgS s.cls := by
  have h1 := szS_pos hs.cls
  have h2 := (slS_eq hs.cls).2
  have h3 := hs.ul
  have h4 : 0 ≤ (i : Int) * szS s.cls := Int.mul_nonneg (by omega) (by omega)
  have h5 : ((i : Int) + 1) * szS s.cls ≤ slS s.cls * szS s.cls := Int.mul_le_mul_of_nonneg_right (by omega) (by omega)
  rw [Int.add_mul, Int.one_mul] at h5
  unfold Sp.addr
  generalize (i : Int) * szS s.cls = z at *
  omega
theorem addr_inj {st : Ar} {N : Nat} (h : AOk st N) {id id' : Int} {s s' : Sp} {i i' : Nat} (h1 : st.sp id = some s) (h2 : st.sp id' = some s') (hi : i < s.used.length) (hi' : i' < s'.used.length) (he : s.addr i = s'.addr i') : id = id' ∧ i = i' := by
  have o1 := (h.sp id s h1).2.2.1
  have o2 := (h.sp id' s' h2).2.2.1
  have p1 := addr_page o1 hi
  have p2 := addr_page o2 hi'
  have w1 := (h.pg id s _ h1 p1.1 p1.2).2
  have w2 := (h.pg id' s' _ h2 p2.1 p2.2).2
  rw [he, w2] at w1
  obtain rfl : id' = id := Option.some.inj w1
  rw [h1] at h2
  obtain rfl : s = s' := Option.some.inj h2
  refine ⟨rfl, ?_⟩
  have hz := szS_pos o1.cls
  unfold Sp.addr at he
  have he : (i : Int) * szS s.cls = (i' : Int) * szS s.cls := by omega
  have := Int.eq_of_mul_eq_mul_right (by omega) he
  omega
theorem addr_inj1 {s : Sp} (hs : SpOk s) {i j : Nat} (h : s.addr i = s.addr j) : i = j := by
  have hz := szS_pos hs.cls
  unfold Sp.addr at h
  have h : (i : Int) * szS s.cls = (j : Int) * szS s.cls := by omega
  have := Int.eq_of_mul_eq_mul_right (by omega) h
  omega
def newAr (n : Int) : Ar := ⟨n.toNat, newL n, fun _ => none, fun _ => none, fun _ => none, 0⟩
theorem newAr_ok {n : Int} (hn : 2 ≤ n ∧ n ≤ 262144) : AOk (newAr n) 0 := by
  have e : newN n = n := by unfold newN; omega
  refine ⟨by simp only [newAr]; omega, ?_, fun id s h => by simp [newAr] at h, fun id s x h => by simp [newAr] at h, fun a => by simp [newAr], fun id s i l h => by simp [newAr] at h, rfl⟩
  show WF ((n.toNat : Nat) : Int) (newL n)
  rw [show ((n.toNat : Nat) : Int) = n by omega]
  unfold newL
  rw [e, if_pos (by omega)]
  exact WF_one n (n - 1) (by omega) (by omega)
def Least (sp : Int → Option Sp) (id : Int) : Prop := 0 ≤ id ∧ sp id = none ∧ ∀ j, 0 ≤ j → j < id → sp j ≠ none
theorem Least_uniq {sp : Int → Option Sp} {i j : Int} (h : Least sp i) (h' : Least sp j) : i = j := by
  rcases Int.lt_trichotomy i j with q | q | q
  · exact (h'.2.2 i h.1 q h.2.1).elim
  · exact q
  · exact (h.2.2 j h'.1 q h'.2.1).elim
theorem Least_le {st : Ar} {N : Nat} (h : AOk st N) {id : Int} (hl : Least st.sp id) : id ≤ N := by
  rcases Int.lt_or_le (N : Int) id with q | q
  · cases hs : st.sp (N : Int) with
    | none => exact (hl.2.2 N (by omega) q hs).elim
    | some s => have := (h.sp _ s hs).2.1; omega
  · exact q
def owPut (ow : Int → Option Int) (first n id : Int) : Int → Option Int := fun x => if first ≤ x ∧ x < first + n then some id else ow x
structure SpanR (st : Ar) (k : Int) (st' : Ar) (id : Int) (b : Run) : Prop where
  mem : b ∈ st.runs
  le : pgS k ≤ b.2
  best : ∀ y ∈ st.runs, pgS k ≤ y.2 → lt y b = false
  lst : Least st.sp id
  n : st'.n = st.n
  fr : ∀ x, fr st'.runs x ↔ fr st.runs x ∧ ¬ (b.1 ≤ x ∧ x < b.1 + pgS k)
  left : leftS st'.runs = leftS st.runs - pgS k
  wf : WF st'.n st'.runs
  sp : st'.sp = fput st.sp id (newSp b.1 k)
  ow : st'.ow = owPut st.ow b.1 (pgS k) id
  ob : st'.ob = st.ob
  live : st'.live = st.live
theorem SpanR.rng {st st' : Ar} {N : Nat} {k id : Int} {b : Run} (h : AOk st N) (hk : 0 ≤ k ∧ k < 16) (r : SpanR st k st' id b) : 1 ≤ b.1 ∧ b.1 + pgS k ≤ st.n ∧ b.1 ≤ 262144 := by
  have h1 := WFf_mem h.wf (by omega) b r.mem
  have h2 := pgS_pos hk
  have := r.le
  have := h.n
  omega
theorem SpanR.ok {st st' : Ar} {N : Nat} {k id : Int} {b : Run} (h : AOk st N) (hk : 0 ≤ k ∧ k < 16) (r : SpanR st k st' id b) : AOk st' (N + 1) := by
  have hr := r.rng h hk
  have hp := pgS_pos hk
  have hno : st.sp id = none := r.lst.2.1
  have hid := Least_le h r.lst
  have hsn : SpOk (newSp b.1 k) := newSp_ok hk (by omega)
  have hnew : ∀ i : Nat, (newSp b.1 k).used[i]? ≠ some true := fun i hi => by
    have hi : (List.replicate (slS k).toNat false)[i]? = some true := hi
    rw [List.getElem?_replicate] at hi
    split at hi <;> cases hi
  have hfree : ∀ x, b.1 ≤ x → x < b.1 + pgS k → Go.Proofs.fr st.runs x := fun x h1 h2 => fr_mem.2 ⟨b, r.mem, by omega, by have := r.le; omega⟩
  have hsp : ∀ j s, st'.sp j = some s → (j = id ∧ s = newSp b.1 k) ∨ (j ≠ id ∧ st.sp j = some s) := fun j s e => by
    rw [r.sp] at e
    by_cases hj : j = id
    · subst hj; rw [fput_eq] at e; exact .inl ⟨rfl, (Option.some.inj e).symm⟩
    · rw [fput_ne hj] at e; exact .inr ⟨hj, e⟩
  refine ⟨by rw [r.n]; exact h.n, r.wf, fun j s e => ?_, fun j s x e h1 h2 => ?_, fun a => ?_, fun j s i l e h1 h2 => ?_, ?_⟩
  · rcases hsp j s e with ⟨rfl, rfl⟩ | ⟨hj, e⟩
    · exact ⟨r.lst.1, by omega, hsn, by rw [r.n]; exact hr.2.1⟩
    · have := h.sp j s e
      rw [r.n]
      exact ⟨this.1, by omega, this.2.2⟩
  · rw [r.fr, r.ow]
    rcases hsp j s e with ⟨rfl, rfl⟩ | ⟨hj, e⟩
    · have h1 : b.1 ≤ x := h1
      have h2 : x < b.1 + pgS k := h2
      refine ⟨fun q => q.2 ⟨h1, h2⟩, ?_⟩
      unfold owPut; rw [if_pos ⟨h1, h2⟩]
    · have := h.pg j s x e h1 h2
      refine ⟨fun q => this.1 q.1, ?_⟩
      unfold owPut
      rw [if_neg (fun q => this.1 (hfree x q.1 q.2))]
      exact this.2
  · rw [r.ob, h.ob]
    constructor
    · rintro ⟨j, s, i, e, h1, h2⟩
      refine ⟨j, s, i, ?_, h1, h2⟩
      rw [r.sp, fput_ne (fun q => by subst q; rw [hno] at e; cases e)]
      exact e
    · rintro ⟨j, s, i, e, h1, h2⟩
      rcases hsp j s e with ⟨rfl, rfl⟩ | ⟨hj, e⟩
      · exact (hnew i h1).elim
      · exact ⟨j, s, i, e, h1, h2⟩
  · rw [r.ob] at h2
    rcases hsp j s e with ⟨rfl, rfl⟩ | ⟨hj, e⟩
    · exact (hnew i h1).elim
    · exact h.ol j s i l e h1 h2
  · obtain ⟨m, rfl⟩ : ∃ m : Nat, id = m := ⟨id.toNat, by have := r.lst.1; omega⟩
    have e1 : tot st.sp (N + 1) = tot st.sp N := tot_more (by omega) fun j hj => by
      cases hs : st.sp (j : Int) with
      | none => rfl
      | some s => have := (h.sp _ s hs).2.1; omega
    rw [r.live, h.live, ← e1, r.sp, tot_one (sp := st.sp) (sp' := fput st.sp (m : Int) (newSp b.1 k)) (k := m) (fun j hj => fput_ne (by omega)) (by omega), hno, fput_eq]
    have z : (newSp b.1 k).used.count true = 0 := by
      show (List.replicate (slS k).toNat false).count true = 0
      simp [List.count_replicate]
    simp [wt, z]
theorem turn_ok {st : Ar} {N : Nat} (h : AOk st N) {id : Int} {s s' : Sp} {ob' : Int → Option (List Int)} {live' : Int} (hs : st.sp id = some s) (hc : s'.cls = s.cls) (hf : s'.first = s.first) (ho : SpOk s')
    (hob : ∀ a, (ob' a).isSome = true ↔ (∃ i : Nat, s'.used[i]? = some true ∧ a = s'.addr i) ∨ ((∀ i : Nat, i < s.used.length → a ≠ s.addr i) ∧ (st.ob a).isSome = true))
    (hol : ∀ (i : Nat) l, s'.used[i]? = some true → ob' (s'.addr i) = some l → 1 ≤ l.length ∧ (l.length : Int) ≤ szS s.cls)
    (hoo : ∀ a l, (∀ i : Nat, i < s.used.length → a ≠ s.addr i) → ob' a = some l → st.ob a = some l)
    (hlive : live' = st.live - wt (some s) + wt (some s')) : AOk { st with sp := fput st.sp id s', ob := ob', live := live' } N := by
  have h0 := h.sp id s hs
  have hlen : s'.used.length = s.used.length := by have q1 := ho.ul; have q2 := h0.2.2.1.ul; rw [hc] at q1; omega
  have hsp : ∀ j t, fput st.sp id s' j = some t → (j = id ∧ t = s') ∨ (j ≠ id ∧ st.sp j = some t) := fun j t e => by
    by_cases hj : j = id
    · subst hj; rw [fput_eq] at e; exact .inl ⟨rfl, (Option.some.inj e).symm⟩
    · rw [fput_ne hj] at e; exact .inr ⟨hj, e⟩
  have hapart : ∀ j t (i : Nat), j ≠ id → st.sp j = some t → i < t.used.length → ∀ m : Nat, m < s.used.length → t.addr i ≠ s.addr m := fun j t i hj e hi m hm q => hj (addr_inj h e hs hi hm q).1
  refine ⟨h.n, h.wf, fun j t e => ?_, fun j t x e h1 h2 => ?_, fun a => ?_, fun j t i l e h1 h2 => ?_, ?_⟩
  · rcases hsp j t e with ⟨rfl, rfl⟩ | ⟨hj, e⟩
    · exact ⟨h0.1, h0.2.1, ho, by rw [hc, hf]; exact h0.2.2.2⟩
    · exact h.sp j t e
  · rcases hsp j t e with ⟨rfl, rfl⟩ | ⟨hj, e⟩
    · rw [hf] at h1 h2
      rw [hc] at h2
      exact h.pg j s x hs h1 h2
    · exact h.pg j t x e h1 h2
  · show (ob' a).isSome = true ↔ _
    rw [hob]
    constructor
    · rintro (⟨i, h1, h2⟩ | ⟨h1, h2⟩)
      · exact ⟨id, s', i, fput_eq _ _ _, h1, h2⟩
      · obtain ⟨j, t, i, e, h3, h4⟩ := (h.ob a).1 h2
        have hj : j ≠ id := fun q => by
          subst q
          rw [hs] at e
          obtain rfl : s = t := Option.some.inj e
          exact h1 i (List.getElem?_eq_some_iff.1 h3).1 h4
        exact ⟨j, t, i, by show fput st.sp id s' j = some t; rw [fput_ne hj]; exact e, h3, h4⟩
    · rintro ⟨j, t, i, e, h1, h2⟩
      rcases hsp j t e with ⟨rfl, rfl⟩ | ⟨hj, e⟩
      · exact .inl ⟨i, h1, h2⟩
      · refine .inr ⟨fun m hm q => ?_, (h.ob a).2 ⟨j, t, i, e, h1, h2⟩⟩
        exact hapart j t i hj e (List.getElem?_eq_some_iff.1 h1).1 m hm (h2 ▸ q)
  · rcases hsp j t e with ⟨rfl, rfl⟩ | ⟨hj, e⟩
    · rw [hc]; exact hol i l h1 h2
    · refine h.ol j t i l e h1 (hoo _ l (fun m hm => hapart j t i hj e (List.getElem?_eq_some_iff.1 h1).1 m hm) h2)
  · obtain ⟨m, rfl⟩ : ∃ m : Nat, id = m := ⟨id.toNat, by omega⟩
    show live' = tot (fput st.sp m s') N
    rw [hlive, h.live, tot_one (sp := st.sp) (sp' := fput st.sp (m : Int) s') (k := m) (fun j hj => fput_ne (by omega)) (by omega), hs, fput_eq]
def Ar.put (st : Ar) (id : Int) (s : Sp) (i : Nat) (n : Nat) (black : Bool) : Ar :=
  { st with sp := fput st.sp id (s.take i black), ob := fput st.ob (s.addr i) (List.replicate n 0), live := st.live + szS s.cls }
theorem addr_eq {s s' : Sp} (hc : s'.cls = s.cls) (hf : s'.first = s.first) (i : Nat) : s'.addr i = s.addr i := by unfold Sp.addr; rw [hc, hf]
theorem put_ok {st : Ar} {N : Nat} (h : AOk st N) {id : Int} {s : Sp} {i n : Nat} {black : Bool} (hs : st.sp id = some s) (hi : ff s.used = some i) (hn : 1 ≤ n ∧ (n : Int) ≤ szS s.cls) : AOk (st.put id s i n black) N := by
  have ho := (h.sp id s hs).2.2.1
  obtain ⟨f1, _⟩ := ff_some hi
  have hil := (List.getElem?_eq_some_iff.1 f1).1
  refine turn_ok h hs rfl rfl (ho.take black hil) (fun a => ?_) (fun j l h1 h2 => ?_) (fun a l h1 h2 => ?_) ?_
  · by_cases ha : a = s.addr i
    · subst ha
      rw [fput_eq]
      refine ⟨fun _ => .inl ⟨i, ?_, rfl⟩, fun _ => rfl⟩
      show (s.used.set i true)[i]? = some true
      rw [List.getElem?_set_self hil]
    · rw [fput_ne ha, h.ob]
      constructor
      · rintro ⟨j, t, m, e, h1, h2⟩
        by_cases hj : j = id
        · subst hj
          rw [hs] at e
          obtain rfl : s = t := Option.some.inj e
          refine .inl ⟨m, ?_, h2⟩
          show (s.used.set i true)[m]? = some true
          rw [List.getElem?_set_ne (fun q => ha (by rw [h2, q]))]
          exact h1
        · refine .inr ⟨fun m' hm' q => hj (addr_inj h e hs (List.getElem?_eq_some_iff.1 h1).1 hm' (h2 ▸ q)).1, ⟨j, t, m, e, h1, h2⟩⟩
      · rintro (⟨m, h1, h2⟩ | ⟨_, h2⟩)
        · have h1 : (s.used.set i true)[m]? = some true := h1
          have h2 : a = s.addr m := h2
          rw [List.getElem?_set_ne (fun q => ha (by rw [h2, q]))] at h1
          exact ⟨id, s, m, hs, h1, h2⟩
        · exact h2
  · have h1 : (s.used.set i true)[j]? = some true := h1
    have h2 : fput st.ob (s.addr i) (List.replicate n 0) (s.addr j) = some l := h2
    by_cases hj : j = i
    · subst hj
      rw [fput_eq] at h2
      obtain rfl := Option.some.inj h2
      rw [List.length_replicate]
      exact hn
    · have hne : s.addr j ≠ s.addr i := fun q => hj (addr_inj1 ho q)
      rw [fput_ne hne] at h2
      rw [List.getElem?_set_ne (fun q => hj q.symm)] at h1
      exact h.ol id s j l hs h1 h2
  · rw [fput_ne (h1 i hil)] at h2
    exact h2
  · have : (s.take i black).used.count true = s.used.count true + 1 := count_set f1
    show st.live + szS s.cls = st.live - (s.used.count true : Nat) * szS s.cls + ((s.take i black).used.count true : Nat) * szS s.cls
    rw [this]
    have e : (((s.used.count true + 1 : Nat) : Int)) * szS s.cls = (s.used.count true : Nat) * szS s.cls + szS s.cls := by
      rw [Int.natCast_add, Int.add_mul]; simp
    rw [e]
    omega
theorem store_ok {st : Ar} {N : Nat} (h : AOk st N) {a : Int} {l l' : List Int} (ha : st.ob a = some l) (hl : l'.length = l.length) : AOk { st with ob := fput st.ob a l' } N := by
  refine ⟨h.n, h.wf, h.sp, h.pg, fun x => ?_, fun id s i m e h1 h2 => ?_, h.live⟩
  · rw [← h.ob]
    show (fput st.ob a l' x).isSome = true ↔ _
    by_cases hx : x = a
    · subst hx; rw [fput_eq, ha]; simp
    · rw [fput_ne hx]
  · have h2 : fput st.ob a l' (s.addr i) = some m := h2
    by_cases hx : s.addr i = a
    · rw [hx, fput_eq] at h2
      obtain rfl := Option.some.inj h2
      rw [hl]
      exact h.ol id s i l e h1 (by rw [hx]; exact ha)
    · rw [fput_ne hx] at h2
      exact h.ol id s i m e h1 h2
theorem mark_ok {st : Ar} {N : Nat} (h : AOk st N) {id : Int} {s : Sp} {i : Nat} (hs : st.sp id = some s) (hi : s.used[i]? = some true) : AOk { st with sp := fput st.sp id (s.mark i) } N := by
  have ho := (h.sp id s hs).2.2.1
  refine turn_ok (ob' := st.ob) (live' := st.live) h hs rfl rfl (ho.mark hi) (fun a => ?_) (fun j l h1 h2 => h.ol id s j l hs h1 h2) (fun a l _ h2 => h2) (by unfold wt; simp only [Sp.mark]; omega)
  rw [h.ob]
  constructor
  · rintro ⟨j, t, m, e, h1, h2⟩
    by_cases hj : j = id
    · subst hj
      rw [hs] at e
      obtain rfl : s = t := Option.some.inj e
      exact .inl ⟨m, h1, h2⟩
    · exact .inr ⟨fun m' hm' q => hj (addr_inj h e hs (List.getElem?_eq_some_iff.1 h1).1 hm' (h2 ▸ q)).1, ⟨j, t, m, e, h1, h2⟩⟩
  · rintro (⟨m, h1, h2⟩ | ⟨_, h2⟩)
    · exact ⟨id, s, m, hs, h1, h2⟩
    · exact h2
theorem filter_len {α : Type} (p : α → Bool) : ∀ l : List α, (l.filter p).length + (l.filter fun a => !p a).length = l.length
  | [] => rfl
  | a :: l => by
    have := filter_len p l
    simp only [List.filter_cons, List.length_cons]
    cases p a <;> simp <;> omega
theorem gone_mem {s : Sp} {i : Nat} : i ∈ s.gone ↔ s.used[i]? = some true ∧ s.marks[i]?.getD false = false := by
  unfold Sp.gone
  rw [List.mem_filter, ids_mem]
  simp
theorem gone_len {s : Sp} (h : SpOk s) : (s.gone.length : Int) + (s.marks.count true : Nat) = (s.used.count true : Nat) := by
  have e1 : (ids s.marks).length = ((ids s.used).filter fun i => (s.marks[i]?.getD false)).length := by
    congr 1
    refine (List.Perm.eq_of_pairwise (le := fun a b => a < b) (fun a b _ _ h1 h2 => by omega) (ids_rise _) ((ids_rise _).sublist List.filter_sublist) ?_)
    rw [List.perm_ext_iff_of_nodup ((ids_rise _).imp fun h => by omega) (((ids_rise _).imp fun h => by omega).sublist List.filter_sublist)]
    intro x
    rw [List.mem_filter, ids_mem, ids_mem]
    constructor
    · intro hx; exact ⟨h.sub x hx, by rw [hx]; rfl⟩
    · rintro ⟨h1, h2⟩
      cases hq : s.marks[x]? with
      | none => rw [hq] at h2; simp at h2
      | some b => rw [hq] at h2; simp at h2; rw [h2]
  have e2 := filter_len (fun i => s.marks[i]?.getD false) (ids s.used)
  rw [← ids_len, ← ids_len, e1, ← e2]
  unfold Sp.gone
  omega
def Ar.swept (st : Ar) (id : Int) (s : Sp) : Ar :=
  { st with sp := fput st.sp id s.swept, ob := (fun a => if a ∈ s.gone.map s.addr then none else st.ob a), live := st.live - s.gone.length * szS s.cls }
theorem swept_ok {st : Ar} {N : Nat} (h : AOk st N) {id : Int} {s : Sp} (hs : st.sp id = some s) : AOk (st.swept id s) N := by
  have ho := (h.sp id s hs).2.2.1
  have hg : ∀ i : Nat, s.addr i ∈ s.gone.map s.addr ↔ i ∈ s.gone := fun i => by
    rw [List.mem_map]
    exact ⟨fun ⟨j, h1, h2⟩ => by rw [← addr_inj1 ho h2]; exact h1, fun h1 => ⟨i, h1, rfl⟩⟩
  refine turn_ok h hs rfl rfl ho.swept (fun a => ?_) (fun j l h1 h2 => ?_) (fun a l h1 h2 => ?_) ?_
  · constructor
    · intro hq
      by_cases ha : a ∈ s.gone.map s.addr
      · simp [ha] at hq
      · simp only [if_neg ha] at hq
        obtain ⟨j, t, m, e, h1, h2⟩ := (h.ob a).1 hq
        by_cases hj : j = id
        · subst hj
          rw [hs] at e
          obtain rfl : s = t := Option.some.inj e
          refine .inl ⟨m, ?_, h2⟩
          show s.marks[m]? = some true
          rw [h2, hg, gone_mem] at ha
          have hml := ho.ml
          have hmu := (List.getElem?_eq_some_iff.1 h1).1
          cases hx : s.marks[m]? with
          | none => have := List.getElem?_eq_none_iff.1 hx; omega
          | some b =>
            cases b with
            | true => rfl
            | false => exact (ha ⟨h1, by rw [hx]; rfl⟩).elim
        · exact .inr ⟨fun m' hm' q => hj (addr_inj h e hs (List.getElem?_eq_some_iff.1 h1).1 hm' (h2 ▸ q)).1, hq⟩
    · rintro (⟨m, h1, h2⟩ | ⟨h1, h2⟩)
      · have h1 : s.marks[m]? = some true := h1
        have h2 : a = s.addr m := h2
        subst h2
        have hu := ho.sub m h1
        have : s.addr m ∉ s.gone.map s.addr := by
          rw [hg, gone_mem, h1]; simp
        simp only [if_neg this]
        exact (h.ob _).2 ⟨id, s, m, hs, hu, rfl⟩
      · have : a ∉ s.gone.map s.addr := fun q => by
          obtain ⟨j, h3, h4⟩ := List.mem_map.1 q
          exact h1 j (List.getElem?_eq_some_iff.1 (gone_mem.1 h3).1).1 h4.symm
        simp only [if_neg this]
        exact h2
  · have h1 : s.marks[j]? = some true := h1
    have h2 : (if s.addr j ∈ s.gone.map s.addr then none else st.ob (s.addr j)) = some l := h2
    split at h2
    · cases h2
    · exact h.ol id s j l hs (ho.sub j h1) h2
  · split at h2
    · cases h2
    · exact h2
  · have := gone_len ho
    show st.live - s.gone.length * szS s.cls = st.live - (s.used.count true : Nat) * szS s.cls + (s.marks.count true : Nat) * szS s.cls
    rw [← this, Int.add_mul]
    omega
def owDel (ow : Int → Option Int) (first n : Int) : Int → Option Int := fun x => if first ≤ x ∧ x < first + n then none else ow x
structure DropR (st : Ar) (id : Int) (s : Sp) (st' : Ar) : Prop where
  n : st'.n = st.n
  fr : ∀ x, fr st'.runs x ↔ fr st.runs x ∨ (s.first ≤ x ∧ x < s.first + pgS s.cls)
  left : leftS st'.runs = leftS st.runs + pgS s.cls
  wf : WF st'.n st'.runs
  sp : st'.sp = fdel st.sp id
  ow : st'.ow = owDel st.ow s.first (pgS s.cls)
  ob : st'.ob = st.ob
  live : st'.live = st.live
theorem DropR.ok {st st' : Ar} {N : Nat} {id : Int} {s : Sp} (h : AOk st N) (hs : st.sp id = some s) (h0 : s.used.count true = 0) (r : DropR st id s st') : AOk st' N := by
  have ho := h.sp id s hs
  have hnone : ∀ i : Nat, s.used[i]? ≠ some true := fun i hi => by
    have := List.count_pos_iff.2 (List.mem_of_getElem? hi)
    omega
  have hsp : ∀ j t, st'.sp j = some t → j ≠ id ∧ st.sp j = some t := fun j t e => by
    rw [r.sp] at e
    by_cases hj : j = id
    · subst hj; rw [fdel_eq] at e; cases e
    · rw [fdel_ne hj] at e; exact ⟨hj, e⟩
  refine ⟨by rw [r.n]; exact h.n, r.wf, fun j t e => ?_, fun j t x e h1 h2 => ?_, fun a => ?_, fun j t i l e h1 h2 => ?_, ?_⟩
  · rw [r.n]; exact h.sp j t (hsp j t e).2
  · obtain ⟨hj, e⟩ := hsp j t e
    have := h.pg j t x e h1 h2
    have hx : ¬ (s.first ≤ x ∧ x < s.first + pgS s.cls) := fun q => by
      have := (h.pg id s x hs q.1 q.2).2
      rw [(h.pg j t x e h1 h2).2] at this
      exact hj (Option.some.inj this)
    rw [r.fr, r.ow]
    refine ⟨fun q => q.elim this.1 hx, ?_⟩
    unfold owDel
    rw [if_neg hx]
    exact this.2
  · rw [r.ob, h.ob]
    constructor
    · rintro ⟨j, t, i, e, h1, h2⟩
      refine ⟨j, t, i, ?_, h1, h2⟩
      rw [r.sp, fdel_ne (fun q => by subst q; rw [hs] at e; obtain rfl := Option.some.inj e; exact hnone i h1)]
      exact e
    · rintro ⟨j, t, i, e, h1, h2⟩
      exact ⟨j, t, i, (hsp j t e).2, h1, h2⟩
  · rw [r.ob] at h2
    exact h.ol j t i l (hsp j t e).2 h1 h2
  · obtain ⟨m, rfl⟩ : ∃ m : Nat, id = m := ⟨id.toNat, by omega⟩
    rw [r.live, h.live, r.sp, tot_one (sp := st.sp) (sp' := fdel st.sp (m : Int)) (k := m) (fun j hj => fdel_ne (by omega)) (by omega), hs, fdel_eq]
    simp [wt, h0]
end Go.Proofs

/-
  Contracts: the document's own spans: Sweep.
-/
set_option maxRecDepth 100000
set_option maxHeartbeats 1000000
namespace Go.Proofs
open Go.Sl
def mix {α : Type} (a b : List α) (i : Nat) : List α := a.take i ++ b.drop i
theorem mix_get {α : Type} {a b : List α} {i j : Nat} (hi : i ≤ a.length) : (mix a b i)[j]? = if j < i then a[j]? else b[j]? := by
  unfold mix
  by_cases hj : j < i
  · rw [if_pos hj, List.getElem?_append_left (by rw [List.length_take]; omega), List.getElem?_take, if_pos hj]
  · rw [if_neg hj, List.getElem?_append_right (by rw [List.length_take]; omega), List.getElem?_drop, List.length_take]
    congr 1
    omega
theorem mix_len {α : Type} {a b : List α} {i : Nat} (h : a.length = b.length) (hi : i ≤ a.length) : (mix a b i).length = a.length := by
  unfold mix
  rw [List.length_append, List.length_take, List.length_drop]
  omega
theorem mix_set {α : Type} {a b : List α} {i : Nat} {x : α} (h : a.length = b.length) (hi : a[i]? = some x) : (mix a b i).set i x = mix a b (i + 1) := by
  have hl := (List.getElem?_eq_some_iff.1 hi).1
  apply List.ext_getElem?
  intro j
  rw [List.getElem?_set, mix_get (by omega), mix_get (by omega), mix_len h (by omega)]
  by_cases hj : i = j
  · subst hj; rw [if_pos rfl, if_pos hl, if_pos (by omega), hi]
  · rw [if_neg hj]
    by_cases hj' : j < i
    · rw [if_pos hj', if_pos (by omega)]
    · rw [if_neg hj', if_neg (by omega)]
theorem mix_same {α : Type} {a b : List α} {i : Nat} (h : a.length = b.length) (hl : i < a.length) (hi : a[i]? = b[i]?) : mix a b (i + 1) = mix a b i := by
  apply List.ext_getElem?
  intro j
  rw [mix_get (by omega), mix_get (by omega)]
  by_cases hj : i = j
  · subst hj; rw [if_pos (by omega), if_neg (by omega), hi]
  · by_cases hj' : j < i
    · rw [if_pos hj', if_pos (by omega)]
    · rw [if_neg hj', if_neg (by omega)]
theorem mix_zero {α : Type} (a b : List α) : mix a b 0 = b := by simp [mix]
theorem mix_full {α : Type} {a b : List α} (h : a.length = b.length) : mix a b a.length = a := by
  unfold mix
  rw [List.take_length, List.drop_eq_nil_of_le (by omega), List.append_nil]
def goneB (s : Sp) (i : Nat) : List Nat := (List.range i).filter fun j => s.used[j]?.getD false && !(s.marks[j]?.getD false)
theorem goneB_succ (s : Sp) (i : Nat) : goneB s (i + 1) = goneB s i ++ if s.used[i]?.getD false && !(s.marks[i]?.getD false) then [i] else [] := by
  unfold goneB
  rw [List.range_succ, List.filter_append]
  congr 1
  simp only [List.filter_cons, List.filter_nil]
theorem goneB_len (s : Sp) (i : Nat) : (goneB s i).length ≤ i := by
  unfold goneB
  have := List.length_filter_le (fun j => s.used[j]?.getD false && !(s.marks[j]?.getD false)) (List.range i)
  rw [List.length_range] at this
  exact this
theorem goneB_all (s : Sp) : goneB s s.used.length = s.gone := by
  refine (List.Perm.eq_of_pairwise (le := fun a b => a < b) (fun a b _ _ h1 h2 => by omega) (List.pairwise_lt_range.sublist List.filter_sublist) ((ids_rise _).sublist List.filter_sublist) ?_)
  unfold goneB Sp.gone
  rw [List.perm_ext_iff_of_nodup ((List.pairwise_lt_range.imp fun h => by omega).sublist List.filter_sublist) (((ids_rise _).imp fun h => by omega).sublist List.filter_sublist)]
  intro x
  have hg := gone_mem (s := s) (i := x)
  unfold Sp.gone at hg
  rw [hg, List.mem_filter, List.mem_range]
  constructor
  · rintro ⟨h1, h2⟩
    simp only [Bool.and_eq_true, Bool.not_eq_true'] at h2
    refine ⟨?_, h2.2⟩
    cases hq : s.used[x]? with
    | none => rw [hq] at h2; simp at h2
    | some b => rw [hq] at h2; simp at h2; rw [h2.1]
  · rintro ⟨h1, h2⟩
    exact ⟨(List.getElem?_eq_some_iff.1 h1).1, by rw [h1, h2]; rfl⟩
theorem use_rssweep {p : Nat} {s : Sp} (hs : SpOk s) {F : Asrt} {K : Value → Hp → Prop} {h : Hp} (hh : (RSP p s * (F * tt)) h)
    (hK : ∀ v h', (SG iE 3 v (s.gone.map fun (i : Nat) => (i : Int)) * (RSP p s.swept * (F * tt))) h' → K v h') : CallH Tryz.prog 98 #[pB p] K h := by
  refine C98 ?_
  unfold D98
  obtain ⟨vu, vm, fr, hfr, hfu, hp⟩ := RSP_elim hh
  have hl := hs.len
  have hml := hs.ml
  have hfl : (List.replicate s.used.length false).length = s.marks.length := by rw [List.length_replicate, hml]
  refine ⟨fun m zs h' => ∃ (i : Nat) (v3 : Value), zs = [.int .i64 i, v3] ∧ m = s.used.length - i ∧ i ≤ s.used.length ∧
      (SG iE 3 v3 ((goneB s i).map fun (i : Nat) => (i : Int)) * (pt p (.cells #[.int .i64 s.first, .int .i64 s.cls, vu, vm, .int .i64 fr] 79 (0, 0)) * (SG bE 4 vu (mix s.marks s.used i) * (SG bE 4 vm (mix (List.replicate s.used.length false) s.marks i) * (F * tt))))) h',
    ⟨_, 0, .slice none 0 0, rfl, rfl, by omega, SG_nil iE (by rw [mix_zero, mix_zero]; exact hp)⟩, ?_⟩
  rintro m v4 v3 h1 ⟨i, v3', hzs, rfl, hi, hh1⟩ _
  obtain ⟨rfl, rfl⟩ : v4 = .int .i64 i ∧ v3 = v3' := by simpa using hzs
  have hp1 : (pt p (.cells #[.int .i64 s.first, .int .i64 s.cls, vu, vm, .int .i64 fr] 79 (0, 0)) * (SG bE 4 vu (mix s.marks s.used i) * (SG bE 4 vm (mix (List.replicate s.used.length false) s.marks i) * (SG iE 3 v3 ((goneB s i).map fun (i : Nat) => (i : Int)) * (F * tt))))) h1 := asr (by ac_rfl) hh1
  have l := rsp_ld hp1
  have hU : (SG bE 4 vu (mix s.marks s.used i) * (pt p (.cells #[.int .i64 s.first, .int .i64 s.cls, vu, vm, .int .i64 fr] 79 (0, 0)) * (SG bE 4 vm (mix (List.replicate s.used.length false) s.marks i) * (SG iE 3 v3 ((goneB s i).map fun (i : Nat) => (i : Int)) * (F * tt))))) h1 := asr (by ac_rfl) hh1
  have hM : (SG bE 4 vm (mix (List.replicate s.used.length false) s.marks i) * (pt p (.cells #[.int .i64 s.first, .int .i64 s.cls, vu, vm, .int .i64 fr] 79 (0, 0)) * (SG bE 4 vu (mix s.marks s.used i) * (SG iE 3 v3 ((goneB s i).map fun (i : Nat) => (i : Int)) * (F * tt))))) h1 := asr (by ac_rfl) hh1
  have hul := SG_len bE hU
  rw [mix_len hml (by omega), hml] at hul
  have hgl := goneB_len s i
  by_cases hil : i < s.used.length
  · obtain ⟨bu, hbu⟩ : ∃ b, s.used[i]? = some b := ⟨_, List.getElem?_eq_getElem hil⟩
    obtain ⟨bm, hbm⟩ : ∃ b, s.marks[i]? = some b := ⟨_, List.getElem?_eq_getElem (by omega)⟩
    have hu : (mix s.marks s.used i)[i]? = some bu := by rw [mix_get (by omega), if_neg (by omega), hbu]
    have hm : (mix (List.replicate s.used.length false) s.marks i)[i]? = some bm := by rw [mix_get (by rw [List.length_replicate]; omega), if_neg (by omega), hbm]
    obtain ⟨q1, u1, u2, u3⟩ := el1 hU hu .i64
    obtain ⟨q2, m1, m2, _⟩ := el1 hM hm .i64
    have hgs := goneB_succ s i
    rw [hbu, hbm] at hgs
    repeat (with_reducible first | refine vP_so ?_ | refine vB_t ?_ | refine vB_f ?_ | refine vE_tt ?_ | refine vE_ff ?_ | refine vE_tf ?_ | refine vE_ft ?_ | refine vE_u ?_ | refine vP_to (by simp (disch := omega) only [gdW_true, gdW_false, gB_true, gB_false, gB_undef, pickV_true, pickV_false, Bool.not_true, Bool.not_false, Option.map_some, bin_add, bin_sub, bin_mul, bin_quo, bin_rem, lss_t, lss_f, leq_t, leq_f, gtr_t, gtr_f, geq_t, geq_f, eqi_t, eqi_f, nei_t, nei_f, rem_uw, conv_ui, conv_iu, conv_ii, not_bool, nil_ptr, fa_mk, ptrV, len_mk, cap_mk, eq_ptr_nil, ne_ptr_nil, eq_nil_nil, ne_nil_nil, eq_slice_nil, eq_nil_slice, ia_1, l.2.2.1, hul]; exact so_so) ?_)
    intro J2 hJ2
    have hJ : ∀ (v3' : Value) (L : List Bool) (out : List Nat) h', L = mix s.marks s.used (i + 1) → out = goneB s (i + 1) → (SG iE 3 v3' (out.map fun (i : Nat) => (i : Int)) * (pt p (.cells #[.int .i64 s.first, .int .i64 s.cls, vu, vm, .int .i64 fr] 79 (0, 0)) * (SG bE 4 vu L * (SG bE 4 vm (mix (List.replicate s.used.length false) s.marks i) * (F * tt))))) h' → J2 [v3'] h' := by
      intro v3' L out h' e1 e2 hh'
      subst e1 e2
      refine hJ2 _ _ fun _ => ?_
      have hM' : (SG bE 4 vm (mix (List.replicate s.used.length false) s.marks i) * (pt p (.cells #[.int .i64 s.first, .int .i64 s.cls, vu, vm, .int .i64 fr] 79 (0, 0)) * (SG bE 4 vu (mix s.marks s.used (i + 1)) * (SG iE 3 v3' ((goneB s (i + 1)).map fun (i : Nat) => (i : Int)) * (F * tt))))) h' := asr (by ac_rfl) hh'
      obtain ⟨q2, m1, _, m3⟩ := el1 hM' hm .i64
      have l' := rsp_ld (show (pt p (.cells #[.int .i64 s.first, .int .i64 s.cls, vu, vm, .int .i64 fr] 79 (0, 0)) * (SG bE 4 vu (mix s.marks s.used (i + 1)) * (SG bE 4 vm (mix (List.replicate s.used.length false) s.marks i) * (SG iE 3 v3' ((goneB s (i + 1)).map fun (i : Nat) => (i : Int)) * (F * tt))))) h' from asr (by ac_rfl) hh')
      repeat (with_reducible first | refine vP_so ?_ | refine vB_t ?_ | refine vB_f ?_ | refine vE_tt ?_ | refine vE_ff ?_ | refine vE_tf ?_ | refine vE_ft ?_ | refine vE_u ?_ | refine vP_to (by simp (disch := omega) only [gdW_true, gdW_false, gB_true, gB_false, gB_undef, pickV_true, pickV_false, Bool.not_true, Bool.not_false, Option.map_some, bin_add, bin_sub, bin_mul, bin_quo, bin_rem, lss_t, lss_f, leq_t, leq_f, gtr_t, gtr_f, geq_t, geq_f, eqi_t, eqi_f, nei_t, nei_f, rem_uw, conv_ui, conv_iu, conv_ii, not_bool, nil_ptr, fa_mk, ptrV, len_mk, cap_mk, eq_ptr_nil, ne_ptr_nil, eq_nil_nil, ne_nil_nil, eq_slice_nil, eq_nil_slice, ia_1, l'.2.2.2.1, m1]; exact so_so) ?_)
      refine m3 false _ fun h2 hh2 => ?_
      have hh2 : (SG bE 4 vm ((mix (List.replicate s.used.length false) s.marks i).set i false) * (pt p (.cells #[.int .i64 s.first, .int .i64 s.cls, vu, vm, .int .i64 fr] 79 (0, 0)) * (SG bE 4 vu (mix s.marks s.used (i + 1)) * (SG iE 3 v3' ((goneB s (i + 1)).map fun (i : Nat) => (i : Int)) * (F * tt))))) h2 := hh2
      rw [mix_set hfl (by rw [List.getElem?_replicate, if_pos hil])] at hh2
      repeat (with_reducible first | refine vP_so ?_ | refine vB_t ?_ | refine vB_f ?_ | refine vE_tt ?_ | refine vE_ff ?_ | refine vE_tf ?_ | refine vE_ft ?_ | refine vE_u ?_ | refine vP_to (by simp (disch := omega) only [gdW_true, gdW_false, gB_true, gB_false, gB_undef, pickV_true, pickV_false, Bool.not_true, Bool.not_false, Option.map_some, bin_add, bin_sub, bin_mul, bin_quo, bin_rem, lss_t, lss_f, leq_t, leq_f, gtr_t, gtr_f, geq_t, geq_f, eqi_t, eqi_f, nei_t, nei_f, rem_uw, conv_ui, conv_iu, conv_ii, not_bool, nil_ptr, fa_mk, ptrV, len_mk, cap_mk, eq_ptr_nil, ne_ptr_nil, eq_nil_nil, ne_nil_nil, eq_slice_nil, eq_nil_slice, ia_1]; exact so_so) ?_)
      exact ⟨s.used.length - (i + 1), by omega, i + 1, v3', rfl, rfl, by omega, asr (by ac_rfl) hh2⟩
    clear hJ2
    cases bu with
    | false =>
      have hbm' : bm = false := by
        cases bm with
        | false => rfl
        | true => have := hs.sub i hbm; rw [hbu] at this; cases this
      subst hbm'
      repeat (with_reducible first | refine vP_so ?_ | refine vB_t ?_ | refine vB_f ?_ | refine vE_tt ?_ | refine vE_ff ?_ | refine vE_tf ?_ | refine vE_ft ?_ | refine vE_u ?_ | refine vP_to (by simp (disch := omega) only [gdW_true, gdW_false, gB_true, gB_false, gB_undef, pickV_true, pickV_false, Bool.not_true, Bool.not_false, Option.map_some, bin_add, bin_sub, bin_mul, bin_quo, bin_rem, lss_t, lss_f, leq_t, leq_f, gtr_t, gtr_f, geq_t, geq_f, eqi_t, eqi_f, nei_t, nei_f, rem_uw, conv_ui, conv_iu, conv_ii, not_bool, nil_ptr, fa_mk, ptrV, len_mk, cap_mk, eq_ptr_nil, ne_ptr_nil, eq_nil_nil, ne_nil_nil, eq_slice_nil, eq_nil_slice, ia_1, l.2.2.1, u1, u2]; exact so_so) ?_)
      exact hJ v3 _ _ h1 (mix_same hml (by omega) (by rw [hbu, hbm])).symm (by rw [hgs]; simp) hh1
    | true =>
      cases bm with
      | true =>
        repeat (with_reducible first | refine vP_so ?_ | refine vB_t ?_ | refine vB_f ?_ | refine vE_tt ?_ | refine vE_ff ?_ | refine vE_tf ?_ | refine vE_ft ?_ | refine vE_u ?_ | refine vP_to (by simp (disch := omega) only [gdW_true, gdW_false, gB_true, gB_false, gB_undef, pickV_true, pickV_false, Bool.not_true, Bool.not_false, Option.map_some, bin_add, bin_sub, bin_mul, bin_quo, bin_rem, lss_t, lss_f, leq_t, leq_f, gtr_t, gtr_f, geq_t, geq_f, eqi_t, eqi_f, nei_t, nei_f, rem_uw, conv_ui, conv_iu, conv_ii, not_bool, nil_ptr, fa_mk, ptrV, len_mk, cap_mk, eq_ptr_nil, ne_ptr_nil, eq_nil_nil, ne_nil_nil, eq_slice_nil, eq_nil_slice, ia_1, l.2.2.1, l.2.2.2.1, u1, u2, m1, m2]; exact so_so) ?_)
        exact hJ v3 _ _ h1 (mix_same hml (by omega) (by rw [hbu, hbm])).symm (by rw [hgs]; simp) hh1
      | false =>
        repeat (with_reducible first | refine vP_so ?_ | refine vB_t ?_ | refine vB_f ?_ | refine vE_tt ?_ | refine vE_ff ?_ | refine vE_tf ?_ | refine vE_ft ?_ | refine vE_u ?_ | refine vP_to (by simp (disch := omega) only [gdW_true, gdW_false, gB_true, gB_false, gB_undef, pickV_true, pickV_false, Bool.not_true, Bool.not_false, Option.map_some, bin_add, bin_sub, bin_mul, bin_quo, bin_rem, lss_t, lss_f, leq_t, leq_f, gtr_t, gtr_f, geq_t, geq_f, eqi_t, eqi_f, nei_t, nei_f, rem_uw, conv_ui, conv_iu, conv_ii, not_bool, nil_ptr, fa_mk, ptrV, len_mk, cap_mk, eq_ptr_nil, ne_ptr_nil, eq_nil_nil, ne_nil_nil, eq_slice_nil, eq_nil_slice, ia_1, l.2.2.1, l.2.2.2.1, u1, u2, m1, m2]; exact so_so) ?_)
        refine u3 false _ fun h2 hh2 => ?_
        have hh2 : (SG bE 4 vu ((mix s.marks s.used i).set i false) * (pt p (.cells #[.int .i64 s.first, .int .i64 s.cls, vu, vm, .int .i64 fr] 79 (0, 0)) * (SG bE 4 vm (mix (List.replicate s.used.length false) s.marks i) * (SG iE 3 v3 ((goneB s i).map fun (i : Nat) => (i : Int)) * (F * tt))))) h2 := hh2
        rw [mix_set hml hbm] at hh2
        have eb : bldV #[.int .i64 0] [(0, 1, .int .i64 (i : Int))] = some #[.int .i64 (i : Int)] := rfl
        repeat (with_reducible first | refine vP_so ?_ | refine vB_t ?_ | refine vB_f ?_ | refine vE_tt ?_ | refine vE_ff ?_ | refine vE_tf ?_ | refine vE_ft ?_ | refine vE_u ?_ | refine vP_to (by simp (disch := omega) only [gdW_true, gdW_false, gB_true, gB_false, gB_undef, pickV_true, pickV_false, Bool.not_true, Bool.not_false, Option.map_some, bin_add, bin_sub, bin_mul, bin_quo, bin_rem, lss_t, lss_f, leq_t, leq_f, gtr_t, gtr_f, geq_t, geq_f, eqi_t, eqi_f, nei_t, nei_f, rem_uw, conv_ui, conv_iu, conv_ii, not_bool, nil_ptr, fa_mk, ptrV, len_mk, cap_mk, eq_ptr_nil, ne_ptr_nil, eq_nil_nil, ne_nil_nil, eq_slice_nil, eq_nil_slice, ia_1, eb]; exact so_so) ?_)
        refine vA_new (o := .cells #[.int .i64 (i : Int)] 3 (0, 0)) (f := fun r => .slice (some ⟨r, 0, none⟩) 1 1) hh2 fun r3 h3 hh3 => ?_
        refine ap_new iE (l := (goneB s i).map fun (i : Nat) => (i : Int)) (m := [(i : Int)]) (F := pt p (.cells #[.int .i64 s.first, .int .i64 s.cls, vu, vm, .int .i64 fr] 79 (0, 0)) * (SG bE 4 vu (mix s.marks s.used (i + 1)) * (SG bE 4 vm (mix (List.replicate s.used.length false) s.marks i) * F))) elInt rfl rfl niInts rfl (by omega) (asr (by ac_rfl) hh3) rfl rfl (by simp only [List.length_singleton, List.length_map]; omega) fun v40 h4 hh4 => ?_
        refine hJ v40 _ (goneB s i ++ [i]) h4 rfl (by rw [hgs]; simp) ?_
        rw [List.map_append]
        exact asr (by ac_rfl) hh4
  obtain rfl : i = s.used.length := by omega
  repeat (with_reducible first | refine vP_so ?_ | refine vB_t ?_ | refine vB_f ?_ | refine vE_tt ?_ | refine vE_ff ?_ | refine vE_tf ?_ | refine vE_ft ?_ | refine vE_u ?_ | refine vP_to (by simp (disch := omega) only [gdW_true, gdW_false, gB_true, gB_false, gB_undef, pickV_true, pickV_false, Bool.not_true, Bool.not_false, Option.map_some, bin_add, bin_sub, bin_mul, bin_quo, bin_rem, lss_t, lss_f, leq_t, leq_f, gtr_t, gtr_f, geq_t, geq_f, eqi_t, eqi_f, nei_t, nei_f, rem_uw, conv_ui, conv_iu, conv_ii, not_bool, nil_ptr, fa_mk, ptrV, len_mk, cap_mk, eq_ptr_nil, ne_ptr_nil, eq_nil_nil, ne_nil_nil, eq_slice_nil, eq_nil_slice, ia_1, l.2.2.1, hul]; exact so_so) ?_)
  refine st1_mk hp1 rfl (by simp) fun h2 hh2 => ?_
  rw [goneB_all, ← hml, mix_full hml, hml] at hh2
  have hfull : mix (List.replicate s.used.length false) s.marks s.used.length = List.replicate s.used.length false := by
    have := mix_full (a := List.replicate s.used.length false) (b := s.marks) hfl
    rwa [List.length_replicate] at this
  rw [hfull] at hh2
  have hh3 : (RSP p s.swept * (SG iE 3 v3 (s.gone.map fun (i : Nat) => (i : Int)) * (F * tt))) h2 := RSP_intro (s := s.swept) (vu := vu) (vm := vm) (fr := 0) (by omega) (fun j hj => by omega) hh2
  exact hK v3 h2 (asr (by ac_rfl) hh3)
end Go.Proofs

/-
  Contract of Span.Sweep.
-/
set_option maxRecDepth 100000
namespace Go.Proofs
open Go.Sl
def goneI (s : Sp) : List Int := s.gone.map fun (i : Nat) => (i : Int)
theorem filter_step {l : List Nat} {p : Nat → Bool} {i x : Nat} (h : l[i]? = some x) : (l.take (i + 1)).filter p = (l.take i).filter p ++ (if p x then [x] else []) := by
  rw [List.take_add_one, h, List.filter_append]
  congr 1
  simp only [Option.toList]
  cases hp : p x <;> simp [hp]
theorem cleared {l m : List Bool} (hl : m.length = l.length) (h : ∀ x : Nat, m[x]? = some true ↔ l[x]? = some true ∧ x ∉ (ids l).take (ids l).length) : m = List.replicate l.length false := by
  apply List.ext_getElem?
  intro x
  rw [List.getElem?_replicate]
  by_cases hx : x < l.length
  · rw [if_pos hx, List.getElem?_eq_getElem (by omega)]
    congr 1
    cases hq : m[x] with
    | false => rfl
    | true =>
      have h1 := (h x).1 (by rw [List.getElem?_eq_getElem (by omega), hq])
      rw [List.take_length] at h1
      exact (h1.2 (ids_mem.2 h1.1)).elim
  · rw [if_neg hx, List.getElem?_eq_none (by omega)]
theorem use_sstays {r p : Nat} {s : Sp} (hs : SpOk s) {i : Nat} {F : Asrt} {K : Value → Hp → Prop} {h : Hp} (hh : (SPN p s * (pt r (.cells #[pB p] 64 (0, 0)) * F)) h) (hK : K (.bool (hasB s.marks i)) h) :
    CallH Tryz.prog 84 #[.int .i64 i, .pointer (some ⟨r, 0, none⟩)] K h := by
  refine C84 ?_
  unfold D84
  obtain ⟨bu, bm, fr, _, hp⟩ := SPN_elim hh
  have l := spn_ld hp
  have hl := hs.len
  have hm := hs.ml
  have lr : ld1 (.pointer (some ⟨r, 0, none⟩)) h = some (pB p) := ld1_mk (pt_get (show (pt r (.cells #[pB p] 64 (0, 0)) * (SPN p s * F)) h from asr (by ac_rfl) hh)) rfl
  repeat (with_reducible first | refine vP_so ?_ | refine vB_t ?_ | refine vB_f ?_ | refine vE_tt ?_ | refine vE_ff ?_ | refine vE_tf ?_ | refine vE_ft ?_ | refine vE_u ?_ | refine vP_to (by simp (disch := omega) only [gdW_true, gdW_false, gB_true, gB_false, gB_undef, pickV_true, pickV_false, Bool.not_true, Bool.not_false, Option.map_some, bin_add, bin_sub, bin_mul, bin_quo, bin_rem, lss_t, lss_f, leq_t, leq_f, gtr_t, gtr_f, geq_t, geq_f, eqi_t, eqi_f, nei_t, nei_f, rem_uw, conv_ui, conv_iu, conv_ii, not_bool, nil_ptr, fa_mk, ptrV, len_mk, cap_mk, eq_ptr_nil, ne_ptr_nil, eq_nil_nil, ne_nil_nil, eq_slice_nil, eq_nil_slice, ia_1, lr, l.2.2.2.1]; exact so_so) ?_)
  exact use_bhas (b := bm) (l := s.marks) (F := pt p (.cells #[.int .i64 s.first, .int .i64 s.cls, pB bu, pB bm, .int .i64 fr] 103 (0, 0)) * (BS bu s.used * (pt r (.cells #[pB p] 64 (0, 0)) * F))) (by omega) (asr (by ac_rfl) hp) hK
set_option maxHeartbeats 1000000 in
theorem use_ssweep {g : Hp} (hg : TabG 0 g) {p : Nat} {s : Sp} (hs : SpOk s) {F : Asrt} {K : Value → Hp → Prop} {h : Hp} (hh : (SPN p s * (own g * (F * tt))) h)
    (hK : ∀ v h', (SG iE 3 v (goneI s) * (SPN p s.swept * (own g * (F * tt)))) h' → K v h') : CallH Tryz.prog 44 #[pB p] K h := by
  refine C44 ?_
  unfold D44
  have hl := hs.len
  have hm := hs.ml
  refine vA_new (o := .cells #[pB p] 64 (0, 0)) hh fun r h1 hh1 => ?_
  have lr : ∀ {h} {X : Asrt}, (pt r (.cells #[pB p] 64 (0, 0)) * X) h → ld1 (.pointer (some ⟨r, 0, none⟩)) h = some (pB p) := fun q => ld1_mk (pt_get q) rfl
  have hh1 : (SPN p s * (pt r (.cells #[pB p] 64 (0, 0)) * (own g * (F * tt)))) h1 := asr (by ac_rfl) hh1
  obtain ⟨bu, bm, fr, hfr, hp⟩ := SPN_elim hh1
  have l := spn_ld hp
  have lr1 := lr (show (pt r (.cells #[pB p] 64 (0, 0)) * (SPN p s * (own g * (F * tt)))) h1 from asr (by ac_rfl) hh1)
  repeat (with_reducible first | refine vP_so ?_ | refine vB_t ?_ | refine vB_f ?_ | refine vE_tt ?_ | refine vE_ff ?_ | refine vE_tf ?_ | refine vE_ft ?_ | refine vE_u ?_ | refine vP_to (by simp (disch := omega) only [gdW_true, gdW_false, gB_true, gB_false, gB_undef, pickV_true, pickV_false, Bool.not_true, Bool.not_false, Option.map_some, bin_add, bin_sub, bin_mul, bin_quo, bin_rem, lss_t, lss_f, leq_t, leq_f, gtr_t, gtr_f, geq_t, geq_f, eqi_t, eqi_f, nei_t, nei_f, rem_uw, conv_ui, conv_iu, conv_ii, not_bool, nil_ptr, fa_mk, ptrV, len_mk, cap_mk, eq_ptr_nil, ne_ptr_nil, eq_nil_nil, ne_nil_nil, eq_slice_nil, eq_nil_slice, ia_1, lr1, nilP, l.2.2.1]; exact so_so) ?_)
  refine use_ball (b := bu) (l := s.used) (F := pt p (.cells #[.int .i64 s.first, .int .i64 s.cls, pB bu, pB bm, .int .i64 fr] 103 (0, 0)) * (BS bm s.marks * (pt r (.cells #[pB p] 64 (0, 0)) * F))) hg hl.2 (asr (by ac_rfl) hp) fun v16 h2 hh2 => ?_
  have hlen := SG_len iE hh2
  rw [idsI_len] at hlen
  have hcl := List.count_le_length (l := s.used) (a := true)
  repeat (with_reducible first | refine vP_so ?_ | refine vB_t ?_ | refine vB_f ?_ | refine vE_tt ?_ | refine vE_ff ?_ | refine vE_tf ?_ | refine vE_ft ?_ | refine vE_u ?_ | refine vP_to (by simp (disch := omega) only [gdW_true, gdW_false, gB_true, gB_false, gB_undef, pickV_true, pickV_false, Bool.not_true, Bool.not_false, Option.map_some, bin_add, bin_sub, bin_mul, bin_quo, bin_rem, lss_t, lss_f, leq_t, leq_f, gtr_t, gtr_f, geq_t, geq_f, eqi_t, eqi_f, nei_t, nei_f, rem_uw, conv_ui, conv_iu, conv_ii, not_bool, nil_ptr, fa_mk, ptrV, len_mk, cap_mk, eq_ptr_nil, ne_ptr_nil, eq_nil_nil, ne_nil_nil, eq_slice_nil, eq_nil_slice, ia_1, hlen]; exact so_so) ?_)
  refine ⟨fun m zs h' => ∃ (i : Nat) (v3 : Value), zs = [.int .i64 i, v3] ∧ m = s.used.count true - i ∧ i ≤ s.used.count true ∧
      (SG iE 3 v3 ((((ids s.used).take i).filter fun i => !(s.marks[i]?.getD false)).map fun (i : Nat) => (i : Int)) * (SG iE 3 v16 (idsI s.used) * (SPN p s * (pt r (.cells #[pB p] 64 (0, 0)) * (own g * (F * tt)))))) h',
    ⟨_, 0, .slice none 0 0, rfl, rfl, by omega, ?_⟩, ?_⟩
  · refine SG_nil iE ?_
    have := SPN_intro (p := p) (s := s) (bu := bu) (bm := bm) (fr := fr) (F := SG iE 3 v16 (idsI s.used) * (pt r (.cells #[pB p] 64 (0, 0)) * (own g * (F * tt)))) hfr (asr (by ac_rfl) hh2)
    exact asr (by ac_rfl) this
  rintro m v18 v3 h3 ⟨i, v3', hzs, rfl, hi, hh3⟩ _
  obtain ⟨rfl, rfl⟩ : v18 = .int .i64 i ∧ v3 = v3' := by simpa using hzs
  have hh3v : (SG iE 3 v16 (idsI s.used) * (SG iE 3 v3 ((((ids s.used).take i).filter fun i => !(s.marks[i]?.getD false)).map fun (i : Nat) => (i : Int)) * (SPN p s * (pt r (.cells #[pB p] 64 (0, 0)) * (own g * (F * tt)))))) h3 := asr (by ac_rfl) hh3
  by_cases hic : i < s.used.count true
  · obtain ⟨x, hx⟩ : ∃ x, (ids s.used)[i]? = some x := ⟨_, List.getElem?_eq_getElem (by rw [ids_len]; exact hic)⟩
    have hxI : (idsI s.used)[i]? = some (x : Int) := by rw [idsI_get, hx]; rfl
    obtain ⟨q, e1, e2, _⟩ := el1 hh3v hxI .i64
    have hst := filter_step (p := fun i => !(s.marks[i]?.getD false)) hx
    have hfl : (((ids s.used).take i).filter fun i => !(s.marks[i]?.getD false)).length ≤ 64 := by
      refine Nat.le_trans (List.length_filter_le _ _) ?_
      rw [List.length_take]; omega
    repeat (with_reducible first | refine vP_so ?_ | refine vB_t ?_ | refine vB_f ?_ | refine vE_tt ?_ | refine vE_ff ?_ | refine vE_tf ?_ | refine vE_ft ?_ | refine vE_u ?_ | refine vP_to (by simp (disch := omega) only [gdW_true, gdW_false, gB_true, gB_false, gB_undef, pickV_true, pickV_false, Bool.not_true, Bool.not_false, Option.map_some, bin_add, bin_sub, bin_mul, bin_quo, bin_rem, lss_t, lss_f, leq_t, leq_f, gtr_t, gtr_f, geq_t, geq_f, eqi_t, eqi_f, nei_t, nei_f, rem_uw, conv_ui, conv_iu, conv_ii, not_bool, nil_ptr, fa_mk, ptrV, len_mk, cap_mk, eq_ptr_nil, ne_ptr_nil, eq_nil_nil, ne_nil_nil, eq_slice_nil, eq_nil_slice, ia_1]; exact so_so) ?_)
    intro J2 hJ2
    have hJ : ∀ v' h', (SG iE 3 v' ((((ids s.used).take (i + 1)).filter fun i => !(s.marks[i]?.getD false)).map fun (i : Nat) => (i : Int)) * (SG iE 3 v16 (idsI s.used) * (SPN p s * (pt r (.cells #[pB p] 64 (0, 0)) * (own g * (F * tt)))))) h' → J2 [v'] h' := fun v' h' q => by
      refine hJ2 _ _ fun _ => ?_
      repeat (with_reducible first | refine vP_so ?_ | refine vB_t ?_ | refine vB_f ?_ | refine vE_tt ?_ | refine vE_ff ?_ | refine vE_tf ?_ | refine vE_ft ?_ | refine vE_u ?_ | refine vP_to (by simp (disch := omega) only [gdW_true, gdW_false, gB_true, gB_false, gB_undef, pickV_true, pickV_false, Bool.not_true, Bool.not_false, Option.map_some, bin_add, bin_sub, bin_mul, bin_quo, bin_rem, lss_t, lss_f, leq_t, leq_f, gtr_t, gtr_f, geq_t, geq_f, eqi_t, eqi_f, nei_t, nei_f, rem_uw, conv_ui, conv_iu, conv_ii, not_bool, nil_ptr, fa_mk, ptrV, len_mk, cap_mk, eq_ptr_nil, ne_ptr_nil, eq_nil_nil, ne_nil_nil, eq_slice_nil, eq_nil_slice, ia_1]; exact so_so) ?_)
      exact ⟨s.used.count true - (i + 1), by omega, i + 1, v', by simp, rfl, by omega, q⟩
    rw [hst] at hJ
    repeat (with_reducible first | refine vP_so ?_ | refine vB_t ?_ | refine vB_f ?_ | refine vE_tt ?_ | refine vE_ff ?_ | refine vE_tf ?_ | refine vE_ft ?_ | refine vE_u ?_ | refine vP_to (by simp (disch := omega) only [gdW_true, gdW_false, gB_true, gB_false, gB_undef, pickV_true, pickV_false, Bool.not_true, Bool.not_false, Option.map_some, bin_add, bin_sub, bin_mul, bin_quo, bin_rem, lss_t, lss_f, leq_t, leq_f, gtr_t, gtr_f, geq_t, geq_f, eqi_t, eqi_f, nei_t, nei_f, rem_uw, conv_ui, conv_iu, conv_ii, not_bool, nil_ptr, fa_mk, ptrV, len_mk, cap_mk, eq_ptr_nil, ne_ptr_nil, eq_nil_nil, ne_nil_nil, eq_slice_nil, eq_nil_slice, ia_1, e1, e2]; exact so_so) ?_)
    refine cv_fn (by kernel_rfl) ?_
    refine use_sstays (i := x) (F := SG iE 3 v16 (idsI s.used) * (SG iE 3 v3 ((((ids s.used).take i).filter fun i => !(s.marks[i]?.getD false)).map fun (i : Nat) => (i : Int)) * (own g * (F * tt)))) hs (asr (by ac_rfl) hh3) ?_
    rw [hasB_nat]
    cases hmk : s.marks[x]?.getD false with
    | true =>
      rw [hmk] at hJ
      simp only [Bool.not_true, Bool.false_eq_true, if_false, List.append_nil] at hJ
      repeat (with_reducible first | refine vP_so ?_ | refine vB_t ?_ | refine vB_f ?_ | refine vE_tt ?_ | refine vE_ff ?_ | refine vE_tf ?_ | refine vE_ft ?_ | refine vE_u ?_ | refine vP_to (by simp (disch := omega) only [gdW_true, gdW_false, gB_true, gB_false, gB_undef, pickV_true, pickV_false, Bool.not_true, Bool.not_false, Option.map_some, bin_add, bin_sub, bin_mul, bin_quo, bin_rem, lss_t, lss_f, leq_t, leq_f, gtr_t, gtr_f, geq_t, geq_f, eqi_t, eqi_f, nei_t, nei_f, rem_uw, conv_ui, conv_iu, conv_ii, not_bool, nil_ptr, fa_mk, ptrV, len_mk, cap_mk, eq_ptr_nil, ne_ptr_nil, eq_nil_nil, ne_nil_nil, eq_slice_nil, eq_nil_slice, ia_1]; exact so_so) ?_)
      exact hJ v3 h3 hh3
    | false =>
      rw [hmk] at hJ
      simp only [Bool.not_false, if_true, List.map_append, List.map_cons, List.map_nil] at hJ
      repeat (with_reducible first | refine vP_so ?_ | refine vB_t ?_ | refine vB_f ?_ | refine vE_tt ?_ | refine vE_ff ?_ | refine vE_tf ?_ | refine vE_ft ?_ | refine vE_u ?_ | refine vP_to (by simp (disch := omega) only [gdW_true, gdW_false, gB_true, gB_false, gB_undef, pickV_true, pickV_false, Bool.not_true, Bool.not_false, Option.map_some, bin_add, bin_sub, bin_mul, bin_quo, bin_rem, lss_t, lss_f, leq_t, leq_f, gtr_t, gtr_f, geq_t, geq_f, eqi_t, eqi_f, nei_t, nei_f, rem_uw, conv_ui, conv_iu, conv_ii, not_bool, nil_ptr, fa_mk, ptrV, len_mk, cap_mk, eq_ptr_nil, ne_ptr_nil, eq_nil_nil, ne_nil_nil, eq_slice_nil, eq_nil_slice, ia_1]; exact so_so) ?_)
      have eb : bldV #[.int .i64 0] [(0, 1, .int .i64 (x : Int))] = some #[.int .i64 (x : Int)] := rfl
      rw [eb]
      refine vA_new (f := fun r => .slice (some ⟨r, 0, none⟩) 1 1) hh3 fun r9 h9 hh9 => ?_
      refine ap_new iE (l := (((ids s.used).take i).filter fun i => !(s.marks[i]?.getD false)).map fun (i : Nat) => (i : Int)) (m := [(x : Int)]) (F := SG iE 3 v16 (idsI s.used) * (SPN p s * (pt r (.cells #[pB p] 64 (0, 0)) * (own g * F)))) elInt rfl rfl niInts rfl (by omega) (asr (by ac_rfl) hh9) rfl rfl (by simp only [List.length_singleton, List.length_map]; omega) fun v48 h10 hh10 => ?_
      exact hJ v48 h10 (asr (by ac_rfl) hh10)
  · obtain rfl : i = s.used.count true := by omega
    rw [← ids_len, List.take_length] at hh3
    have hh3 : (SG iE 3 v3 (goneI s) * (SG iE 3 v16 (idsI s.used) * (SPN p s * (pt r (.cells #[pB p] 64 (0, 0)) * (own g * (F * tt)))))) h3 := hh3
    have hh3 : (SPN p s * (pt r (.cells #[pB p] 64 (0, 0)) * (SG iE 3 v3 (goneI s) * (own g * (F * tt))))) h3 := dropL (P := SG iE 3 v16 (idsI s.used)) (Q := SPN p s * (pt r (.cells #[pB p] 64 (0, 0)) * (SG iE 3 v3 (goneI s) * (own g * F)))) (asr (by ac_rfl) hh3) |> asr (by ac_rfl)
    obtain ⟨bu, bm, fr, hfr, hp⟩ := SPN_elim hh3
    have l := spn_ld hp
    have lr3 := lr (show (pt r (.cells #[pB p] 64 (0, 0)) * (SPN p s * (SG iE 3 v3 (goneI s) * (own g * (F * tt))))) h3 from asr (by ac_rfl) hh3)
    repeat (with_reducible first | refine vP_so ?_ | refine vB_t ?_ | refine vB_f ?_ | refine vE_tt ?_ | refine vE_ff ?_ | refine vE_tf ?_ | refine vE_ft ?_ | refine vE_u ?_ | refine vP_to (by simp (disch := omega) only [gdW_true, gdW_false, gB_true, gB_false, gB_undef, pickV_true, pickV_false, Bool.not_true, Bool.not_false, Option.map_some, bin_add, bin_sub, bin_mul, bin_quo, bin_rem, lss_t, lss_f, leq_t, leq_f, gtr_t, gtr_f, geq_t, geq_f, eqi_t, eqi_f, nei_t, nei_f, rem_uw, conv_ui, conv_iu, conv_ii, not_bool, nil_ptr, fa_mk, ptrV, len_mk, cap_mk, eq_ptr_nil, ne_ptr_nil, eq_nil_nil, ne_nil_nil, eq_slice_nil, eq_nil_slice, ia_1, lr3, l.2.2.1, l.2.2.2.1]; exact so_so) ?_)
    refine st1_mk hp rfl (by simp) fun h8 hh8 => ?_
    have hh8 : (pt p (.cells #[.int .i64 s.first, .int .i64 s.cls, pB bm, pB bm, .int .i64 fr] 103 (0, 0)) * (BS bu s.used * (BS bm s.marks * (pt r (.cells #[pB p] 64 (0, 0)) * (SG iE 3 v3 (goneI s) * (own g * (F * tt))))))) h8 := hh8
    have lr8 := lr (show (pt r (.cells #[pB p] 64 (0, 0)) * (pt p (.cells #[.int .i64 s.first, .int .i64 s.cls, pB bm, pB bm, .int .i64 fr] 103 (0, 0)) * (BS bu s.used * (BS bm s.marks * (SG iE 3 v3 (goneI s) * (own g * (F * tt))))))) h8 from asr (by ac_rfl) hh8)
    refine ⟨lr8, lr8, ?_⟩
    repeat (with_reducible first | refine vP_so ?_ | refine vB_t ?_ | refine vB_f ?_ | refine vE_tt ?_ | refine vE_ff ?_ | refine vE_tf ?_ | refine vE_ft ?_ | refine vE_u ?_ | refine vP_to (by simp (disch := omega) only [gdW_true, gdW_false, gB_true, gB_false, gB_undef, pickV_true, pickV_false, Bool.not_true, Bool.not_false, Option.map_some, bin_add, bin_sub, bin_mul, bin_quo, bin_rem, lss_t, lss_f, leq_t, leq_f, gtr_t, gtr_f, geq_t, geq_f, eqi_t, eqi_f, nei_t, nei_f, rem_uw, conv_ui, conv_iu, conv_ii, not_bool, nil_ptr, fa_mk, ptrV, len_mk, cap_mk, eq_ptr_nil, ne_ptr_nil, eq_nil_nil, ne_nil_nil, eq_slice_nil, eq_nil_slice, ia_1]; exact so_so) ?_)
    refine st1_mk hh8 rfl (by simp) fun h9 hh9 => ?_
    have hh9 : (pt p (.cells #[.int .i64 s.first, .int .i64 s.cls, pB bm, pB bu, .int .i64 fr] 103 (0, 0)) * (BS bu s.used * (BS bm s.marks * (pt r (.cells #[pB p] 64 (0, 0)) * (SG iE 3 v3 (goneI s) * (own g * (F * tt))))))) h9 := hh9
    have lr9 := lr (show (pt r (.cells #[pB p] 64 (0, 0)) * (pt p (.cells #[.int .i64 s.first, .int .i64 s.cls, pB bm, pB bu, .int .i64 fr] 103 (0, 0)) * (BS bu s.used * (BS bm s.marks * (SG iE 3 v3 (goneI s) * (own g * (F * tt))))))) h9 from asr (by ac_rfl) hh9)
    refine ⟨lr9, ?_⟩
    repeat (with_reducible first | refine vP_so ?_ | refine vB_t ?_ | refine vB_f ?_ | refine vE_tt ?_ | refine vE_ff ?_ | refine vE_tf ?_ | refine vE_ft ?_ | refine vE_u ?_ | refine vP_to (by simp (disch := omega) only [gdW_true, gdW_false, gB_true, gB_false, gB_undef, pickV_true, pickV_false, Bool.not_true, Bool.not_false, Option.map_some, bin_add, bin_sub, bin_mul, bin_quo, bin_rem, lss_t, lss_f, leq_t, leq_f, gtr_t, gtr_f, geq_t, geq_f, eqi_t, eqi_f, nei_t, nei_f, rem_uw, conv_ui, conv_iu, conv_ii, not_bool, nil_ptr, fa_mk, ptrV, len_mk, cap_mk, eq_ptr_nil, ne_ptr_nil, eq_nil_nil, ne_nil_nil, eq_slice_nil, eq_nil_slice, ia_1]; exact so_so) ?_)
    refine st1_mk hh9 rfl (by simp) fun h10 hh10 => ?_
    have hh10 : (pt p (.cells #[.int .i64 s.first, .int .i64 s.cls, pB bm, pB bu, .int .i64 ((0 : Nat) : Int)] 103 (0, 0)) * (BS bu s.used * (BS bm s.marks * (pt r (.cells #[pB p] 64 (0, 0)) * (SG iE 3 v3 (goneI s) * (own g * (F * tt))))))) h10 := hh10
    have lr10 := lr (show (pt r (.cells #[pB p] 64 (0, 0)) * (pt p (.cells #[.int .i64 s.first, .int .i64 s.cls, pB bm, pB bu, .int .i64 ((0 : Nat) : Int)] 103 (0, 0)) * (BS bu s.used * (BS bm s.marks * (SG iE 3 v3 (goneI s) * (own g * (F * tt))))))) h10 from asr (by ac_rfl) hh10)
    have l10 := spn_ld hh10
    repeat (with_reducible first | refine vP_so ?_ | refine vB_t ?_ | refine vB_f ?_ | refine vE_tt ?_ | refine vE_ff ?_ | refine vE_tf ?_ | refine vE_ft ?_ | refine vE_u ?_ | refine vP_to (by simp (disch := omega) only [gdW_true, gdW_false, gB_true, gB_false, gB_undef, pickV_true, pickV_false, Bool.not_true, Bool.not_false, Option.map_some, bin_add, bin_sub, bin_mul, bin_quo, bin_rem, lss_t, lss_f, leq_t, leq_f, gtr_t, gtr_f, geq_t, geq_f, eqi_t, eqi_f, nei_t, nei_f, rem_uw, conv_ui, conv_iu, conv_ii, not_bool, nil_ptr, fa_mk, ptrV, len_mk, cap_mk, eq_ptr_nil, ne_ptr_nil, eq_nil_nil, ne_nil_nil, eq_slice_nil, eq_nil_slice, ia_1, lr10, l10.2.2.2.1]; exact so_so) ?_)
    refine use_ball (b := bu) (l := s.used) (F := pt p (.cells #[.int .i64 s.first, .int .i64 s.cls, pB bm, pB bu, .int .i64 ((0 : Nat) : Int)] 103 (0, 0)) * (BS bm s.marks * (pt r (.cells #[pB p] 64 (0, 0)) * (SG iE 3 v3 (goneI s) * F)))) hg hl.2 (asr (by ac_rfl) hh10) fun v52 h11 hh11 => ?_
    have hlen := SG_len iE hh11
    rw [idsI_len] at hlen
    repeat (with_reducible first | refine vP_so ?_ | refine vB_t ?_ | refine vB_f ?_ | refine vE_tt ?_ | refine vE_ff ?_ | refine vE_tf ?_ | refine vE_ft ?_ | refine vE_u ?_ | refine vP_to (by simp (disch := omega) only [gdW_true, gdW_false, gB_true, gB_false, gB_undef, pickV_true, pickV_false, Bool.not_true, Bool.not_false, Option.map_some, bin_add, bin_sub, bin_mul, bin_quo, bin_rem, lss_t, lss_f, leq_t, leq_f, gtr_t, gtr_f, geq_t, geq_f, eqi_t, eqi_f, nei_t, nei_f, rem_uw, conv_ui, conv_iu, conv_ii, not_bool, nil_ptr, fa_mk, ptrV, len_mk, cap_mk, eq_ptr_nil, ne_ptr_nil, eq_nil_nil, ne_nil_nil, eq_slice_nil, eq_nil_slice, ia_1, hlen]; exact so_so) ?_)
    refine ⟨fun m zs h' => ∃ (i : Nat) (u : List Bool), zs = [.int .i64 i] ∧ m = s.used.count true - i ∧ i ≤ s.used.count true ∧ u.length = s.used.length ∧ (∀ x : Nat, u[x]? = some true ↔ s.used[x]? = some true ∧ x ∉ (ids s.used).take i) ∧
      (SG iE 3 v52 (idsI s.used) * (BS bu u * (own g * (pt p (.cells #[.int .i64 s.first, .int .i64 s.cls, pB bm, pB bu, .int .i64 ((0 : Nat) : Int)] 103 (0, 0)) * (BS bm s.marks * (pt r (.cells #[pB p] 64 (0, 0)) * (SG iE 3 v3 (goneI s) * (F * tt)))))))) h',
      ⟨_, 0, s.used, rfl, rfl, by omega, rfl, fun x => by simp, asr (by ac_rfl) hh11⟩, ?_⟩
    rintro m v54 h12 ⟨i, u, hzs, rfl, hi, hul, hux, hh12⟩ _
    obtain rfl : v54 = .int .i64 i := by simpa using hzs
    by_cases hic : i < s.used.count true
    · obtain ⟨x, hx⟩ : ∃ x, (ids s.used)[i]? = some x := ⟨_, List.getElem?_eq_getElem (by rw [ids_len]; exact hic)⟩
      have hxl : x < s.used.length := ids_lt (List.mem_of_getElem? hx)
      have hxI : (idsI s.used)[i]? = some (x : Int) := by rw [idsI_get, hx]; rfl
      obtain ⟨q, e1, e2, _⟩ := el1 hh12 hxI .i64
      have hh12p : (pt p (.cells #[.int .i64 s.first, .int .i64 s.cls, pB bm, pB bu, .int .i64 ((0 : Nat) : Int)] 103 (0, 0)) * (SG iE 3 v52 (idsI s.used) * (BS bu u * (own g * (BS bm s.marks * (pt r (.cells #[pB p] 64 (0, 0)) * (SG iE 3 v3 (goneI s) * (F * tt)))))))) h12 := asr (by ac_rfl) hh12
      have l12 := spn_ld hh12p
      have lr12 := lr (show (pt r (.cells #[pB p] 64 (0, 0)) * (pt p (.cells #[.int .i64 s.first, .int .i64 s.cls, pB bm, pB bu, .int .i64 ((0 : Nat) : Int)] 103 (0, 0)) * (SG iE 3 v52 (idsI s.used) * (BS bu u * (own g * (BS bm s.marks * (SG iE 3 v3 (goneI s) * (F * tt)))))))) h12 from asr (by ac_rfl) hh12)
      repeat (with_reducible first | refine vP_so ?_ | refine vB_t ?_ | refine vB_f ?_ | refine vE_tt ?_ | refine vE_ff ?_ | refine vE_tf ?_ | refine vE_ft ?_ | refine vE_u ?_ | refine vP_to (by simp (disch := omega) only [gdW_true, gdW_false, gB_true, gB_false, gB_undef, pickV_true, pickV_false, Bool.not_true, Bool.not_false, Option.map_some, bin_add, bin_sub, bin_mul, bin_quo, bin_rem, lss_t, lss_f, leq_t, leq_f, gtr_t, gtr_f, geq_t, geq_f, eqi_t, eqi_f, nei_t, nei_f, rem_uw, conv_ui, conv_iu, conv_ii, not_bool, nil_ptr, fa_mk, ptrV, len_mk, cap_mk, eq_ptr_nil, ne_ptr_nil, eq_nil_nil, ne_nil_nil, eq_slice_nil, eq_nil_slice, ia_1, e1, e2, lr12, l12.2.2.2.1]; exact so_so) ?_)
      refine use_bclear (b := bu) (l := u) (k := x) (F := SG iE 3 v52 (idsI s.used) * (own g * (pt p (.cells #[.int .i64 s.first, .int .i64 s.cls, pB bm, pB bu, .int .i64 ((0 : Nat) : Int)] 103 (0, 0)) * (BS bm s.marks * (pt r (.cells #[pB p] 64 (0, 0)) * (SG iE 3 v3 (goneI s) * (F * tt))))))) (by omega) (by omega) (asr (by ac_rfl) hh12) fun h13 hh13 => ?_
      repeat (with_reducible first | refine vP_so ?_ | refine vB_t ?_ | refine vB_f ?_ | refine vE_tt ?_ | refine vE_ff ?_ | refine vE_tf ?_ | refine vE_ft ?_ | refine vE_u ?_ | refine vP_to (by simp (disch := omega) only [gdW_true, gdW_false, gB_true, gB_false, gB_undef, pickV_true, pickV_false, Bool.not_true, Bool.not_false, Option.map_some, bin_add, bin_sub, bin_mul, bin_quo, bin_rem, lss_t, lss_f, leq_t, leq_f, gtr_t, gtr_f, geq_t, geq_f, eqi_t, eqi_f, nei_t, nei_f, rem_uw, conv_ui, conv_iu, conv_ii, not_bool, nil_ptr, fa_mk, ptrV, len_mk, cap_mk, eq_ptr_nil, ne_ptr_nil, eq_nil_nil, ne_nil_nil, eq_slice_nil, eq_nil_slice, ia_1]; exact so_so) ?_)
      refine ⟨s.used.count true - (i + 1), by omega, i + 1, u.set x false, by simp, rfl, by omega, by rw [List.length_set]; exact hul, fun y => ?_, asr (by ac_rfl) hh13⟩
      rw [List.take_add_one, hx, List.getElem?_set]
      simp only [Option.toList, List.mem_append, List.mem_singleton, not_or]
      by_cases hxy : x = y
      · subst hxy
        rw [if_pos rfl]
        simp
      · rw [if_neg hxy, hux]
        exact ⟨fun ⟨a, b⟩ => ⟨a, b, fun e => hxy e.symm⟩, fun ⟨a, b, _⟩ => ⟨a, b⟩⟩
    · obtain rfl : i = s.used.count true := by omega
      rw [← ids_len] at hux
      have hu := cleared hul hux
      repeat (with_reducible first | refine vP_so ?_ | refine vB_t ?_ | refine vB_f ?_ | refine vE_tt ?_ | refine vE_ff ?_ | refine vE_tf ?_ | refine vE_ft ?_ | refine vE_u ?_ | refine vP_to (by simp (disch := omega) only [gdW_true, gdW_false, gB_true, gB_false, gB_undef, pickV_true, pickV_false, Bool.not_true, Bool.not_false, Option.map_some, bin_add, bin_sub, bin_mul, bin_quo, bin_rem, lss_t, lss_f, leq_t, leq_f, gtr_t, gtr_f, geq_t, geq_f, eqi_t, eqi_f, nei_t, nei_f, rem_uw, conv_ui, conv_iu, conv_ii, not_bool, nil_ptr, fa_mk, ptrV, len_mk, cap_mk, eq_ptr_nil, ne_ptr_nil, eq_nil_nil, ne_nil_nil, eq_slice_nil, eq_nil_slice, ia_1]; exact so_so) ?_)
      subst hu
      have hh13 : (pt p (.cells #[.int .i64 s.first, .int .i64 s.cls, pB bm, pB bu, .int .i64 ((0 : Nat) : Int)] 103 (0, 0)) * (BS bm s.marks * (BS bu (List.replicate s.used.length false) * (SG iE 3 v3 (goneI s) * (own g * (F * tt)))))) h12 := dropL (P := SG iE 3 v52 (idsI s.used) * pt r (.cells #[pB p] 64 (0, 0))) (Q := pt p (.cells #[.int .i64 s.first, .int .i64 s.cls, pB bm, pB bu, .int .i64 ((0 : Nat) : Int)] 103 (0, 0)) * (BS bm s.marks * (BS bu (List.replicate s.used.length false) * (SG iE 3 v3 (goneI s) * (own g * F))))) (asr (by ac_rfl) hh12) |> asr (by ac_rfl)
      have := SPN_intro (p := p) (s := s.swept) (bu := bm) (bm := bu) (fr := 0) (F := SG iE 3 v3 (goneI s) * (own g * (F * tt))) (fun i hi => by omega) hh13
      exact hK v3 h12 (asr (by ac_rfl) this)
end Go.Proofs

/-
  Contracts of package arena: New, Span, Drop.
-/
set_option maxRecDepth 100000
namespace Go.Proofs
open Go.Sl
theorem mapSp : Tryz.prog.underlying 60 = some (.map 3 64) := Tryz.underlying60
theorem mapII : Tryz.prog.underlying 52 = some (.map 3 3) := Tryz.underlying52
theorem mapIs : Tryz.prog.underlying 61 = some (.map 3 22) := Tryz.underlying61
theorem intU : Tryz.prog.underlying 3 = some (.int .i64) := Tryz.underlying3
theorem zInt : zOf Tryz.prog 3 = some (.int .i64 0) := by kernel_rfl
theorem zPSpan : zOf Tryz.prog 64 = some (.pointer none) := by kernel_rfl
theorem zInts : zOf Tryz.prog 22 = some (.slice none 0 0) := by kernel_rfl
def spA (s : Sp) (v : Value) : Asrt := ex fun p : Nat => pr (v = pB p) * SPN p s
def obA (l : List Int) (v : Value) : Asrt := pr (l ≠ []) * SG iE 3 v l
def owF (ow : Int → Option Int) : Int → Option Value := fun x => (ow x).map fun y => Value.int .i64 y
def AR (a : Nat) (st : Ar) : Asrt := ex fun ap : Nat => ex fun rs : Nat => ex fun ro : Nat => ex fun rb : Nat =>
  pt a (.cells #[pv ap, .map (some rs), .map (some ro), .map (some rb), .int .i64 st.live] 63 (0, 0)) * (PG ap st.n st.runs * (MPO rs spA st.sp * (MP ro (owF st.ow) * MPO rb obA st.ob)))
theorem AR_elim {a : Nat} {st : Ar} {F : Asrt} {h : Hp} (hh : (AR a st * F) h) : ∃ (ap rs ro rb : Nat),
    (pt a (.cells #[pv ap, .map (some rs), .map (some ro), .map (some rb), .int .i64 st.live] 63 (0, 0)) * (PG ap st.n st.runs * (MPO rs spA st.sp * (MP ro (owF st.ow) * (MPO rb obA st.ob * F))))) h := by
  obtain ⟨ap, hh⟩ := ex_star.1 hh
  obtain ⟨rs, hh⟩ := ex_star.1 hh
  obtain ⟨ro, hh⟩ := ex_star.1 hh
  obtain ⟨rb, hh⟩ := ex_star.1 hh
  exact ⟨ap, rs, ro, rb, asr (by ac_rfl) hh⟩
theorem AR_intro {a ap rs ro rb : Nat} {st : Ar} {F : Asrt} {h : Hp} (hh : (pt a (.cells #[pv ap, .map (some rs), .map (some ro), .map (some rb), .int .i64 st.live] 63 (0, 0)) * (PG ap st.n st.runs * (MPO rs spA st.sp * (MP ro (owF st.ow) * (MPO rb obA st.ob * F))))) h) : (AR a st * F) h :=
  ex_star.2 ⟨ap, ex_star.2 ⟨rs, ex_star.2 ⟨ro, ex_star.2 ⟨rb, asr (by ac_rfl) hh⟩⟩⟩⟩
theorem ar_ld {a : Nat} {v0 v1 v2 v3 v4 : Value} {F : Asrt} {h : Hp} (hh : (pt a (.cells #[v0, v1, v2, v3, v4] 63 (0, 0)) * F) h) :
    ld1 (.pointer (some ⟨a, 0 + 0, none⟩)) h = some v0 ∧ ld1 (.pointer (some ⟨a, 0 + 1, none⟩)) h = some v1 ∧ ld1 (.pointer (some ⟨a, 0 + 2, none⟩)) h = some v2 ∧
    ld1 (.pointer (some ⟨a, 0 + 3, none⟩)) h = some v3 ∧ ld1 (.pointer (some ⟨a, 0 + 4, none⟩)) h = some v4 :=
  ⟨ld1_mk (pt_get hh) rfl, ld1_mk (pt_get hh) rfl, ld1_mk (pt_get hh) rfl, ld1_mk (pt_get hh) rfl, ld1_mk (pt_get hh) rfl⟩
theorem fput_self {β : Type} {f : Int → Option β} {k : Int} {b : β} (h : f k = some b) : fput f k b = f := by
  funext x
  by_cases hx : x = k
  · subst hx; rw [fput_eq, h]
  · rw [fput_ne hx]
theorem sp_get {rs : Nat} {sp : Int → Option Sp} {id : Int} {s : Sp} {F : Asrt} {h : Hp} (hs : sp id = some s) (hh : (MPO rs spA sp * F) h) :
    ∃ (p : Nat) (f : Int → Option Value) (H : Asrt), f id = some (pB p) ∧ (MP rs f * (SPN p s * (H * F))) h ∧
      (∀ (F' : Asrt) s' h', (MP rs f * (SPN p s' * (H * F'))) h' → (MPO rs spA (fput sp id s') * F') h') ∧
      (∀ (F' : Asrt) h', (MP rs (fun x => if x = id then none else f x) * (H * F')) h' → (MPO rs spA (fdel sp id) * F') h') := by
  obtain ⟨v, f, H, e1, _, hp, c1, c2, _⟩ := MPO_get hs hh
  have hp2 : (spA s v * (MP rs f * (H * F))) h := asr (by ac_rfl) hp
  obtain ⟨p, hp3⟩ := ex_star.1 hp2
  rw [star_assoc, pr_star] at hp3
  obtain ⟨rfl, hp4⟩ := hp3
  refine ⟨p, f, H, e1, asr (by ac_rfl) hp4, fun F' s' h' q => c1 F' s' h' ?_, c2⟩
  have q : (SPN p s' * (MP rs f * (H * F'))) h' := asr (by ac_rfl) q
  have : (spA s' (pB p) * (MP rs f * (H * F'))) h' := ex_star.2 ⟨p, by rw [star_assoc, pr_star]; exact ⟨rfl, q⟩⟩
  exact asr (by ac_rfl) this
theorem sp_look {rs : Nat} {sp : Int → Option Sp} {id : Int} {F : Asrt} {h : Hp} (hh : (MPO rs spA sp * F) h) :
    (sp id = none → lkV Tryz.prog 60 (.map (some rs)) (.int .i64 id) false h = some (.pointer none)) ∧
    (∀ s, sp id = some s → ∃ p, lkV Tryz.prog 60 (.map (some rs)) (.int .i64 id) false h = some (pB p)) := by
  refine ⟨fun e => ?_, fun s e => ?_⟩
  · obtain ⟨f, H, e1, _, hp, _⟩ := MPO_none e hh
    have := (lk_MP (k := id) mapSp intU zPSpan hp).1
    rw [e1] at this
    exact this
  · obtain ⟨p, f, H, e1, hp, _⟩ := sp_get e hh
    have := (lk_MP (k := id) mapSp intU zPSpan hp).1
    rw [e1] at this
    exact ⟨p, this⟩
theorem nil_pp : eqV 4 false (.pointer none) (.pointer none) = some (.bool true) := rfl
theorem nnil_pp : eqV 4 true (.pointer none) (.pointer none) = some (.bool false) := rfl
theorem exT0 (a b : Value) : exV (.tuple #[a, b]) 0 = some a := rfl
theorem exT1 (a b : Value) : exV (.tuple #[a, b]) 1 = some b := rfl
def goodW (w : Int) : Prop := 256 ≤ w ∧ w ≤ 16777216 ∧ w % 64 = 0
theorem use_anew {w : Int} {F : Asrt} {K : Value → Hp → Prop} {h : Hp} (hh : (F * tt) h)
    (hbad : ¬ goodW w → K (.tuple #[.pointer none, .int .i64 1]) h) (hK : ∀ a h', goodW w → (AR a (newAr (w / 64)) * (F * tt)) h' → K (.tuple #[pB a, .int .i64 0]) h') : CallH Tryz.prog 6 #[.int .i64 w] K h := by
  refine C6 ?_
  unfold D6
  by_cases h1 : w < 256
  · repeat (with_reducible first | refine vP_so ?_ | refine vB_t ?_ | refine vB_f ?_ | refine vE_tt ?_ | refine vE_ff ?_ | refine vE_tf ?_ | refine vE_ft ?_ | refine vE_u ?_ | refine vP_to (by simp (disch := omega) only [gdW_true, gdW_false, gB_true, gB_false, gB_undef, pickV_true, pickV_false, Bool.not_true, Bool.not_false, Option.map_some, bin_add, bin_sub, bin_mul, bin_quo, bin_rem, lss_t, lss_f, leq_t, leq_f, gtr_t, gtr_f, geq_t, geq_f, eqi_t, eqi_f, nei_t, nei_f, rem_uw, conv_ui, conv_iu, conv_ii, not_bool, nil_ptr, fa_mk, ptrV, len_mk, cap_mk, eq_ptr_nil, ne_ptr_nil, eq_nil_nil, ne_nil_nil, eq_slice_nil, eq_nil_slice, ia_1]; exact so_so) ?_)
    exact hbad (by unfold goodW; omega)
  by_cases h2 : 16777216 < w
  · repeat (with_reducible first | refine vP_so ?_ | refine vB_t ?_ | refine vB_f ?_ | refine vE_tt ?_ | refine vE_ff ?_ | refine vE_tf ?_ | refine vE_ft ?_ | refine vE_u ?_ | refine vP_to (by simp (disch := omega) only [gdW_true, gdW_false, gB_true, gB_false, gB_undef, pickV_true, pickV_false, Bool.not_true, Bool.not_false, Option.map_some, bin_add, bin_sub, bin_mul, bin_quo, bin_rem, lss_t, lss_f, leq_t, leq_f, gtr_t, gtr_f, geq_t, geq_f, eqi_t, eqi_f, nei_t, nei_f, rem_uw, conv_ui, conv_iu, conv_ii, not_bool, nil_ptr, fa_mk, ptrV, len_mk, cap_mk, eq_ptr_nil, ne_ptr_nil, eq_nil_nil, ne_nil_nil, eq_slice_nil, eq_nil_slice, ia_1]; exact so_so) ?_)
    exact hbad (by unfold goodW; omega)
  by_cases h3 : w % 64 = 0
  · repeat (with_reducible first | refine vP_so ?_ | refine vB_t ?_ | refine vB_f ?_ | refine vE_tt ?_ | refine vE_ff ?_ | refine vE_tf ?_ | refine vE_ft ?_ | refine vE_u ?_ | refine vP_to (by simp (disch := omega) only [gdW_true, gdW_false, gB_true, gB_false, gB_undef, pickV_true, pickV_false, Bool.not_true, Bool.not_false, Option.map_some, bin_add, bin_sub, bin_mul, bin_quo, bin_rem, lss_t, lss_f, leq_t, leq_f, gtr_t, gtr_f, geq_t, geq_f, eqi_t, eqi_f, nei_t, nei_f, rem_uw, conv_ui, conv_iu, conv_ii, not_bool, nil_ptr, fa_mk, ptrV, len_mk, cap_mk, eq_ptr_nil, ne_ptr_nil, eq_nil_nil, ne_nil_nil, eq_slice_nil, eq_nil_slice, ia_1]; exact so_so) ?_)
    refine use_new hh fun ap h4 hh4 => ?_
    refine vA_new (f := fun r => .map (some r)) hh4 fun rs h5 hh5 => ?_
    refine vA_new (f := fun r => .map (some r)) hh5 fun ro h6 hh6 => ?_
    refine vA_new (f := fun r => .map (some r)) hh6 fun rb h7 hh7 => ?_
    have e5 : bldV #[.pointer none, .map none, .map none, .map none, .int .i64 0] [(0, 1, pv ap), (1, 1, .map (some rs)), (2, 1, .map (some ro)), (3, 1, .map (some rb))] = some #[pv ap, .map (some rs), .map (some ro), .map (some rb), .int .i64 0] := rfl
    repeat (with_reducible first | refine vP_so ?_ | refine vB_t ?_ | refine vB_f ?_ | refine vE_tt ?_ | refine vE_ff ?_ | refine vE_tf ?_ | refine vE_ft ?_ | refine vE_u ?_ | refine vP_to (by simp (disch := omega) only [gdW_true, gdW_false, gB_true, gB_false, gB_undef, pickV_true, pickV_false, Bool.not_true, Bool.not_false, Option.map_some, bin_add, bin_sub, bin_mul, bin_quo, bin_rem, lss_t, lss_f, leq_t, leq_f, gtr_t, gtr_f, geq_t, geq_f, eqi_t, eqi_f, nei_t, nei_f, rem_uw, conv_ui, conv_iu, conv_ii, not_bool, nil_ptr, fa_mk, ptrV, len_mk, cap_mk, eq_ptr_nil, ne_ptr_nil, eq_nil_nil, ne_nil_nil, eq_slice_nil, eq_nil_slice, ia_1, e5]; exact so_so) ?_)
    refine vA_new hh7 fun a h8 hh8 => ?_
    refine hK a h8 ⟨by omega, by omega, h3⟩ (AR_intro (ap := ap) (rs := rs) (ro := ro) (rb := rb) (st := newAr (w / 64)) ?_)
    have en : newN (w / 64) = (((newAr (w / 64)).n : Nat) : Int) := by
      show newN (w / 64) = ((((w / 64).toNat) : Nat) : Int)
      unfold newN; omega
    have hh8 : (pt rb (.map #[] 0) * (pt ro (.map #[] 0) * (pt rs (.map #[] 0) * (pt a (.cells #[pv ap, .map (some rs), .map (some ro), .map (some rb), .int .i64 0] 63 (0, 0)) * (PG ap (newN (w / 64)) (newL (w / 64)) * (F * tt)))))) h8 := asr (by ac_rfl) hh8
    have hh8 : (pt ro (.map #[] 0) * (MPO rb obA (fun _ => none) * (pt rs (.map #[] 0) * (pt a (.cells #[pv ap, .map (some rs), .map (some ro), .map (some rb), .int .i64 0] 63 (0, 0)) * (PG ap (newN (w / 64)) (newL (w / 64)) * (F * tt)))))) h8 := asr (by ac_rfl) (MPO_new (A := obA) hh8)
    have hh8 : (pt rs (.map #[] 0) * (MP ro (fun _ => none) * (MPO rb obA (fun _ => none) * (pt a (.cells #[pv ap, .map (some rs), .map (some ro), .map (some rb), .int .i64 0] 63 (0, 0)) * (PG ap (newN (w / 64)) (newL (w / 64)) * (F * tt)))))) h8 := asr (by ac_rfl) (MP_new hh8)
    have hh8 := MPO_new (A := spA) hh8
    rw [en] at hh8
    show (pt a (.cells #[pv ap, .map (some rs), .map (some ro), .map (some rb), .int .i64 0] 63 (0, 0)) * (PG ap ((newAr (w / 64)).n : Int) (newL (w / 64)) * (MPO rs spA (fun _ => none) * (MP ro (fun _ => none) * (MPO rb obA (fun _ => none) * (F * tt)))))) h8
    exact asr (by ac_rfl) hh8
  · repeat (with_reducible first | refine vP_so ?_ | refine vB_t ?_ | refine vB_f ?_ | refine vE_tt ?_ | refine vE_ff ?_ | refine vE_tf ?_ | refine vE_ft ?_ | refine vE_u ?_ | refine vP_to (by simp (disch := omega) only [gdW_true, gdW_false, gB_true, gB_false, gB_undef, pickV_true, pickV_false, Bool.not_true, Bool.not_false, Option.map_some, bin_add, bin_sub, bin_mul, bin_quo, bin_rem, lss_t, lss_f, leq_t, leq_f, gtr_t, gtr_f, geq_t, geq_f, eqi_t, eqi_f, nei_t, nei_f, rem_uw, conv_ui, conv_iu, conv_ii, not_bool, nil_ptr, fa_mk, ptrV, len_mk, cap_mk, eq_ptr_nil, ne_ptr_nil, eq_nil_nil, ne_nil_nil, eq_slice_nil, eq_nil_slice, ia_1]; exact so_so) ?_)
    exact hbad (by unfold goodW; omega)
theorem owPut_step {ow : Int → Option Int} {first id : Int} (i : Nat) : (fun x => if x = first + (i : Int) then some (Value.int .i64 id) else owF (owPut ow first i id) x) = owF (owPut ow first ((i + 1 : Nat) : Int) id) := by
  funext x
  unfold owF owPut
  by_cases hx : x = first + (i : Int)
  · rw [if_pos hx, if_pos (by omega)]; rfl
  · rw [if_neg hx]
    by_cases h1 : first ≤ x ∧ x < first + (i : Int)
    · rw [if_pos h1, if_pos (by omega)]
    · rw [if_neg h1, if_neg (by omega)]
theorem owPut_zero {ow : Int → Option Int} {first id : Int} : owPut ow first ((0 : Nat) : Int) id = ow := by
  funext x
  unfold owPut
  rw [if_neg (by omega)]
set_option maxHeartbeats 1000000 in
theorem use_aspan {g : Hp} {a : Nat} {st : Ar} {N : Nat} {k : Int} (ok : AOk st N) (hN : N ≤ 1000000) {F : Asrt} {K : Value → Hp → Prop} {h : Hp} (hh : (AR a st * (own g * (F * tt))) h)
    (hbad : ∀ h', ¬ (0 ≤ k ∧ k < 16) → (AR a st * (own g * (F * tt))) h' → K (tup 0 1) h')
    (hfull : ∀ h', 0 ≤ k ∧ k < 16 → (∀ r ∈ st.runs, r.2 < pgS k) → (AR a st * (own g * (F * tt))) h' → K (tup 0 3) h')
    (hK : ∀ st' id b h', 0 ≤ k ∧ k < 16 → SpanR st k st' id b → (AR a st' * (own g * (F * tt))) h' → K (tup id 0) h') : CallH Tryz.prog 7 #[pB a, .int .i64 k] K h := by
  refine C7 ?_
  unfold D7
  have z0 : eqV 1 false (.int .i64 0) (.int .i64 0) = some (.bool true) := rfl
  repeat (with_reducible first | refine vP_so ?_ | refine vB_t ?_ | refine vB_f ?_ | refine vE_tt ?_ | refine vE_ff ?_ | refine vE_tf ?_ | refine vE_ft ?_ | refine vE_u ?_ | refine vP_to (by simp (disch := omega) only [gdW_true, gdW_false, gB_true, gB_false, gB_undef, pickV_true, pickV_false, Bool.not_true, Bool.not_false, Option.map_some, bin_add, bin_sub, bin_mul, bin_quo, bin_rem, lss_t, lss_f, leq_t, leq_f, gtr_t, gtr_f, geq_t, geq_f, eqi_t, eqi_f, nei_t, nei_f, rem_uw, conv_ui, conv_iu, conv_ii, not_bool, nil_ptr, fa_mk, ptrV, len_mk, cap_mk, eq_ptr_nil, ne_ptr_nil, eq_nil_nil, ne_nil_nil, eq_slice_nil, eq_nil_slice, ia_1, nilP]; exact so_so) ?_)
  refine use_size (k := k) (F := AR a st * (own g * F)) (asr (by ac_rfl) hh) fun h1 hh1 => ?_
  have hh1 : (AR a st * (own g * (F * tt))) h1 := asr (by ac_rfl) hh1
  by_cases hk : 0 ≤ k ∧ k < 16
  rotate_left
  · rw [szS_out hk]
    repeat (with_reducible first | refine vP_so ?_ | refine vB_t ?_ | refine vB_f ?_ | refine vE_tt ?_ | refine vE_ff ?_ | refine vE_tf ?_ | refine vE_ft ?_ | refine vE_u ?_ | refine vP_to (by simp (disch := omega) only [gdW_true, gdW_false, gB_true, gB_false, gB_undef, pickV_true, pickV_false, Bool.not_true, Bool.not_false, Option.map_some, bin_add, bin_sub, bin_mul, bin_quo, bin_rem, lss_t, lss_f, leq_t, leq_f, gtr_t, gtr_f, geq_t, geq_f, eqi_t, eqi_f, nei_t, nei_f, rem_uw, conv_ui, conv_iu, conv_ii, not_bool, nil_ptr, fa_mk, ptrV, len_mk, cap_mk, eq_ptr_nil, ne_ptr_nil, eq_nil_nil, ne_nil_nil, eq_slice_nil, eq_nil_slice, ia_1, z0]; exact so_so) ?_)
    exact hbad h1 hk hh1
  have hsz := szS_pos hk
  have hpg := pgS_pos hk
  obtain ⟨ap, rs, ro, rb, hp⟩ := AR_elim hh1
  have l1 := ar_ld hp
  repeat (with_reducible first | refine vP_so ?_ | refine vB_t ?_ | refine vB_f ?_ | refine vE_tt ?_ | refine vE_ff ?_ | refine vE_tf ?_ | refine vE_ft ?_ | refine vE_u ?_ | refine vP_to (by simp (disch := omega) only [gdW_true, gdW_false, gB_true, gB_false, gB_undef, pickV_true, pickV_false, Bool.not_true, Bool.not_false, Option.map_some, bin_add, bin_sub, bin_mul, bin_quo, bin_rem, lss_t, lss_f, leq_t, leq_f, gtr_t, gtr_f, geq_t, geq_f, eqi_t, eqi_f, nei_t, nei_f, rem_uw, conv_ui, conv_iu, conv_ii, not_bool, nil_ptr, fa_mk, ptrV, len_mk, cap_mk, eq_ptr_nil, ne_ptr_nil, eq_nil_nil, ne_nil_nil, eq_slice_nil, eq_nil_slice, ia_1, l1.1]; exact so_so) ?_)
  refine use_pages hk (F := pt a (.cells #[pv ap, .map (some rs), .map (some ro), .map (some rb), .int .i64 st.live] 63 (0, 0)) * (PG ap st.n st.runs * (MPO rs spA st.sp * (MP ro (owF st.ow) * (MPO rb obA st.ob * (own g * F)))))) (asr (by ac_rfl) hp) fun h2 hh2 => ?_
  have hh2 : (pt a (.cells #[pv ap, .map (some rs), .map (some ro), .map (some rb), .int .i64 st.live] 63 (0, 0)) * (PG ap st.n st.runs * (MPO rs spA st.sp * (MP ro (owF st.ow) * (MPO rb obA st.ob * (own g * (F * tt))))))) h2 := asr (by ac_rfl) hh2
  refine ⟨(ar_ld hh2).1, ?_⟩
  refine use_alloc (a := ap) (k := pgS k) ok.wf ⟨by omega, by have := ok.n; omega⟩ (by omega) (F := pt a (.cells #[pv ap, .map (some rs), .map (some ro), .map (some rb), .int .i64 st.live] 63 (0, 0)) * (MPO rs spA st.sp * (MP ro (owF st.ow) * (MPO rb obA st.ob * (own g * (F * tt)))))) (asr (by ac_rfl) hh2) fun v l' h3 hv hw' hh3 => ?_
  have hh3 : (pt a (.cells #[pv ap, .map (some rs), .map (some ro), .map (some rb), .int .i64 st.live] 63 (0, 0)) * (PG ap st.n l' * (MPO rs spA st.sp * (MP ro (owF st.ow) * (MPO rb obA st.ob * (own g * (F * tt))))))) h3 := asr (by ac_rfl) hh3
  rcases hv with ⟨h, _⟩ | ⟨_, hno, rfl, rfl⟩ | ⟨_, b, hb, hb2, hbest, rfl, hf, hl⟩
  · omega
  · repeat (with_reducible first | refine vP_so ?_ | refine vB_t ?_ | refine vB_f ?_ | refine vE_tt ?_ | refine vE_ff ?_ | refine vE_tf ?_ | refine vE_ft ?_ | refine vE_u ?_ | refine vP_to (by simp (disch := omega) only [gdW_true, gdW_false, gB_true, gB_false, gB_undef, pickV_true, pickV_false, Bool.not_true, Bool.not_false, Option.map_some, bin_add, bin_sub, bin_mul, bin_quo, bin_rem, lss_t, lss_f, leq_t, leq_f, gtr_t, gtr_f, geq_t, geq_f, eqi_t, eqi_f, nei_t, nei_f, rem_uw, conv_ui, conv_iu, conv_ii, not_bool, nil_ptr, fa_mk, ptrV, len_mk, cap_mk, eq_ptr_nil, ne_ptr_nil, eq_nil_nil, ne_nil_nil, eq_slice_nil, eq_nil_slice, ia_1, exV0, exV1]; exact so_so) ?_)
    exact hfull h3 hk hno (AR_intro hh3)
  have hbm := WFf_mem ok.wf (by omega) b hb
  have hn := ok.n
  repeat (with_reducible first | refine vP_so ?_ | refine vB_t ?_ | refine vB_f ?_ | refine vE_tt ?_ | refine vE_ff ?_ | refine vE_tf ?_ | refine vE_ft ?_ | refine vE_u ?_ | refine vP_to (by simp (disch := omega) only [gdW_true, gdW_false, gB_true, gB_false, gB_undef, pickV_true, pickV_false, Bool.not_true, Bool.not_false, Option.map_some, bin_add, bin_sub, bin_mul, bin_quo, bin_rem, lss_t, lss_f, leq_t, leq_f, gtr_t, gtr_f, geq_t, geq_f, eqi_t, eqi_f, nei_t, nei_f, rem_uw, conv_ui, conv_iu, conv_ii, not_bool, nil_ptr, fa_mk, ptrV, len_mk, cap_mk, eq_ptr_nil, ne_ptr_nil, eq_nil_nil, ne_nil_nil, eq_slice_nil, eq_nil_slice, ia_1, exV0, exV1]; exact so_so) ?_)
  refine ⟨fun m zs h' => ∃ j : Nat, zs = [.int .i64 j] ∧ m = N - j ∧ j ≤ N ∧ (∀ i : Int, 0 ≤ i → i < j → st.sp i ≠ none) ∧ h' = h3, ⟨_, 0, rfl, rfl, by omega, fun i h1 h2 => by omega, rfl⟩, ?_⟩
  rintro m v8 h4 ⟨j, hzs, rfl, hj, hlow, rfl⟩ _
  obtain rfl : v8 = .int .i64 j := by simpa using hzs
  have l3 := ar_ld hh3
  have hm3 : (MPO rs spA st.sp * (pt a (.cells #[pv ap, .map (some rs), .map (some ro), .map (some rb), .int .i64 st.live] 63 (0, 0)) * (PG ap st.n l' * (MP ro (owF st.ow) * (MPO rb obA st.ob * (own g * (F * tt))))))) h4 := asr (by ac_rfl) hh3
  obtain ⟨k1, k2⟩ := sp_look (id := (j : Int)) hm3
  cases hsp : st.sp (j : Int) with
  | some s =>
    obtain ⟨p, hlk⟩ := k2 s hsp
    have hjN := (ok.sp _ s hsp).2.1
    repeat (with_reducible first | refine vP_so ?_ | refine vB_t ?_ | refine vB_f ?_ | refine vE_tt ?_ | refine vE_ff ?_ | refine vE_tf ?_ | refine vE_ft ?_ | refine vE_u ?_ | refine vP_to (by simp (disch := omega) only [gdW_true, gdW_false, gB_true, gB_false, gB_undef, pickV_true, pickV_false, Bool.not_true, Bool.not_false, Option.map_some, bin_add, bin_sub, bin_mul, bin_quo, bin_rem, lss_t, lss_f, leq_t, leq_f, gtr_t, gtr_f, geq_t, geq_f, eqi_t, eqi_f, nei_t, nei_f, rem_uw, conv_ui, conv_iu, conv_ii, not_bool, nil_ptr, fa_mk, ptrV, len_mk, cap_mk, eq_ptr_nil, ne_ptr_nil, eq_nil_nil, ne_nil_nil, eq_slice_nil, eq_nil_slice, ia_1, l3.2.1, hlk, nilP']; exact so_so) ?_)
    refine ⟨N - (j + 1), by omega, j + 1, by simp, rfl, by omega, fun i h1 h2 => ?_, rfl⟩
    by_cases hij : i = j
    · rw [hij, hsp]; simp
    · exact hlow i h1 (by omega)
  | none =>
    have hlk := k1 hsp
    repeat (with_reducible first | refine vP_so ?_ | refine vB_t ?_ | refine vB_f ?_ | refine vE_tt ?_ | refine vE_ff ?_ | refine vE_tf ?_ | refine vE_ft ?_ | refine vE_u ?_ | refine vP_to (by simp (disch := omega) only [gdW_true, gdW_false, gB_true, gB_false, gB_undef, pickV_true, pickV_false, Bool.not_true, Bool.not_false, Option.map_some, bin_add, bin_sub, bin_mul, bin_quo, bin_rem, lss_t, lss_f, leq_t, leq_f, gtr_t, gtr_f, geq_t, geq_f, eqi_t, eqi_f, nei_t, nei_f, rem_uw, conv_ui, conv_iu, conv_ii, not_bool, nil_ptr, fa_mk, ptrV, len_mk, cap_mk, eq_ptr_nil, ne_ptr_nil, eq_nil_nil, ne_nil_nil, eq_slice_nil, eq_nil_slice, ia_1, l3.2.1, hlk, nnil_pp]; exact so_so) ?_)
    refine use_snew (first := b.1) hk (by omega) (F := pt a (.cells #[pv ap, .map (some rs), .map (some ro), .map (some rb), .int .i64 st.live] 63 (0, 0)) * (PG ap st.n l' * (MPO rs spA st.sp * (MP ro (owF st.ow) * (MPO rb obA st.ob * (own g * F)))))) (asr (by ac_rfl) hh3) fun p h5 hh5 => ?_
    have hh5 : (pt a (.cells #[pv ap, .map (some rs), .map (some ro), .map (some rb), .int .i64 st.live] 63 (0, 0)) * (MPO rs spA st.sp * (SPN p (newSp b.1 k) * (PG ap st.n l' * (MP ro (owF st.ow) * (MPO rb obA st.ob * (own g * (F * tt)))))))) h5 := asr (by ac_rfl) hh5
    refine ⟨(ar_ld hh5).2.1, ?_⟩
    repeat (with_reducible first | refine vP_so ?_ | refine vB_t ?_ | refine vB_f ?_ | refine vE_tt ?_ | refine vE_ff ?_ | refine vE_tf ?_ | refine vE_ft ?_ | refine vE_u ?_ | refine vP_to (by simp (disch := omega) only [gdW_true, gdW_false, gB_true, gB_false, gB_undef, pickV_true, pickV_false, Bool.not_true, Bool.not_false, Option.map_some, bin_add, bin_sub, bin_mul, bin_quo, bin_rem, lss_t, lss_f, leq_t, leq_f, gtr_t, gtr_f, geq_t, geq_f, eqi_t, eqi_f, nei_t, nei_f, rem_uw, conv_ui, conv_iu, conv_ii, not_bool, nil_ptr, fa_mk, ptrV, len_mk, cap_mk, eq_ptr_nil, ne_ptr_nil, eq_nil_nil, ne_nil_nil, eq_slice_nil, eq_nil_slice, ia_1, exT0, exT1]; exact so_so) ?_)
    obtain ⟨f, H, e1, _, hq, _, c2⟩ := MPO_none hsp (show (MPO rs spA st.sp * (pt a (.cells #[pv ap, .map (some rs), .map (some ro), .map (some rb), .int .i64 st.live] 63 (0, 0)) * (SPN p (newSp b.1 k) * (PG ap st.n l' * (MP ro (owF st.ow) * (MPO rb obA st.ob * (own g * (F * tt)))))))) h5 from asr (by ac_rfl) hh5)
    refine mu_MP (v := pB p) mapSp intU hq fun h6 hh6 => ?_
    have hh6 : (spA (newSp b.1 k) (pB p) * (MP rs (fun x => if x = (j : Int) then some (pB p) else f x) * (H * (pt a (.cells #[pv ap, .map (some rs), .map (some ro), .map (some rb), .int .i64 st.live] 63 (0, 0)) * (PG ap st.n l' * (MP ro (owF st.ow) * (MPO rb obA st.ob * (own g * (F * tt)))))))) ) h6 := ex_star.2 ⟨p, by rw [star_assoc, pr_star]; exact ⟨rfl, asr (by ac_rfl) hh6⟩⟩
    have hh6 := c2 (pt a (.cells #[pv ap, .map (some rs), .map (some ro), .map (some rb), .int .i64 st.live] 63 (0, 0)) * (PG ap st.n l' * (MP ro (owF st.ow) * (MPO rb obA st.ob * (own g * (F * tt)))))) (newSp b.1 k) (pB p) h6 (asr (by ac_rfl) hh6)
    have hh6 : (pt a (.cells #[pv ap, .map (some rs), .map (some ro), .map (some rb), .int .i64 st.live] 63 (0, 0)) * (MPO rs spA (fput st.sp j (newSp b.1 k)) * (PG ap st.n l' * (MP ro (owF st.ow) * (MPO rb obA st.ob * (own g * F)))) * tt)) h6 := asr (by ac_rfl) hh6
    refine use_pages hk (F := pt a (.cells #[pv ap, .map (some rs), .map (some ro), .map (some rb), .int .i64 st.live] 63 (0, 0)) * (MPO rs spA (fput st.sp j (newSp b.1 k)) * (PG ap st.n l' * (MP ro (owF st.ow) * (MPO rb obA st.ob * (own g * F)))))) (asr (by ac_rfl) hh6) fun h7 hh7 => ?_
    obtain ⟨np, hnp⟩ : ∃ np : Nat, pgS k = np := ⟨(pgS k).toNat, by omega⟩
    rw [hnp]
    refine ⟨fun m zs h' => ∃ i : Nat, zs = [.int .i64 i] ∧ m = np - i ∧ i ≤ np ∧ (pt a (.cells #[pv ap, .map (some rs), .map (some ro), .map (some rb), .int .i64 st.live] 63 (0, 0)) * (MP ro (owF (owPut st.ow b.1 i j)) * (MPO rs spA (fput st.sp j (newSp b.1 k)) * (PG ap st.n l' * (MPO rb obA st.ob * (own g * (F * tt))))))) h', ⟨_, 0, rfl, rfl, by omega, ?_⟩, ?_⟩
    · rw [owPut_zero]; exact asr (by ac_rfl) hh7
    rintro m v52 h8 ⟨i, hzs, rfl, hi, hh8⟩ _
    obtain rfl : v52 = .int .i64 i := by simpa using hzs
    by_cases hin : i < np
    · repeat (with_reducible first | refine vP_so ?_ | refine vB_t ?_ | refine vB_f ?_ | refine vE_tt ?_ | refine vE_ff ?_ | refine vE_tf ?_ | refine vE_ft ?_ | refine vE_u ?_ | refine vP_to (by simp (disch := omega) only [gdW_true, gdW_false, gB_true, gB_false, gB_undef, pickV_true, pickV_false, Bool.not_true, Bool.not_false, Option.map_some, bin_add, bin_sub, bin_mul, bin_quo, bin_rem, lss_t, lss_f, leq_t, leq_f, gtr_t, gtr_f, geq_t, geq_f, eqi_t, eqi_f, nei_t, nei_f, rem_uw, conv_ui, conv_iu, conv_ii, not_bool, nil_ptr, fa_mk, ptrV, len_mk, cap_mk, eq_ptr_nil, ne_ptr_nil, eq_nil_nil, ne_nil_nil, eq_slice_nil, eq_nil_slice, ia_1, (ar_ld hh8).2.2.1]; exact so_so) ?_)
      refine mu_MP (k := b.1 + (i : Int)) (v := .int .i64 (j : Int)) mapII intU (show (MP ro (owF (owPut st.ow b.1 i j)) * (pt a (.cells #[pv ap, .map (some rs), .map (some ro), .map (some rb), .int .i64 st.live] 63 (0, 0)) * (MPO rs spA (fput st.sp j (newSp b.1 k)) * (PG ap st.n l' * (MPO rb obA st.ob * (own g * (F * tt))))))) h8 from asr (by ac_rfl) hh8) fun h9 hh9 => ?_
      rw [owPut_step] at hh9
      repeat (with_reducible first | refine vP_so ?_ | refine vB_t ?_ | refine vB_f ?_ | refine vE_tt ?_ | refine vE_ff ?_ | refine vE_tf ?_ | refine vE_ft ?_ | refine vE_u ?_ | refine vP_to (by simp (disch := omega) only [gdW_true, gdW_false, gB_true, gB_false, gB_undef, pickV_true, pickV_false, Bool.not_true, Bool.not_false, Option.map_some, bin_add, bin_sub, bin_mul, bin_quo, bin_rem, lss_t, lss_f, leq_t, leq_f, gtr_t, gtr_f, geq_t, geq_f, eqi_t, eqi_f, nei_t, nei_f, rem_uw, conv_ui, conv_iu, conv_ii, not_bool, nil_ptr, fa_mk, ptrV, len_mk, cap_mk, eq_ptr_nil, ne_ptr_nil, eq_nil_nil, ne_nil_nil, eq_slice_nil, eq_nil_slice, ia_1]; exact so_so) ?_)
      exact ⟨np - (i + 1), by omega, i + 1, by simp, rfl, by omega, asr (by ac_rfl) hh9⟩
    · obtain rfl : i = np := by omega
      repeat (with_reducible first | refine vP_so ?_ | refine vB_t ?_ | refine vB_f ?_ | refine vE_tt ?_ | refine vE_ff ?_ | refine vE_tf ?_ | refine vE_ft ?_ | refine vE_u ?_ | refine vP_to (by simp (disch := omega) only [gdW_true, gdW_false, gB_true, gB_false, gB_undef, pickV_true, pickV_false, Bool.not_true, Bool.not_false, Option.map_some, bin_add, bin_sub, bin_mul, bin_quo, bin_rem, lss_t, lss_f, leq_t, leq_f, gtr_t, gtr_f, geq_t, geq_f, eqi_t, eqi_f, nei_t, nei_f, rem_uw, conv_ui, conv_iu, conv_ii, not_bool, nil_ptr, fa_mk, ptrV, len_mk, cap_mk, eq_ptr_nil, ne_ptr_nil, eq_nil_nil, ne_nil_nil, eq_slice_nil, eq_nil_slice, ia_1]; exact so_so) ?_)
      rw [← hnp] at hh8
      refine hK ⟨st.n, l', fput st.sp j (newSp b.1 k), owPut st.ow b.1 (pgS k) j, st.ob, st.live⟩ j b h8 hk ⟨hb, hb2, hbest, ⟨by omega, hsp, hlow⟩, rfl, hf, hl, hw', rfl, rfl, rfl, rfl⟩ ?_
      exact AR_intro (st := ⟨st.n, l', fput st.sp j (newSp b.1 k), owPut st.ow b.1 (pgS k) j, st.ob, st.live⟩) (asr (by ac_rfl) hh8)
theorem owDel_step {ow : Int → Option Int} {first : Int} (i : Nat) : (fun x => if x = first + (i : Int) then none else owF (owDel ow first i) x) = owF (owDel ow first ((i + 1 : Nat) : Int)) := by
  funext x
  unfold owF owDel
  by_cases hx : x = first + (i : Int)
  · rw [if_pos hx, if_pos (by omega)]; rfl
  · rw [if_neg hx]
    by_cases h1 : first ≤ x ∧ x < first + (i : Int)
    · rw [if_pos h1, if_pos (by omega)]
    · rw [if_neg h1, if_neg (by omega)]
theorem owDel_zero {ow : Int → Option Int} {first : Int} : owDel ow first ((0 : Nat) : Int) = ow := by
  funext x
  unfold owDel
  rw [if_neg (by omega)]
set_option maxHeartbeats 1000000 in
theorem use_adrop {g : Hp} {a : Nat} {st : Ar} {N : Nat} {id : Int} (ok : AOk st N) {F : Asrt} {K : Value → Hp → Prop} {h : Hp} (hh : (AR a st * (own g * (F * tt))) h)
    (hnone : st.sp id = none → K (.int .i64 4) h)
    (hbusy : ∀ s, st.sp id = some s → 0 < s.used.count true → K (.int .i64 5) h)
    (hK : ∀ s st' h', st.sp id = some s → s.used.count true = 0 → DropR st id s st' → (AR a st' * (own g * (F * tt))) h' → K (.int .i64 0) h') : CallH Tryz.prog 13 #[pB a, .int .i64 id] K h := by
  refine C13 ?_
  unfold D13
  obtain ⟨ap, rs, ro, rb, hp⟩ := AR_elim hh
  have l1 := ar_ld hp
  have hm : (MPO rs spA st.sp * (pt a (.cells #[pv ap, .map (some rs), .map (some ro), .map (some rb), .int .i64 st.live] 63 (0, 0)) * (PG ap st.n st.runs * (MP ro (owF st.ow) * (MPO rb obA st.ob * (own g * (F * tt))))))) h := asr (by ac_rfl) hp
  cases hs : st.sp id with
  | none =>
    have hlk := (sp_look (id := id) hm).1 hs
    repeat (with_reducible first | refine vP_so ?_ | refine vB_t ?_ | refine vB_f ?_ | refine vE_tt ?_ | refine vE_ff ?_ | refine vE_tf ?_ | refine vE_ft ?_ | refine vE_u ?_ | refine vP_to (by simp (disch := omega) only [gdW_true, gdW_false, gB_true, gB_false, gB_undef, pickV_true, pickV_false, Bool.not_true, Bool.not_false, Option.map_some, bin_add, bin_sub, bin_mul, bin_quo, bin_rem, lss_t, lss_f, leq_t, leq_f, gtr_t, gtr_f, geq_t, geq_f, eqi_t, eqi_f, nei_t, nei_f, rem_uw, conv_ui, conv_iu, conv_ii, not_bool, nil_ptr, fa_mk, ptrV, len_mk, cap_mk, eq_ptr_nil, ne_ptr_nil, eq_nil_nil, ne_nil_nil, eq_slice_nil, eq_nil_slice, ia_1, nilP, l1.2.1, hlk, nil_pp]; exact so_so) ?_)
    exact hnone hs
  | some s =>
    obtain ⟨p, f, H, e1, hq, c1, c2⟩ := sp_get hs hm
    have hlk := (lk_MP (k := id) mapSp intU zPSpan hq).1
    rw [e1] at hlk
    have hlk : lkV Tryz.prog 60 (.map (some rs)) (.int .i64 id) false h = some (pB p) := hlk
    have hq : (SPN p s * (MP rs f * (H * (pt a (.cells #[pv ap, .map (some rs), .map (some ro), .map (some rb), .int .i64 st.live] 63 (0, 0)) * (PG ap st.n st.runs * (MP ro (owF st.ow) * (MPO rb obA st.ob * (own g * (F * tt))))))))) h := asr (by ac_rfl) hq
    have hok := (ok.sp id s hs)
    have ho := hok.2.2.1
    have hpg := pgS_pos ho.cls
    have hf := ho.first
    repeat (with_reducible first | refine vP_so ?_ | refine vB_t ?_ | refine vB_f ?_ | refine vE_tt ?_ | refine vE_ff ?_ | refine vE_tf ?_ | refine vE_ft ?_ | refine vE_u ?_ | refine vP_to (by simp (disch := omega) only [gdW_true, gdW_false, gB_true, gB_false, gB_undef, pickV_true, pickV_false, Bool.not_true, Bool.not_false, Option.map_some, bin_add, bin_sub, bin_mul, bin_quo, bin_rem, lss_t, lss_f, leq_t, leq_f, gtr_t, gtr_f, geq_t, geq_f, eqi_t, eqi_f, nei_t, nei_f, rem_uw, conv_ui, conv_iu, conv_ii, not_bool, nil_ptr, fa_mk, ptrV, len_mk, cap_mk, eq_ptr_nil, ne_ptr_nil, eq_nil_nil, ne_nil_nil, eq_slice_nil, eq_nil_slice, ia_1, nilP, l1.2.1, hlk]; exact so_so) ?_)
    refine use_slive hq ?_
    by_cases hc : 0 < s.used.count true
    · repeat (with_reducible first | refine vP_so ?_ | refine vB_t ?_ | refine vB_f ?_ | refine vE_tt ?_ | refine vE_ff ?_ | refine vE_tf ?_ | refine vE_ft ?_ | refine vE_u ?_ | refine vP_to (by simp (disch := omega) only [gdW_true, gdW_false, gB_true, gB_false, gB_undef, pickV_true, pickV_false, Bool.not_true, Bool.not_false, Option.map_some, bin_add, bin_sub, bin_mul, bin_quo, bin_rem, lss_t, lss_f, leq_t, leq_f, gtr_t, gtr_f, geq_t, geq_f, eqi_t, eqi_f, nei_t, nei_f, rem_uw, conv_ui, conv_iu, conv_ii, not_bool, nil_ptr, fa_mk, ptrV, len_mk, cap_mk, eq_ptr_nil, ne_ptr_nil, eq_nil_nil, ne_nil_nil, eq_slice_nil, eq_nil_slice, ia_1]; exact so_so) ?_)
      exact hbusy s hs hc
    have hc0 : s.used.count true = 0 := by omega
    rw [hc0]
    repeat (with_reducible first | refine vP_so ?_ | refine vB_t ?_ | refine vB_f ?_ | refine vE_tt ?_ | refine vE_ff ?_ | refine vE_tf ?_ | refine vE_ft ?_ | refine vE_u ?_ | refine vP_to (by simp (disch := omega) only [gdW_true, gdW_false, gB_true, gB_false, gB_undef, pickV_true, pickV_false, Bool.not_true, Bool.not_false, Option.map_some, bin_add, bin_sub, bin_mul, bin_quo, bin_rem, lss_t, lss_f, leq_t, leq_f, gtr_t, gtr_f, geq_t, geq_f, eqi_t, eqi_f, nei_t, nei_f, rem_uw, conv_ui, conv_iu, conv_ii, not_bool, nil_ptr, fa_mk, ptrV, len_mk, cap_mk, eq_ptr_nil, ne_ptr_nil, eq_nil_nil, ne_nil_nil, eq_slice_nil, eq_nil_slice, ia_1, l1.2.1, hlk]; exact so_so) ?_)
    refine use_sbase ho hq ?_
    have e64 : s.first * 64 / 64 = s.first := by omega
    repeat (with_reducible first | refine vP_so ?_ | refine vB_t ?_ | refine vB_f ?_ | refine vE_tt ?_ | refine vE_ff ?_ | refine vE_tf ?_ | refine vE_ft ?_ | refine vE_u ?_ | refine vP_to (by simp (disch := omega) only [gdW_true, gdW_false, gB_true, gB_false, gB_undef, pickV_true, pickV_false, Bool.not_true, Bool.not_false, Option.map_some, bin_add, bin_sub, bin_mul, bin_quo, bin_rem, lss_t, lss_f, leq_t, leq_f, gtr_t, gtr_f, geq_t, geq_f, eqi_t, eqi_f, nei_t, nei_f, rem_uw, conv_ui, conv_iu, conv_ii, not_bool, nil_ptr, fa_mk, ptrV, len_mk, cap_mk, eq_ptr_nil, ne_ptr_nil, eq_nil_nil, ne_nil_nil, eq_slice_nil, eq_nil_slice, ia_1, e64]; exact so_so) ?_)
    refine use_sclass hq ?_
    refine use_pages ho.cls (F := SPN p s * (MP rs f * (H * (pt a (.cells #[pv ap, .map (some rs), .map (some ro), .map (some rb), .int .i64 st.live] 63 (0, 0)) * (PG ap st.n st.runs * (MP ro (owF st.ow) * (MPO rb obA st.ob * (own g * F)))))))) (asr (by ac_rfl) hq) fun h4 hh4 => ?_
    obtain ⟨np, hnp⟩ : ∃ np : Nat, pgS s.cls = np := ⟨(pgS s.cls).toNat, by omega⟩
    rw [hnp]
    refine ⟨fun m zs h' => ∃ i : Nat, zs = [.int .i64 i] ∧ m = np - i ∧ i ≤ np ∧ (pt a (.cells #[pv ap, .map (some rs), .map (some ro), .map (some rb), .int .i64 st.live] 63 (0, 0)) * (MP ro (owF (owDel st.ow s.first i)) * (MP rs f * (SPN p s * (H * (PG ap st.n st.runs * (MPO rb obA st.ob * (own g * (F * tt))))))))) h', ⟨_, 0, rfl, rfl, by omega, ?_⟩, ?_⟩
    · rw [owDel_zero]; exact asr (by ac_rfl) hh4
    rintro m v52 h5 ⟨i, hzs, rfl, hi, hh5⟩ _
    obtain rfl : v52 = .int .i64 i := by simpa using hzs
    by_cases hin : i < np
    · repeat (with_reducible first | refine vP_so ?_ | refine vB_t ?_ | refine vB_f ?_ | refine vE_tt ?_ | refine vE_ff ?_ | refine vE_tf ?_ | refine vE_ft ?_ | refine vE_u ?_ | refine vP_to (by simp (disch := omega) only [gdW_true, gdW_false, gB_true, gB_false, gB_undef, pickV_true, pickV_false, Bool.not_true, Bool.not_false, Option.map_some, bin_add, bin_sub, bin_mul, bin_quo, bin_rem, lss_t, lss_f, leq_t, leq_f, gtr_t, gtr_f, geq_t, geq_f, eqi_t, eqi_f, nei_t, nei_f, rem_uw, conv_ui, conv_iu, conv_ii, not_bool, nil_ptr, fa_mk, ptrV, len_mk, cap_mk, eq_ptr_nil, ne_ptr_nil, eq_nil_nil, ne_nil_nil, eq_slice_nil, eq_nil_slice, ia_1, (ar_ld hh5).2.2.1]; exact so_so) ?_)
      refine dl_MP (k := s.first + (i : Int)) rfl mapII intU (show (MP ro (owF (owDel st.ow s.first i)) * (pt a (.cells #[pv ap, .map (some rs), .map (some ro), .map (some rb), .int .i64 st.live] 63 (0, 0)) * (MP rs f * (SPN p s * (H * (PG ap st.n st.runs * (MPO rb obA st.ob * (own g * (F * tt))))))))) h5 from asr (by ac_rfl) hh5) fun h6 hh6 => ?_
      rw [owDel_step] at hh6
      repeat (with_reducible first | refine vP_so ?_ | refine vB_t ?_ | refine vB_f ?_ | refine vE_tt ?_ | refine vE_ff ?_ | refine vE_tf ?_ | refine vE_ft ?_ | refine vE_u ?_ | refine vP_to (by simp (disch := omega) only [gdW_true, gdW_false, gB_true, gB_false, gB_undef, pickV_true, pickV_false, Bool.not_true, Bool.not_false, Option.map_some, bin_add, bin_sub, bin_mul, bin_quo, bin_rem, lss_t, lss_f, leq_t, leq_f, gtr_t, gtr_f, geq_t, geq_f, eqi_t, eqi_f, nei_t, nei_f, rem_uw, conv_ui, conv_iu, conv_ii, not_bool, nil_ptr, fa_mk, ptrV, len_mk, cap_mk, eq_ptr_nil, ne_ptr_nil, eq_nil_nil, ne_nil_nil, eq_slice_nil, eq_nil_slice, ia_1]; exact so_so) ?_)
      exact ⟨np - (i + 1), by omega, i + 1, by simp, rfl, by omega, asr (by ac_rfl) hh6⟩
    · obtain rfl : i = np := by omega
      repeat (with_reducible first | refine vP_so ?_ | refine vB_t ?_ | refine vB_f ?_ | refine vE_tt ?_ | refine vE_ff ?_ | refine vE_tf ?_ | refine vE_ft ?_ | refine vE_u ?_ | refine vP_to (by simp (disch := omega) only [gdW_true, gdW_false, gB_true, gB_false, gB_undef, pickV_true, pickV_false, Bool.not_true, Bool.not_false, Option.map_some, bin_add, bin_sub, bin_mul, bin_quo, bin_rem, lss_t, lss_f, leq_t, leq_f, gtr_t, gtr_f, geq_t, geq_f, eqi_t, eqi_f, nei_t, nei_f, rem_uw, conv_ui, conv_iu, conv_ii, not_bool, nil_ptr, fa_mk, ptrV, len_mk, cap_mk, eq_ptr_nil, ne_ptr_nil, eq_nil_nil, ne_nil_nil, eq_slice_nil, eq_nil_slice, ia_1, (ar_ld hh5).2.1]; exact so_so) ?_)
      refine dl_MP (k := id) rfl mapSp intU (show (MP rs f * (pt a (.cells #[pv ap, .map (some rs), .map (some ro), .map (some rb), .int .i64 st.live] 63 (0, 0)) * (MP ro (owF (owDel st.ow s.first i)) * (SPN p s * (H * (PG ap st.n st.runs * (MPO rb obA st.ob * (own g * (F * tt))))))))) h5 from asr (by ac_rfl) hh5) fun h6 hh6 => ?_
      have hh6 : (MP rs (fun x => if x = id then none else f x) * (H * (pt a (.cells #[pv ap, .map (some rs), .map (some ro), .map (some rb), .int .i64 st.live] 63 (0, 0)) * (MP ro (owF (owDel st.ow s.first i)) * (PG ap st.n st.runs * (MPO rb obA st.ob * (own g * (F * tt)))))))) h6 := dropL (P := SPN p s) (Q := MP rs (fun x => if x = id then none else f x) * (H * (pt a (.cells #[pv ap, .map (some rs), .map (some ro), .map (some rb), .int .i64 st.live] 63 (0, 0)) * (MP ro (owF (owDel st.ow s.first i)) * (PG ap st.n st.runs * (MPO rb obA st.ob * (own g * F))))))) (asr (by ac_rfl) hh6) |> asr (by ac_rfl)
      have hh6 := c2 _ h6 hh6
      have hh6 : (PG ap st.n st.runs * (MPO rs spA (fdel st.sp id) * (pt a (.cells #[pv ap, .map (some rs), .map (some ro), .map (some rb), .int .i64 st.live] 63 (0, 0)) * (MP ro (owF (owDel st.ow s.first i)) * (MPO rb obA st.ob * (own g * (F * tt))))))) h6 := asr (by ac_rfl) hh6
      have l6 := ar_ld (show (pt a (.cells #[pv ap, .map (some rs), .map (some ro), .map (some rb), .int .i64 st.live] 63 (0, 0)) * (PG ap st.n st.runs * (MPO rs spA (fdel st.sp id) * (MP ro (owF (owDel st.ow s.first i)) * (MPO rb obA st.ob * (own g * (F * tt))))))) h6 from asr (by ac_rfl) hh6)
      repeat (with_reducible first | refine vP_so ?_ | refine vB_t ?_ | refine vB_f ?_ | refine vE_tt ?_ | refine vE_ff ?_ | refine vE_tf ?_ | refine vE_ft ?_ | refine vE_u ?_ | refine vP_to (by simp (disch := omega) only [gdW_true, gdW_false, gB_true, gB_false, gB_undef, pickV_true, pickV_false, Bool.not_true, Bool.not_false, Option.map_some, bin_add, bin_sub, bin_mul, bin_quo, bin_rem, lss_t, lss_f, leq_t, leq_f, gtr_t, gtr_f, geq_t, geq_f, eqi_t, eqi_f, nei_t, nei_f, rem_uw, conv_ui, conv_iu, conv_ii, not_bool, nil_ptr, fa_mk, ptrV, len_mk, cap_mk, eq_ptr_nil, ne_ptr_nil, eq_nil_nil, ne_nil_nil, eq_slice_nil, eq_nil_slice, ia_1, l6.1]; exact so_so) ?_)
      rw [← hnp]
      refine use_free (first := s.first) (k := pgS s.cls) ok.wf ⟨by omega, by have := ok.n; omega⟩ (by omega) hh6 fun v l' h7 hv hw' hh7 => ?_
      have hn := ok.n
      rcases hv with ⟨hb, _⟩ | ⟨_, ⟨x, x1, x2, x3⟩, _⟩ | ⟨_, _, rfl, hfr, hl⟩
      · exfalso; unfold badF at hb; omega
      · exact ((ok.pg id s x hs x1 x2).1 x3).elim
      rw [← hnp] at hh7
      refine hK s ⟨st.n, l', fdel st.sp id, owDel st.ow s.first (pgS s.cls), st.ob, st.live⟩ h7 hs hc0 ⟨rfl, hfr, hl, hw', rfl, rfl, rfl, rfl⟩ ?_
      exact AR_intro (st := ⟨st.n, l', fdel st.sp id, owDel st.ow s.first (pgS s.cls), st.ob, st.live⟩) (asr (by ac_rfl) hh7)
end Go.Proofs
