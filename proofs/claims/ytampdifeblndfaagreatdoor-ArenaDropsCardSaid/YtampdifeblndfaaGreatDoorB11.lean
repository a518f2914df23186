/-
  Texts of the proof, in one file: Ar3, Rp.
-/
import Derived.Test.YtampdifeblndfaaGreatDoorB10
import Derived.Test.YtampdifeblndfaaGreatDoorB8
import Derived.Test.YtampdifeblndfaaGreatDoorB9
set_option linter.unusedVariables false
set_option linter.unusedSimpArgs false
/-
  Contracts of package arena: Mark, Marked, Sweep, Live, Left, Full, Class.
-/
set_option maxRecDepth 100000
namespace Go.Proofs
open Go.Sl

theorem slot_ld {r : Nat} {x y : Int} {F : Asrt} {h : Hp} (hh : (pt r (.cells #[.int .i64 x, .int .i64 y] 38 (0, 0)) * F) h) :
    ld1 (.pointer (some ⟨r, 0 + 0, none⟩)) h = some (.int .i64 x) ∧ ld1 (.pointer (some ⟨r, 0 + 1, none⟩)) h = some (.int .i64 y) := ⟨ld1_mk (pt_get hh) rfl, ld1_mk (pt_get hh) rfl⟩

theorem use_amarked {g : Hp} {a : Nat} {st : Ar} {N : Nat} {x : Int} (ok : AOk st N) {F : Asrt} {K : Value → Hp → Prop} {h : Hp} (hh : (AR a st * (own g * (F * tt))) h)
    (hnone : ∀ h', st.ob x = none → (AR a st * (own g * (F * tt))) h' → K (.bool false) h')
    (hK : ∀ id s (i : Nat) h', st.sp id = some s → s.used[i]? = some true → x = s.addr i → (AR a st * (own g * (F * tt))) h' → K (.bool (hasB s.marks i)) h') : CallH Tryz.prog 28 #[pB a, .int .i64 x] K h := by
  refine C28 ?_
  unfold D28
  have drp : ∀ {r c h}, (pt r (.cells c 38 (0, 0)) * (AR a st * (own g * (F * tt)))) h → (AR a st * (own g * (F * tt))) h := fun {r c h} q => dropL (P := pt r (.cells c 38 (0, 0))) (Q := AR a st * (own g * F)) (asr (by ac_rfl) q) |> asr (by ac_rfl)
  refine use_afind ok hh (fun h1 e hh1 => ?_) (fun id s i l h1 e h3 h4 _ hh1 => ?_)
  · repeat (with_reducible first | refine vP_so ?_ | refine vB_t ?_ | refine vB_f ?_ | refine vE_tt ?_ | refine vE_ff ?_ | refine vE_tf ?_ | refine vE_ft ?_ | refine vE_u ?_ | refine vP_to (by simp (disch := omega) only [gdW_true, gdW_false, gB_true, gB_false, gB_undef, pickV_true, pickV_false, Bool.not_true, Bool.not_false, Option.map_some, bin_add, bin_sub, bin_mul, bin_quo, bin_rem, lss_t, lss_f, leq_t, leq_f, gtr_t, gtr_f, geq_t, geq_f, eqi_t, eqi_f, nei_t, nei_f, rem_uw, conv_ui, conv_iu, conv_ii, not_bool, nil_ptr, fa_mk, ptrV, len_mk, cap_mk, eq_ptr_nil, ne_ptr_nil, eq_nil_nil, ne_nil_nil, eq_slice_nil, eq_nil_slice, ia_1, exT0, exT1]; exact so_so) ?_)
    refine vA_new hh1 fun r h2 hh2 => ?_
    refine stN_mk (cs := #[.int .i64 0, .int .i64 0]) hh2 rfl rfl (by simp) fun h3 hh3 => ?_
    repeat (with_reducible first | refine vP_so ?_ | refine vB_t ?_ | refine vB_f ?_ | refine vE_tt ?_ | refine vE_ff ?_ | refine vE_tf ?_ | refine vE_ft ?_ | refine vE_u ?_ | refine vP_to (by simp (disch := omega) only [gdW_true, gdW_false, gB_true, gB_false, gB_undef, pickV_true, pickV_false, Bool.not_true, Bool.not_false, Option.map_some, bin_add, bin_sub, bin_mul, bin_quo, bin_rem, lss_t, lss_f, leq_t, leq_f, gtr_t, gtr_f, geq_t, geq_f, eqi_t, eqi_f, nei_t, nei_f, rem_uw, conv_ui, conv_iu, conv_ii, not_bool, nil_ptr, fa_mk, ptrV, len_mk, cap_mk, eq_ptr_nil, ne_ptr_nil, eq_nil_nil, ne_nil_nil, eq_slice_nil, eq_nil_slice, ia_1]; exact so_so) ?_)
    exact hnone h3 e (drp hh3)
  · repeat (with_reducible first | refine vP_so ?_ | refine vB_t ?_ | refine vB_f ?_ | refine vE_tt ?_ | refine vE_ff ?_ | refine vE_tf ?_ | refine vE_ft ?_ | refine vE_u ?_ | refine vP_to (by simp (disch := omega) only [gdW_true, gdW_false, gB_true, gB_false, gB_undef, pickV_true, pickV_false, Bool.not_true, Bool.not_false, Option.map_some, bin_add, bin_sub, bin_mul, bin_quo, bin_rem, lss_t, lss_f, leq_t, leq_f, gtr_t, gtr_f, geq_t, geq_f, eqi_t, eqi_f, nei_t, nei_f, rem_uw, conv_ui, conv_iu, conv_ii, not_bool, nil_ptr, fa_mk, ptrV, len_mk, cap_mk, eq_ptr_nil, ne_ptr_nil, eq_nil_nil, ne_nil_nil, eq_slice_nil, eq_nil_slice, ia_1, exT0, exT1]; exact so_so) ?_)
    refine vA_new hh1 fun r h2 hh2 => ?_
    refine stN_mk (cs := #[.int .i64 id, .int .i64 (i : Int)]) hh2 rfl rfl (by simp) fun h3' hh3 => ?_
    have hh3 : (pt r (.cells #[.int .i64 id, .int .i64 (i : Int)] 38 (0, 0)) * (AR a st * (own g * (F * tt)))) h3' := hh3
    have ls := slot_ld hh3
    obtain ⟨ap, rs, ro, rb, hp⟩ := AR_elim (show (AR a st * (pt r (.cells #[.int .i64 id, .int .i64 (i : Int)] 38 (0, 0)) * (own g * (F * tt)))) h3' from asr (by ac_rfl) hh3)
    have l1 := ar_ld hp
    obtain ⟨p, f2, H2, e2, hq2, c1, _⟩ := sp_get e (show (MPO rs spA st.sp * (pt a (.cells #[pv ap, .map (some rs), .map (some ro), .map (some rb), .int .i64 st.live] 63 (0, 0)) * (PG ap st.n st.runs * (MP ro (owF st.ow) * (MPO rb obA st.ob * (pt r (.cells #[.int .i64 id, .int .i64 (i : Int)] 38 (0, 0)) * (own g * (F * tt)))))))) h3' from asr (by ac_rfl) hp)
    have hlk2 := (lk_MP (k := id) mapSp intU zPSpan hq2).1
    rw [e2] at hlk2
    have hlk2 : lkV Tryz.prog 60 (.map (some rs)) (.int .i64 id) false h3' = some (pB p) := hlk2
    repeat (with_reducible first | refine vP_so ?_ | refine vB_t ?_ | refine vB_f ?_ | refine vE_tt ?_ | refine vE_ff ?_ | refine vE_tf ?_ | refine vE_ft ?_ | refine vE_u ?_ | refine vP_to (by simp (disch := omega) only [gdW_true, gdW_false, gB_true, gB_false, gB_undef, pickV_true, pickV_false, Bool.not_true, Bool.not_false, Option.map_some, bin_add, bin_sub, bin_mul, bin_quo, bin_rem, lss_t, lss_f, leq_t, leq_f, gtr_t, gtr_f, geq_t, geq_f, eqi_t, eqi_f, nei_t, nei_f, rem_uw, conv_ui, conv_iu, conv_ii, not_bool, nil_ptr, fa_mk, ptrV, len_mk, cap_mk, eq_ptr_nil, ne_ptr_nil, eq_nil_nil, ne_nil_nil, eq_slice_nil, eq_nil_slice, ia_1, l1.2.1, ls.1, ls.2, hlk2]; exact so_so) ?_)
    refine use_smarked (ok.sp id s e).2.2.1 (show (SPN p s * (MP rs f2 * (H2 * (pt a (.cells #[pv ap, .map (some rs), .map (some ro), .map (some rb), .int .i64 st.live] 63 (0, 0)) * (PG ap st.n st.runs * (MP ro (owF st.ow) * (MPO rb obA st.ob * (pt r (.cells #[.int .i64 id, .int .i64 (i : Int)] 38 (0, 0)) * (own g * (F * tt)))))))))) h3' from asr (by ac_rfl) hq2) ?_
    repeat (with_reducible first | refine vP_so ?_ | refine vB_t ?_ | refine vB_f ?_ | refine vE_tt ?_ | refine vE_ff ?_ | refine vE_tf ?_ | refine vE_ft ?_ | refine vE_u ?_ | refine vP_to (by simp (disch := omega) only [gdW_true, gdW_false, gB_true, gB_false, gB_undef, pickV_true, pickV_false, Bool.not_true, Bool.not_false, Option.map_some, bin_add, bin_sub, bin_mul, bin_quo, bin_rem, lss_t, lss_f, leq_t, leq_f, gtr_t, gtr_f, geq_t, geq_f, eqi_t, eqi_f, nei_t, nei_f, rem_uw, conv_ui, conv_iu, conv_ii, not_bool, nil_ptr, fa_mk, ptrV, len_mk, cap_mk, eq_ptr_nil, ne_ptr_nil, eq_nil_nil, ne_nil_nil, eq_slice_nil, eq_nil_slice, ia_1]; exact so_so) ?_)
    exact hK id s i h3' e h3 h4 (drp hh3)

theorem use_amark {g : Hp} {a : Nat} {st : Ar} {N : Nat} {x : Int} (ok : AOk st N) {F : Asrt} {K : Value → Hp → Prop} {h : Hp} (hh : (AR a st * (own g * (F * tt))) h)
    (hnone : ∀ h', st.ob x = none → (AR a st * (own g * (F * tt))) h' → K (.bool false) h')
    (hK : ∀ id s (i : Nat) h', st.sp id = some s → s.used[i]? = some true → x = s.addr i → (AR a { st with sp := fput st.sp id (s.mark i) } * (own g * (F * tt))) h' → K (.bool !(hasB s.marks i)) h') : CallH Tryz.prog 29 #[pB a, .int .i64 x] K h := by
  refine C29 ?_
  unfold D29
  refine use_afind ok hh (fun h1 e hh1 => ?_) (fun id s i l h1 e h3 h4 _ hh1 => ?_)
  · repeat (with_reducible first | refine vP_so ?_ | refine vB_t ?_ | refine vB_f ?_ | refine vE_tt ?_ | refine vE_ff ?_ | refine vE_tf ?_ | refine vE_ft ?_ | refine vE_u ?_ | refine vP_to (by simp (disch := omega) only [gdW_true, gdW_false, gB_true, gB_false, gB_undef, pickV_true, pickV_false, Bool.not_true, Bool.not_false, Option.map_some, bin_add, bin_sub, bin_mul, bin_quo, bin_rem, lss_t, lss_f, leq_t, leq_f, gtr_t, gtr_f, geq_t, geq_f, eqi_t, eqi_f, nei_t, nei_f, rem_uw, conv_ui, conv_iu, conv_ii, not_bool, nil_ptr, fa_mk, ptrV, len_mk, cap_mk, eq_ptr_nil, ne_ptr_nil, eq_nil_nil, ne_nil_nil, eq_slice_nil, eq_nil_slice, ia_1, exT0, exT1]; exact so_so) ?_)
    refine vA_new hh1 fun r h2 hh2 => ?_
    refine stN_mk (cs := #[.int .i64 0, .int .i64 0]) hh2 rfl rfl (by simp) fun h3 hh3 => ?_
    repeat (with_reducible first | refine vP_so ?_ | refine vB_t ?_ | refine vB_f ?_ | refine vE_tt ?_ | refine vE_ff ?_ | refine vE_tf ?_ | refine vE_ft ?_ | refine vE_u ?_ | refine vP_to (by simp (disch := omega) only [gdW_true, gdW_false, gB_true, gB_false, gB_undef, pickV_true, pickV_false, Bool.not_true, Bool.not_false, Option.map_some, bin_add, bin_sub, bin_mul, bin_quo, bin_rem, lss_t, lss_f, leq_t, leq_f, gtr_t, gtr_f, geq_t, geq_f, eqi_t, eqi_f, nei_t, nei_f, rem_uw, conv_ui, conv_iu, conv_ii, not_bool, nil_ptr, fa_mk, ptrV, len_mk, cap_mk, eq_ptr_nil, ne_ptr_nil, eq_nil_nil, ne_nil_nil, eq_slice_nil, eq_nil_slice, ia_1]; exact so_so) ?_)
    exact hnone h3 e (dropL (P := pt r _) (Q := AR a st * (own g * F)) (asr (by ac_rfl) hh3) |> asr (by ac_rfl))
  · repeat (with_reducible first | refine vP_so ?_ | refine vB_t ?_ | refine vB_f ?_ | refine vE_tt ?_ | refine vE_ff ?_ | refine vE_tf ?_ | refine vE_ft ?_ | refine vE_u ?_ | refine vP_to (by simp (disch := omega) only [gdW_true, gdW_false, gB_true, gB_false, gB_undef, pickV_true, pickV_false, Bool.not_true, Bool.not_false, Option.map_some, bin_add, bin_sub, bin_mul, bin_quo, bin_rem, lss_t, lss_f, leq_t, leq_f, gtr_t, gtr_f, geq_t, geq_f, eqi_t, eqi_f, nei_t, nei_f, rem_uw, conv_ui, conv_iu, conv_ii, not_bool, nil_ptr, fa_mk, ptrV, len_mk, cap_mk, eq_ptr_nil, ne_ptr_nil, eq_nil_nil, ne_nil_nil, eq_slice_nil, eq_nil_slice, ia_1, exT0, exT1]; exact so_so) ?_)
    refine vA_new hh1 fun r h2 hh2 => ?_
    refine stN_mk (cs := #[.int .i64 id, .int .i64 (i : Int)]) hh2 rfl rfl (by simp) fun h3' hh3 => ?_
    have hh3 : (pt r (.cells #[.int .i64 id, .int .i64 (i : Int)] 38 (0, 0)) * (AR a st * (own g * (F * tt)))) h3' := hh3
    have ls := slot_ld hh3
    obtain ⟨ap, rs, ro, rb, hp⟩ := AR_elim (show (AR a st * (pt r (.cells #[.int .i64 id, .int .i64 (i : Int)] 38 (0, 0)) * (own g * (F * tt)))) h3' from asr (by ac_rfl) hh3)
    have l1 := ar_ld hp
    obtain ⟨p, f2, H2, e2, hq2, c1, _⟩ := sp_get e (show (MPO rs spA st.sp * (pt a (.cells #[pv ap, .map (some rs), .map (some ro), .map (some rb), .int .i64 st.live] 63 (0, 0)) * (PG ap st.n st.runs * (MP ro (owF st.ow) * (MPO rb obA st.ob * (pt r (.cells #[.int .i64 id, .int .i64 (i : Int)] 38 (0, 0)) * (own g * (F * tt)))))))) h3' from asr (by ac_rfl) hp)
    have hlk2 := (lk_MP (k := id) mapSp intU zPSpan hq2).1
    rw [e2] at hlk2
    have hlk2 : lkV Tryz.prog 60 (.map (some rs)) (.int .i64 id) false h3' = some (pB p) := hlk2
    repeat (with_reducible first | refine vP_so ?_ | refine vB_t ?_ | refine vB_f ?_ | refine vE_tt ?_ | refine vE_ff ?_ | refine vE_tf ?_ | refine vE_ft ?_ | refine vE_u ?_ | refine vP_to (by simp (disch := omega) only [gdW_true, gdW_false, gB_true, gB_false, gB_undef, pickV_true, pickV_false, Bool.not_true, Bool.not_false, Option.map_some, bin_add, bin_sub, bin_mul, bin_quo, bin_rem, lss_t, lss_f, leq_t, leq_f, gtr_t, gtr_f, geq_t, geq_f, eqi_t, eqi_f, nei_t, nei_f, rem_uw, conv_ui, conv_iu, conv_ii, not_bool, nil_ptr, fa_mk, ptrV, len_mk, cap_mk, eq_ptr_nil, ne_ptr_nil, eq_nil_nil, ne_nil_nil, eq_slice_nil, eq_nil_slice, ia_1, l1.2.1, ls.1, ls.2, hlk2]; exact so_so) ?_)
    refine use_smark (ok.sp id s e).2.2.1 h3 (show (SPN p s * (MP rs f2 * (H2 * (pt a (.cells #[pv ap, .map (some rs), .map (some ro), .map (some rb), .int .i64 st.live] 63 (0, 0)) * (PG ap st.n st.runs * (MP ro (owF st.ow) * (MPO rb obA st.ob * (pt r (.cells #[.int .i64 id, .int .i64 (i : Int)] 38 (0, 0)) * (own g * (F * tt)))))))))) h3' from asr (by ac_rfl) hq2) fun h4' hh4 => ?_
    repeat (with_reducible first | refine vP_so ?_ | refine vB_t ?_ | refine vB_f ?_ | refine vE_tt ?_ | refine vE_ff ?_ | refine vE_tf ?_ | refine vE_ft ?_ | refine vE_u ?_ | refine vP_to (by simp (disch := omega) only [gdW_true, gdW_false, gB_true, gB_false, gB_undef, pickV_true, pickV_false, Bool.not_true, Bool.not_false, Option.map_some, bin_add, bin_sub, bin_mul, bin_quo, bin_rem, lss_t, lss_f, leq_t, leq_f, gtr_t, gtr_f, geq_t, geq_f, eqi_t, eqi_f, nei_t, nei_f, rem_uw, conv_ui, conv_iu, conv_ii, not_bool, nil_ptr, fa_mk, ptrV, len_mk, cap_mk, eq_ptr_nil, ne_ptr_nil, eq_nil_nil, ne_nil_nil, eq_slice_nil, eq_nil_slice, ia_1]; exact so_so) ?_)
    have hh4 := c1 (pt a (.cells #[pv ap, .map (some rs), .map (some ro), .map (some rb), .int .i64 st.live] 63 (0, 0)) * (PG ap st.n st.runs * (MP ro (owF st.ow) * (MPO rb obA st.ob * (pt r (.cells #[.int .i64 id, .int .i64 (i : Int)] 38 (0, 0)) * (own g * (F * tt))))))) (s.mark i) h4' (asr (by ac_rfl) hh4)
    have hh5 : (AR a { st with sp := fput st.sp id (s.mark i) } * (pt r (.cells #[.int .i64 id, .int .i64 (i : Int)] 38 (0, 0)) * (own g * (F * tt)))) h4' := AR_intro (ap := ap) (rs := rs) (ro := ro) (rb := rb) (st := { st with sp := fput st.sp id (s.mark i) }) (asr (by ac_rfl) hh4)
    exact hK id s i h4' e h3 h4 (dropL (P := pt r (.cells #[.int .i64 id, .int .i64 (i : Int)] 38 (0, 0))) (Q := AR a { st with sp := fput st.sp id (s.mark i) } * (own g * F)) (asr (by ac_rfl) hh5) |> asr (by ac_rfl))

theorem use_alive {g : Hp} {a : Nat} {st : Ar} {F : Asrt} {K : Value → Hp → Prop} {h : Hp} (hh : (AR a st * (own g * (F * tt))) h) (hK : K (.int .i64 st.live) h) : CallH Tryz.prog 19 #[pB a] K h := by
  refine C19 ?_
  unfold D19
  obtain ⟨ap, rs, ro, rb, hp⟩ := AR_elim hh
  have l1 := ar_ld hp
  repeat (with_reducible first | refine vP_so ?_ | refine vB_t ?_ | refine vB_f ?_ | refine vE_tt ?_ | refine vE_ff ?_ | refine vE_tf ?_ | refine vE_ft ?_ | refine vE_u ?_ | refine vP_to (by simp (disch := omega) only [gdW_true, gdW_false, gB_true, gB_false, gB_undef, pickV_true, pickV_false, Bool.not_true, Bool.not_false, Option.map_some, bin_add, bin_sub, bin_mul, bin_quo, bin_rem, lss_t, lss_f, leq_t, leq_f, gtr_t, gtr_f, geq_t, geq_f, eqi_t, eqi_f, nei_t, nei_f, rem_uw, conv_ui, conv_iu, conv_ii, not_bool, nil_ptr, fa_mk, ptrV, len_mk, cap_mk, eq_ptr_nil, ne_ptr_nil, eq_nil_nil, ne_nil_nil, eq_slice_nil, eq_nil_slice, ia_1, nilP, l1.2.2.2.2]; exact so_so) ?_)
  exact hK

theorem use_aleft {g : Hp} {a : Nat} {st : Ar} {N : Nat} (ok : AOk st N) {F : Asrt} {K : Value → Hp → Prop} {h : Hp} (hh : (AR a st * (own g * (F * tt))) h) (hK : ∀ h', (AR a st * (own g * (F * tt))) h' → K (.int .i64 (leftS st.runs)) h') : CallH Tryz.prog 11 #[pB a] K h := by
  refine C11 ?_
  unfold D11
  obtain ⟨ap, rs, ro, rb, hp⟩ := AR_elim hh
  have l1 := ar_ld hp
  repeat (with_reducible first | refine vP_so ?_ | refine vB_t ?_ | refine vB_f ?_ | refine vE_tt ?_ | refine vE_ff ?_ | refine vE_tf ?_ | refine vE_ft ?_ | refine vE_u ?_ | refine vP_to (by simp (disch := omega) only [gdW_true, gdW_false, gB_true, gB_false, gB_undef, pickV_true, pickV_false, Bool.not_true, Bool.not_false, Option.map_some, bin_add, bin_sub, bin_mul, bin_quo, bin_rem, lss_t, lss_f, leq_t, leq_f, gtr_t, gtr_f, geq_t, geq_f, eqi_t, eqi_f, nei_t, nei_f, rem_uw, conv_ui, conv_iu, conv_ii, not_bool, nil_ptr, fa_mk, ptrV, len_mk, cap_mk, eq_ptr_nil, ne_ptr_nil, eq_nil_nil, ne_nil_nil, eq_slice_nil, eq_nil_slice, ia_1, nilP, l1.1]; exact so_so) ?_)
  refine use_left (a := ap) ok.wf ⟨by omega, by have := ok.n; omega⟩ (F := pt a (.cells #[pv ap, .map (some rs), .map (some ro), .map (some rb), .int .i64 st.live] 63 (0, 0)) * (MPO rs spA st.sp * (MP ro (owF st.ow) * (MPO rb obA st.ob * (own g * (F * tt)))))) (asr (by ac_rfl) hp) fun h1 hh1 => ?_
  exact hK h1 (AR_intro (asr (by ac_rfl) hh1))

def fullV : Option Sp → Bool
  | none => true
  | some s => (ff s.used).isNone

theorem use_afull {g : Hp} (hg : TabG 0 g) {a : Nat} {st : Ar} {N : Nat} {id : Int} (ok : AOk st N) {F : Asrt} {K : Value → Hp → Prop} {h : Hp} (hh : (AR a st * (own g * (F * tt))) h) (hK : K (.bool (fullV (st.sp id))) h) : CallH Tryz.prog 10 #[pB a, .int .i64 id] K h := by
  refine C10 ?_
  unfold D10
  obtain ⟨ap, rs, ro, rb, hp⟩ := AR_elim hh
  have l1 := ar_ld hp
  have hm : (MPO rs spA st.sp * (pt a (.cells #[pv ap, .map (some rs), .map (some ro), .map (some rb), .int .i64 st.live] 63 (0, 0)) * (PG ap st.n st.runs * (MP ro (owF st.ow) * (MPO rb obA st.ob * (own g * (F * tt))))))) h := asr (by ac_rfl) hp
  cases hs : st.sp id with
  | none =>
    have hlk := (sp_look (id := id) hm).1 hs
    rw [hs] at hK
    repeat (with_reducible first | refine vP_so ?_ | refine vB_t ?_ | refine vB_f ?_ | refine vE_tt ?_ | refine vE_ff ?_ | refine vE_tf ?_ | refine vE_ft ?_ | refine vE_u ?_ | refine vP_to (by simp (disch := omega) only [gdW_true, gdW_false, gB_true, gB_false, gB_undef, pickV_true, pickV_false, Bool.not_true, Bool.not_false, Option.map_some, bin_add, bin_sub, bin_mul, bin_quo, bin_rem, lss_t, lss_f, leq_t, leq_f, gtr_t, gtr_f, geq_t, geq_f, eqi_t, eqi_f, nei_t, nei_f, rem_uw, conv_ui, conv_iu, conv_ii, not_bool, nil_ptr, fa_mk, ptrV, len_mk, cap_mk, eq_ptr_nil, ne_ptr_nil, eq_nil_nil, ne_nil_nil, eq_slice_nil, eq_nil_slice, ia_1, nilP, l1.2.1, hlk]; exact so_so) ?_)
    refine C37 ?_
    unfold D37
    repeat (with_reducible first | refine vP_so ?_ | refine vB_t ?_ | refine vB_f ?_ | refine vE_tt ?_ | refine vE_ff ?_ | refine vE_tf ?_ | refine vE_ft ?_ | refine vE_u ?_ | refine vP_to (by simp (disch := omega) only [gdW_true, gdW_false, gB_true, gB_false, gB_undef, pickV_true, pickV_false, Bool.not_true, Bool.not_false, Option.map_some, bin_add, bin_sub, bin_mul, bin_quo, bin_rem, lss_t, lss_f, leq_t, leq_f, gtr_t, gtr_f, geq_t, geq_f, eqi_t, eqi_f, nei_t, nei_f, rem_uw, conv_ui, conv_iu, conv_ii, not_bool, nil_ptr, fa_mk, ptrV, len_mk, cap_mk, eq_ptr_nil, ne_ptr_nil, eq_nil_nil, ne_nil_nil, eq_slice_nil, eq_nil_slice, ia_1, nil_pp]; exact so_so) ?_)
    exact hK
  | some s =>
    obtain ⟨p, f, H, e1, hq, _, _⟩ := sp_get hs hm
    have hlk := (lk_MP (k := id) mapSp intU zPSpan hq).1
    rw [e1] at hlk
    have hlk : lkV Tryz.prog 60 (.map (some rs)) (.int .i64 id) false h = some (pB p) := hlk
    rw [hs] at hK
    repeat (with_reducible first | refine vP_so ?_ | refine vB_t ?_ | refine vB_f ?_ | refine vE_tt ?_ | refine vE_ff ?_ | refine vE_tf ?_ | refine vE_ft ?_ | refine vE_u ?_ | refine vP_to (by simp (disch := omega) only [gdW_true, gdW_false, gB_true, gB_false, gB_undef, pickV_true, pickV_false, Bool.not_true, Bool.not_false, Option.map_some, bin_add, bin_sub, bin_mul, bin_quo, bin_rem, lss_t, lss_f, leq_t, leq_f, gtr_t, gtr_f, geq_t, geq_f, eqi_t, eqi_f, nei_t, nei_f, rem_uw, conv_ui, conv_iu, conv_ii, not_bool, nil_ptr, fa_mk, ptrV, len_mk, cap_mk, eq_ptr_nil, ne_ptr_nil, eq_nil_nil, ne_nil_nil, eq_slice_nil, eq_nil_slice, ia_1, nilP, l1.2.1, hlk]; exact so_so) ?_)
    refine use_sfull hg (ok.sp id s hs).2.2.1 (F := MP rs f * (H * (pt a (.cells #[pv ap, .map (some rs), .map (some ro), .map (some rb), .int .i64 st.live] 63 (0, 0)) * (PG ap st.n st.runs * (MP ro (owF st.ow) * (MPO rb obA st.ob * (F * tt))))))) (asr (by ac_rfl) hq) ?_
    repeat (with_reducible first | refine vP_so ?_ | refine vB_t ?_ | refine vB_f ?_ | refine vE_tt ?_ | refine vE_ff ?_ | refine vE_tf ?_ | refine vE_ft ?_ | refine vE_u ?_ | refine vP_to (by simp (disch := omega) only [gdW_true, gdW_false, gB_true, gB_false, gB_undef, pickV_true, pickV_false, Bool.not_true, Bool.not_false, Option.map_some, bin_add, bin_sub, bin_mul, bin_quo, bin_rem, lss_t, lss_f, leq_t, leq_f, gtr_t, gtr_f, geq_t, geq_f, eqi_t, eqi_f, nei_t, nei_f, rem_uw, conv_ui, conv_iu, conv_ii, not_bool, nil_ptr, fa_mk, ptrV, len_mk, cap_mk, eq_ptr_nil, ne_ptr_nil, eq_nil_nil, ne_nil_nil, eq_slice_nil, eq_nil_slice, ia_1, nilP]; exact so_so) ?_)
    exact hK
def clsV : Option Sp → Int
  | none => -1
  | some s => s.cls

theorem use_aclass {g : Hp} {a : Nat} {st : Ar} {id : Int} {F : Asrt} {K : Value → Hp → Prop} {h : Hp} (hh : (AR a st * (own g * (F * tt))) h) (hK : K (.int .i64 (clsV (st.sp id))) h) : CallH Tryz.prog 9 #[pB a, .int .i64 id] K h := by
  refine C9 ?_
  unfold D9
  obtain ⟨ap, rs, ro, rb, hp⟩ := AR_elim hh
  have l1 := ar_ld hp
  have hm : (MPO rs spA st.sp * (pt a (.cells #[pv ap, .map (some rs), .map (some ro), .map (some rb), .int .i64 st.live] 63 (0, 0)) * (PG ap st.n st.runs * (MP ro (owF st.ow) * (MPO rb obA st.ob * (own g * (F * tt))))))) h := asr (by ac_rfl) hp
  cases hs : st.sp id with
  | none =>
    have hlk := (sp_look (id := id) hm).1 hs
    rw [hs] at hK
    repeat (with_reducible first | refine vP_so ?_ | refine vB_t ?_ | refine vB_f ?_ | refine vE_tt ?_ | refine vE_ff ?_ | refine vE_tf ?_ | refine vE_ft ?_ | refine vE_u ?_ | refine vP_to (by simp (disch := omega) only [gdW_true, gdW_false, gB_true, gB_false, gB_undef, pickV_true, pickV_false, Bool.not_true, Bool.not_false, Option.map_some, bin_add, bin_sub, bin_mul, bin_quo, bin_rem, lss_t, lss_f, leq_t, leq_f, gtr_t, gtr_f, geq_t, geq_f, eqi_t, eqi_f, nei_t, nei_f, rem_uw, conv_ui, conv_iu, conv_ii, not_bool, nil_ptr, fa_mk, ptrV, len_mk, cap_mk, eq_ptr_nil, ne_ptr_nil, eq_nil_nil, ne_nil_nil, eq_slice_nil, eq_nil_slice, ia_1, nilP, l1.2.1, hlk, nil_pp]; exact so_so) ?_)
    exact hK
  | some s =>
    obtain ⟨p, f, H, e1, hq, _, _⟩ := sp_get hs hm
    have hlk := (lk_MP (k := id) mapSp intU zPSpan hq).1
    rw [e1] at hlk
    have hlk : lkV Tryz.prog 60 (.map (some rs)) (.int .i64 id) false h = some (pB p) := hlk
    rw [hs] at hK
    repeat (with_reducible first | refine vP_so ?_ | refine vB_t ?_ | refine vB_f ?_ | refine vE_tt ?_ | refine vE_ff ?_ | refine vE_tf ?_ | refine vE_ft ?_ | refine vE_u ?_ | refine vP_to (by simp (disch := omega) only [gdW_true, gdW_false, gB_true, gB_false, gB_undef, pickV_true, pickV_false, Bool.not_true, Bool.not_false, Option.map_some, bin_add, bin_sub, bin_mul, bin_quo, bin_rem, lss_t, lss_f, leq_t, leq_f, gtr_t, gtr_f, geq_t, geq_f, eqi_t, eqi_f, nei_t, nei_f, rem_uw, conv_ui, conv_iu, conv_ii, not_bool, nil_ptr, fa_mk, ptrV, len_mk, cap_mk, eq_ptr_nil, ne_ptr_nil, eq_nil_nil, ne_nil_nil, eq_slice_nil, eq_nil_slice, ia_1, nilP, l1.2.1, hlk]; exact so_so) ?_)
    refine use_sclass (F := MP rs f * (H * (pt a (.cells #[pv ap, .map (some rs), .map (some ro), .map (some rb), .int .i64 st.live] 63 (0, 0)) * (PG ap st.n st.runs * (MP ro (owF st.ow) * (MPO rb obA st.ob * (own g * (F * tt)))))))) (asr (by ac_rfl) hq) ?_
    repeat (with_reducible first | refine vP_so ?_ | refine vB_t ?_ | refine vB_f ?_ | refine vE_tt ?_ | refine vE_ff ?_ | refine vE_tf ?_ | refine vE_ft ?_ | refine vE_u ?_ | refine vP_to (by simp (disch := omega) only [gdW_true, gdW_false, gB_true, gB_false, gB_undef, pickV_true, pickV_false, Bool.not_true, Bool.not_false, Option.map_some, bin_add, bin_sub, bin_mul, bin_quo, bin_rem, lss_t, lss_f, leq_t, leq_f, gtr_t, gtr_f, geq_t, geq_f, eqi_t, eqi_f, nei_t, nei_f, rem_uw, conv_ui, conv_iu, conv_ii, not_bool, nil_ptr, fa_mk, ptrV, len_mk, cap_mk, eq_ptr_nil, ne_ptr_nil, eq_nil_nil, ne_nil_nil, eq_slice_nil, eq_nil_slice, ia_1, nilP]; exact so_so) ?_)
    exact hK

/-- Objects, less some. -/
def obLess (ob : Int → Option (List Int)) (l : List Int) : Int → Option (List Int) := fun a => if a ∈ l then none else ob a

theorem obLess_step {ob : Int → Option (List Int)} {l : List Int} {i : Nat} {x : Int} (h : l[i]? = some x) : fdel (obLess ob (l.take i)) x = obLess ob (l.take (i + 1)) := by
  funext y
  unfold obLess
  have e : y ∈ l.take (i + 1) ↔ y ∈ l.take i ∨ y = x := by
    rw [List.take_add_one, h, List.mem_append]; simp
  by_cases hy : y = x
  · subst hy; rw [fdel_eq, if_pos (e.2 (.inr rfl))]
  · rw [fdel_ne hy]
    by_cases hm : y ∈ l.take i
    · rw [if_pos hm, if_pos (e.2 (.inl hm))]
    · rw [if_neg hm, if_neg (fun q => (e.1 q).elim hm hy)]

set_option maxHeartbeats 2000000 in
theorem use_asweep {g : Hp} (hg : TabG 0 g) {a : Nat} {st : Ar} {N : Nat} {id : Int} (ok : AOk st N) (hN : N ≤ 1000000) {F : Asrt} {K : Value → Hp → Prop} {h : Hp} (hh : (AR a st * (own g * (F * tt))) h)
    (hnone : st.sp id = none → K (.tuple #[.slice none 0 0, .int .i64 4]) h)
    (hK : ∀ s v h', st.sp id = some s → (SG iE 3 v (s.gone.map s.addr) * (AR a (st.swept id s) * (own g * (F * tt)))) h' → K (.tuple #[v, .int .i64 0]) h') : CallH Tryz.prog 14 #[pB a, .int .i64 id] K h := by
  refine C14 ?_
  unfold D14
  obtain ⟨ap, rs, ro, rb, hp⟩ := AR_elim hh
  have l1 := ar_ld hp
  have hm : (MPO rs spA st.sp * (pt a (.cells #[pv ap, .map (some rs), .map (some ro), .map (some rb), .int .i64 st.live] 63 (0, 0)) * (PG ap st.n st.runs * (MP ro (owF st.ow) * (MPO rb obA st.ob * (own g * (F * tt))))))) h := asr (by ac_rfl) hp
  cases hs : st.sp id with
  | none =>
    have hlk := (sp_look (id := id) hm).1 hs
    repeat (with_reducible first | refine vP_so ?_ | refine vB_t ?_ | refine vB_f ?_ | refine vE_tt ?_ | refine vE_ff ?_ | refine vE_tf ?_ | refine vE_ft ?_ | refine vE_u ?_ | refine vP_to (by simp (disch := omega) only [gdW_true, gdW_false, gB_true, gB_false, gB_undef, pickV_true, pickV_false, Bool.not_true, Bool.not_false, Option.map_some, bin_add, bin_sub, bin_mul, bin_quo, bin_rem, lss_t, lss_f, leq_t, leq_f, gtr_t, gtr_f, geq_t, geq_f, eqi_t, eqi_f, nei_t, nei_f, rem_uw, conv_ui, conv_iu, conv_ii, not_bool, nil_ptr, fa_mk, ptrV, len_mk, cap_mk, eq_ptr_nil, ne_ptr_nil, eq_nil_nil, ne_nil_nil, eq_slice_nil, eq_nil_slice, ia_1, nilP, l1.2.1, hlk, nil_pp]; exact so_so) ?_)
    exact hnone hs
  | some s =>
    obtain ⟨p, f, H, e1, hq, c1, _⟩ := sp_get hs hm
    have hlk := (lk_MP (k := id) mapSp intU zPSpan hq).1
    rw [e1] at hlk
    have hlk : lkV Tryz.prog 60 (.map (some rs)) (.int .i64 id) false h = some (pB p) := hlk
    have ho := (ok.sp id s hs).2.2.1
    have ho' := ho.swept
    have hsz := szS_pos ho.cls
    have hml := ho.ml
    have hlb := ok.live_bd
    have hlb' := (swept_ok ok hs).live_bd
    have hgl := gone_len ho
    have hcl := List.count_le_length (l := s.used) (a := true)
    have hlen := ho.len
    repeat (with_reducible first | refine vP_so ?_ | refine vB_t ?_ | refine vB_f ?_ | refine vE_tt ?_ | refine vE_ff ?_ | refine vE_tf ?_ | refine vE_ft ?_ | refine vE_u ?_ | refine vP_to (by simp (disch := omega) only [gdW_true, gdW_false, gB_true, gB_false, gB_undef, pickV_true, pickV_false, Bool.not_true, Bool.not_false, Option.map_some, bin_add, bin_sub, bin_mul, bin_quo, bin_rem, lss_t, lss_f, leq_t, leq_f, gtr_t, gtr_f, geq_t, geq_f, eqi_t, eqi_f, nei_t, nei_f, rem_uw, conv_ui, conv_iu, conv_ii, not_bool, nil_ptr, fa_mk, ptrV, len_mk, cap_mk, eq_ptr_nil, ne_ptr_nil, eq_nil_nil, ne_nil_nil, eq_slice_nil, eq_nil_slice, ia_1, nilP, l1.2.1, hlk]; exact so_so) ?_)
    refine use_ssweep hg ho (F := MP rs f * (H * (pt a (.cells #[pv ap, .map (some rs), .map (some ro), .map (some rb), .int .i64 st.live] 63 (0, 0)) * (PG ap st.n st.runs * (MP ro (owF st.ow) * (MPO rb obA st.ob * F)))))) (asr (by ac_rfl) hq) fun v28 h1 hh1 => ?_
    have hlen28 := SG_len iE hh1
    have hgI : (goneI s).length = s.gone.length := by unfold goneI; rw [List.length_map]
    rw [hgI] at hlen28
    repeat (with_reducible first | refine vP_so ?_ | refine vB_t ?_ | refine vB_f ?_ | refine vE_tt ?_ | refine vE_ff ?_ | refine vE_tf ?_ | refine vE_ft ?_ | refine vE_u ?_ | refine vP_to (by simp (disch := omega) only [gdW_true, gdW_false, gB_true, gB_false, gB_undef, pickV_true, pickV_false, Bool.not_true, Bool.not_false, Option.map_some, bin_add, bin_sub, bin_mul, bin_quo, bin_rem, lss_t, lss_f, leq_t, leq_f, gtr_t, gtr_f, geq_t, geq_f, eqi_t, eqi_f, nei_t, nei_f, rem_uw, conv_ui, conv_iu, conv_ii, not_bool, nil_ptr, fa_mk, ptrV, len_mk, cap_mk, eq_ptr_nil, ne_ptr_nil, eq_nil_nil, ne_nil_nil, eq_slice_nil, eq_nil_slice, ia_1, hlen28]; exact so_so) ?_)
    obtain ⟨G, hG⟩ : ∃ G : Nat, s.gone.length = G := ⟨_, rfl⟩
    rw [hG]
    have hL : (s.gone.map s.addr).length = G := by rw [List.length_map]; exact hG
    have key : ∀ i : Nat, i ≤ G → 0 ≤ (i : Int) * szS s.cls ∧ (i : Int) * szS s.cls ≤ (G : Int) * szS s.cls := fun i hi => ⟨Int.mul_nonneg (by omega) (by omega), Int.mul_le_mul_of_nonneg_right (by omega) (by omega)⟩
    have hlw : st.live - (G : Int) * szS s.cls = (st.swept id s).live := by rw [← hG]; rfl
    refine ⟨fun m zs h' => ∃ (i : Nat) (v7 : Value), zs = [.int .i64 i, v7] ∧ m = G - i ∧ i ≤ G ∧
        (pt a (.cells #[pv ap, .map (some rs), .map (some ro), .map (some rb), .int .i64 (st.live - (i : Int) * szS s.cls)] 63 (0, 0)) * (SG iE 3 v7 ((s.gone.map s.addr).take i) * (SG iE 3 v28 (goneI s) * (SPN p s.swept * (MPO rb obA (obLess st.ob ((s.gone.map s.addr).take i)) * (MP rs f * (H * (PG ap st.n st.runs * (MP ro (owF st.ow) * (own g * (F * tt))))))))))) h',
      ⟨_, 0, .slice none 0 0, rfl, rfl, by omega, ?_⟩, ?_⟩
    · have e0 : obLess st.ob (List.take 0 (s.gone.map s.addr)) = st.ob := by funext y; unfold obLess; simp
      have e00 : st.live - ((0 : Nat) : Int) * szS s.cls = st.live := by simp
      rw [e0, e00]
      have := SG_nil iE (E := 3) (show (pt a (.cells #[pv ap, .map (some rs), .map (some ro), .map (some rb), .int .i64 st.live] 63 (0, 0)) * (SG iE 3 v28 (goneI s) * (SPN p s.swept * (MPO rb obA st.ob * (MP rs f * (H * (PG ap st.n st.runs * (MP ro (owF st.ow) * (own g * (F * tt)))))))))) h1 from asr (by ac_rfl) hh1)
      exact asr (by simp only [List.take_zero]; ac_rfl) this
    rintro m v30 v7 h2 ⟨i, v7', hzs, rfl, hi, hh2⟩ _
    obtain ⟨rfl, rfl⟩ : v30 = .int .i64 i ∧ v7 = v7' := by simpa using hzs
    by_cases hiG : i < G
    · obtain ⟨y, hy⟩ : ∃ y, s.gone[i]? = some y := ⟨_, List.getElem?_eq_getElem (by omega)⟩
      have hyI : (goneI s)[i]? = some (y : Int) := by unfold goneI; rw [List.getElem?_map, hy]; rfl
      have hyA : (s.gone.map s.addr)[i]? = some (s.addr y) := by rw [List.getElem?_map, hy]; rfl
      have hyu := (gone_mem.1 (List.mem_of_getElem? hy)).1
      have hyl := (List.getElem?_eq_some_iff.1 hyu).1
      have hyl' : y < s.swept.used.length := by show y < s.marks.length; omega
      have hkey := key i hi
      have hkey1 := key (i + 1) hiG
      have hs1 : ((i + 1 : Nat) : Int) * szS s.cls = (i : Int) * szS s.cls + szS s.cls := by rw [Int.natCast_add, Int.add_mul]; simp
      have hh28 : (SG iE 3 v28 (goneI s) * (pt a (.cells #[pv ap, .map (some rs), .map (some ro), .map (some rb), .int .i64 (st.live - (i : Int) * szS s.cls)] 63 (0, 0)) * (SG iE 3 v7 ((s.gone.map s.addr).take i) * (SPN p s.swept * (MPO rb obA (obLess st.ob ((s.gone.map s.addr).take i)) * (MP rs f * (H * (PG ap st.n st.runs * (MP ro (owF st.ow) * (own g * (F * tt))))))))))) h2 := asr (by ac_rfl) hh2
      obtain ⟨q, g1, g2, _⟩ := el1 hh28 hyI .i64
      repeat (with_reducible first | refine vP_so ?_ | refine vB_t ?_ | refine vB_f ?_ | refine vE_tt ?_ | refine vE_ff ?_ | refine vE_tf ?_ | refine vE_ft ?_ | refine vE_u ?_ | refine vP_to (by simp (disch := omega) only [gdW_true, gdW_false, gB_true, gB_false, gB_undef, pickV_true, pickV_false, Bool.not_true, Bool.not_false, Option.map_some, bin_add, bin_sub, bin_mul, bin_quo, bin_rem, lss_t, lss_f, leq_t, leq_f, gtr_t, gtr_f, geq_t, geq_f, eqi_t, eqi_f, nei_t, nei_f, rem_uw, conv_ui, conv_iu, conv_ii, not_bool, nil_ptr, fa_mk, ptrV, len_mk, cap_mk, eq_ptr_nil, ne_ptr_nil, eq_nil_nil, ne_nil_nil, eq_slice_nil, eq_nil_slice, ia_1, g1, g2]; exact so_so) ?_)
      refine use_saddr ho' hyl' (p := p) (F := pt a (.cells #[pv ap, .map (some rs), .map (some ro), .map (some rb), .int .i64 (st.live - (i : Int) * szS s.cls)] 63 (0, 0)) * (SG iE 3 v7 ((s.gone.map s.addr).take i) * (SG iE 3 v28 (goneI s) * (MPO rb obA (obLess st.ob ((s.gone.map s.addr).take i)) * (MP rs f * (H * (PG ap st.n st.runs * (MP ro (owF st.ow) * (own g * F))))))))) (asr (by ac_rfl) hh2) fun h3 hh3 => ?_
      have ea : s.swept.addr y = s.addr y := rfl
      rw [ea]
      have eb : bldV #[.int .i64 0] [(0, 1, .int .i64 (s.addr y))] = some #[.int .i64 (s.addr y)] := rfl
      rw [eb]
      refine vA_new (f := fun r => .slice (some ⟨r, 0, none⟩) 1 1) hh3 fun r9 h9 hh9 => ?_
      refine ap_new iE (l := (s.gone.map s.addr).take i) (m := [s.addr y]) (F := SPN p s.swept * (pt a (.cells #[pv ap, .map (some rs), .map (some ro), .map (some rb), .int .i64 (st.live - (i : Int) * szS s.cls)] 63 (0, 0)) * (SG iE 3 v28 (goneI s) * (MPO rb obA (obLess st.ob ((s.gone.map s.addr).take i)) * (MP rs f * (H * (PG ap st.n st.runs * (MP ro (owF st.ow) * (own g * F))))))))) elInt rfl rfl niInts rfl (by omega) (asr (by ac_rfl) hh9) rfl rfl (by simp only [List.length_singleton, List.length_take, hL]; omega) fun v39 h10 hh10 => ?_
      have e2 : (s.gone.map s.addr).take i ++ [s.addr y] = (s.gone.map s.addr).take (i + 1) := by rw [List.take_add_one, hyA]; rfl
      rw [e2] at hh10
      have l10 := ar_ld (show (pt a (.cells #[pv ap, .map (some rs), .map (some ro), .map (some rb), .int .i64 (st.live - (i : Int) * szS s.cls)] 63 (0, 0)) * (SG iE 3 v39 ((s.gone.map s.addr).take (i + 1)) * (SPN p s.swept * (SG iE 3 v28 (goneI s) * (MPO rb obA (obLess st.ob ((s.gone.map s.addr).take i)) * (MP rs f * (H * (PG ap st.n st.runs * (MP ro (owF st.ow) * (own g * (F * tt))))))))))) h10 from asr (by ac_rfl) hh10)
      repeat (with_reducible first | refine vP_so ?_ | refine vB_t ?_ | refine vB_f ?_ | refine vE_tt ?_ | refine vE_ff ?_ | refine vE_tf ?_ | refine vE_ft ?_ | refine vE_u ?_ | refine vP_to (by simp (disch := omega) only [gdW_true, gdW_false, gB_true, gB_false, gB_undef, pickV_true, pickV_false, Bool.not_true, Bool.not_false, Option.map_some, bin_add, bin_sub, bin_mul, bin_quo, bin_rem, lss_t, lss_f, leq_t, leq_f, gtr_t, gtr_f, geq_t, geq_f, eqi_t, eqi_f, nei_t, nei_f, rem_uw, conv_ui, conv_iu, conv_ii, not_bool, nil_ptr, fa_mk, ptrV, len_mk, cap_mk, eq_ptr_nil, ne_ptr_nil, eq_nil_nil, ne_nil_nil, eq_slice_nil, eq_nil_slice, ia_1, l10.2.2.2.1]; exact so_so) ?_)
      refine use_saddr ho' hyl' (p := p) (F := SG iE 3 v39 ((s.gone.map s.addr).take (i + 1)) * (pt a (.cells #[pv ap, .map (some rs), .map (some ro), .map (some rb), .int .i64 (st.live - (i : Int) * szS s.cls)] 63 (0, 0)) * (SG iE 3 v28 (goneI s) * (MPO rb obA (obLess st.ob ((s.gone.map s.addr).take i)) * (MP rs f * (H * (PG ap st.n st.runs * (MP ro (owF st.ow) * (own g * F))))))))) (asr (by ac_rfl) hh10) fun h11 hh11 => ?_
      rw [ea]
      have l11 := ar_ld (show (pt a (.cells #[pv ap, .map (some rs), .map (some ro), .map (some rb), .int .i64 (st.live - (i : Int) * szS s.cls)] 63 (0, 0)) * (SG iE 3 v39 ((s.gone.map s.addr).take (i + 1)) * (SPN p s.swept * (SG iE 3 v28 (goneI s) * (MPO rb obA (obLess st.ob ((s.gone.map s.addr).take i)) * (MP rs f * (H * (PG ap st.n st.runs * (MP ro (owF st.ow) * (own g * (F * tt))))))))))) h11 from asr (by ac_rfl) hh11)
      refine ⟨l11.2.2.2.1, ?_⟩
      have hnotin : s.addr y ∉ (s.gone.map s.addr).take i := fun hmem => by
        obtain ⟨j, hj, he⟩ := List.getElem_of_mem hmem
        rw [List.length_take, hL] at hj
        rw [List.getElem_take, List.getElem_map] at he
        have hjl : j < s.gone.length := by omega
        have h3 := addr_inj1 ho he
        have h4 := (List.getElem?_eq_some_iff.1 hy).2
        have hnd : s.gone.Pairwise (· < ·) := by
          unfold Sp.gone
          exact (ids_rise s.used).sublist List.filter_sublist
        have hyl2 : i < s.gone.length := by omega
        have := List.pairwise_iff_getElem.1 hnd j i hjl hyl2 (by omega)
        omega
      obtain ⟨lo, hlo⟩ : ∃ lo, obLess st.ob ((s.gone.map s.addr).take i) (s.addr y) = some lo := by
        unfold obLess
        rw [if_neg hnotin]
        have := (ok.ob (s.addr y)).2 ⟨id, s, y, hs, hyu, rfl⟩
        exact Option.isSome_iff_exists.1 this
      obtain ⟨vo, fo, Ho, eo, _, _, hqo, _, co⟩ := ob_get hlo (show (MPO rb obA (obLess st.ob ((s.gone.map s.addr).take i)) * (pt a (.cells #[pv ap, .map (some rs), .map (some ro), .map (some rb), .int .i64 (st.live - (i : Int) * szS s.cls)] 63 (0, 0)) * (SG iE 3 v39 ((s.gone.map s.addr).take (i + 1)) * (SPN p s.swept * (SG iE 3 v28 (goneI s) * (MP rs f * (H * (PG ap st.n st.runs * (MP ro (owF st.ow) * (own g * (F * tt))))))))))) h11 from asr (by ac_rfl) hh11)
      refine dl_MP (k := s.addr y) rfl mapIs intU hqo fun h12 hh12 => ?_
      have hh12 : (MP rb (fun x => if x = s.addr y then none else fo x) * (Ho * (pt a (.cells #[pv ap, .map (some rs), .map (some ro), .map (some rb), .int .i64 (st.live - (i : Int) * szS s.cls)] 63 (0, 0)) * (SG iE 3 v39 ((s.gone.map s.addr).take (i + 1)) * (SPN p s.swept * (SG iE 3 v28 (goneI s) * (MP rs f * (H * (PG ap st.n st.runs * (MP ro (owF st.ow) * (own g * (F * tt)))))))))))) h12 :=
        dropL (P := SG iE 3 vo lo) (Q := MP rb (fun x => if x = s.addr y then none else fo x) * (Ho * (pt a (.cells #[pv ap, .map (some rs), .map (some ro), .map (some rb), .int .i64 (st.live - (i : Int) * szS s.cls)] 63 (0, 0)) * (SG iE 3 v39 ((s.gone.map s.addr).take (i + 1)) * (SPN p s.swept * (SG iE 3 v28 (goneI s) * (MP rs f * (H * (PG ap st.n st.runs * (MP ro (owF st.ow) * (own g * F))))))))))) (asr (by ac_rfl) hh12) |> asr (by ac_rfl)
      have hh12 := co _ h12 hh12
      rw [obLess_step hyA] at hh12
      have hh12 : (SPN p s.swept * (pt a (.cells #[pv ap, .map (some rs), .map (some ro), .map (some rb), .int .i64 (st.live - (i : Int) * szS s.cls)] 63 (0, 0)) * (SG iE 3 v39 ((s.gone.map s.addr).take (i + 1)) * (SG iE 3 v28 (goneI s) * (MPO rb obA (obLess st.ob ((s.gone.map s.addr).take (i + 1))) * (MP rs f * (H * (PG ap st.n st.runs * (MP ro (owF st.ow) * (own g * (F * tt))))))))))) h12 := asr (by ac_rfl) hh12
      have l12 := ar_ld (show (pt a (.cells #[pv ap, .map (some rs), .map (some ro), .map (some rb), .int .i64 (st.live - (i : Int) * szS s.cls)] 63 (0, 0)) * (SPN p s.swept * (SG iE 3 v39 ((s.gone.map s.addr).take (i + 1)) * (SG iE 3 v28 (goneI s) * (MPO rb obA (obLess st.ob ((s.gone.map s.addr).take (i + 1))) * (MP rs f * (H * (PG ap st.n st.runs * (MP ro (owF st.ow) * (own g * (F * tt))))))))))) h12 from asr (by ac_rfl) hh12)
      repeat (with_reducible first | refine vP_so ?_ | refine vB_t ?_ | refine vB_f ?_ | refine vE_tt ?_ | refine vE_ff ?_ | refine vE_tf ?_ | refine vE_ft ?_ | refine vE_u ?_ | refine vP_to (by simp (disch := omega) only [gdW_true, gdW_false, gB_true, gB_false, gB_undef, pickV_true, pickV_false, Bool.not_true, Bool.not_false, Option.map_some, bin_add, bin_sub, bin_mul, bin_quo, bin_rem, lss_t, lss_f, leq_t, leq_f, gtr_t, gtr_f, geq_t, geq_f, eqi_t, eqi_f, nei_t, nei_f, rem_uw, conv_ui, conv_iu, conv_ii, not_bool, nil_ptr, fa_mk, ptrV, len_mk, cap_mk, eq_ptr_nil, ne_ptr_nil, eq_nil_nil, ne_nil_nil, eq_slice_nil, eq_nil_slice, ia_1, l12.2.2.2.2]; exact so_so) ?_)
      refine use_sclass hh12 ?_
      refine ⟨l12.2.2.2.2, ?_⟩
      have ec : s.swept.cls = s.cls := rfl
      rw [ec]
      refine use_size (F := pt a (.cells #[pv ap, .map (some rs), .map (some ro), .map (some rb), .int .i64 (st.live - (i : Int) * szS s.cls)] 63 (0, 0)) * (SPN p s.swept * (SG iE 3 v39 ((s.gone.map s.addr).take (i + 1)) * (SG iE 3 v28 (goneI s) * (MPO rb obA (obLess st.ob ((s.gone.map s.addr).take (i + 1))) * (MP rs f * (H * (PG ap st.n st.runs * (MP ro (owF st.ow) * (own g * F)))))))))) (asr (by ac_rfl) hh12) fun h13 hh13 => ?_
      have hh13 : (pt a (.cells #[pv ap, .map (some rs), .map (some ro), .map (some rb), .int .i64 (st.live - (i : Int) * szS s.cls)] 63 (0, 0)) * (SPN p s.swept * (SG iE 3 v39 ((s.gone.map s.addr).take (i + 1)) * (SG iE 3 v28 (goneI s) * (MPO rb obA (obLess st.ob ((s.gone.map s.addr).take (i + 1))) * (MP rs f * (H * (PG ap st.n st.runs * (MP ro (owF st.ow) * (own g * (F * tt))))))))))) h13 := asr (by ac_rfl) hh13
      refine ⟨(ar_ld hh13).2.2.2.2, ?_⟩
      have hsub : st.live - ((i + 1 : Nat) : Int) * szS s.cls = st.live - (i : Int) * szS s.cls - szS s.cls := by omega
      generalize hz : (i : Int) * szS s.cls = z at *
      generalize hzG : (G : Int) * szS s.cls = zG at *
      repeat (with_reducible first | refine vP_so ?_ | refine vB_t ?_ | refine vB_f ?_ | refine vE_tt ?_ | refine vE_ff ?_ | refine vE_tf ?_ | refine vE_ft ?_ | refine vE_u ?_ | refine vP_to (by simp (disch := omega) only [gdW_true, gdW_false, gB_true, gB_false, gB_undef, pickV_true, pickV_false, Bool.not_true, Bool.not_false, Option.map_some, bin_add, bin_sub, bin_mul, bin_quo, bin_rem, lss_t, lss_f, leq_t, leq_f, gtr_t, gtr_f, geq_t, geq_f, eqi_t, eqi_f, nei_t, nei_f, rem_uw, conv_ui, conv_iu, conv_ii, not_bool, nil_ptr, fa_mk, ptrV, len_mk, cap_mk, eq_ptr_nil, ne_ptr_nil, eq_nil_nil, ne_nil_nil, eq_slice_nil, eq_nil_slice, ia_1]; exact so_so) ?_)
      refine st1_mk hh13 rfl (by simp) fun h14 hh14 => ?_
      repeat (with_reducible first | refine vP_so ?_ | refine vB_t ?_ | refine vB_f ?_ | refine vE_tt ?_ | refine vE_ff ?_ | refine vE_tf ?_ | refine vE_ft ?_ | refine vE_u ?_ | refine vP_to (by simp (disch := omega) only [gdW_true, gdW_false, gB_true, gB_false, gB_undef, pickV_true, pickV_false, Bool.not_true, Bool.not_false, Option.map_some, bin_add, bin_sub, bin_mul, bin_quo, bin_rem, lss_t, lss_f, leq_t, leq_f, gtr_t, gtr_f, geq_t, geq_f, eqi_t, eqi_f, nei_t, nei_f, rem_uw, conv_ui, conv_iu, conv_ii, not_bool, nil_ptr, fa_mk, ptrV, len_mk, cap_mk, eq_ptr_nil, ne_ptr_nil, eq_nil_nil, ne_nil_nil, eq_slice_nil, eq_nil_slice, ia_1]; exact so_so) ?_)
      refine ⟨G - (i + 1), by omega, i + 1, v39, by simp, rfl, by omega, ?_⟩
      rw [hsub]
      have hh14 : (pt a (.cells #[pv ap, .map (some rs), .map (some ro), .map (some rb), .int .i64 (st.live - z - szS s.cls)] 63 (0, 0)) * (SPN p s.swept * (SG iE 3 v39 ((s.gone.map s.addr).take (i + 1)) * (SG iE 3 v28 (goneI s) * (MPO rb obA (obLess st.ob ((s.gone.map s.addr).take (i + 1))) * (MP rs f * (H * (PG ap st.n st.runs * (MP ro (owF st.ow) * (own g * (F * tt))))))))))) h14 := hh14
      exact asr (by ac_rfl) hh14
    · obtain rfl : i = G := by omega
      repeat (with_reducible first | refine vP_so ?_ | refine vB_t ?_ | refine vB_f ?_ | refine vE_tt ?_ | refine vE_ff ?_ | refine vE_tf ?_ | refine vE_ft ?_ | refine vE_u ?_ | refine vP_to (by simp (disch := omega) only [gdW_true, gdW_false, gB_true, gB_false, gB_undef, pickV_true, pickV_false, Bool.not_true, Bool.not_false, Option.map_some, bin_add, bin_sub, bin_mul, bin_quo, bin_rem, lss_t, lss_f, leq_t, leq_f, gtr_t, gtr_f, geq_t, geq_f, eqi_t, eqi_f, nei_t, nei_f, rem_uw, conv_ui, conv_iu, conv_ii, not_bool, nil_ptr, fa_mk, ptrV, len_mk, cap_mk, eq_ptr_nil, ne_ptr_nil, eq_nil_nil, ne_nil_nil, eq_slice_nil, eq_nil_slice, ia_1]; exact so_so) ?_)
      have et : (s.gone.map s.addr).take i = s.gone.map s.addr := by rw [← hL, List.take_length]
      rw [et] at hh2
      have hh3 := c1 (pt a (.cells #[pv ap, .map (some rs), .map (some ro), .map (some rb), .int .i64 (st.live - (i : Int) * szS s.cls)] 63 (0, 0)) * (SG iE 3 v7 (s.gone.map s.addr) * (SG iE 3 v28 (goneI s) * (MPO rb obA (obLess st.ob (s.gone.map s.addr)) * (PG ap st.n st.runs * (MP ro (owF st.ow) * (own g * (F * tt)))))))) s.swept h2 (asr (by ac_rfl) hh2)
      rw [← hG] at hh3
      have hh4 : (AR a (st.swept id s) * (SG iE 3 v28 (goneI s) * (SG iE 3 v7 (s.gone.map s.addr) * (own g * (F * tt))))) h2 := AR_intro (ap := ap) (rs := rs) (ro := ro) (rb := rb) (st := st.swept id s) (asr (by show _ = (pt a (.cells #[pv ap, .map (some rs), .map (some ro), .map (some rb), .int .i64 (st.live - s.gone.length * szS s.cls)] 63 (0, 0)) * (PG ap st.n st.runs * (MPO rs spA (fput st.sp id s.swept) * (MP ro (owF st.ow) * (MPO rb obA (obLess st.ob (s.gone.map s.addr)) * _))))); ac_rfl) hh3)
      exact hK s v7 h2 hs (dropL (P := SG iE 3 v28 (goneI s)) (Q := SG iE 3 v7 (s.gone.map s.addr) * (AR a (st.swept id s) * (own g * F))) (asr (by ac_rfl) hh4) |> asr (by ac_rfl))

end Go.Proofs

/-
  Contracts: treadmillref1's pages and places of a class.
-/
set_option maxRecDepth 100000
namespace Go.Proofs
open Go.Sl

theorem use_refPages {k : Int} (hk : 0 ≤ k ∧ k < 16) {F : Asrt} {K : Value → Hp → Prop} {h : Hp} (hh : (F * tt) h) (hK : ∀ h', (F * tt) h' → K (.int .i64 (pgS k)) h') : CallH Tryz.prog 8 #[.int .i64 k] K h := by
  refine C8 ?_
  unfold D8
  refine use_rsize hh fun h1 hh1 => ?_
  have hs := szS_pos hk
  have hp := pgS_pos hk
  repeat (with_reducible first | refine vP_so ?_ | refine vB_t ?_ | refine vB_f ?_ | refine vE_tt ?_ | refine vE_ff ?_ | refine vE_tf ?_ | refine vE_ft ?_ | refine vE_u ?_ | refine vP_to (by simp (disch := omega) only [gdW_true, gdW_false, gB_true, gB_false, gB_undef, pickV_true, pickV_false, Bool.not_true, Bool.not_false, Option.map_some, bin_add, bin_sub, bin_mul, bin_quo, bin_rem, lss_t, lss_f, leq_t, leq_f, gtr_t, gtr_f, geq_t, geq_f, eqi_t, eqi_f, nei_t, nei_f, rem_uw, conv_ui, conv_iu, conv_ii, not_bool, nil_ptr, fa_mk, ptrV, len_mk, cap_mk, eq_ptr_nil, ne_ptr_nil, eq_nil_nil, ne_nil_nil, eq_slice_nil, eq_nil_slice, ia_1]; exact so_so) ?_)
  refine ⟨fun m zs h' => ∃ p : Nat, zs = [.int .i64 p] ∧ m = 4 - p ∧ 1 ≤ p ∧ (p : Int) ≤ pgS k ∧ h' = h1, ⟨_, 1, rfl, rfl, by omega, by omega, rfl⟩, ?_⟩
  rintro m v4 h2 ⟨p, hzs, rfl, hp1, hp2, rfl⟩ _
  obtain rfl : v4 = .int .i64 p := by simpa using hzs
  have r1 : 0 ≤ (p : Int) * 64 % szS k := Int.emod_nonneg _ (by omega)
  have r2 : (p : Int) * 64 % szS k < szS k := Int.emod_lt_of_pos _ (by omega)
  by_cases hq : (p : Int) < pgS k
  · have hno := pgS_no' hk ⟨show (1 : Int) ≤ p by omega, hq⟩
    by_cases hge : szS k ≤ (p : Int) * 64
    · have hno2 : ¬ ((p : Int) * 64 % szS k * 8 ≤ (p : Int) * 64) := fun e => hno ⟨hge, e⟩
      repeat (with_reducible first | refine vP_so ?_ | refine vB_t ?_ | refine vB_f ?_ | refine vE_tt ?_ | refine vE_ff ?_ | refine vE_tf ?_ | refine vE_ft ?_ | refine vE_u ?_ | refine vP_to (by simp (disch := omega) only [gdW_true, gdW_false, gB_true, gB_false, gB_undef, pickV_true, pickV_false, Bool.not_true, Bool.not_false, Option.map_some, bin_add, bin_sub, bin_mul, bin_quo, bin_rem, lss_t, lss_f, leq_t, leq_f, gtr_t, gtr_f, geq_t, geq_f, eqi_t, eqi_f, nei_t, nei_f, rem_uw, conv_ui, conv_iu, conv_ii, not_bool, nil_ptr, fa_mk, ptrV, len_mk, cap_mk, eq_ptr_nil, ne_ptr_nil, eq_nil_nil, ne_nil_nil, eq_slice_nil, eq_nil_slice, ia_1]; exact so_so) ?_)
      exact ⟨4 - (p + 1), by omega, p + 1, by simp, rfl, by omega, by omega, rfl⟩
    · repeat (with_reducible first | refine vP_so ?_ | refine vB_t ?_ | refine vB_f ?_ | refine vE_tt ?_ | refine vE_ff ?_ | refine vE_tf ?_ | refine vE_ft ?_ | refine vE_u ?_ | refine vP_to (by simp (disch := omega) only [gdW_true, gdW_false, gB_true, gB_false, gB_undef, pickV_true, pickV_false, Bool.not_true, Bool.not_false, Option.map_some, bin_add, bin_sub, bin_mul, bin_quo, bin_rem, lss_t, lss_f, leq_t, leq_f, gtr_t, gtr_f, geq_t, geq_f, eqi_t, eqi_f, nei_t, nei_f, rem_uw, conv_ui, conv_iu, conv_ii, not_bool, nil_ptr, fa_mk, ptrV, len_mk, cap_mk, eq_ptr_nil, ne_ptr_nil, eq_nil_nil, ne_nil_nil, eq_slice_nil, eq_nil_slice, ia_1]; exact so_so) ?_)
      exact ⟨4 - (p + 1), by omega, p + 1, by simp, rfl, by omega, by omega, rfl⟩
  · have e : (p : Int) = pgS k := by omega
    have hy := pgS_yes' hk
    rw [← e] at hy hK
    obtain ⟨hy1, hy2⟩ := hy
    repeat (with_reducible first | refine vP_so ?_ | refine vB_t ?_ | refine vB_f ?_ | refine vE_tt ?_ | refine vE_ff ?_ | refine vE_tf ?_ | refine vE_ft ?_ | refine vE_u ?_ | refine vP_to (by simp (disch := omega) only [gdW_true, gdW_false, gB_true, gB_false, gB_undef, pickV_true, pickV_false, Bool.not_true, Bool.not_false, Option.map_some, bin_add, bin_sub, bin_mul, bin_quo, bin_rem, lss_t, lss_f, leq_t, leq_f, gtr_t, gtr_f, geq_t, geq_f, eqi_t, eqi_f, nei_t, nei_f, rem_uw, conv_ui, conv_iu, conv_ii, not_bool, nil_ptr, fa_mk, ptrV, len_mk, cap_mk, eq_ptr_nil, ne_ptr_nil, eq_nil_nil, ne_nil_nil, eq_slice_nil, eq_nil_slice, ia_1]; exact so_so) ?_)
    exact hK h2 hh1

theorem szS_out {k : Int} (h : ¬ (0 ≤ k ∧ k < 16)) : szS k = 0 := by unfold szS; first | rw [if_neg h] | (split <;> first | rfl | omega)

theorem use_refPages0 {k : Int} {F : Asrt} {K : Value → Hp → Prop} {h : Hp} (hh : (F * tt) h) (hK : ∀ h', (F * tt) h' → K (.int .i64 (pgS k)) h') : CallH Tryz.prog 8 #[.int .i64 k] K h := by
  by_cases hk : 0 ≤ k ∧ k < 16
  · exact use_refPages hk hh hK
  · rw [pgS_out hk] at hK
    refine C8 ?_
    unfold D8
    refine use_rsize hh fun h1 hh1 => ?_
    rw [szS_out hk]
    repeat (with_reducible first | refine vP_so ?_ | refine vB_t ?_ | refine vB_f ?_ | refine vE_tt ?_ | refine vE_ff ?_ | refine vE_tf ?_ | refine vE_ft ?_ | refine vE_u ?_ | refine vP_to (by simp (disch := omega) only [gdW_true, gdW_false, gB_true, gB_false, gB_undef, pickV_true, pickV_false, Bool.not_true, Bool.not_false, Option.map_some, bin_add, bin_sub, bin_mul, bin_quo, bin_rem, lss_t, lss_f, leq_t, leq_f, gtr_t, gtr_f, geq_t, geq_f, eqi_t, eqi_f, nei_t, nei_f, rem_uw, conv_ui, conv_iu, conv_ii, not_bool, nil_ptr, fa_mk, ptrV, len_mk, cap_mk, eq_ptr_nil, ne_ptr_nil, eq_nil_nil, ne_nil_nil, eq_slice_nil, eq_nil_slice, ia_1]; exact so_so) ?_)
    exact hK h1 hh1

theorem use_refSlots {k : Int} (hk : 0 ≤ k ∧ k < 16) {F : Asrt} {K : Value → Hp → Prop} {h : Hp} (hh : (F * tt) h) (hK : ∀ h', (F * tt) h' → K (.int .i64 (slS k)) h') : CallH Tryz.prog 114 #[.int .i64 k] K h := by
  refine C114 ?_
  unfold D114
  refine use_rsize hh fun h1 hh1 => ?_
  have hs := szS_pos hk
  have hp := pgS_pos hk
  repeat (with_reducible first | refine vP_so ?_ | refine vB_t ?_ | refine vB_f ?_ | refine vE_tt ?_ | refine vE_ff ?_ | refine vE_tf ?_ | refine vE_ft ?_ | refine vE_u ?_ | refine vP_to (by simp (disch := omega) only [gdW_true, gdW_false, gB_true, gB_false, gB_undef, pickV_true, pickV_false, Bool.not_true, Bool.not_false, Option.map_some, bin_add, bin_sub, bin_mul, bin_quo, bin_rem, lss_t, lss_f, leq_t, leq_f, gtr_t, gtr_f, geq_t, geq_f, eqi_t, eqi_f, nei_t, nei_f, rem_uw, conv_ui, conv_iu, conv_ii, not_bool, nil_ptr, fa_mk, ptrV, len_mk, cap_mk, eq_ptr_nil, ne_ptr_nil, eq_nil_nil, ne_nil_nil, eq_slice_nil, eq_nil_slice, ia_1]; exact so_so) ?_)
  refine use_refPages hk hh1 fun h2 hh2 => ?_
  have e := (slS_eq hk).1
  repeat (with_reducible first | refine vP_so ?_ | refine vB_t ?_ | refine vB_f ?_ | refine vE_tt ?_ | refine vE_ff ?_ | refine vE_tf ?_ | refine vE_ft ?_ | refine vE_u ?_ | refine vP_to (by simp (disch := omega) only [gdW_true, gdW_false, gB_true, gB_false, gB_undef, pickV_true, pickV_false, Bool.not_true, Bool.not_false, Option.map_some, bin_add, bin_sub, bin_mul, bin_quo, bin_rem, lss_t, lss_f, leq_t, leq_f, gtr_t, gtr_f, geq_t, geq_f, eqi_t, eqi_f, nei_t, nei_f, rem_uw, conv_ui, conv_iu, conv_ii, not_bool, nil_ptr, fa_mk, ptrV, len_mk, cap_mk, eq_ptr_nil, ne_ptr_nil, eq_nil_nil, ne_nil_nil, eq_slice_nil, eq_nil_slice, ia_1]; exact so_so) ?_)
  refine use_rsize hh2 fun h3 hh3 => ?_
  rw [← e] at hK
  repeat (with_reducible first | refine vP_so ?_ | refine vB_t ?_ | refine vB_f ?_ | refine vE_tt ?_ | refine vE_ff ?_ | refine vE_tf ?_ | refine vE_ft ?_ | refine vE_u ?_ | refine vP_to (by simp (disch := omega) only [gdW_true, gdW_false, gB_true, gB_false, gB_undef, pickV_true, pickV_false, Bool.not_true, Bool.not_false, Option.map_some, bin_add, bin_sub, bin_mul, bin_quo, bin_rem, lss_t, lss_f, leq_t, leq_f, gtr_t, gtr_f, geq_t, geq_f, eqi_t, eqi_f, nei_t, nei_f, rem_uw, conv_ui, conv_iu, conv_ii, not_bool, nil_ptr, fa_mk, ptrV, len_mk, cap_mk, eq_ptr_nil, ne_ptr_nil, eq_nil_nil, ne_nil_nil, eq_slice_nil, eq_nil_slice, ia_1]; exact so_so) ?_)
  exact hK h3 hh3

end Go.Proofs
