/-
  Few; layer 30's told; AuditRules.
-/
import Derived.Test.YtdcoflglkfbpcaaVr5
set_option linter.unusedVariables false
set_option linter.unusedSimpArgs false
set_option maxRecDepth 100000
set_option maxHeartbeats 4000000
namespace Go.Proofs
open Go.Sl

theorem own_emp {F : Asrt} {h : Hp} (hh : F h) : (own Hp.emp * F) h := ⟨Hp.emp, h, Disj.emp_left h, by rw [Hp.emp_add], rfl, hh⟩

theorem ints_nil (g : Hp) : IntsAt g (.slice none 0 0) [] := ⟨rfl, by simp, fun j x k h => by simp at h⟩
theorem rows_nil (g : Hp) : RowsAt g 3 (.slice none 0 0) [] := ⟨rfl, by simp, fun j x k h => by simp at h⟩

theorem flatMap_len {α : Type} {c : Nat} {f : α → List Int} : ∀ {l : List α}, (∀ a ∈ l, (f a).length ≤ c) → (l.flatMap f).length ≤ l.length * c
  | [], _ => by simp
  | a :: l, h => by
    have h1 := h a (by simp)
    have h2 := flatMap_len (l := l) fun b hb => h b (by simp [hb])
    rw [List.flatMap_cons, List.length_append, List.length_cons, Nat.add_mul]
    omega

structure FewP (w : VW) : Prop where
  slots : ∀ o ∈ w.objs, o.slots.length ≤ 300
  stacks : ∀ r ∈ w.gs, r.stack.length ≤ 40
  objs : w.objs.length ≤ 40
  gs : w.gs.length ≤ 40
  glob : w.globals.length ≤ 40

theorem FewP.small {w : VW} (h : FewP w) (ha : ∀ o ∈ w.objs, o.addr ≤ 9223372036854775807) : Small w := by
  have h1 := flatMap_len (f := fun o : Ob => o.slots) h.slots
  have h2 := flatMap_len (f := fun r : Gr => r.stack) (l := w.gs.filter live) fun r hr => h.stacks r ((List.mem_filter.1 hr).1)
  have h3 := List.length_filter_le live w.gs
  have := h.objs
  have := h.gs
  have := h.glob
  refine ⟨?_, by omega, by omega, ha⟩
  unfold VW.all VW.names
  simp only [List.length_append]
  have e1 : (w.gs.filter live).length * 40 ≤ 40 * 40 := Nat.mul_le_mul_right _ (by omega)
  have e2 : w.objs.length * 300 ≤ 40 * 300 := Nat.mul_le_mul_right _ (by omega)
  omega

theorem use_few {g : Hp} {w : VW} {F : Asrt} {K : Value → Hp → Prop} {h : Hp} (hv : VAt g w) (hh : (own g * (F * tt)) h)
    (hK : ∀ b h', (b = true → FewP w) → (own g * (F * tt)) h' → K (.bool b) h') : CallH Try.prog 11 #[w.val] K h := by
  refine C11 ?_
  unfold D11
  have hol := hv.objs_len
  have hgl := hv.gs_len
  have hbl := hv.glob.len
  have hbl' := hv.glob.lt
  refine vA_new (o := .cells w.cells 26 (0, 0)) hh fun r1 h1 hh1 => ?_
  have hdrop : ∀ {h}, (pt r1 (.cells w.cells 26 (0, 0)) * (own g * (F * tt))) h → (own g * (F * tt)) h := fun q => dropL (P := pt r1 (.cells w.cells 26 (0, 0))) (Q := own g * F) (asr (by ac_rfl) q) |> asr (by ac_rfl)
  have l := vw_ld (r := r1) (w := w) (E := 26) hh1
  have lg := l.2.2.2.1
  have ls := l.2.2.2.2.1
  have lo := l.2.2.2.2.2.1
  have hw := own_vat (F := pt r1 (.cells w.cells 26 (0, 0)) * (F * tt)) (asr (by ac_rfl) hh1) hv
  have hd := hdrop hh1
  refine ⟨fun m zs h' => ∃ i : Nat, zs = [.int .i64 i] ∧ m = w.objs.length - i ∧ i ≤ w.objs.length ∧ (∀ (j : Nat) o, j < i → w.objs[j]? = some o → o.slots.length ≤ 300) ∧ h' = h1, ⟨_, 0, rfl, rfl, by omega, fun j r hj => by omega, rfl⟩, ?_⟩
  rintro m v3 h2 ⟨i, hzs, rfl, hi, hok, rfl⟩ _
  obtain rfl : v3 = .int .i64 i := by simpa using hzs
  by_cases hil : i < w.objs.length
  · have hoi : w.objs[i]? = some w.objs[i] := List.getElem?_eq_getElem hil
    obtain ⟨b, q, e1, _, e3, _, _⟩ := hw.obj hoi .i64
    have hsl := hv.slots w.objs[i] (List.getElem_mem hil)
    have hs1 := hsl.len
    have hs2 := hsl.lt
    generalize w.objs[i] = o at *
    by_cases hc : 300 < o.slots.length
    · repeat (with_reducible first | refine vP_so ?_ | refine vB_t ?_ | refine vB_f ?_ | refine vE_tt ?_ | refine vE_ff ?_ | refine vE_tf ?_ | refine vE_ft ?_ | refine vE_u ?_ | refine vP_to (by simp (disch := omega) only [gdW_true, gdW_false, gB_true, gB_false, gB_undef, pickV_true, pickV_false, Bool.not_true, Bool.not_false, Option.map_some, bin_add, bin_sub, bin_mul, bin_quo, bin_rem, lss_t, lss_f, leq_t, leq_f, gtr_t, gtr_f, geq_t, geq_f, eqi_t, eqi_f, nei_t, nei_f, rem_uw, conv_ui, conv_iu, conv_ii, not_bool, nil_ptr, fa_mk, ptrV, len_mk, cap_mk, eq_ptr_nil, ne_ptr_nil, eq_nil_nil, ne_nil_nil, eq_slice_nil, eq_nil_slice, ia_1, lo, hol.1, e1, e3, hs1]; exact so_so) ?_)
      exact hK false h2 (fun q => by cases q) hd
    · repeat (with_reducible first | refine vP_so ?_ | refine vB_t ?_ | refine vB_f ?_ | refine vE_tt ?_ | refine vE_ff ?_ | refine vE_tf ?_ | refine vE_ft ?_ | refine vE_u ?_ | refine vP_to (by simp (disch := omega) only [gdW_true, gdW_false, gB_true, gB_false, gB_undef, pickV_true, pickV_false, Bool.not_true, Bool.not_false, Option.map_some, bin_add, bin_sub, bin_mul, bin_quo, bin_rem, lss_t, lss_f, leq_t, leq_f, gtr_t, gtr_f, geq_t, geq_f, eqi_t, eqi_f, nei_t, nei_f, rem_uw, conv_ui, conv_iu, conv_ii, not_bool, nil_ptr, fa_mk, ptrV, len_mk, cap_mk, eq_ptr_nil, ne_ptr_nil, eq_nil_nil, ne_nil_nil, eq_slice_nil, eq_nil_slice, ia_1, lo, hol.1, e1, e3, hs1]; exact so_so) ?_)
      refine ⟨w.objs.length - (i + 1), by omega, i + 1, by simp, rfl, by omega, fun j o' hj ho' => ?_, rfl⟩
      by_cases hji : j = i
      · subst hji
        obtain rfl : o = o' := Option.some.inj (hoi.symm.trans ho')
        omega
      · exact hok j o' (by omega) ho'
  · obtain rfl : i = w.objs.length := by omega
    repeat (with_reducible first | refine vP_so ?_ | refine vB_t ?_ | refine vB_f ?_ | refine vE_tt ?_ | refine vE_ff ?_ | refine vE_tf ?_ | refine vE_ft ?_ | refine vE_u ?_ | refine vP_to (by simp (disch := omega) only [gdW_true, gdW_false, gB_true, gB_false, gB_undef, pickV_true, pickV_false, Bool.not_true, Bool.not_false, Option.map_some, bin_add, bin_sub, bin_mul, bin_quo, bin_rem, lss_t, lss_f, leq_t, leq_f, gtr_t, gtr_f, geq_t, geq_f, eqi_t, eqi_f, nei_t, nei_f, rem_uw, conv_ui, conv_iu, conv_ii, not_bool, nil_ptr, fa_mk, ptrV, len_mk, cap_mk, eq_ptr_nil, ne_ptr_nil, eq_nil_nil, ne_nil_nil, eq_slice_nil, eq_nil_slice, ia_1, lo, hol.1]; exact so_so) ?_)
    have hslots : ∀ o ∈ w.objs, o.slots.length ≤ 300 := fun o ho => by
      obtain ⟨j, hj, e⟩ := List.getElem_of_mem ho
      exact hok j o hj (by rw [List.getElem?_eq_getElem hj, e])
    refine ⟨fun m zs h' => ∃ i : Nat, zs = [.int .i64 i] ∧ m = w.gs.length - i ∧ i ≤ w.gs.length ∧ (∀ (j : Nat) o, j < i → w.gs[j]? = some o → o.stack.length ≤ 40) ∧ h' = h2, ⟨_, 0, rfl, rfl, by omega, fun j r hj => by omega, rfl⟩, ?_⟩
    rintro m v4 h3 ⟨i, hzs, rfl, hi, hok, rfl⟩ _
    obtain rfl : v4 = .int .i64 i := by simpa using hzs
    by_cases hil : i < w.gs.length
    · have hoi : w.gs[i]? = some w.gs[i] := List.getElem?_eq_getElem hil
      obtain ⟨b, q, e1, _, _, e4, _⟩ := hw.gor hoi .i64
      have hsl := hv.stacks w.gs[i] (List.getElem_mem hil)
      have hs1 := hsl.len
      have hs2 := hsl.lt
      generalize w.gs[i] = o at *
      by_cases hc : 40 < o.stack.length
      · repeat (with_reducible first | refine vP_so ?_ | refine vB_t ?_ | refine vB_f ?_ | refine vE_tt ?_ | refine vE_ff ?_ | refine vE_tf ?_ | refine vE_ft ?_ | refine vE_u ?_ | refine vP_to (by simp (disch := omega) only [gdW_true, gdW_false, gB_true, gB_false, gB_undef, pickV_true, pickV_false, Bool.not_true, Bool.not_false, Option.map_some, bin_add, bin_sub, bin_mul, bin_quo, bin_rem, lss_t, lss_f, leq_t, leq_f, gtr_t, gtr_f, geq_t, geq_f, eqi_t, eqi_f, nei_t, nei_f, rem_uw, conv_ui, conv_iu, conv_ii, not_bool, nil_ptr, fa_mk, ptrV, len_mk, cap_mk, eq_ptr_nil, ne_ptr_nil, eq_nil_nil, ne_nil_nil, eq_slice_nil, eq_nil_slice, ia_1, ls, hgl.1, e1, e4, hs1]; exact so_so) ?_)
        exact hK false h3 (fun q => by cases q) hd
      · repeat (with_reducible first | refine vP_so ?_ | refine vB_t ?_ | refine vB_f ?_ | refine vE_tt ?_ | refine vE_ff ?_ | refine vE_tf ?_ | refine vE_ft ?_ | refine vE_u ?_ | refine vP_to (by simp (disch := omega) only [gdW_true, gdW_false, gB_true, gB_false, gB_undef, pickV_true, pickV_false, Bool.not_true, Bool.not_false, Option.map_some, bin_add, bin_sub, bin_mul, bin_quo, bin_rem, lss_t, lss_f, leq_t, leq_f, gtr_t, gtr_f, geq_t, geq_f, eqi_t, eqi_f, nei_t, nei_f, rem_uw, conv_ui, conv_iu, conv_ii, not_bool, nil_ptr, fa_mk, ptrV, len_mk, cap_mk, eq_ptr_nil, ne_ptr_nil, eq_nil_nil, ne_nil_nil, eq_slice_nil, eq_nil_slice, ia_1, ls, hgl.1, e1, e4, hs1]; exact so_so) ?_)
        refine ⟨w.gs.length - (i + 1), by omega, i + 1, by simp, rfl, by omega, fun j o' hj ho' => ?_, rfl⟩
        by_cases hji : j = i
        · subst hji
          obtain rfl : o = o' := Option.some.inj (hoi.symm.trans ho')
          omega
        · exact hok j o' (by omega) ho'
    · obtain rfl : i = w.gs.length := by omega
      have hstacks : ∀ o ∈ w.gs, o.stack.length ≤ 40 := fun o ho => by
        obtain ⟨j, hj, e⟩ := List.getElem_of_mem ho
        exact hok j o hj (by rw [List.getElem?_eq_getElem hj, e])
      by_cases c1 : w.objs.length ≤ 40 <;> by_cases c2 : w.gs.length ≤ 40 <;> by_cases c3 : w.globals.length ≤ 40
      all_goals
        repeat (with_reducible first | refine vP_so ?_ | refine vB_t ?_ | refine vB_f ?_ | refine vE_tt ?_ | refine vE_ff ?_ | refine vE_tf ?_ | refine vE_ft ?_ | refine vE_u ?_ | refine vP_to (by simp (disch := omega) only [gdW_true, gdW_false, gB_true, gB_false, gB_undef, pickV_true, pickV_false, Bool.not_true, Bool.not_false, Option.map_some, bin_add, bin_sub, bin_mul, bin_quo, bin_rem, lss_t, lss_f, leq_t, leq_f, gtr_t, gtr_f, geq_t, geq_f, eqi_t, eqi_f, nei_t, nei_f, rem_uw, conv_ui, conv_iu, conv_ii, not_bool, nil_ptr, fa_mk, ptrV, len_mk, cap_mk, eq_ptr_nil, ne_ptr_nil, eq_nil_nil, ne_nil_nil, eq_slice_nil, eq_nil_slice, ia_1, ls, lo, lg, hgl.1, hol.1, hbl]; exact so_so) ?_)
        first
          | exact hK true _ (fun _ => ⟨hslots, hstacks, c1, c2, c3⟩) hd
          | exact hK false _ (fun q => by cases q) hd

def wZ (ph : Int) (gv : Value) (l : List Int) : VW := ⟨ph, 0, 0, gv, l, .slice none 0 0, [], .slice none 0 0, [], 0, 0, 0⟩

theorem wZ_small {ph : Int} {gv : Value} {l : List Int} (h : l.length ≤ 10) : Small (wZ ph gv l) := by
  refine ⟨?_, by simp [wZ], by simp [wZ], by simp [wZ]⟩
  simp [VW.all, VW.names, wZ]
  omega

theorem rch_one {w : VW} {P : Int → Prop} (h1 : ∀ x ∈ w.names, x ≠ 0 → P x) (h2 : ∀ x k o y, P x → w.at x = some k → w.objs[k]? = some o → y ∈ o.slots → y ≠ 0 → P y) {x : Int} (h : Rch w x) : P x := by
  induction h with
  | root a b => exact h1 _ a b
  | step a b c d e ih => exact h2 _ _ _ _ ih b c d e

theorem first_zero {w : VW} {ps : Int} (h1 : ¬ B1 w) (h2 : ¬ B2 w) (h3 : ¬ B3 w) (h4 : ¬ B4 w ps) (h5 : ¬ B5 w) (h6 : ¬ B6 w) (h7 : ¬ B7 w) (h8 : ¬ B8 w) : outN (brkF w ps) 8 = [] := by
  simp only [outN, brkF, cb_f h1, cb_f h2, cb_f h3, cb_f h4, cb_f h5, cb_f h6, cb_f h7, cb_f h8]
  simp

theorem wZ_0 {ps : Int} : outN (brkF (wZ 0 (.slice none 0 0) []) ps) 8 = [] := by
  refine first_zero ?_ ?_ ?_ ?_ ?_ ?_ ?_ ?_
  · rintro ⟨x, hx, _⟩
    exact rch_one (P := fun _ => False) (fun x hx => by simp [VW.names, wZ] at hx) (fun _ _ _ _ h => h.elim) hx
  · rintro ⟨i, o, h, _⟩; simp [wZ] at h
  · rintro ⟨i, k, a, b, _, h, _⟩; simp [wZ] at h
  · rintro ⟨i, a, h, _⟩; simp [wZ] at h
  · simp [B5, wZ]
  · rintro ⟨h, _⟩; simp [wZ] at h
  · rintro (⟨i, a, h, _⟩ | h); simp [wZ] at h; simp [wZ] at h
  · rintro ⟨_, i, o, h, _⟩; simp [wZ] at h

theorem wZ_9 {ps : Int} : firstL (outN (brkF (wZ 9 (.slice none 0 0) []) ps) 8) = 7 := by
  have h1 : ¬ B1 (wZ 9 (.slice none 0 0) []) := by
    rintro ⟨x, hx, _⟩
    exact rch_one (P := fun _ => False) (fun x hx => by simp [VW.names, wZ] at hx) (fun _ _ _ _ h => h.elim) hx
  have h2 : ¬ B2 (wZ 9 (.slice none 0 0) []) := by rintro ⟨i, o, h, _⟩; simp [wZ] at h
  have h3 : ¬ B3 (wZ 9 (.slice none 0 0) []) := by rintro ⟨i, k, a, b, _, h, _⟩; simp [wZ] at h
  have h4 : ¬ B4 (wZ 9 (.slice none 0 0) []) ps := by rintro ⟨i, a, h, _⟩; simp [wZ] at h
  have h5 : ¬ B5 (wZ 9 (.slice none 0 0) []) := by simp [B5, wZ]
  have h6 : ¬ B6 (wZ 9 (.slice none 0 0) []) := by rintro ⟨h, _⟩; simp [wZ] at h
  have h7 : B7 (wZ 9 (.slice none 0 0) []) := .inr (by simp [wZ])
  simp only [outN, brkF, cb_f h1, cb_f h2, cb_f h3, cb_f h4, cb_f h5, cb_f h6, cb_t h7]
  simp [firstL]

theorem wZ_1 {gv : Value} {ps : Int} : firstL (outN (brkF (wZ 0 gv [64]) ps) 8) = 1 := by
  have h1 : B1 (wZ 0 gv [64]) := ⟨64, .root (by simp [VW.names, wZ]) (by decide), by simp [VW.at, wZ]⟩
  simp only [outN, brkF, cb_t h1]
  simp [firstL]

theorem use_told30 {F : Asrt} {K : Value → Hp → Prop} {h : Hp} (hh : (F * tt) h) (hK : ∀ h', (F * tt) h' → K (.bool true) h') : CallH Try.prog 26 #[] K h := by
  refine C26 ?_
  unfold D26
  have hz : ∀ ph, VAt Hp.emp (wZ ph (.slice none 0 0) []) := fun ph => ⟨ints_nil _, rows_nil _, rows_nil _, by simp [wZ], by simp [wZ]⟩
  have e0 : (bldV #[(Value.int .i64 0), (Value.int .i64 0), (Value.int .i64 0), (Value.slice none 0 0), (Value.slice none 0 0), (Value.slice none 0 0), (Value.int .i64 0), (Value.int .i64 0), (Value.int .i64 0)] []).map Value.agg = some (wZ 0 (.slice none 0 0) []).val := rfl
  have e9 : (bldV #[(Value.int .i64 0), (Value.int .i64 0), (Value.int .i64 0), (Value.slice none 0 0), (Value.slice none 0 0), (Value.slice none 0 0), (Value.int .i64 0), (Value.int .i64 0), (Value.int .i64 0)] [(0, 1, (Value.int .i64 9))]).map Value.agg = some (wZ 9 (.slice none 0 0) []).val := rfl
  have e1 : ∀ v, (bldV #[(Value.int .i64 0), (Value.int .i64 0), (Value.int .i64 0), (Value.slice none 0 0), (Value.slice none 0 0), (Value.slice none 0 0), (Value.int .i64 0), (Value.int .i64 0), (Value.int .i64 0)] [(3, 1, .slice v 1 1)]).map Value.agg = some (wZ 0 (.slice v 1 1) [64]).val := fun _ => rfl
  have eg : bldV #[(Value.int .i64 0)] [(0, 1, (Value.int .i64 64))] = some #[.int .i64 64] := rfl
  have f0 : firstL (outN (brkF (wZ 0 (.slice none 0 0) []) 4) 8) = 0 := by rw [wZ_0]; rfl
  refine vP_to e0 ?_
  refine use_acheck (g := Hp.emp) (F := F) (hz 0) (wZ_small (by simp)) (own_emp hh) fun h1 hh1 => ?_
  rw [f0]
  have hh1 : (F * tt) h1 := by obtain ⟨a, b, d, rfl, q, r⟩ := hh1; rw [show a = Hp.emp from q, Hp.emp_add]; exact r
  repeat (with_reducible first | refine vP_so ?_ | refine vB_t ?_ | refine vB_f ?_ | refine vE_tt ?_ | refine vE_ff ?_ | refine vE_tf ?_ | refine vE_ft ?_ | refine vE_u ?_ | refine vP_to (by simp (disch := omega) only [gdW_true, gdW_false, gB_true, gB_false, gB_undef, pickV_true, pickV_false, Bool.not_true, Bool.not_false, Option.map_some, bin_add, bin_sub, bin_mul, bin_quo, bin_rem, lss_t, lss_f, leq_t, leq_f, gtr_t, gtr_f, geq_t, geq_f, eqi_t, eqi_f, nei_t, nei_f, rem_uw, conv_ui, conv_iu, conv_ii, not_bool, nil_ptr, fa_mk, ptrV, len_mk, cap_mk, eq_ptr_nil, ne_ptr_nil, eq_nil_nil, ne_nil_nil, eq_slice_nil, eq_nil_slice, ia_1]; exact so_so) ?_)
  rw [eg]
  refine vA_new (f := fun r => .slice (some ⟨r, 0, none⟩) 1 1) hh1 fun r h2 hh2 => ?_
  have hh2 : (SG iE 3 (.slice (some ⟨r, 0, none⟩) 1 1) [64] * (F * tt)) h2 := SG_intro iE (pre := []) (post := []) (l := [64]) rfl rfl (by simp) (by omega) (by simp) hh2
  obtain ⟨g, hg, hh2⟩ := own_pick hh2
  have hi : IntsAt g (.slice (some ⟨r, 0, none⟩) 1 1) [64] := SG_ints (E := 3) (F := emp) ⟨g, Hp.emp, Disj.emp g, by rw [Hp.add_emp], hg, rfl⟩
  have hv : VAt g (wZ 0 (.slice (some ⟨r, 0, none⟩) 1 1) [64]) := ⟨hi, rows_nil _, rows_nil _, by simp [wZ], by simp [wZ]⟩
  repeat (with_reducible first | refine vP_so ?_ | refine vB_t ?_ | refine vB_f ?_ | refine vE_tt ?_ | refine vE_ff ?_ | refine vE_tf ?_ | refine vE_ft ?_ | refine vE_u ?_ | refine vP_to (by simp (disch := omega) only [gdW_true, gdW_false, gB_true, gB_false, gB_undef, pickV_true, pickV_false, Bool.not_true, Bool.not_false, Option.map_some, bin_add, bin_sub, bin_mul, bin_quo, bin_rem, lss_t, lss_f, leq_t, leq_f, gtr_t, gtr_f, geq_t, geq_f, eqi_t, eqi_f, nei_t, nei_f, rem_uw, conv_ui, conv_iu, conv_ii, not_bool, nil_ptr, fa_mk, ptrV, len_mk, cap_mk, eq_ptr_nil, ne_ptr_nil, eq_nil_nil, ne_nil_nil, eq_slice_nil, eq_nil_slice, ia_1]; exact so_so) ?_)
  refine vP_to (e1 _) ?_
  repeat (with_reducible first | refine vP_so ?_ | refine vB_t ?_ | refine vB_f ?_ | refine vE_tt ?_ | refine vE_ff ?_ | refine vE_tf ?_ | refine vE_ft ?_ | refine vE_u ?_ | refine vP_to (by simp (disch := omega) only [gdW_true, gdW_false, gB_true, gB_false, gB_undef, pickV_true, pickV_false, Bool.not_true, Bool.not_false, Option.map_some, bin_add, bin_sub, bin_mul, bin_quo, bin_rem, lss_t, lss_f, leq_t, leq_f, gtr_t, gtr_f, geq_t, geq_f, eqi_t, eqi_f, nei_t, nei_f, rem_uw, conv_ui, conv_iu, conv_ii, not_bool, nil_ptr, fa_mk, ptrV, len_mk, cap_mk, eq_ptr_nil, ne_ptr_nil, eq_nil_nil, ne_nil_nil, eq_slice_nil, eq_nil_slice, ia_1]; exact so_so) ?_)
  refine use_acheck (g := g) (F := F) hv (wZ_small (by simp)) hh2 fun h3 hh3 => ?_
  rw [wZ_1]
  have hh3 : (F * tt) h3 := dropL (P := own g) hh3
  repeat (with_reducible first | refine vP_so ?_ | refine vB_t ?_ | refine vB_f ?_ | refine vE_tt ?_ | refine vE_ff ?_ | refine vE_tf ?_ | refine vE_ft ?_ | refine vE_u ?_ | refine vP_to (by simp (disch := omega) only [gdW_true, gdW_false, gB_true, gB_false, gB_undef, pickV_true, pickV_false, Bool.not_true, Bool.not_false, Option.map_some, bin_add, bin_sub, bin_mul, bin_quo, bin_rem, lss_t, lss_f, leq_t, leq_f, gtr_t, gtr_f, geq_t, geq_f, eqi_t, eqi_f, nei_t, nei_f, rem_uw, conv_ui, conv_iu, conv_ii, not_bool, nil_ptr, fa_mk, ptrV, len_mk, cap_mk, eq_ptr_nil, ne_ptr_nil, eq_nil_nil, ne_nil_nil, eq_slice_nil, eq_nil_slice, ia_1]; exact so_so) ?_)
  refine vP_to e9 ?_
  repeat (with_reducible first | refine vP_so ?_ | refine vB_t ?_ | refine vB_f ?_ | refine vE_tt ?_ | refine vE_ff ?_ | refine vE_tf ?_ | refine vE_ft ?_ | refine vE_u ?_ | refine vP_to (by simp (disch := omega) only [gdW_true, gdW_false, gB_true, gB_false, gB_undef, pickV_true, pickV_false, Bool.not_true, Bool.not_false, Option.map_some, bin_add, bin_sub, bin_mul, bin_quo, bin_rem, lss_t, lss_f, leq_t, leq_f, gtr_t, gtr_f, geq_t, geq_f, eqi_t, eqi_f, nei_t, nei_f, rem_uw, conv_ui, conv_iu, conv_ii, not_bool, nil_ptr, fa_mk, ptrV, len_mk, cap_mk, eq_ptr_nil, ne_ptr_nil, eq_nil_nil, ne_nil_nil, eq_slice_nil, eq_nil_slice, ia_1]; exact so_so) ?_)
  refine use_acheck (g := Hp.emp) (F := F) (hz 9) (wZ_small (by simp)) (own_emp hh3) fun h4 hh4 => ?_
  rw [wZ_9]
  have hh4 : (F * tt) h4 := by obtain ⟨a, b, d, rfl, q, r⟩ := hh4; rw [show a = Hp.emp from q, Hp.emp_add]; exact r
  have t1 : txtV 1 = .string ⟨#[108, 111, 115, 116]⟩ := rfl
  have t8 : txtV 8 = .string ⟨#[109, 97, 114, 107, 101, 100]⟩ := rfl
  have t9 : txtV 9 = .string ⟨#[]⟩ := rfl
  repeat (with_reducible first | refine vP_so ?_ | refine vB_t ?_ | refine vB_f ?_ | refine vE_tt ?_ | refine vE_ff ?_ | refine vE_tf ?_ | refine vE_ft ?_ | refine vE_u ?_ | refine vP_to (by simp (disch := omega) only [gdW_true, gdW_false, gB_true, gB_false, gB_undef, pickV_true, pickV_false, Bool.not_true, Bool.not_false, Option.map_some, bin_add, bin_sub, bin_mul, bin_quo, bin_rem, lss_t, lss_f, leq_t, leq_f, gtr_t, gtr_f, geq_t, geq_f, eqi_t, eqi_f, nei_t, nei_f, rem_uw, conv_ui, conv_iu, conv_ii, not_bool, nil_ptr, fa_mk, ptrV, len_mk, cap_mk, eq_ptr_nil, ne_ptr_nil, eq_nil_nil, ne_nil_nil, eq_slice_nil, eq_nil_slice, ia_1]; exact so_so) ?_)
  refine use_atext hh4 fun h5 hh5 => ?_
  rw [t1]
  repeat (with_reducible first | refine vP_so ?_ | refine vB_t ?_ | refine vB_f ?_ | refine vE_tt ?_ | refine vE_ff ?_ | refine vE_tf ?_ | refine vE_ft ?_ | refine vE_u ?_ | refine vP_to (by simp (disch := omega) only [gdW_true, gdW_false, gB_true, gB_false, gB_undef, pickV_true, pickV_false, Bool.not_true, Bool.not_false, Option.map_some, bin_add, bin_sub, bin_mul, bin_quo, bin_rem, lss_t, lss_f, leq_t, leq_f, gtr_t, gtr_f, geq_t, geq_f, eqi_t, eqi_f, nei_t, nei_f, rem_uw, conv_ui, conv_iu, conv_ii, not_bool, nil_ptr, fa_mk, ptrV, len_mk, cap_mk, eq_ptr_nil, ne_ptr_nil, eq_nil_nil, ne_nil_nil, eq_slice_nil, eq_nil_slice, ia_1, eq_str]; exact so_so) ?_)
  refine use_atext hh5 fun h6 hh6 => ?_
  rw [t8]
  repeat (with_reducible first | refine vP_so ?_ | refine vB_t ?_ | refine vB_f ?_ | refine vE_tt ?_ | refine vE_ff ?_ | refine vE_tf ?_ | refine vE_ft ?_ | refine vE_u ?_ | refine vP_to (by simp (disch := omega) only [gdW_true, gdW_false, gB_true, gB_false, gB_undef, pickV_true, pickV_false, Bool.not_true, Bool.not_false, Option.map_some, bin_add, bin_sub, bin_mul, bin_quo, bin_rem, lss_t, lss_f, leq_t, leq_f, gtr_t, gtr_f, geq_t, geq_f, eqi_t, eqi_f, nei_t, nei_f, rem_uw, conv_ui, conv_iu, conv_ii, not_bool, nil_ptr, fa_mk, ptrV, len_mk, cap_mk, eq_ptr_nil, ne_ptr_nil, eq_nil_nil, ne_nil_nil, eq_slice_nil, eq_nil_slice, ia_1, eq_str]; exact so_so) ?_)
  refine use_atext hh6 fun h7 hh7 => ?_
  rw [t9]
  repeat (with_reducible first | refine vP_so ?_ | refine vB_t ?_ | refine vB_f ?_ | refine vE_tt ?_ | refine vE_ff ?_ | refine vE_tf ?_ | refine vE_ft ?_ | refine vE_u ?_ | refine vP_to (by simp (disch := omega) only [gdW_true, gdW_false, gB_true, gB_false, gB_undef, pickV_true, pickV_false, Bool.not_true, Bool.not_false, Option.map_some, bin_add, bin_sub, bin_mul, bin_quo, bin_rem, lss_t, lss_f, leq_t, leq_f, gtr_t, gtr_f, geq_t, geq_f, eqi_t, eqi_f, nei_t, nei_f, rem_uw, conv_ui, conv_iu, conv_ii, not_bool, nil_ptr, fa_mk, ptrV, len_mk, cap_mk, eq_ptr_nil, ne_ptr_nil, eq_nil_nil, ne_nil_nil, eq_slice_nil, eq_nil_slice, ia_1, eq_str]; exact so_so) ?_)
  exact hK h7 hh7

theorem bin_tmod (c : Int) : binV .rem (.int .i64 c) (.int .i64 10) = some (.int .i64 (c.tmod 10)) := rfl

theorem rules_tr (g : Hp) (w : VW) (ps code : Int) (hv : VAt g w) (ha : ∀ o ∈ w.objs, o.addr ≤ 9223372036854775807) : Tr Try.prog 8 #[w.val, .int .i64 ps, .int .i64 code] (own g) (fun v => pr (v = .bool true) * own g) := by
  refine Tr.of fun h hh => C8 ?_
  unfold D8
  have hh : (own g * (emp * tt)) h := asr (by rw [emp_star]) hh
  refine vA_new (o := .cells w.cells 26 (0, 0)) hh fun r1 h1 hh1 => ?_
  have lv : ∀ {h} {G : Asrt}, (pt r1 (.cells w.cells 26 (0, 0)) * G) h → ldN 9 (.pointer (some ⟨r1, 0, none⟩)) h = some w.val := fun q => (vw_ld (r := r1) (w := w) (E := 26) q).2.2.2.2.2.2.2.2.2
  have hh1 : (own g * (pt r1 (.cells w.cells 26 (0, 0)) * tt)) h1 := asr (by rw [emp_star]; ac_rfl) hh1
  have lx : ∀ {h}, (own g * (pt r1 (.cells w.cells 26 (0, 0)) * tt)) h → ldN 9 (.pointer (some ⟨r1, 0, none⟩)) h = some w.val := fun q => lv (G := own g * tt) (asr (by ac_rfl) q)
  have fin : ∀ h', (own g * (pt r1 (.cells w.cells 26 (0, 0)) * tt)) h' → ((pr (Value.bool true = Value.bool true) * own g) * tt) h' := fun h' q => ret rfl (dropL (P := pt r1 (.cells w.cells 26 (0, 0))) (Q := own g) (asr (by ac_rfl) q))
  repeat (with_reducible first | refine vP_so ?_ | refine vB_t ?_ | refine vB_f ?_ | refine vE_tt ?_ | refine vE_ff ?_ | refine vE_tf ?_ | refine vE_ft ?_ | refine vE_u ?_ | refine vP_to (by simp (disch := omega) only [gdW_true, gdW_false, gB_true, gB_false, gB_undef, pickV_true, pickV_false, Bool.not_true, Bool.not_false, Option.map_some, bin_add, bin_sub, bin_mul, bin_quo, bin_rem, lss_t, lss_f, leq_t, leq_f, gtr_t, gtr_f, geq_t, geq_f, eqi_t, eqi_f, nei_t, nei_f, rem_uw, conv_ui, conv_iu, conv_ii, not_bool, nil_ptr, fa_mk, ptrV, len_mk, cap_mk, eq_ptr_nil, ne_ptr_nil, eq_nil_nil, ne_nil_nil, eq_slice_nil, eq_nil_slice, ia_1, lx hh1]; exact so_so) ?_)
  refine use_few (F := pt r1 (.cells w.cells 26 (0, 0))) hv hh1 fun b h2 hb hh2 => ?_
  cases b with
  | false =>
    repeat (with_reducible first | refine vP_so ?_ | refine vB_t ?_ | refine vB_f ?_ | refine vE_tt ?_ | refine vE_ff ?_ | refine vE_tf ?_ | refine vE_ft ?_ | refine vE_u ?_ | refine vP_to (by simp (disch := omega) only [gdW_true, gdW_false, gB_true, gB_false, gB_undef, pickV_true, pickV_false, Bool.not_true, Bool.not_false, Option.map_some, bin_add, bin_sub, bin_mul, bin_quo, bin_rem, lss_t, lss_f, leq_t, leq_f, gtr_t, gtr_f, geq_t, geq_f, eqi_t, eqi_f, nei_t, nei_f, rem_uw, conv_ui, conv_iu, conv_ii, not_bool, nil_ptr, fa_mk, ptrV, len_mk, cap_mk, eq_ptr_nil, ne_ptr_nil, eq_nil_nil, ne_nil_nil, eq_slice_nil, eq_nil_slice, ia_1]; exact so_so) ?_)
    refine use_told30 (F := own g * pt r1 (.cells w.cells 26 (0, 0))) (asr (by ac_rfl) hh2) fun h3 hh3 => ?_
    exact fin h3 (asr (by ac_rfl) hh3)
  | true =>
    have hs := (hb rfl).small ha
    repeat (with_reducible first | refine vP_so ?_ | refine vB_t ?_ | refine vB_f ?_ | refine vE_tt ?_ | refine vE_ff ?_ | refine vE_tf ?_ | refine vE_ft ?_ | refine vE_u ?_ | refine vP_to (by simp (disch := omega) only [gdW_true, gdW_false, gB_true, gB_false, gB_undef, pickV_true, pickV_false, Bool.not_true, Bool.not_false, Option.map_some, bin_add, bin_sub, bin_mul, bin_quo, bin_rem, lss_t, lss_f, leq_t, leq_f, gtr_t, gtr_f, geq_t, geq_f, eqi_t, eqi_f, nei_t, nei_f, rem_uw, conv_ui, conv_iu, conv_ii, not_bool, nil_ptr, fa_mk, ptrV, len_mk, cap_mk, eq_ptr_nil, ne_ptr_nil, eq_nil_nil, ne_nil_nil, eq_slice_nil, eq_nil_slice, ia_1, lx hh2]; exact so_so) ?_)
    refine use_rall (F := pt r1 (.cells w.cells 26 (0, 0))) hv hs hh2 fun v15 h4 hh4 => ?_
    intro J1 hJ1
    have hlen := SG_len iE hh4
    have hJ : J1 [.int .i64 (firstL (outN (brkF w ps) 8))] h4 := by
      refine hJ1 _ _ fun _ => ?_
      refine use_told30 (F := SG iE 3 v15 (outN (brkF w ps) 8) * (own g * pt r1 (.cells w.cells 26 (0, 0)))) (asr (by ac_rfl) hh4) fun h6 hh6 => ?_
      have hh6 : (own g * (pt r1 (.cells w.cells 26 (0, 0)) * SG iE 3 v15 (outN (brkF w ps) 8) * tt)) h6 := asr (by ac_rfl) hh6
      have ly : ∀ {h}, (own g * (pt r1 (.cells w.cells 26 (0, 0)) * SG iE 3 v15 (outN (brkF w ps) 8) * tt)) h → ldN 9 (.pointer (some ⟨r1, 0, none⟩)) h = some w.val := fun q => lv (G := own g * (SG iE 3 v15 (outN (brkF w ps) 8) * tt)) (asr (by ac_rfl) q)
      repeat (with_reducible first | refine vP_so ?_ | refine vB_t ?_ | refine vB_f ?_ | refine vE_tt ?_ | refine vE_ff ?_ | refine vE_tf ?_ | refine vE_ft ?_ | refine vE_u ?_ | refine vP_to (by simp (disch := omega) only [gdW_true, gdW_false, gB_true, gB_false, gB_undef, pickV_true, pickV_false, Bool.not_true, Bool.not_false, Option.map_some, bin_add, bin_sub, bin_mul, bin_quo, bin_rem, lss_t, lss_f, leq_t, leq_f, gtr_t, gtr_f, geq_t, geq_f, eqi_t, eqi_f, nei_t, nei_f, rem_uw, conv_ui, conv_iu, conv_ii, not_bool, nil_ptr, fa_mk, ptrV, len_mk, cap_mk, eq_ptr_nil, ne_ptr_nil, eq_nil_nil, ne_nil_nil, eq_slice_nil, eq_nil_slice, ia_1, ly hh6]; exact so_so) ?_)
      refine use_aall hv hs hh6 fun v26 h7 hh7 => ?_
      have i1 : IntsAt h7 v26 (outN (brkF w ps) 8) := SG_ints hh7
      have hh7b : (SG iE 3 v15 (outN (brkF w ps) 8) * (SG iE 3 v26 (outN (brkF w ps) 8) * (own g * (pt r1 (.cells w.cells 26 (0, 0)) * tt)))) h7 := asr (by ac_rfl) hh7
      have i2 : IntsAt h7 v15 (outN (brkF w ps) 8) := SG_ints hh7b
      have hh7 : (own g * (pt r1 (.cells w.cells 26 (0, 0)) * tt)) h7 := dropL (P := SG iE 3 v15 (outN (brkF w ps) 8) * SG iE 3 v26 (outN (brkF w ps) 8)) (Q := own g * pt r1 (.cells w.cells 26 (0, 0))) (asr (by ac_rfl) hh7b) |> asr (by ac_rfl)
      repeat (with_reducible first | refine vP_so ?_ | refine vB_t ?_ | refine vB_f ?_ | refine vE_tt ?_ | refine vE_ff ?_ | refine vE_tf ?_ | refine vE_ft ?_ | refine vE_u ?_ | refine vP_to (by simp (disch := omega) only [gdW_true, gdW_false, gB_true, gB_false, gB_undef, pickV_true, pickV_false, Bool.not_true, Bool.not_false, Option.map_some, bin_add, bin_sub, bin_mul, bin_quo, bin_rem, lss_t, lss_f, leq_t, leq_f, gtr_t, gtr_f, geq_t, geq_f, eqi_t, eqi_f, nei_t, nei_f, rem_uw, conv_ui, conv_iu, conv_ii, not_bool, nil_ptr, fa_mk, ptrV, len_mk, cap_mk, eq_ptr_nil, ne_ptr_nil, eq_nil_nil, ne_nil_nil, eq_slice_nil, eq_nil_slice, ia_1]; exact so_so) ?_)
      refine use_ints i1 i2 ?_
      rw [decide_eq_true rfl]
      repeat (with_reducible first | refine vP_so ?_ | refine vB_t ?_ | refine vB_f ?_ | refine vE_tt ?_ | refine vE_ff ?_ | refine vE_tf ?_ | refine vE_ft ?_ | refine vE_u ?_ | refine vP_to (by simp (disch := omega) only [gdW_true, gdW_false, gB_true, gB_false, gB_undef, pickV_true, pickV_false, Bool.not_true, Bool.not_false, Option.map_some, bin_add, bin_sub, bin_mul, bin_quo, bin_rem, lss_t, lss_f, leq_t, leq_f, gtr_t, gtr_f, geq_t, geq_f, eqi_t, eqi_f, nei_t, nei_f, rem_uw, conv_ui, conv_iu, conv_ii, not_bool, nil_ptr, fa_mk, ptrV, len_mk, cap_mk, eq_ptr_nil, ne_ptr_nil, eq_nil_nil, ne_nil_nil, eq_slice_nil, eq_nil_slice, ia_1, lx hh7]; exact so_so) ?_)
      refine use_acheck hv hs hh7 fun h9 hh9 => ?_
      repeat (with_reducible first | refine vP_so ?_ | refine vB_t ?_ | refine vB_f ?_ | refine vE_tt ?_ | refine vE_ff ?_ | refine vE_tf ?_ | refine vE_ft ?_ | refine vE_u ?_ | refine vP_to (by simp (disch := omega) only [gdW_true, gdW_false, gB_true, gB_false, gB_undef, pickV_true, pickV_false, Bool.not_true, Bool.not_false, Option.map_some, bin_add, bin_sub, bin_mul, bin_quo, bin_rem, lss_t, lss_f, leq_t, leq_f, gtr_t, gtr_f, geq_t, geq_f, eqi_t, eqi_f, nei_t, nei_f, rem_uw, conv_ui, conv_iu, conv_ii, not_bool, nil_ptr, fa_mk, ptrV, len_mk, cap_mk, eq_ptr_nil, ne_ptr_nil, eq_nil_nil, ne_nil_nil, eq_slice_nil, eq_nil_slice, ia_1]; exact so_so) ?_)
      refine use_atext (F := own g * pt r1 (.cells w.cells 26 (0, 0))) (asr (by ac_rfl) hh9) fun h10 hh10 => ?_
      repeat (with_reducible first | refine vP_so ?_ | refine vB_t ?_ | refine vB_f ?_ | refine vE_tt ?_ | refine vE_ff ?_ | refine vE_tf ?_ | refine vE_ft ?_ | refine vE_u ?_ | refine vP_to (by simp (disch := omega) only [gdW_true, gdW_false, gB_true, gB_false, gB_undef, pickV_true, pickV_false, Bool.not_true, Bool.not_false, Option.map_some, bin_add, bin_sub, bin_mul, bin_quo, bin_rem, lss_t, lss_f, leq_t, leq_f, gtr_t, gtr_f, geq_t, geq_f, eqi_t, eqi_f, nei_t, nei_f, rem_uw, conv_ui, conv_iu, conv_ii, not_bool, nil_ptr, fa_mk, ptrV, len_mk, cap_mk, eq_ptr_nil, ne_ptr_nil, eq_nil_nil, ne_nil_nil, eq_slice_nil, eq_nil_slice, ia_1]; exact so_so) ?_)
      refine use_rtext hh10 fun h11 hh11 => ?_
      repeat (with_reducible first | refine vP_so ?_ | refine vB_t ?_ | refine vB_f ?_ | refine vE_tt ?_ | refine vE_ff ?_ | refine vE_tf ?_ | refine vE_ft ?_ | refine vE_u ?_ | refine vP_to (by simp (disch := omega) only [gdW_true, gdW_false, gB_true, gB_false, gB_undef, pickV_true, pickV_false, Bool.not_true, Bool.not_false, Option.map_some, bin_add, bin_sub, bin_mul, bin_quo, bin_rem, lss_t, lss_f, leq_t, leq_f, gtr_t, gtr_f, geq_t, geq_f, eqi_t, eqi_f, nei_t, nei_f, rem_uw, conv_ui, conv_iu, conv_ii, not_bool, nil_ptr, fa_mk, ptrV, len_mk, cap_mk, eq_ptr_nil, ne_ptr_nil, eq_nil_nil, ne_nil_nil, eq_slice_nil, eq_nil_slice, ia_1, eq_txt, bin_tmod]; exact so_so) ?_)
      refine use_atext hh11 fun h12 hh12 => ?_
      repeat (with_reducible first | refine vP_so ?_ | refine vB_t ?_ | refine vB_f ?_ | refine vE_tt ?_ | refine vE_ff ?_ | refine vE_tf ?_ | refine vE_ft ?_ | refine vE_u ?_ | refine vP_to (by simp (disch := omega) only [gdW_true, gdW_false, gB_true, gB_false, gB_undef, pickV_true, pickV_false, Bool.not_true, Bool.not_false, Option.map_some, bin_add, bin_sub, bin_mul, bin_quo, bin_rem, lss_t, lss_f, leq_t, leq_f, gtr_t, gtr_f, geq_t, geq_f, eqi_t, eqi_f, nei_t, nei_f, rem_uw, conv_ui, conv_iu, conv_ii, not_bool, nil_ptr, fa_mk, ptrV, len_mk, cap_mk, eq_ptr_nil, ne_ptr_nil, eq_nil_nil, ne_nil_nil, eq_slice_nil, eq_nil_slice, ia_1, bin_tmod]; exact so_so) ?_)
      refine use_rtext hh12 fun h13 hh13 => ?_
      repeat (with_reducible first | refine vP_so ?_ | refine vB_t ?_ | refine vB_f ?_ | refine vE_tt ?_ | refine vE_ff ?_ | refine vE_tf ?_ | refine vE_ft ?_ | refine vE_u ?_ | refine vP_to (by simp (disch := omega) only [gdW_true, gdW_false, gB_true, gB_false, gB_undef, pickV_true, pickV_false, Bool.not_true, Bool.not_false, Option.map_some, bin_add, bin_sub, bin_mul, bin_quo, bin_rem, lss_t, lss_f, leq_t, leq_f, gtr_t, gtr_f, geq_t, geq_f, eqi_t, eqi_f, nei_t, nei_f, rem_uw, conv_ui, conv_iu, conv_ii, not_bool, nil_ptr, fa_mk, ptrV, len_mk, cap_mk, eq_ptr_nil, ne_ptr_nil, eq_nil_nil, ne_nil_nil, eq_slice_nil, eq_nil_slice, ia_1, eq_txt]; exact so_so) ?_)
      exact fin h13 (asr (by ac_rfl) hh13)
    cases hl : outN (brkF w ps) 8 with
    | nil =>
      rw [hl] at hlen hJ
      simp only [List.length_nil] at hlen
      repeat (with_reducible first | refine vP_so ?_ | refine vB_t ?_ | refine vB_f ?_ | refine vE_tt ?_ | refine vE_ff ?_ | refine vE_tf ?_ | refine vE_ft ?_ | refine vE_u ?_ | refine vP_to (by simp (disch := omega) only [gdW_true, gdW_false, gB_true, gB_false, gB_undef, pickV_true, pickV_false, Bool.not_true, Bool.not_false, Option.map_some, bin_add, bin_sub, bin_mul, bin_quo, bin_rem, lss_t, lss_f, leq_t, leq_f, gtr_t, gtr_f, geq_t, geq_f, eqi_t, eqi_f, nei_t, nei_f, rem_uw, conv_ui, conv_iu, conv_ii, not_bool, nil_ptr, fa_mk, ptrV, len_mk, cap_mk, eq_ptr_nil, ne_ptr_nil, eq_nil_nil, ne_nil_nil, eq_slice_nil, eq_nil_slice, ia_1, hlen]; exact so_so) ?_)
      exact hJ
    | cons x l =>
      rw [hl] at hlen hJ hh4
      obtain ⟨p, f1, f2, _⟩ := el1 hh4 (i := 0) (a := x) rfl .i64
      have f1 : iaS 1 v15 (.int .i64 0) = some p := f1
      have hp : 0 < (x :: l).length := by simp
      repeat (with_reducible first | refine vP_so ?_ | refine vB_t ?_ | refine vB_f ?_ | refine vE_tt ?_ | refine vE_ff ?_ | refine vE_tf ?_ | refine vE_ft ?_ | refine vE_u ?_ | refine vP_to (by simp (disch := omega) only [gdW_true, gdW_false, gB_true, gB_false, gB_undef, pickV_true, pickV_false, Bool.not_true, Bool.not_false, Option.map_some, bin_add, bin_sub, bin_mul, bin_quo, bin_rem, lss_t, lss_f, leq_t, leq_f, gtr_t, gtr_f, geq_t, geq_f, eqi_t, eqi_f, nei_t, nei_f, rem_uw, conv_ui, conv_iu, conv_ii, not_bool, nil_ptr, fa_mk, ptrV, len_mk, cap_mk, eq_ptr_nil, ne_ptr_nil, eq_nil_nil, ne_nil_nil, eq_slice_nil, eq_nil_slice, ia_1, hlen, f1, f2]; exact so_so) ?_)
      exact hJ

end Go.Proofs
