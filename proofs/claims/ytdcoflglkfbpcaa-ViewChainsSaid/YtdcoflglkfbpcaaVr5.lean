/-
  Contracts of treadmillref29: All, Text; Few.
-/
import Derived.Test.YtdcoflglkfbpcaaVr4
set_option linter.unusedVariables false
set_option linter.unusedSimpArgs false
set_option maxRecDepth 100000
set_option maxHeartbeats 8000000
namespace Go.Proofs
open Go.Sl

theorem rwork {r1 : Nat} {h1 : Hp} {w : VW} {Q : Value → Prop} {F : Asrt} {E : Nat} (hh : (pt r1 (.cells w.cells E (0, 0)) * F) h1) (hQ : Q (.bool (cb (B5 w)))) :
  vP (faV 6 (ptrV r1)) fun v9 =>
  vP (ld1 v9 h1) fun v10 =>
  vP (binV .lss v10 (Value.int .i64 0)) fun v11 =>
  vP (gdW (gB v11 false) (faV 7 (ptrV r1))) fun v13 =>
  vP (gdW (gB v11 false) (ld1 v13 h1)) fun v14 =>
  vP (gdW (gB v11 false) (binV .lss v14 (Value.int .i64 0))) fun v15 =>
  vP (pickV v11 (Value.bool true) v15) fun v16 =>
  vP (gdW (gB v16 false) (faV 8 (ptrV r1))) fun v18 =>
  vP (gdW (gB v16 false) (ld1 v18 h1)) fun v19 =>
  vP (gdW (gB v16 false) (binV .lss v19 (Value.int .i64 0))) fun v20 =>
  vP (pickV v16 (Value.bool true) v20) fun v21 =>
  vP (gdW (gB v21 false) (faV 0 (ptrV r1))) fun v23 =>
  vP (gdW (gB v21 false) (ld1 v23 h1)) fun v24 =>
  vP (gdW (gB v21 false) (eqV 1 true v24 (Value.int .i64 1))) fun v25 =>
  vP (gdW (gB v21 false) (some v25)) fun v26 =>
  vP (gdW (gB v26 true) (faV 6 (ptrV r1))) fun v27 =>
  vP (gdW (gB v26 true) (ld1 v27 h1)) fun v28 =>
  vP (gdW (gB v26 true) (eqV 1 true v28 (Value.int .i64 0))) fun v29 =>
  vP (gdW (gB v26 true) (some v29)) fun v30 =>
  vP (gdW (gB v30 false) (faV 7 (ptrV r1))) fun v31 =>
  vP (gdW (gB v30 false) (ld1 v31 h1)) fun v32 =>
  vP (gdW (gB v30 false) (eqV 1 true v32 (Value.int .i64 0))) fun v33 =>
  vP (gdW (gB v26 true) (pickV v30 (Value.bool true) v33)) fun v34 =>
  vP (gdW (gB v26 true) (some v34)) fun v35 =>
  vP (gdW (gB v35 false) (faV 8 (ptrV r1))) fun v36 =>
  vP (gdW (gB v35 false) (ld1 v36 h1)) fun v37 =>
  vP (gdW (gB v35 false) (eqV 1 true v37 (Value.int .i64 0))) fun v38 =>
  vP (gdW (gB v26 true) (pickV v35 (Value.bool true) v38)) fun v39 =>
  vP (gdW (gB v21 false) (pickV v26 v39 (Value.bool false))) fun v40 =>
  vP (pickV v21 (Value.bool true) v40) fun v41 => Q v41 := by
  obtain ⟨l0, _, _, _, _, _, l6, l7, l8, _⟩ := vw_ld (r := r1) (w := w) (E := E) hh
  have ft : B5 w → Q (.bool true) := fun q => by rw [cb_t q] at hQ; exact hQ
  have ff : ¬ B5 w → Q (.bool false) := fun q => by rw [cb_f q] at hQ; exact hQ
  clear hQ hh
  unfold B5 at ft ff
  by_cases a1 : w.grey < 0 <;> by_cases a2 : w.notes < 0 <;> by_cases a3 : w.roots < 0 <;> by_cases a4 : w.phase = 1 <;> by_cases a5 : w.grey = 0 <;> by_cases a6 : w.notes = 0 <;> by_cases a7 : w.roots = 0 <;>
    first
      | (exfalso; omega)
      | (repeat (with_reducible first | refine vP_so ?_ | refine vB_t ?_ | refine vB_f ?_ | refine vE_tt ?_ | refine vE_ff ?_ | refine vE_tf ?_ | refine vE_ft ?_ | refine vE_u ?_ | refine vP_to (by simp (disch := omega) only [gdW_true, gdW_false, gB_true, gB_false, gB_undef, pickV_true, pickV_false, Bool.not_true, Bool.not_false, Option.map_some, bin_add, bin_sub, bin_mul, bin_quo, bin_rem, lss_t, lss_f, leq_t, leq_f, gtr_t, gtr_f, geq_t, geq_f, eqi_t, eqi_f, nei_t, nei_f, rem_uw, conv_ui, conv_iu, conv_ii, not_bool, nil_ptr, fa_mk, ptrV, len_mk, cap_mk, eq_ptr_nil, ne_ptr_nil, eq_nil_nil, ne_nil_nil, eq_slice_nil, eq_nil_slice, ia_1, l0, l6, l7, l8]; exact so_so) ?_)
         first
           | exact ft (by omega)
           | exact ff (by omega))

theorem use_rall {g : Hp} {w : VW} {ps : Int} {F : Asrt} {K : Value → Hp → Prop} {h : Hp} (hv : VAt g w) (hs : Small w) (hh : (own g * (F * tt)) h)
    (hK : ∀ v h', (SG iE 3 v (outN (brkF w ps) 8) * (own g * (F * tt))) h' → K v h') : CallH Try.prog 27 #[w.val, .int .i64 ps] K h := by
  refine C27 ?_
  unfold D27
  refine vA_new (o := .cells w.cells 26 (0, 0)) hh fun r1 h1 hh1 => ?_
  refine rwork hh1 ?_
  have lv : ∀ {h} {G : Asrt}, (pt r1 (.cells w.cells 26 (0, 0)) * G) h → ldN 9 (.pointer (some ⟨r1, 0, none⟩)) h = some w.val := fun q => (vw_ld (r := r1) (w := w) (E := 26) q).2.2.2.2.2.2.2.2.2
  have lp : ∀ {h} {G : Asrt}, (pt r1 (.cells w.cells 26 (0, 0)) * G) h → ld1 (.pointer (some ⟨r1, 0 + 0, none⟩)) h = some (.int .i64 w.phase) := fun q => (vw_ld (r := r1) (w := w) (E := 26) q).1
  have back : ∀ {h}, (own g * (pt r1 (.cells w.cells 26 (0, 0)) * F * tt)) h → (pt r1 (.cells w.cells 26 (0, 0)) * (own g * (F * tt))) h := fun q => asr (by ac_rfl) q
  -- the list out of the eight answers
  have tail : ∀ h8, (pt r1 (.cells w.cells 26 (0, 0)) * (own g * (F * tt))) h8 → ∀ b6 : Bool, b6 = cb (B6 w) →
      vA ((bldV #[(Value.bool false), (Value.bool false), (Value.bool false), (Value.bool false), (Value.bool false), (Value.bool false), (Value.bool false), (Value.bool false)] [(0, 1, .bool (cb (B1 w))), (1, 1, .bool (cb (B2 w))), (2, 1, .bool (cb (B3 w))), (3, 1, .bool (cb (B4 w ps))), (4, 1, .bool (cb (B5 w))), (5, 1, .bool b6), (6, 1, .bool (cb (B7 w))), (7, 1, .bool (cb (B8 w)))]).map fun c => (Obj.cells c 4 (0, 0), fun r => Value.slice (some ⟨r, 0, none⟩) 8 8)) (fun v71 h9 =>
      ∃ I1 : Nat → List Value → Hp → Prop, (∃ n, I1 n [(Value.int .i64 0), (Value.slice none 0 0)] h9) ∧
      ∀ n1 : Nat, ∀ v8 v7 : Value, ∀ h10 : Hp, I1 n1 [v8, v7] h10 → ∀ g1 : St,
        vP (lenV v71) fun v74 =>
        vP (binV .lss v8 v74) fun v75 =>
        vB v75 (∀ J2 : List Value → Hp → Prop, (∀ v7_1 : Value, ∀ h11 : Hp, (∀ g2 : St,
            vP (binV .add v8 (Value.int .i64 1)) fun v77 =>
            ∃ m1, m1 < n1 ∧ I1 m1 [v77, v7_1] h11) → J2 [v7_1] h11) →
          vP (iaS 1 v71 v8) fun v80 =>
          vP (ld1 v80 h10) fun v81 =>
          vB v81 (vP (binV .add v8 (Value.int .i64 1)) fun v84 =>
            vA ((bldV #[(Value.int .i64 0)] [(0, 1, v84)]).map fun c => (Obj.cells c 3 (0, 0), fun r => Value.slice (some ⟨r, 0, none⟩) 1 1)) (fun v85 h12 =>
            apW Try.prog #[22, 22] 22 v7 v85 (fun v86 h13 =>
            J2 [v86] h13) h12) h10)
          (J2 [v7] h10))
        (K v7 h10)) h8 := by
    intro h8 hh8 b6 hb6
    subst hb6
    have eb : bldV #[(Value.bool false), (Value.bool false), (Value.bool false), (Value.bool false), (Value.bool false), (Value.bool false), (Value.bool false), (Value.bool false)] [(0, 1, .bool (cb (B1 w))), (1, 1, .bool (cb (B2 w))), (2, 1, .bool (cb (B3 w))), (3, 1, .bool (cb (B4 w ps))), (4, 1, .bool (cb (B5 w))), (5, 1, .bool (cb (B6 w))), (6, 1, .bool (cb (B7 w))), (7, 1, .bool (cb (B8 w)))] = some #[.bool (cb (B1 w)), .bool (cb (B2 w)), .bool (cb (B3 w)), .bool (cb (B4 w ps)), .bool (cb (B5 w)), .bool (cb (B6 w)), .bool (cb (B7 w)), .bool (cb (B8 w))] := rfl
    rw [eb]
    refine vA_new (f := fun r => .slice (some ⟨r, 0, none⟩) 8 8) hh8 fun r71 h9 hh9 => ?_
    have hh9 : (SG bE 4 (.slice (some ⟨r71, 0, none⟩) 8 8) ((List.range 8).map (brkF w ps)) * (pt r1 (.cells w.cells 26 (0, 0)) * (own g * (F * tt)))) h9 :=
      SG_intro bE (pre := []) (post := []) rfl rfl (by simp) (by omega) (by simp) hh9
    refine ⟨fun m zs h' => ∃ (i : Nat) (v7 : Value), zs = [.int .i64 i, v7] ∧ m = 8 - i ∧ i ≤ 8 ∧ (SG iE 3 v7 (outN (brkF w ps) i) * (SG bE 4 (.slice (some ⟨r71, 0, none⟩) 8 8) ((List.range 8).map (brkF w ps)) * (pt r1 (.cells w.cells 26 (0, 0)) * (own g * (F * tt))))) h',
      ⟨_, 0, .slice none 0 0, rfl, rfl, by omega, SG_nil iE hh9⟩, ?_⟩
    rintro m v8 v7 h10 ⟨i, v7', hzs, rfl, hi, hh10⟩ _
    obtain ⟨rfl, rfl⟩ : v8 = .int .i64 i ∧ v7 = v7' := by simpa using hzs
    have hS : (SG bE 4 (.slice (some ⟨r71, 0, none⟩) 8 8) ((List.range 8).map (brkF w ps)) * (SG iE 3 v7 (outN (brkF w ps) i) * (pt r1 (.cells w.cells 26 (0, 0)) * (own g * (F * tt))))) h10 := asr (by ac_rfl) hh10
    have hol := outN_len (brkF w ps) i
    by_cases hil : i < 8
    · obtain ⟨p, f1, f2, _⟩ := el1 hS (i := i) (a := brkF w ps i) (by rw [List.getElem?_map, List.getElem?_range hil]; rfl) .i64
      repeat (with_reducible first | refine vP_so ?_ | refine vB_t ?_ | refine vB_f ?_ | refine vE_tt ?_ | refine vE_ff ?_ | refine vE_tf ?_ | refine vE_ft ?_ | refine vE_u ?_ | refine vP_to (by simp (disch := omega) only [gdW_true, gdW_false, gB_true, gB_false, gB_undef, pickV_true, pickV_false, Bool.not_true, Bool.not_false, Option.map_some, bin_add, bin_sub, bin_mul, bin_quo, bin_rem, lss_t, lss_f, leq_t, leq_f, gtr_t, gtr_f, geq_t, geq_f, eqi_t, eqi_f, nei_t, nei_f, rem_uw, conv_ui, conv_iu, conv_ii, not_bool, nil_ptr, fa_mk, ptrV, len_mk, cap_mk, eq_ptr_nil, ne_ptr_nil, eq_nil_nil, ne_nil_nil, eq_slice_nil, eq_nil_slice, ia_1]; exact so_so) ?_)
      intro J2 hJ2
      have hJ : ∀ v' h', (SG iE 3 v' (outN (brkF w ps) (i + 1)) * (SG bE 4 (.slice (some ⟨r71, 0, none⟩) 8 8) ((List.range 8).map (brkF w ps)) * (pt r1 (.cells w.cells 26 (0, 0)) * (own g * (F * tt))))) h' → J2 [v'] h' := fun v' h' q => by
        refine hJ2 _ _ fun _ => ?_
        repeat (with_reducible first | refine vP_so ?_ | refine vB_t ?_ | refine vB_f ?_ | refine vE_tt ?_ | refine vE_ff ?_ | refine vE_tf ?_ | refine vE_ft ?_ | refine vE_u ?_ | refine vP_to (by simp (disch := omega) only [gdW_true, gdW_false, gB_true, gB_false, gB_undef, pickV_true, pickV_false, Bool.not_true, Bool.not_false, Option.map_some, bin_add, bin_sub, bin_mul, bin_quo, bin_rem, lss_t, lss_f, leq_t, leq_f, gtr_t, gtr_f, geq_t, geq_f, eqi_t, eqi_f, nei_t, nei_f, rem_uw, conv_ui, conv_iu, conv_ii, not_bool, nil_ptr, fa_mk, ptrV, len_mk, cap_mk, eq_ptr_nil, ne_ptr_nil, eq_nil_nil, ne_nil_nil, eq_slice_nil, eq_nil_slice, ia_1]; exact so_so) ?_)
        exact ⟨8 - (i + 1), by omega, i + 1, v', rfl, rfl, by omega, q⟩
      cases hb : brkF w ps i with
      | true =>
        rw [hb] at f2
        have e : outN (brkF w ps) (i + 1) = outN (brkF w ps) i ++ [(i : Int) + 1] := by show _ ++ (if brkF w ps i then _ else _) = _; rw [hb]; rfl
        rw [e] at hJ
        have eb : bldV #[.int .i64 0] [(0, 1, .int .i64 ((i : Int) + 1))] = some #[.int .i64 ((i : Int) + 1)] := rfl
        refine vP_to f1 ?_
        repeat (with_reducible first | refine vP_so ?_ | refine vB_t ?_ | refine vB_f ?_ | refine vE_tt ?_ | refine vE_ff ?_ | refine vE_tf ?_ | refine vE_ft ?_ | refine vE_u ?_ | refine vP_to (by simp (disch := omega) only [gdW_true, gdW_false, gB_true, gB_false, gB_undef, pickV_true, pickV_false, Bool.not_true, Bool.not_false, Option.map_some, bin_add, bin_sub, bin_mul, bin_quo, bin_rem, lss_t, lss_f, leq_t, leq_f, gtr_t, gtr_f, geq_t, geq_f, eqi_t, eqi_f, nei_t, nei_f, rem_uw, conv_ui, conv_iu, conv_ii, not_bool, nil_ptr, fa_mk, ptrV, len_mk, cap_mk, eq_ptr_nil, ne_ptr_nil, eq_nil_nil, ne_nil_nil, eq_slice_nil, eq_nil_slice, ia_1, f2]; exact so_so) ?_)
        rw [eb]
        refine vA_new (f := fun r => .slice (some ⟨r, 0, none⟩) 1 1) hh10 fun r23 h8 hh8 => ?_
        refine ap_new iE (l := outN (brkF w ps) i) (m := [(i : Int) + 1]) (F := SG bE 4 (.slice (some ⟨r71, 0, none⟩) 8 8) ((List.range 8).map (brkF w ps)) * (pt r1 (.cells w.cells 26 (0, 0)) * (own g * F))) elInt rfl rfl niInts rfl (by omega) (asr (by ac_rfl) hh8) rfl rfl (by simp only [List.length_singleton]; omega) fun v24 h9 hh9 => ?_
        exact hJ v24 h9 (asr (by ac_rfl) hh9)
      | false =>
        rw [hb] at f2
        have e : outN (brkF w ps) (i + 1) = outN (brkF w ps) i := by show _ ++ (if brkF w ps i then _ else _) = _; rw [hb]; simp
        rw [e] at hJ
        refine vP_to f1 ?_
        repeat (with_reducible first | refine vP_so ?_ | refine vB_t ?_ | refine vB_f ?_ | refine vE_tt ?_ | refine vE_ff ?_ | refine vE_tf ?_ | refine vE_ft ?_ | refine vE_u ?_ | refine vP_to (by simp (disch := omega) only [gdW_true, gdW_false, gB_true, gB_false, gB_undef, pickV_true, pickV_false, Bool.not_true, Bool.not_false, Option.map_some, bin_add, bin_sub, bin_mul, bin_quo, bin_rem, lss_t, lss_f, leq_t, leq_f, gtr_t, gtr_f, geq_t, geq_f, eqi_t, eqi_f, nei_t, nei_f, rem_uw, conv_ui, conv_iu, conv_ii, not_bool, nil_ptr, fa_mk, ptrV, len_mk, cap_mk, eq_ptr_nil, ne_ptr_nil, eq_nil_nil, ne_nil_nil, eq_slice_nil, eq_nil_slice, ia_1, f2]; exact so_so) ?_)
        exact hJ v7 h10 hh10
    · obtain rfl : i = 8 := by omega
      repeat (with_reducible first | refine vP_so ?_ | refine vB_t ?_ | refine vB_f ?_ | refine vE_tt ?_ | refine vE_ff ?_ | refine vE_tf ?_ | refine vE_ft ?_ | refine vE_u ?_ | refine vP_to (by simp (disch := omega) only [gdW_true, gdW_false, gB_true, gB_false, gB_undef, pickV_true, pickV_false, Bool.not_true, Bool.not_false, Option.map_some, bin_add, bin_sub, bin_mul, bin_quo, bin_rem, lss_t, lss_f, leq_t, leq_f, gtr_t, gtr_f, geq_t, geq_f, eqi_t, eqi_f, nei_t, nei_f, rem_uw, conv_ui, conv_iu, conv_ii, not_bool, nil_ptr, fa_mk, ptrV, len_mk, cap_mk, eq_ptr_nil, ne_ptr_nil, eq_nil_nil, ne_nil_nil, eq_slice_nil, eq_nil_slice, ia_1]; exact so_so) ?_)
      exact hK v7 h10 (dropL (P := SG bE 4 (.slice (some ⟨r71, 0, none⟩) 8 8) ((List.range 8).map (brkF w ps)) * pt r1 (.cells w.cells 26 (0, 0))) (Q := SG iE 3 v7 (outN (brkF w ps) 8) * (own g * F)) (asr (by ac_rfl) hh10) |> asr (by ac_rfl))
  have len_b : ∀ {l : List Int} {B : Prop}, ((∃ x, x ∈ l) ↔ B) → binV .gtr (.int .i64 (l.length : Int)) (.int .i64 0) = some (.bool (cb B)) := fun {l B} hq => by
    rw [bin_gtr]
    congr 2
    refine cb_of ?_
    rw [decide_eq_true_eq, ← hq]
    constructor
    · intro h
      exact ⟨l[0]'(by omega), List.getElem_mem _⟩
    · rintro ⟨x, hx⟩
      have := List.length_pos_of_mem hx
      omega
  have hne : ∀ b : Bool, unV .not (.bool (!b)) = some (.bool b) := fun b => by rw [not_bool, Bool.not_not]
  by_cases hp2 : w.phase = 2
  all_goals
    repeat (with_reducible first | refine vP_so ?_ | refine vB_t ?_ | refine vB_f ?_ | refine vE_tt ?_ | refine vE_ff ?_ | refine vE_tf ?_ | refine vE_ft ?_ | refine vE_u ?_ | refine vP_to (by simp (disch := omega) only [gdW_true, gdW_false, gB_true, gB_false, gB_undef, pickV_true, pickV_false, Bool.not_true, Bool.not_false, Option.map_some, bin_add, bin_sub, bin_mul, bin_quo, bin_rem, lss_t, lss_f, leq_t, leq_f, gtr_t, gtr_f, geq_t, geq_f, eqi_t, eqi_f, nei_t, nei_f, rem_uw, conv_ui, conv_iu, conv_ii, not_bool, nil_ptr, fa_mk, ptrV, len_mk, cap_mk, eq_ptr_nil, ne_ptr_nil, eq_nil_nil, ne_nil_nil, eq_slice_nil, eq_nil_slice, ia_1, lv hh1, lp hh1]; exact so_so) ?_)
    refine use_rlost (F := pt r1 (.cells w.cells 26 (0, 0)) * F) hv hs (asr (by ac_rfl) hh1) fun v43 ll h2 hL hll hh2 => ?_
    have hb1 := len_b (l := ll) (B := B1 w) ⟨fun ⟨x, hx⟩ => ⟨x, (hL.2 x).1 hx⟩, fun ⟨x, hx⟩ => ⟨x, (hL.2 x).2 hx⟩⟩
    have hlen := SG_len iE hh2
    have hh2 : (pt r1 (.cells w.cells 26 (0, 0)) * (own g * (F * tt))) h2 := dropL (P := SG iE 3 v43 ll) (Q := pt r1 (.cells w.cells 26 (0, 0)) * (own g * F)) (asr (by ac_rfl) hh2) |> asr (by ac_rfl)
    refine ⟨lv hh2, lv hh2, lp hh2, lv hh2, lv hh2, lv hh2, ?_⟩
    refine vP_to hlen ?_
    refine vP_to hb1 ?_
    refine use_rapart (F := pt r1 (.cells w.cells 26 (0, 0)) * F) hv hs.addr (asr (by ac_rfl) hh2) fun h3 hh3 => ?_
    have hh3 := back hh3
    refine ⟨lv hh3, lv hh3, lp hh3, lv hh3, lv hh3, ?_⟩
    refine vP_to (hne _) ?_
    refine use_rtwice (F := pt r1 (.cells w.cells 26 (0, 0)) * F) hv (asr (by ac_rfl) hh3) fun h4 hh4 => ?_
    have hh4 := back hh4
    refine ⟨lv hh4, lv hh4, lp hh4, lv hh4, ?_⟩
    refine use_rplaced (F := pt r1 (.cells w.cells 26 (0, 0)) * F) hv (asr (by ac_rfl) hh4) fun h5 hh5 => ?_
    have hh5 := back hh5
    refine ⟨lv hh5, lv hh5, lp hh5, ?_⟩
    refine vP_to (hne _) ?_
  · repeat (with_reducible first | refine vP_so ?_ | refine vB_t ?_ | refine vB_f ?_ | refine vE_tt ?_ | refine vE_ff ?_ | refine vE_tf ?_ | refine vE_ft ?_ | refine vE_u ?_ | refine vP_to (by simp (disch := omega) only [gdW_true, gdW_false, gB_true, gB_false, gB_undef, pickV_true, pickV_false, Bool.not_true, Bool.not_false, Option.map_some, bin_add, bin_sub, bin_mul, bin_quo, bin_rem, lss_t, lss_f, leq_t, leq_f, gtr_t, gtr_f, geq_t, geq_f, eqi_t, eqi_f, nei_t, nei_f, rem_uw, conv_ui, conv_iu, conv_ii, not_bool, nil_ptr, fa_mk, ptrV, len_mk, cap_mk, eq_ptr_nil, ne_ptr_nil, eq_nil_nil, ne_nil_nil, eq_slice_nil, eq_nil_slice, ia_1, lv hh5]; exact so_so) ?_)
    refine use_rwhite (F := pt r1 (.cells w.cells 26 (0, 0)) * F) hv hs (asr (by ac_rfl) hh5) fun v61 wl h6 hW hwl hh6 => ?_
    have hb6 := len_b (l := wl) (B := B6 w) ⟨fun ⟨x, hx⟩ => ⟨hp2, x, (hW.2 x).1 hx⟩, fun ⟨_, x, hx⟩ => ⟨x, (hW.2 x).2 hx⟩⟩
    have hlen6 := SG_len iE hh6
    have hh6 : (pt r1 (.cells w.cells 26 (0, 0)) * (own g * (F * tt))) h6 := dropL (P := SG iE 3 v61 wl) (Q := pt r1 (.cells w.cells 26 (0, 0)) * (own g * F)) (asr (by ac_rfl) hh6) |> asr (by ac_rfl)
    refine ⟨lv hh6, lv hh6, ?_⟩
    repeat (with_reducible first | refine vP_so ?_ | refine vB_t ?_ | refine vB_f ?_ | refine vE_tt ?_ | refine vE_ff ?_ | refine vE_tf ?_ | refine vE_ft ?_ | refine vE_u ?_ | refine vP_to (by simp (disch := omega) only [gdW_true, gdW_false, gB_true, gB_false, gB_undef, pickV_true, pickV_false, Bool.not_true, Bool.not_false, Option.map_some, bin_add, bin_sub, bin_mul, bin_quo, bin_rem, lss_t, lss_f, leq_t, leq_f, gtr_t, gtr_f, geq_t, geq_f, eqi_t, eqi_f, nei_t, nei_f, rem_uw, conv_ui, conv_iu, conv_ii, not_bool, nil_ptr, fa_mk, ptrV, len_mk, cap_mk, eq_ptr_nil, ne_ptr_nil, eq_nil_nil, ne_nil_nil, eq_slice_nil, eq_nil_slice, ia_1, hlen6, hb6]; exact so_so) ?_)
    refine use_rnumbers (F := pt r1 (.cells w.cells 26 (0, 0)) * F) hv (asr (by ac_rfl) hh6) fun h7 hh7 => ?_
    have hh7 := back hh7
    refine ⟨lv hh7, ?_⟩
    refine vP_to (hne _) ?_
    refine use_rclean (F := pt r1 (.cells w.cells 26 (0, 0)) * F) hv (asr (by ac_rfl) hh7) fun h8 hh8 => ?_
    refine vP_to (hne _) ?_
    exact tail h8 (back hh8) _ rfl
  · repeat (with_reducible first | refine vP_so ?_ | refine vB_t ?_ | refine vB_f ?_ | refine vE_tt ?_ | refine vE_ff ?_ | refine vE_tf ?_ | refine vE_ft ?_ | refine vE_u ?_ | refine vP_to (by simp (disch := omega) only [gdW_true, gdW_false, gB_true, gB_false, gB_undef, pickV_true, pickV_false, Bool.not_true, Bool.not_false, Option.map_some, bin_add, bin_sub, bin_mul, bin_quo, bin_rem, lss_t, lss_f, leq_t, leq_f, gtr_t, gtr_f, geq_t, geq_f, eqi_t, eqi_f, nei_t, nei_f, rem_uw, conv_ui, conv_iu, conv_ii, not_bool, nil_ptr, fa_mk, ptrV, len_mk, cap_mk, eq_ptr_nil, ne_ptr_nil, eq_nil_nil, ne_nil_nil, eq_slice_nil, eq_nil_slice, ia_1, lv hh5]; exact so_so) ?_)
    refine ⟨lv hh5, lv hh5, ?_⟩
    repeat (with_reducible first | refine vP_so ?_ | refine vB_t ?_ | refine vB_f ?_ | refine vE_tt ?_ | refine vE_ff ?_ | refine vE_tf ?_ | refine vE_ft ?_ | refine vE_u ?_ | refine vP_to (by simp (disch := omega) only [gdW_true, gdW_false, gB_true, gB_false, gB_undef, pickV_true, pickV_false, Bool.not_true, Bool.not_false, Option.map_some, bin_add, bin_sub, bin_mul, bin_quo, bin_rem, lss_t, lss_f, leq_t, leq_f, gtr_t, gtr_f, geq_t, geq_f, eqi_t, eqi_f, nei_t, nei_f, rem_uw, conv_ui, conv_iu, conv_ii, not_bool, nil_ptr, fa_mk, ptrV, len_mk, cap_mk, eq_ptr_nil, ne_ptr_nil, eq_nil_nil, ne_nil_nil, eq_slice_nil, eq_nil_slice, ia_1]; exact so_so) ?_)
    refine use_rnumbers (F := pt r1 (.cells w.cells 26 (0, 0)) * F) hv (asr (by ac_rfl) hh5) fun h7 hh7 => ?_
    have hh7 := back hh7
    refine ⟨lv hh7, ?_⟩
    refine vP_to (hne _) ?_
    refine use_rclean (F := pt r1 (.cells w.cells 26 (0, 0)) * F) hv (asr (by ac_rfl) hh7) fun h8 hh8 => ?_
    refine vP_to (hne _) ?_
    exact tail h8 (back hh8) false (cb_f fun q => hp2 q.1).symm

theorem use_rtext {c : Int} {F : Asrt} {K : Value → Hp → Prop} {h : Hp} (hh : (F * tt) h) (hK : ∀ h', (F * tt) h' → K (txtV c) h') : CallH Try.prog 31 #[.int .i64 c] K h := by
  refine C31 ?_
  unfold D31
  have eb : bldV #[(Value.string ⟨#[]⟩), (Value.string ⟨#[]⟩), (Value.string ⟨#[]⟩), (Value.string ⟨#[]⟩), (Value.string ⟨#[]⟩), (Value.string ⟨#[]⟩), (Value.string ⟨#[]⟩), (Value.string ⟨#[]⟩), (Value.string ⟨#[]⟩)] [(0, 1, (Value.string ⟨#[]⟩)), (1, 1, (Value.string ⟨#[108, 111, 115, 116]⟩)), (2, 1, (Value.string ⟨#[111, 98, 106, 101, 99, 116, 115]⟩)), (3, 1, (Value.string ⟨#[116, 119, 105, 99, 101]⟩)), (4, 1, (Value.string ⟨#[112, 108, 97, 99, 101, 115]⟩)), (5, 1, (Value.string ⟨#[119, 111, 114, 107]⟩)), (6, 1, (Value.string ⟨#[119, 104, 105, 116, 101]⟩)), (7, 1, (Value.string ⟨#[110, 117, 109, 98, 101, 114, 115]⟩)), (8, 1, (Value.string ⟨#[109, 97, 114, 107, 101, 100]⟩))] = some (#[.string ⟨#[]⟩] ++ wordsV.toArray) := rfl
  rw [eb]
  refine vA_new (f := fun r => .slice (some ⟨r, 0, none⟩) 9 9) hh fun r h1 hh1 => ?_
  by_cases h0 : c < 0
  · have e : txtV c = .string ⟨#[]⟩ := by unfold txtV; rw [if_neg (by omega)]
    rw [e] at hK
    repeat (with_reducible first | refine vP_so ?_ | refine vB_t ?_ | refine vB_f ?_ | refine vE_tt ?_ | refine vE_ff ?_ | refine vE_tf ?_ | refine vE_ft ?_ | refine vE_u ?_ | refine vP_to (by simp (disch := omega) only [gdW_true, gdW_false, gB_true, gB_false, gB_undef, pickV_true, pickV_false, Bool.not_true, Bool.not_false, Option.map_some, bin_add, bin_sub, bin_mul, bin_quo, bin_rem, lss_t, lss_f, leq_t, leq_f, gtr_t, gtr_f, geq_t, geq_f, eqi_t, eqi_f, nei_t, nei_f, rem_uw, conv_ui, conv_iu, conv_ii, not_bool, nil_ptr, fa_mk, ptrV, len_mk, cap_mk, eq_ptr_nil, ne_ptr_nil, eq_nil_nil, ne_nil_nil, eq_slice_nil, eq_nil_slice, ia_1]; exact so_so) ?_)
    exact hK h1 (dropL hh1)
  · by_cases h9 : 9 ≤ c
    · have e : txtV c = .string ⟨#[]⟩ := by unfold txtV; rw [if_neg (by omega)]
      rw [e] at hK
      repeat (with_reducible first | refine vP_so ?_ | refine vB_t ?_ | refine vB_f ?_ | refine vE_tt ?_ | refine vE_ff ?_ | refine vE_tf ?_ | refine vE_ft ?_ | refine vE_u ?_ | refine vP_to (by simp (disch := omega) only [gdW_true, gdW_false, gB_true, gB_false, gB_undef, pickV_true, pickV_false, Bool.not_true, Bool.not_false, Option.map_some, bin_add, bin_sub, bin_mul, bin_quo, bin_rem, lss_t, lss_f, leq_t, leq_f, gtr_t, gtr_f, geq_t, geq_f, eqi_t, eqi_f, nei_t, nei_f, rem_uw, conv_ui, conv_iu, conv_ii, not_bool, nil_ptr, fa_mk, ptrV, len_mk, cap_mk, eq_ptr_nil, ne_ptr_nil, eq_nil_nil, ne_nil_nil, eq_slice_nil, eq_nil_slice, ia_1]; exact so_so) ?_)
      exact hK h1 (dropL hh1)
    · have : c = 0 ∨ c = 1 ∨ c = 2 ∨ c = 3 ∨ c = 4 ∨ c = 5 ∨ c = 6 ∨ c = 7 ∨ c = 8 := by omega
      have hb := pt_get hh1
      rcases this with rfl | rfl | rfl | rfl | rfl | rfl | rfl | rfl | rfl
      all_goals
        repeat (with_reducible first | refine vP_so ?_ | refine vB_t ?_ | refine vB_f ?_ | refine vE_tt ?_ | refine vE_ff ?_ | refine vE_tf ?_ | refine vE_ft ?_ | refine vE_u ?_ | refine vP_to (by simp (disch := omega) only [gdW_true, gdW_false, gB_true, gB_false, gB_undef, pickV_true, pickV_false, Bool.not_true, Bool.not_false, Option.map_some, bin_add, bin_sub, bin_mul, bin_quo, bin_rem, lss_t, lss_f, leq_t, leq_f, gtr_t, gtr_f, geq_t, geq_f, eqi_t, eqi_f, nei_t, nei_f, rem_uw, conv_ui, conv_iu, conv_ii, not_bool, nil_ptr, fa_mk, ptrV, len_mk, cap_mk, eq_ptr_nil, ne_ptr_nil, eq_nil_nil, ne_nil_nil, eq_slice_nil, eq_nil_slice, ia_1]; exact so_so) ?_)
        refine vP_to (ld1_mk hb rfl) ?_
        exact hK h1 (dropL hh1)

end Go.Proofs
