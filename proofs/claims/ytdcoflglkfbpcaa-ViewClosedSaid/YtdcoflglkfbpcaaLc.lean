/-
  ViewClosed: the walk.
-/
import Derived.Test.YtdcoflglkfbpcaaVq2
import Derived.Test.YtdcoflglkfbpcaaVb1
set_option linter.unusedVariables false
set_option linter.unusedSimpArgs false
set_option maxRecDepth 100000
set_option maxHeartbeats 1000000
namespace Go.Proofs
open Go.Sl

/-- What is read all through: the lists, the variables, the view. -/
structure Cl (g : Hp) (w : VW) (r1 r3 r4 : Nat) (v25 v27 v29 : Value) (R Ls : List Int) : Prop where
  va : VAt g w
  iR : IntsAt g v25 R
  iL : IntsAt g v27 Ls
  iN : IntsAt g v29 w.rootsL
  lv : ldN 9 (.pointer (some ⟨r1, 0, none⟩)) g = some w.val
  lo : ld1 (.pointer (some ⟨r1, 0 + 5, none⟩)) g = some w.ov
  l3 : ld1 (.pointer (some ⟨r3, 0, none⟩)) g = some v25
  l4 : ld1 (.pointer (some ⟨r4, 0, none⟩)) g = some v27
  hR : ReachL w R
  hL : LostL w Ls
  nR : R.length ≤ 1000000
  nL : Ls.length ≤ 1000000

section
variable {g : Hp} {w : VW} {r1 r3 r4 : Nat} {v25 v27 v29 : Value} {R Ls : List Int}

theorem use_okc (C : Cl g w r1 r3 r4 v25 v27 v29 R Ls) {x : Int} (hx : x ≠ 0 → Rch w x) {K : Value → Hp → Prop} {h : Hp} (hh : (own g * (emp * tt)) h) (hK : K (.bool true) h) :
    cvW Try.prog (.func (.func 20) #[] #[.pointer (some ⟨r3, 0, none⟩), .pointer (some ⟨r4, 0, none⟩)]) #[.int .i64 x] K h := by
  refine cv_fn (by kernel_rfl) ?_
  show CallH Try.prog 20 #[.int .i64 x, .pointer (some ⟨r3, 0, none⟩), .pointer (some ⟨r4, 0, none⟩)] K h
  refine C20 ?_
  unfold D20
  have l3 := own_ld1 hh C.l3
  have l4 := own_ld1 hh C.l4
  by_cases h0 : x = 0
  · repeat (with_reducible first | refine vP_so ?_ | refine vB_t ?_ | refine vB_f ?_ | refine vE_tt ?_ | refine vE_ff ?_ | refine vE_tf ?_ | refine vE_ft ?_ | refine vE_u ?_ | refine vP_to (by simp (disch := omega) only [gdW_true, gdW_false, gB_true, gB_false, gB_undef, pickV_true, pickV_false, Bool.not_true, Bool.not_false, Option.map_some, bin_add, bin_sub, bin_mul, bin_quo, bin_rem, lss_t, lss_f, leq_t, leq_f, gtr_t, gtr_f, geq_t, geq_f, eqi_t, eqi_f, nei_t, nei_f, rem_uw, conv_ui, conv_iu, conv_ii, not_bool, nil_ptr, fa_mk, ptrV, len_mk, cap_mk, eq_ptr_nil, ne_ptr_nil, eq_nil_nil, ne_nil_nil, eq_slice_nil, eq_nil_slice, ia_1]; exact so_so) ?_)
    refine ⟨rfl, ?_⟩
    repeat (with_reducible first | refine vP_so ?_ | refine vB_t ?_ | refine vB_f ?_ | refine vE_tt ?_ | refine vE_ff ?_ | refine vE_tf ?_ | refine vE_ft ?_ | refine vE_u ?_ | refine vP_to (by simp (disch := omega) only [gdW_true, gdW_false, gB_true, gB_false, gB_undef, pickV_true, pickV_false, Bool.not_true, Bool.not_false, Option.map_some, bin_add, bin_sub, bin_mul, bin_quo, bin_rem, lss_t, lss_f, leq_t, leq_f, gtr_t, gtr_f, geq_t, geq_f, eqi_t, eqi_f, nei_t, nei_f, rem_uw, conv_ui, conv_iu, conv_ii, not_bool, nil_ptr, fa_mk, ptrV, len_mk, cap_mk, eq_ptr_nil, ne_ptr_nil, eq_nil_nil, ne_nil_nil, eq_slice_nil, eq_nil_slice, ia_1]; exact so_so) ?_)
    exact hK
  · repeat (with_reducible first | refine vP_so ?_ | refine vB_t ?_ | refine vB_f ?_ | refine vE_tt ?_ | refine vE_ff ?_ | refine vE_tf ?_ | refine vE_ft ?_ | refine vE_u ?_ | refine vP_to (by simp (disch := omega) only [gdW_true, gdW_false, gB_true, gB_false, gB_undef, pickV_true, pickV_false, Bool.not_true, Bool.not_false, Option.map_some, bin_add, bin_sub, bin_mul, bin_quo, bin_rem, lss_t, lss_f, leq_t, leq_f, gtr_t, gtr_f, geq_t, geq_f, eqi_t, eqi_f, nei_t, nei_f, rem_uw, conv_ui, conv_iu, conv_ii, not_bool, nil_ptr, fa_mk, ptrV, len_mk, cap_mk, eq_ptr_nil, ne_ptr_nil, eq_nil_nil, ne_nil_nil, eq_slice_nil, eq_nil_slice, ia_1, l3, l4]; exact so_so) ?_)
    refine use_has (own_ints hh C.iR) ?_
    repeat (with_reducible first | refine vP_so ?_ | refine vB_t ?_ | refine vB_f ?_ | refine vE_tt ?_ | refine vE_ff ?_ | refine vE_tf ?_ | refine vE_ft ?_ | refine vE_u ?_ | refine vP_to (by simp (disch := omega) only [gdW_true, gdW_false, gB_true, gB_false, gB_undef, pickV_true, pickV_false, Bool.not_true, Bool.not_false, Option.map_some, bin_add, bin_sub, bin_mul, bin_quo, bin_rem, lss_t, lss_f, leq_t, leq_f, gtr_t, gtr_f, geq_t, geq_f, eqi_t, eqi_f, nei_t, nei_f, rem_uw, conv_ui, conv_iu, conv_ii, not_bool, nil_ptr, fa_mk, ptrV, len_mk, cap_mk, eq_ptr_nil, ne_ptr_nil, eq_nil_nil, ne_nil_nil, eq_slice_nil, eq_nil_slice, ia_1]; exact so_so) ?_)
    refine ⟨l4, ?_⟩
    refine use_has (own_ints hh C.iL) ?_
    have hr := hx h0
    have hne : (decide (x ∈ R) ≠ decide (x ∈ Ls)) := by
      cases hat : w.at x with
      | none =>
        rw [decide_eq_false (fun q => by have := ((C.hR.2 x).1 q).2; rw [hat] at this; cases this), decide_eq_true ((C.hL.2 x).2 ⟨hr, hat⟩)]
        decide
      | some k =>
        rw [decide_eq_true ((C.hR.2 x).2 ⟨hr, by rw [hat]; rfl⟩), decide_eq_false (fun q => by have := ((C.hL.2 x).1 q).2; rw [hat] at this; cases this)]
        decide
    have e := ne_bool (decide (x ∈ R)) (decide (x ∈ Ls))
    rw [decide_eq_true hne] at e
    generalize decide (x ∈ R) = p at *
    generalize decide (x ∈ Ls) = q at *
    repeat (with_reducible first | refine vP_so ?_ | refine vB_t ?_ | refine vB_f ?_ | refine vE_tt ?_ | refine vE_ff ?_ | refine vE_tf ?_ | refine vE_ft ?_ | refine vE_u ?_ | refine vP_to (by simp (disch := omega) only [gdW_true, gdW_false, gB_true, gB_false, gB_undef, pickV_true, pickV_false, Bool.not_true, Bool.not_false, Option.map_some, bin_add, bin_sub, bin_mul, bin_quo, bin_rem, lss_t, lss_f, leq_t, leq_f, gtr_t, gtr_f, geq_t, geq_f, eqi_t, eqi_f, nei_t, nei_f, rem_uw, conv_ui, conv_iu, conv_ii, not_bool, nil_ptr, fa_mk, ptrV, len_mk, cap_mk, eq_ptr_nil, ne_ptr_nil, eq_nil_nil, ne_nil_nil, eq_slice_nil, eq_nil_slice, ia_1, e]; exact so_so) ?_)
    exact hK

end

theorem closed_tr (g : Hp) (w : VW) (hv : VAt g w) (ha : ∀ o ∈ w.objs, o.addr ≤ 9223372036854775807) : Tr Try.prog 4 #[w.val] (own g) (fun v => pr (v = .bool true) * own g) := by
  refine Tr.of fun h hh => C4 ?_
  unfold D4
  refine vA_new (o := .cells w.cells 26 (0, 0)) hh fun r1 h1 hh1 => ?_
  have lv : ∀ {h} {G : Asrt}, (pt r1 (.cells w.cells 26 (0, 0)) * G) h → ldN 9 (.pointer (some ⟨r1, 0, none⟩)) h = some w.val := fun q => (vw_ld (r := r1) (w := w) (E := 26) q).2.2.2.2.2.2.2.2.2
  have hh1 : (own g * (pt r1 (.cells w.cells 26 (0, 0)) * tt)) h1 := asr (by ac_rfl) hh1
  have lx : ∀ {h}, (own g * (pt r1 (.cells w.cells 26 (0, 0)) * tt)) h → ldN 9 (.pointer (some ⟨r1, 0, none⟩)) h = some w.val := fun q => lv (G := own g * tt) (asr (by ac_rfl) q)
  have fin : ∀ h', (own g * (pt r1 (.cells w.cells 26 (0, 0)) * tt)) h' → ((pr (Value.bool true = Value.bool true) * own g) * tt) h' := fun h' q => ret rfl (dropL (P := pt r1 (.cells w.cells 26 (0, 0))) (Q := own g) (asr (by ac_rfl) q))
  have told : ∀ h', (own g * (pt r1 (.cells w.cells 26 (0, 0)) * tt)) h' → CallH Try.prog 13 #[] (fun v h => ((pr (v = Value.bool true) * own g) * tt) h) h' := fun h' q =>
    use_told29 (F := own g * pt r1 (.cells w.cells 26 (0, 0))) (asr (by ac_rfl) q) fun h3 hh3 => fin h3 (asr (by ac_rfl) hh3)
  repeat (with_reducible first | refine vP_so ?_ | refine vB_t ?_ | refine vB_f ?_ | refine vE_tt ?_ | refine vE_ff ?_ | refine vE_tf ?_ | refine vE_ft ?_ | refine vE_u ?_ | refine vP_to (by simp (disch := omega) only [gdW_true, gdW_false, gB_true, gB_false, gB_undef, pickV_true, pickV_false, Bool.not_true, Bool.not_false, Option.map_some, bin_add, bin_sub, bin_mul, bin_quo, bin_rem, lss_t, lss_f, leq_t, leq_f, gtr_t, gtr_f, geq_t, geq_f, eqi_t, eqi_f, nei_t, nei_f, rem_uw, conv_ui, conv_iu, conv_ii, not_bool, nil_ptr, fa_mk, ptrV, len_mk, cap_mk, eq_ptr_nil, ne_ptr_nil, eq_nil_nil, ne_nil_nil, eq_slice_nil, eq_nil_slice, ia_1, lx hh1]; exact so_so) ?_)
  refine use_few (F := pt r1 (.cells w.cells 26 (0, 0))) hv hh1 fun b h2 hb hh2 => ?_
  cases b with
  | false =>
    repeat (with_reducible first | refine vP_so ?_ | refine vB_t ?_ | refine vB_f ?_ | refine vE_tt ?_ | refine vE_ff ?_ | refine vE_tf ?_ | refine vE_ft ?_ | refine vE_u ?_ | refine vP_to (by simp (disch := omega) only [gdW_true, gdW_false, gB_true, gB_false, gB_undef, pickV_true, pickV_false, Bool.not_true, Bool.not_false, Option.map_some, bin_add, bin_sub, bin_mul, bin_quo, bin_rem, lss_t, lss_f, leq_t, leq_f, gtr_t, gtr_f, geq_t, geq_f, eqi_t, eqi_f, nei_t, nei_f, rem_uw, conv_ui, conv_iu, conv_ii, not_bool, nil_ptr, fa_mk, ptrV, len_mk, cap_mk, eq_ptr_nil, ne_ptr_nil, eq_nil_nil, ne_nil_nil, eq_slice_nil, eq_nil_slice, ia_1]; exact so_so) ?_)
    exact told h2 hh2
  | true =>
  have hs := (hb rfl).small ha
  have hN := hs.all
  repeat (with_reducible first | refine vP_so ?_ | refine vB_t ?_ | refine vB_f ?_ | refine vE_tt ?_ | refine vE_ff ?_ | refine vE_tf ?_ | refine vE_ft ?_ | refine vE_u ?_ | refine vP_to (by simp (disch := omega) only [gdW_true, gdW_false, gB_true, gB_false, gB_undef, pickV_true, pickV_false, Bool.not_true, Bool.not_false, Option.map_some, bin_add, bin_sub, bin_mul, bin_quo, bin_rem, lss_t, lss_f, leq_t, leq_f, gtr_t, gtr_f, geq_t, geq_f, eqi_t, eqi_f, nei_t, nei_f, rem_uw, conv_ui, conv_iu, conv_ii, not_bool, nil_ptr, fa_mk, ptrV, len_mk, cap_mk, eq_ptr_nil, ne_ptr_nil, eq_nil_nil, ne_nil_nil, eq_slice_nil, eq_nil_slice, ia_1, lx hh2]; exact so_so) ?_)
  refine use_own (F := pt r1 (.cells w.cells 26 (0, 0))) hv hh2 fun b h3 hO hh3 => ?_
  cases b with
  | false =>
    repeat (with_reducible first | refine vP_so ?_ | refine vB_t ?_ | refine vB_f ?_ | refine vE_tt ?_ | refine vE_ff ?_ | refine vE_tf ?_ | refine vE_ft ?_ | refine vE_u ?_ | refine vP_to (by simp (disch := omega) only [gdW_true, gdW_false, gB_true, gB_false, gB_undef, pickV_true, pickV_false, Bool.not_true, Bool.not_false, Option.map_some, bin_add, bin_sub, bin_mul, bin_quo, bin_rem, lss_t, lss_f, leq_t, leq_f, gtr_t, gtr_f, geq_t, geq_f, eqi_t, eqi_f, nei_t, nei_f, rem_uw, conv_ui, conv_iu, conv_ii, not_bool, nil_ptr, fa_mk, ptrV, len_mk, cap_mk, eq_ptr_nil, ne_ptr_nil, eq_nil_nil, ne_nil_nil, eq_slice_nil, eq_nil_slice, ia_1]; exact so_so) ?_)
    exact told h3 hh3
  | true =>
  have hO := hO rfl
  repeat (with_reducible first | refine vP_so ?_ | refine vB_t ?_ | refine vB_f ?_ | refine vE_tt ?_ | refine vE_ff ?_ | refine vE_tf ?_ | refine vE_ft ?_ | refine vE_u ?_ | refine vP_to (by simp (disch := omega) only [gdW_true, gdW_false, gB_true, gB_false, gB_undef, pickV_true, pickV_false, Bool.not_true, Bool.not_false, Option.map_some, bin_add, bin_sub, bin_mul, bin_quo, bin_rem, lss_t, lss_f, leq_t, leq_f, gtr_t, gtr_f, geq_t, geq_f, eqi_t, eqi_f, nei_t, nei_f, rem_uw, conv_ui, conv_iu, conv_ii, not_bool, nil_ptr, fa_mk, ptrV, len_mk, cap_mk, eq_ptr_nil, ne_ptr_nil, eq_nil_nil, ne_nil_nil, eq_slice_nil, eq_nil_slice, ia_1, lx hh3]; exact so_so) ?_)
  refine use_reach (F := pt r1 (.cells w.cells 26 (0, 0))) hv hN hh3 fun v25 R h5 hR nR hh5 => ?_
  have hh5 : (own g * (pt r1 (.cells w.cells 26 (0, 0)) * SG iE 3 v25 R * tt)) h5 := asr (by ac_rfl) hh5
  have lx5 : ∀ {h} {A : Asrt}, (own g * (pt r1 (.cells w.cells 26 (0, 0)) * A * tt)) h → ldN 9 (.pointer (some ⟨r1, 0, none⟩)) h = some w.val := fun {h A} q => lv (G := A * (own g * tt)) (asr (by ac_rfl) q)
  refine ⟨lx5 hh5, lx5 hh5, ?_⟩
  refine use_lost (F := pt r1 (.cells w.cells 26 (0, 0)) * SG iE 3 v25 R) hv hN hh5 fun v27 Ls h6 hL nL hh6 => ?_
  have hh6 : (own g * (pt r1 (.cells w.cells 26 (0, 0)) * (SG iE 3 v25 R * SG iE 3 v27 Ls) * tt)) h6 := asr (by ac_rfl) hh6
  refine ⟨lx5 hh6, ?_⟩
  refine use_roots (F := pt r1 (.cells w.cells 26 (0, 0)) * (SG iE 3 v25 R * SG iE 3 v27 Ls)) hv hN hh6 fun v29 h7 hh7 => ?_
  refine vA_new (f := ptrV) hh7 fun r3 h8 hh8 => ?_
  refine vA_new (f := ptrV) hh8 fun r4 h9 hh9 => ?_
  have o25 : Go.Sl.one v25 = true := SG_one iE (asr (by ac_rfl) hh9 : (SG iE 3 v25 R * (SG iE 3 v27 Ls * (SG iE 3 v29 w.rootsL * (pt r3 (.cells #[.slice none 0 0] 22 (0, 0)) * (pt r4 (.cells #[.slice none 0 0] 22 (0, 0)) * (own g * (pt r1 (.cells w.cells 26 (0, 0)) * tt))))))) h9)
  have o27 : Go.Sl.one v27 = true := SG_one iE (asr (by ac_rfl) hh9 : (SG iE 3 v27 Ls * (SG iE 3 v25 R * (SG iE 3 v29 w.rootsL * (pt r3 (.cells #[.slice none 0 0] 22 (0, 0)) * (pt r4 (.cells #[.slice none 0 0] 22 (0, 0)) * (own g * (pt r1 (.cells w.cells 26 (0, 0)) * tt))))))) h9)
  have q3 : (pt r3 (.cells #[.slice none 0 0] 22 (0, 0)) * (pt r4 (.cells #[.slice none 0 0] 22 (0, 0)) * (SG iE 3 v29 w.rootsL * (SG iE 3 v25 R * (SG iE 3 v27 Ls * (own g * (pt r1 (.cells w.cells 26 (0, 0)) * tt))))))) h9 := asr (by ac_rfl) hh9
  refine st1_mk q3 o25 (by simp) fun h10 q4 => ?_
  have q4 : (pt r4 (.cells #[.slice none 0 0] 22 (0, 0)) * (pt r3 (.cells #[v25] 22 (0, 0)) * (SG iE 3 v29 w.rootsL * (SG iE 3 v25 R * (SG iE 3 v27 Ls * (own g * (pt r1 (.cells w.cells 26 (0, 0)) * tt))))))) h10 := asr (by ac_rfl) q4
  refine st1_mk q4 o27 (by simp) fun h11 q5 => ?_
  have q5 : (pt r4 (.cells #[v27] 22 (0, 0)) * (pt r3 (.cells #[v25] 22 (0, 0)) * (SG iE 3 v29 w.rootsL * (SG iE 3 v25 R * (SG iE 3 v27 Ls * (own g * (pt r1 (.cells w.cells 26 (0, 0)) * tt))))))) h11 := q5
  obtain ⟨g', hg', hh11⟩ := own_pick (A := pt r4 (.cells #[v27] 22 (0, 0)) * (pt r3 (.cells #[v25] 22 (0, 0)) * (SG iE 3 v29 w.rootsL * (SG iE 3 v25 R * (SG iE 3 v27 Ls * (own g * pt r1 (.cells w.cells 26 (0, 0)))))))) (F := emp * tt) (asr (by rw [emp_star]; ac_rfl) q5)
  have Cc : Cl g' w r1 r3 r4 v25 v27 v29 R Ls := by
    have a1 : (own g * (pt r4 (.cells #[v27] 22 (0, 0)) * (pt r3 (.cells #[v25] 22 (0, 0)) * (SG iE 3 v29 w.rootsL * (SG iE 3 v25 R * (SG iE 3 v27 Ls * pt r1 (.cells w.cells 26 (0, 0)))))))) g' := asr (by ac_rfl) hg'
    have a2 : (SG iE 3 v25 R * (pt r4 (.cells #[v27] 22 (0, 0)) * (pt r3 (.cells #[v25] 22 (0, 0)) * (SG iE 3 v29 w.rootsL * (SG iE 3 v27 Ls * (own g * pt r1 (.cells w.cells 26 (0, 0)))))))) g' := asr (by ac_rfl) hg'
    have a3 : (SG iE 3 v27 Ls * (pt r4 (.cells #[v27] 22 (0, 0)) * (pt r3 (.cells #[v25] 22 (0, 0)) * (SG iE 3 v29 w.rootsL * (SG iE 3 v25 R * (own g * pt r1 (.cells w.cells 26 (0, 0)))))))) g' := asr (by ac_rfl) hg'
    have a4 : (SG iE 3 v29 w.rootsL * (pt r4 (.cells #[v27] 22 (0, 0)) * (pt r3 (.cells #[v25] 22 (0, 0)) * (SG iE 3 v25 R * (SG iE 3 v27 Ls * (own g * pt r1 (.cells w.cells 26 (0, 0)))))))) g' := asr (by ac_rfl) hg'
    have a5 : (pt r1 (.cells w.cells 26 (0, 0)) * (pt r4 (.cells #[v27] 22 (0, 0)) * (pt r3 (.cells #[v25] 22 (0, 0)) * (SG iE 3 v29 w.rootsL * (SG iE 3 v25 R * (SG iE 3 v27 Ls * own g)))))) g' := asr (by ac_rfl) hg'
    have a6 : (pt r3 (.cells #[v25] 22 (0, 0)) * (pt r4 (.cells #[v27] 22 (0, 0)) * (SG iE 3 v29 w.rootsL * (SG iE 3 v25 R * (SG iE 3 v27 Ls * (own g * pt r1 (.cells w.cells 26 (0, 0)))))))) g' := asr (by ac_rfl) hg'
    have lw := vw_ld (r := r1) (w := w) (E := 26) a5
    exact ⟨own_vat a1 hv, SG_ints a2, SG_ints a3, SG_ints a4, lw.2.2.2.2.2.2.2.2.2, lw.2.2.2.2.2.1, ld1_mk (pt_get a6) rfl, ld1_mk (pt_get hg') rfl, hR, hL, nR, nL⟩
  have fin : ∀ h', (own g' * (emp * tt)) h' → CallH Try.prog 13 #[] (fun v h => ((pr (v = Value.bool true) * own g) * tt) h) h' := fun h' q => by
    have q := own_back hg' q
    refine told h' (dropL (P := pt r4 (.cells #[v27] 22 (0, 0)) * (pt r3 (.cells #[v25] 22 (0, 0)) * (SG iE 3 v29 w.rootsL * (SG iE 3 v25 R * SG iE 3 v27 Ls)))) (Q := own g * pt r1 (.cells w.cells 26 (0, 0))) (asr (by rw [emp_star]; ac_rfl) q) |> asr (by ac_rfl))
  clear told lx lx5 q3 q4 q5 hg' hh9 hh8 hh7 hh6 hh5 hh3 hh2 hh1 lv hh
  have hrt : ∀ x ∈ w.rootsL, w.root x := fun x hx => by unfold VW.rootsL at hx; rw [foldl_once_mem] at hx; simpa [VW.root] using hx
  have hrt2 : ∀ x, w.root x → x ∈ w.rootsL := fun x hx => by unfold VW.rootsL; rw [foldl_once_mem]; exact .inr hx
  have lenN := Cc.iN.len
  have ltN := Cc.iN.lt
  have ltR := Cc.iR.lt
  have ltL := Cc.iL.lt
  have hol := Cc.va.objs_len
  repeat (with_reducible first | refine vP_so ?_ | refine vB_t ?_ | refine vB_f ?_ | refine vE_tt ?_ | refine vE_ff ?_ | refine vE_tf ?_ | refine vE_ft ?_ | refine vE_u ?_ | refine vP_to (by simp (disch := omega) only [gdW_true, gdW_false, gB_true, gB_false, gB_undef, pickV_true, pickV_false, Bool.not_true, Bool.not_false, Option.map_some, bin_add, bin_sub, bin_mul, bin_quo, bin_rem, lss_t, lss_f, leq_t, leq_f, gtr_t, gtr_f, geq_t, geq_f, eqi_t, eqi_f, nei_t, nei_f, rem_uw, conv_ui, conv_iu, conv_ii, not_bool, nil_ptr, fa_mk, ptrV, len_mk, cap_mk, eq_ptr_nil, ne_ptr_nil, eq_nil_nil, ne_nil_nil, eq_slice_nil, eq_nil_slice, ia_1]; exact so_so) ?_)
  refine ⟨fun m zs h' => ∃ i : Nat, zs = [.int .i64 i] ∧ m = w.rootsL.length - i ∧ i ≤ w.rootsL.length ∧ h' = h11, ⟨_, 0, rfl, rfl, by omega, rfl⟩, ?_⟩
  rintro m v7 h12 ⟨i, hzs, rfl, hi, rfl⟩ _
  obtain rfl : v7 = .int .i64 i := by simpa using hzs
  by_cases hil : i < w.rootsL.length
  · obtain ⟨p, f1, f2⟩ := (own_ints hh11 Cc.iN).get i _ .i64 (List.getElem?_eq_getElem hil)
    have hx := hrt _ (List.getElem_mem hil)
    generalize w.rootsL[i] = x at *
    have hx0 : x ≠ 0 := hx.2
    repeat (with_reducible first | refine vP_so ?_ | refine vB_t ?_ | refine vB_f ?_ | refine vE_tt ?_ | refine vE_ff ?_ | refine vE_tf ?_ | refine vE_ft ?_ | refine vE_u ?_ | refine vP_to (by simp (disch := omega) only [gdW_true, gdW_false, gB_true, gB_false, gB_undef, pickV_true, pickV_false, Bool.not_true, Bool.not_false, Option.map_some, bin_add, bin_sub, bin_mul, bin_quo, bin_rem, lss_t, lss_f, leq_t, leq_f, gtr_t, gtr_f, geq_t, geq_f, eqi_t, eqi_f, nei_t, nei_f, rem_uw, conv_ui, conv_iu, conv_ii, not_bool, nil_ptr, fa_mk, ptrV, len_mk, cap_mk, eq_ptr_nil, ne_ptr_nil, eq_nil_nil, ne_nil_nil, eq_slice_nil, eq_nil_slice, ia_1, lenN, f1, f2]; exact so_so) ?_)
    refine use_okc Cc (fun _ => .root hx.1 hx.2) hh11 ?_
    repeat (with_reducible first | refine vP_so ?_ | refine vB_t ?_ | refine vB_f ?_ | refine vE_tt ?_ | refine vE_ff ?_ | refine vE_tf ?_ | refine vE_ft ?_ | refine vE_u ?_ | refine vP_to (by simp (disch := omega) only [gdW_true, gdW_false, gB_true, gB_false, gB_undef, pickV_true, pickV_false, Bool.not_true, Bool.not_false, Option.map_some, bin_add, bin_sub, bin_mul, bin_quo, bin_rem, lss_t, lss_f, leq_t, leq_f, gtr_t, gtr_f, geq_t, geq_f, eqi_t, eqi_f, nei_t, nei_f, rem_uw, conv_ui, conv_iu, conv_ii, not_bool, nil_ptr, fa_mk, ptrV, len_mk, cap_mk, eq_ptr_nil, ne_ptr_nil, eq_nil_nil, ne_nil_nil, eq_slice_nil, eq_nil_slice, ia_1]; exact so_so) ?_)
    exact ⟨w.rootsL.length - (i + 1), by omega, i + 1, by simp, rfl, by omega, rfl⟩
  obtain rfl : i = w.rootsL.length := by omega
  repeat (with_reducible first | refine vP_so ?_ | refine vB_t ?_ | refine vB_f ?_ | refine vE_tt ?_ | refine vE_ff ?_ | refine vE_tf ?_ | refine vE_ft ?_ | refine vE_u ?_ | refine vP_to (by simp (disch := omega) only [gdW_true, gdW_false, gB_true, gB_false, gB_undef, pickV_true, pickV_false, Bool.not_true, Bool.not_false, Option.map_some, bin_add, bin_sub, bin_mul, bin_quo, bin_rem, lss_t, lss_f, leq_t, leq_f, gtr_t, gtr_f, geq_t, geq_f, eqi_t, eqi_f, nei_t, nei_f, rem_uw, conv_ui, conv_iu, conv_ii, not_bool, nil_ptr, fa_mk, ptrV, len_mk, cap_mk, eq_ptr_nil, ne_ptr_nil, eq_nil_nil, ne_nil_nil, eq_slice_nil, eq_nil_slice, ia_1, lenN]; exact so_so) ?_)
  refine ⟨fun m zs h' => ∃ i : Nat, zs = [.int .i64 i] ∧ m = R.length - i ∧ i ≤ R.length ∧ (own g' * (emp * tt)) h', ⟨_, 0, rfl, rfl, by omega, hh11⟩, ?_⟩
  clear hi hil hzs
  rintro m v8 h14 ⟨i, hzs, rfl, hi, hh14⟩ _
  obtain rfl : v8 = .int .i64 i := by simpa using hzs
  have l3 := own_ld1 hh14 Cc.l3
  have lenR := Cc.iR.len
  by_cases hil : i < R.length
  · obtain ⟨p, f1, f2⟩ := (own_ints hh14 Cc.iR).get i _ .i64 (List.getElem?_eq_getElem hil)
    have hxR := List.getElem_mem hil
    have hgx : R[i]? = some R[i] := List.getElem?_eq_getElem hil
    generalize R[i] = x at *
    have hx := (Cc.hR.2 x).1 hxR
    cases hat : w.at x with
    | none => rw [hat] at hx; cases hx.2
    | some k =>
    obtain ⟨o, hok, hoa⟩ := at_some hat
    have hkl := (List.getElem?_eq_some_iff.1 hok).1
    have hom := List.mem_of_getElem? hok
    have hfk : findV w x = k := by unfold findV; rw [hat]
    have lv := own_ldN hh14 Cc.lv
    repeat (with_reducible first | refine vP_so ?_ | refine vB_t ?_ | refine vB_f ?_ | refine vE_tt ?_ | refine vE_ff ?_ | refine vE_tf ?_ | refine vE_ft ?_ | refine vE_u ?_ | refine vP_to (by simp (disch := omega) only [gdW_true, gdW_false, gB_true, gB_false, gB_undef, pickV_true, pickV_false, Bool.not_true, Bool.not_false, Option.map_some, bin_add, bin_sub, bin_mul, bin_quo, bin_rem, lss_t, lss_f, leq_t, leq_f, gtr_t, gtr_f, geq_t, geq_f, eqi_t, eqi_f, nei_t, nei_f, rem_uw, conv_ui, conv_iu, conv_ii, not_bool, nil_ptr, fa_mk, ptrV, len_mk, cap_mk, eq_ptr_nil, ne_ptr_nil, eq_nil_nil, ne_nil_nil, eq_slice_nil, eq_nil_slice, ia_1, l3, lenR, lv, f1, f2]; exact so_so) ?_)
    refine use_vfind Cc.va hh14 fun h15 hh15 => ?_
    rw [hfk]
    have l3 := own_ld1 hh15 Cc.l3
    have lo := own_ld1 hh15 Cc.lo
    obtain ⟨b0, q0, e1, e2, e3, _, _⟩ := (own_vat hh15 Cc.va).obj hok .i64
    rw [hoa] at e2
    obtain ⟨p', f1', f2'⟩ := (own_ints hh15 Cc.iR).get i _ .i64 hgx
    repeat (with_reducible first | refine vP_so ?_ | refine vB_t ?_ | refine vB_f ?_ | refine vE_tt ?_ | refine vE_ff ?_ | refine vE_tf ?_ | refine vE_ft ?_ | refine vE_u ?_ | refine vP_to (by simp (disch := omega) only [gdW_true, gdW_false, gB_true, gB_false, gB_undef, pickV_true, pickV_false, Bool.not_true, Bool.not_false, Option.map_some, bin_add, bin_sub, bin_mul, bin_quo, bin_rem, lss_t, lss_f, leq_t, leq_f, gtr_t, gtr_f, geq_t, geq_f, eqi_t, eqi_f, nei_t, nei_f, rem_uw, conv_ui, conv_iu, conv_ii, not_bool, nil_ptr, fa_mk, ptrV, len_mk, cap_mk, eq_ptr_nil, ne_ptr_nil, eq_nil_nil, ne_nil_nil, eq_slice_nil, eq_nil_slice, ia_1, l3, lo, hol.1, e1, e2, f1', f2']; exact so_so) ?_)
    have lenS := (Cc.va.slots o hom).len
    have ltS := (Cc.va.slots o hom).lt
    refine ⟨fun m zs h' => ∃ j : Nat, zs = [.int .i64 j] ∧ m = o.slots.length - j ∧ j ≤ o.slots.length ∧ h' = h15, ⟨_, 0, rfl, rfl, by omega, rfl⟩, ?_⟩
    rintro m v10 h16 ⟨j, hzs, rfl, hj, rfl⟩ _
    obtain rfl : v10 = .int .i64 j := by simpa using hzs
    by_cases hjl : j < o.slots.length
    · obtain ⟨p2, f3, f4⟩ := (own_ints hh15 (Cc.va.slots o hom)).get j _ .i64 (List.getElem?_eq_getElem hjl)
      have hys := List.getElem_mem hjl
      generalize o.slots[j] = y at *
      repeat (with_reducible first | refine vP_so ?_ | refine vB_t ?_ | refine vB_f ?_ | refine vE_tt ?_ | refine vE_ff ?_ | refine vE_tf ?_ | refine vE_ft ?_ | refine vE_u ?_ | refine vP_to (by simp (disch := omega) only [gdW_true, gdW_false, gB_true, gB_false, gB_undef, pickV_true, pickV_false, Bool.not_true, Bool.not_false, Option.map_some, bin_add, bin_sub, bin_mul, bin_quo, bin_rem, lss_t, lss_f, leq_t, leq_f, gtr_t, gtr_f, geq_t, geq_f, eqi_t, eqi_f, nei_t, nei_f, rem_uw, conv_ui, conv_iu, conv_ii, not_bool, nil_ptr, fa_mk, ptrV, len_mk, cap_mk, eq_ptr_nil, ne_ptr_nil, eq_nil_nil, ne_nil_nil, eq_slice_nil, eq_nil_slice, ia_1, lo, e1, e3, lenS, f3, f4]; exact so_so) ?_)
      refine use_okc Cc (fun hy => .step hx.1 hat hok hys hy) hh15 ?_
      repeat (with_reducible first | refine vP_so ?_ | refine vB_t ?_ | refine vB_f ?_ | refine vE_tt ?_ | refine vE_ff ?_ | refine vE_tf ?_ | refine vE_ft ?_ | refine vE_u ?_ | refine vP_to (by simp (disch := omega) only [gdW_true, gdW_false, gB_true, gB_false, gB_undef, pickV_true, pickV_false, Bool.not_true, Bool.not_false, Option.map_some, bin_add, bin_sub, bin_mul, bin_quo, bin_rem, lss_t, lss_f, leq_t, leq_f, gtr_t, gtr_f, geq_t, geq_f, eqi_t, eqi_f, nei_t, nei_f, rem_uw, conv_ui, conv_iu, conv_ii, not_bool, nil_ptr, fa_mk, ptrV, len_mk, cap_mk, eq_ptr_nil, ne_ptr_nil, eq_nil_nil, ne_nil_nil, eq_slice_nil, eq_nil_slice, ia_1]; exact so_so) ?_)
      exact ⟨o.slots.length - (j + 1), by omega, j + 1, by simp, rfl, by omega, rfl⟩
    obtain rfl : j = o.slots.length := by omega
    have lv := own_ldN hh15 Cc.lv
    repeat (with_reducible first | refine vP_so ?_ | refine vB_t ?_ | refine vB_f ?_ | refine vE_tt ?_ | refine vE_ff ?_ | refine vE_tf ?_ | refine vE_ft ?_ | refine vE_u ?_ | refine vP_to (by simp (disch := omega) only [gdW_true, gdW_false, gB_true, gB_false, gB_undef, pickV_true, pickV_false, Bool.not_true, Bool.not_false, Option.map_some, bin_add, bin_sub, bin_mul, bin_quo, bin_rem, lss_t, lss_f, leq_t, leq_f, gtr_t, gtr_f, geq_t, geq_f, eqi_t, eqi_f, nei_t, nei_f, rem_uw, conv_ui, conv_iu, conv_ii, not_bool, nil_ptr, fa_mk, ptrV, len_mk, cap_mk, eq_ptr_nil, ne_ptr_nil, eq_nil_nil, ne_nil_nil, eq_slice_nil, eq_nil_slice, ia_1, lo, e1, e3, lenS, lv, l3, f1', f2']; exact so_so) ?_)
    refine use_path Cc.va hN hh15 fun v113 l h18 hP nl hh18 => ?_
    have hB : Best w l x := by
      rcases hP with ⟨_, hB⟩ | ⟨_, hq | hq⟩
      · exact hB
      · rw [hat] at hq; cases hq
      · obtain ⟨p, hp⟩ := hx.1.way
        exact (hq p hp).elim
    have hpos := hB.way.pos
    have hfew := hB.few hx.2 Cc.hR.2
    obtain ⟨y0, hy0, hyr⟩ := hB.way.head
    have hlast : l[l.length - 1]? = some x := by
      obtain ⟨u, rfl⟩ := hB.way.last
      simp
    have hown : ∀ {h}, (SG iE 3 v113 l * (own g' * (emp * tt))) h → (own g' * (SG iE 3 v113 l * tt)) h := fun q => asr (by rw [emp_star]; ac_rfl) q
    have hi18 : IntsAt h18 v113 l := SG_ints hh18
    have len18 := hi18.len
    obtain ⟨pa, a1, a2⟩ := hi18.get (l.length - 1) x .i64 hlast
    rw [show (((l.length - 1 : Nat)) : Int) = (l.length : Int) - 1 by omega] at a1
    obtain ⟨pb, b1, b2⟩ := hi18.get 0 y0 .i64 hy0
    have b1 : iaS 1 v113 (.int .i64 0) = some pb := b1
    have l3 := own_ld1 (hown hh18) Cc.l3
    obtain ⟨p3, f5, f6⟩ := (own_ints (hown hh18) Cc.iR).get i _ .i64 hgx
    repeat (with_reducible first | refine vP_so ?_ | refine vB_t ?_ | refine vB_f ?_ | refine vE_tt ?_ | refine vE_ff ?_ | refine vE_tf ?_ | refine vE_ft ?_ | refine vE_u ?_ | refine vP_to (by simp (disch := omega) only [gdW_true, gdW_false, gB_true, gB_false, gB_undef, pickV_true, pickV_false, Bool.not_true, Bool.not_false, Option.map_some, bin_add, bin_sub, bin_mul, bin_quo, bin_rem, lss_t, lss_f, leq_t, leq_f, gtr_t, gtr_f, geq_t, geq_f, eqi_t, eqi_f, nei_t, nei_f, rem_uw, conv_ui, conv_iu, conv_ii, not_bool, nil_ptr, fa_mk, ptrV, len_mk, cap_mk, eq_ptr_nil, ne_ptr_nil, eq_nil_nil, ne_nil_nil, eq_slice_nil, eq_nil_slice, ia_1, len18, l3, lenR, a1, a2, b1, b2, f5, f6]; exact so_so) ?_)
    refine use_has (own_ints (hown hh18) Cc.iN) ?_
    rw [decide_eq_true (hrt2 y0 hyr)]
    repeat (with_reducible first | refine vP_so ?_ | refine vB_t ?_ | refine vB_f ?_ | refine vE_tt ?_ | refine vE_ff ?_ | refine vE_tf ?_ | refine vE_ft ?_ | refine vE_u ?_ | refine vP_to (by simp (disch := omega) only [gdW_true, gdW_false, gB_true, gB_false, gB_undef, pickV_true, pickV_false, Bool.not_true, Bool.not_false, Option.map_some, bin_add, bin_sub, bin_mul, bin_quo, bin_rem, lss_t, lss_f, leq_t, leq_f, gtr_t, gtr_f, geq_t, geq_f, eqi_t, eqi_f, nei_t, nei_f, rem_uw, conv_ui, conv_iu, conv_ii, not_bool, nil_ptr, fa_mk, ptrV, len_mk, cap_mk, eq_ptr_nil, ne_ptr_nil, eq_nil_nil, ne_nil_nil, eq_slice_nil, eq_nil_slice, ia_1]; exact so_so) ?_)
    refine ⟨fun m zs h' => ∃ j : Nat, zs = [.int .i64 j] ∧ m = l.length - j ∧ 1 ≤ j ∧ j ≤ l.length ∧ (own g' * (SG iE 3 v113 l * tt)) h', ⟨_, 1, rfl, rfl, by omega, by omega, hown hh18⟩, ?_⟩
    clear hzs
    rintro m v12 h20 ⟨j, hzs, rfl, hj1, hj, hh20⟩ _
    obtain rfl : v12 = .int .i64 j := by simpa using hzs
    by_cases hjl : j < l.length
    · have hi20 : IntsAt h20 v113 l := SG_ints (asr (by ac_rfl) hh20 : (SG iE 3 v113 l * (own g' * tt)) h20)
      have hy : l[j - 1]? = some (l[j - 1]'(by omega)) := List.getElem?_eq_getElem (by omega)
      have hz : l[j]? = some l[j] := List.getElem?_eq_getElem hjl
      obtain ⟨py, c1, c2⟩ := hi20.get (j - 1) _ .i64 hy
      rw [show (((j - 1 : Nat)) : Int) = (j : Int) - 1 by omega] at c1
      generalize l[j - 1]'(by omega) = y at *
      generalize l[j] = z at *
      obtain ⟨k2, o2, d1, d2, d3, _⟩ := hB.way.steps hy (show l[j - 1 + 1]? = some z by rw [show j - 1 + 1 = j by omega]; exact hz)
      have hk2 := (List.getElem?_eq_some_iff.1 d2).1
      have hom2 := List.mem_of_getElem? d2
      have hfk2 : findV w y = k2 := by unfold findV; rw [d1]
      have lv := own_ldN hh20 Cc.lv
      repeat (with_reducible first | refine vP_so ?_ | refine vB_t ?_ | refine vB_f ?_ | refine vE_tt ?_ | refine vE_ff ?_ | refine vE_tf ?_ | refine vE_ft ?_ | refine vE_u ?_ | refine vP_to (by simp (disch := omega) only [gdW_true, gdW_false, gB_true, gB_false, gB_undef, pickV_true, pickV_false, Bool.not_true, Bool.not_false, Option.map_some, bin_add, bin_sub, bin_mul, bin_quo, bin_rem, lss_t, lss_f, leq_t, leq_f, gtr_t, gtr_f, geq_t, geq_f, eqi_t, eqi_f, nei_t, nei_f, rem_uw, conv_ui, conv_iu, conv_ii, not_bool, nil_ptr, fa_mk, ptrV, len_mk, cap_mk, eq_ptr_nil, ne_ptr_nil, eq_nil_nil, ne_nil_nil, eq_slice_nil, eq_nil_slice, ia_1, len18, lv, c1, c2]; exact so_so) ?_)
      refine use_vfind Cc.va hh20 fun h21 hh21 => ?_
      rw [hfk2]
      have lo := own_ld1 hh21 Cc.lo
      obtain ⟨b3, q3, e4, _, e6, _, _⟩ := (own_vat hh21 Cc.va).obj d2 .i64
      have hi21 : IntsAt h21 v113 l := SG_ints (asr (by ac_rfl) hh21 : (SG iE 3 v113 l * (own g' * tt)) h21)
      obtain ⟨pz, c3, c4⟩ := hi21.get j z .i64 hz
      repeat (with_reducible first | refine vP_so ?_ | refine vB_t ?_ | refine vB_f ?_ | refine vE_tt ?_ | refine vE_ff ?_ | refine vE_tf ?_ | refine vE_ft ?_ | refine vE_u ?_ | refine vP_to (by simp (disch := omega) only [gdW_true, gdW_false, gB_true, gB_false, gB_undef, pickV_true, pickV_false, Bool.not_true, Bool.not_false, Option.map_some, bin_add, bin_sub, bin_mul, bin_quo, bin_rem, lss_t, lss_f, leq_t, leq_f, gtr_t, gtr_f, geq_t, geq_f, eqi_t, eqi_f, nei_t, nei_f, rem_uw, conv_ui, conv_iu, conv_ii, not_bool, nil_ptr, fa_mk, ptrV, len_mk, cap_mk, eq_ptr_nil, ne_ptr_nil, eq_nil_nil, ne_nil_nil, eq_slice_nil, eq_nil_slice, ia_1, lo, hol.1, e4, e6, c3, c4]; exact so_so) ?_)
      refine use_has (own_ints hh21 (Cc.va.slots o2 hom2)) ?_
      rw [decide_eq_true d3]
      repeat (with_reducible first | refine vP_so ?_ | refine vB_t ?_ | refine vB_f ?_ | refine vE_tt ?_ | refine vE_ff ?_ | refine vE_tf ?_ | refine vE_ft ?_ | refine vE_u ?_ | refine vP_to (by simp (disch := omega) only [gdW_true, gdW_false, gB_true, gB_false, gB_undef, pickV_true, pickV_false, Bool.not_true, Bool.not_false, Option.map_some, bin_add, bin_sub, bin_mul, bin_quo, bin_rem, lss_t, lss_f, leq_t, leq_f, gtr_t, gtr_f, geq_t, geq_f, eqi_t, eqi_f, nei_t, nei_f, rem_uw, conv_ui, conv_iu, conv_ii, not_bool, nil_ptr, fa_mk, ptrV, len_mk, cap_mk, eq_ptr_nil, ne_ptr_nil, eq_nil_nil, ne_nil_nil, eq_slice_nil, eq_nil_slice, ia_1]; exact so_so) ?_)
      exact ⟨l.length - (j + 1), by omega, j + 1, by simp, rfl, by omega, by omega, hh21⟩
    · obtain rfl : j = l.length := by omega
      repeat (with_reducible first | refine vP_so ?_ | refine vB_t ?_ | refine vB_f ?_ | refine vE_tt ?_ | refine vE_ff ?_ | refine vE_tf ?_ | refine vE_ft ?_ | refine vE_u ?_ | refine vP_to (by simp (disch := omega) only [gdW_true, gdW_false, gB_true, gB_false, gB_undef, pickV_true, pickV_false, Bool.not_true, Bool.not_false, Option.map_some, bin_add, bin_sub, bin_mul, bin_quo, bin_rem, lss_t, lss_f, leq_t, leq_f, gtr_t, gtr_f, geq_t, geq_f, eqi_t, eqi_f, nei_t, nei_f, rem_uw, conv_ui, conv_iu, conv_ii, not_bool, nil_ptr, fa_mk, ptrV, len_mk, cap_mk, eq_ptr_nil, ne_ptr_nil, eq_nil_nil, ne_nil_nil, eq_slice_nil, eq_nil_slice, ia_1, len18]; exact so_so) ?_)
      exact ⟨R.length - (i + 1), by omega, i + 1, by simp, rfl, by omega, dropL (P := SG iE 3 v113 l) (Q := own g') (asr (by ac_rfl) hh20) |> asr (by rw [emp_star])⟩
  obtain rfl : i = R.length := by omega
  repeat (with_reducible first | refine vP_so ?_ | refine vB_t ?_ | refine vB_f ?_ | refine vE_tt ?_ | refine vE_ff ?_ | refine vE_tf ?_ | refine vE_ft ?_ | refine vE_u ?_ | refine vP_to (by simp (disch := omega) only [gdW_true, gdW_false, gB_true, gB_false, gB_undef, pickV_true, pickV_false, Bool.not_true, Bool.not_false, Option.map_some, bin_add, bin_sub, bin_mul, bin_quo, bin_rem, lss_t, lss_f, leq_t, leq_f, gtr_t, gtr_f, geq_t, geq_f, eqi_t, eqi_f, nei_t, nei_f, rem_uw, conv_ui, conv_iu, conv_ii, not_bool, nil_ptr, fa_mk, ptrV, len_mk, cap_mk, eq_ptr_nil, ne_ptr_nil, eq_nil_nil, ne_nil_nil, eq_slice_nil, eq_nil_slice, ia_1, l3, lenR]; exact so_so) ?_)
  refine ⟨fun m zs h' => ∃ i : Nat, zs = [.int .i64 i] ∧ m = Ls.length - i ∧ i ≤ Ls.length ∧ (own g' * (emp * tt)) h', ⟨_, 0, rfl, rfl, by omega, hh14⟩, ?_⟩
  clear hi hil hzs l3 hh14
  rintro m v14 h23 ⟨i, hzs, rfl, hi, hh23⟩ _
  obtain rfl : v14 = .int .i64 i := by simpa using hzs
  have l4 := own_ld1 hh23 Cc.l4
  have lenL := Cc.iL.len
  by_cases hil : i < Ls.length
  · obtain ⟨p, f1, f2⟩ := (own_ints hh23 Cc.iL).get i _ .i64 (List.getElem?_eq_getElem hil)
    have hxL := List.getElem_mem hil
    have hgx : Ls[i]? = some Ls[i] := List.getElem?_eq_getElem hil
    generalize Ls[i] = x at *
    have hat := ((Cc.hL.2 x).1 hxL).2
    have hfk : findV w x = -1 := by unfold findV; rw [hat]
    have lv := own_ldN hh23 Cc.lv
    repeat (with_reducible first | refine vP_so ?_ | refine vB_t ?_ | refine vB_f ?_ | refine vE_tt ?_ | refine vE_ff ?_ | refine vE_tf ?_ | refine vE_ft ?_ | refine vE_u ?_ | refine vP_to (by simp (disch := omega) only [gdW_true, gdW_false, gB_true, gB_false, gB_undef, pickV_true, pickV_false, Bool.not_true, Bool.not_false, Option.map_some, bin_add, bin_sub, bin_mul, bin_quo, bin_rem, lss_t, lss_f, leq_t, leq_f, gtr_t, gtr_f, geq_t, geq_f, eqi_t, eqi_f, nei_t, nei_f, rem_uw, conv_ui, conv_iu, conv_ii, not_bool, nil_ptr, fa_mk, ptrV, len_mk, cap_mk, eq_ptr_nil, ne_ptr_nil, eq_nil_nil, ne_nil_nil, eq_slice_nil, eq_nil_slice, ia_1, l4, lenL, lv, f1, f2]; exact so_so) ?_)
    refine use_vfind Cc.va hh23 fun h24 hh24 => ?_
    rw [hfk]
    have l4 := own_ld1 hh24 Cc.l4
    have lv := own_ldN hh24 Cc.lv
    obtain ⟨p', f1', f2'⟩ := (own_ints hh24 Cc.iL).get i _ .i64 hgx
    repeat (with_reducible first | refine vP_so ?_ | refine vB_t ?_ | refine vB_f ?_ | refine vE_tt ?_ | refine vE_ff ?_ | refine vE_tf ?_ | refine vE_ft ?_ | refine vE_u ?_ | refine vP_to (by simp (disch := omega) only [gdW_true, gdW_false, gB_true, gB_false, gB_undef, pickV_true, pickV_false, Bool.not_true, Bool.not_false, Option.map_some, bin_add, bin_sub, bin_mul, bin_quo, bin_rem, lss_t, lss_f, leq_t, leq_f, gtr_t, gtr_f, geq_t, geq_f, eqi_t, eqi_f, nei_t, nei_f, rem_uw, conv_ui, conv_iu, conv_ii, not_bool, nil_ptr, fa_mk, ptrV, len_mk, cap_mk, eq_ptr_nil, ne_ptr_nil, eq_nil_nil, ne_nil_nil, eq_slice_nil, eq_nil_slice, ia_1, l4, lv, f1', f2']; exact so_so) ?_)
    refine use_path Cc.va hN hh24 fun v200 l h25 hP nl hh25 => ?_
    obtain rfl : l = [] := by
      rcases hP with ⟨hq, _⟩ | ⟨hq, _⟩
      · exact (hq hat).elim
      · exact hq
    have len25 := SG_len iE hh25
    simp only [List.length_nil] at len25
    repeat (with_reducible first | refine vP_so ?_ | refine vB_t ?_ | refine vB_f ?_ | refine vE_tt ?_ | refine vE_ff ?_ | refine vE_tf ?_ | refine vE_ft ?_ | refine vE_u ?_ | refine vP_to (by simp (disch := omega) only [gdW_true, gdW_false, gB_true, gB_false, gB_undef, pickV_true, pickV_false, Bool.not_true, Bool.not_false, Option.map_some, bin_add, bin_sub, bin_mul, bin_quo, bin_rem, lss_t, lss_f, leq_t, leq_f, gtr_t, gtr_f, geq_t, geq_f, eqi_t, eqi_f, nei_t, nei_f, rem_uw, conv_ui, conv_iu, conv_ii, not_bool, nil_ptr, fa_mk, ptrV, len_mk, cap_mk, eq_ptr_nil, ne_ptr_nil, eq_nil_nil, ne_nil_nil, eq_slice_nil, eq_nil_slice, ia_1, len25]; exact so_so) ?_)
    exact ⟨Ls.length - (i + 1), by omega, i + 1, by simp, rfl, by omega, dropL (P := SG iE 3 v200 []) (Q := own g') (asr (by rw [emp_star]) hh25) |> asr (by rw [emp_star])⟩
  obtain rfl : i = Ls.length := by omega
  repeat (with_reducible first | refine vP_so ?_ | refine vB_t ?_ | refine vB_f ?_ | refine vE_tt ?_ | refine vE_ff ?_ | refine vE_tf ?_ | refine vE_ft ?_ | refine vE_u ?_ | refine vP_to (by simp (disch := omega) only [gdW_true, gdW_false, gB_true, gB_false, gB_undef, pickV_true, pickV_false, Bool.not_true, Bool.not_false, Option.map_some, bin_add, bin_sub, bin_mul, bin_quo, bin_rem, lss_t, lss_f, leq_t, leq_f, gtr_t, gtr_f, geq_t, geq_f, eqi_t, eqi_f, nei_t, nei_f, rem_uw, conv_ui, conv_iu, conv_ii, not_bool, nil_ptr, fa_mk, ptrV, len_mk, cap_mk, eq_ptr_nil, ne_ptr_nil, eq_nil_nil, ne_nil_nil, eq_slice_nil, eq_nil_slice, ia_1, l4, lenL]; exact so_so) ?_)
  exact fin h23 hh23

end Go.Proofs
