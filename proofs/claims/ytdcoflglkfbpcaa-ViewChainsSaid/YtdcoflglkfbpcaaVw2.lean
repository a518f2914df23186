/-
  Contracts of package view: Roots.
-/
import Derived.Test.YtdcoflglkfbpcaaVw1
set_option linter.unusedVariables false
set_option linter.unusedSimpArgs false
set_option maxRecDepth 100000
namespace Go.Proofs
open Go.Sl

/-- A variable that holds a list of its own. -/
def OutS (r : Nat) (l : List Int) : Asrt := ex fun ov => pt r (.cells #[ov] 22 (0, 0)) * SG iE 3 ov l

theorem OutS_elim {r : Nat} {l : List Int} {F : Asrt} {h : Hp} (hh : (OutS r l * F) h) : ∃ ov, (pt r (.cells #[ov] 22 (0, 0)) * (SG iE 3 ov l * F)) h := by
  obtain ⟨ov, hh⟩ := ex_star.1 hh
  exact ⟨ov, asr (star_assoc _ _ _) hh⟩

theorem OutS_intro {r : Nat} {l : List Int} {ov : Value} {F : Asrt} {h : Hp} (hh : (pt r (.cells #[ov] 22 (0, 0)) * (SG iE 3 ov l * F)) h) : (OutS r l * F) h := ex_star.2 ⟨ov, asr (star_assoc _ _ _).symm hh⟩

theorem setM_once {out : List Int} {x : Int} : setM (0 :: onceL out x) = if x = 0 ∨ x ∈ out then setM (0 :: out) else setM (x :: 0 :: out) := by
  unfold onceL
  split
  · rfl
  · refine setM_congr fun y => ?_
    simp only [List.mem_cons, List.mem_append, List.mem_singleton, List.not_mem_nil, or_false]
    constructor
    · rintro (h | h | h)
      · exact .inr (.inl h)
      · exact .inr (.inr h)
      · exact .inl h
    · rintro (h | h | h)
      · exact .inr (.inr h)
      · exact .inl h
      · exact .inr (.inl h)

theorem use_add {g : Hp} {sv : Value} {xs out : List Int} {r3 r4 r8 : Nat} {F : Asrt} {K : Value → Hp → Prop} {h : Hp} (hx : IntsAt g sv xs) (hb : out.length + xs.length ≤ 1073741824)
    (hh : (own g * (pt r4 (.cells #[.map (some r8)] 51 (0, 0)) * (MP r8 (setM (0 :: out)) * (OutS r3 out * (F * tt))))) h)
    (hK : ∀ h', (own g * (pt r4 (.cells #[.map (some r8)] 51 (0, 0)) * (MP r8 (setM (0 :: xs.foldl onceL out)) * (OutS r3 (xs.foldl onceL out) * (F * tt))))) h' → K (.tuple #[]) h') :
    cvW Try.prog (.func (.func 47) #[] #[.pointer (some ⟨r4, 0, none⟩), .pointer (some ⟨r3, 0, none⟩)]) #[sv] K h := by
  refine cv_fn (by kernel_rfl) ?_
  show CallH Try.prog 47 #[sv, .pointer (some ⟨r4, 0, none⟩), .pointer (some ⟨r3, 0, none⟩)] K h
  refine C47 ?_
  unfold D47
  have hlt := hx.lt
  repeat (with_reducible first | refine vP_so ?_ | refine vB_t ?_ | refine vB_f ?_ | refine vE_tt ?_ | refine vE_ff ?_ | refine vE_tf ?_ | refine vE_ft ?_ | refine vE_u ?_ | refine vP_to (by simp (disch := omega) only [gdW_true, gdW_false, gB_true, gB_false, gB_undef, pickV_true, pickV_false, Bool.not_true, Bool.not_false, Option.map_some, bin_add, bin_sub, bin_mul, bin_quo, bin_rem, lss_t, lss_f, leq_t, leq_f, gtr_t, gtr_f, geq_t, geq_f, eqi_t, eqi_f, nei_t, nei_f, rem_uw, conv_ui, conv_iu, conv_ii, not_bool, nil_ptr, fa_mk, ptrV, len_mk, cap_mk, eq_ptr_nil, ne_ptr_nil, eq_nil_nil, ne_nil_nil, eq_slice_nil, eq_nil_slice, ia_1, hx.len]; exact so_so) ?_)
  refine ⟨fun m zs h' => ∃ i : Nat, zs = [.int .i64 i] ∧ m = xs.length - i ∧ i ≤ xs.length ∧ (own g * (pt r4 (.cells #[.map (some r8)] 51 (0, 0)) * (MP r8 (setM (0 :: (xs.take i).foldl onceL out)) * (OutS r3 ((xs.take i).foldl onceL out) * (F * tt))))) h', ⟨_, 0, rfl, rfl, by omega, hh⟩, ?_⟩
  rintro m v8 h1 ⟨i, hzs, rfl, hi, hh1⟩ _
  obtain rfl : v8 = .int .i64 i := by simpa using hzs
  by_cases hil : i < xs.length
  · obtain ⟨p, f1, f2⟩ := hx.get i xs[i] .i64 (List.getElem?_eq_getElem hil)
    have f2 := own_ld1 hh1 f2
    have hfold : (xs.take (i + 1)).foldl onceL out = onceL ((xs.take i).foldl onceL out) xs[i] := by
      rw [List.take_succ_eq_append_getElem hil, List.foldl_append]; rfl
    have hlen : ((xs.take i).foldl onceL out).length ≤ out.length + xs.length := Nat.le_trans foldl_once_len (by rw [List.length_take]; omega)
    generalize xs[i] = x at *
    generalize (xs.take i).foldl onceL out = o at *
    repeat (with_reducible first | refine vP_so ?_ | refine vB_t ?_ | refine vB_f ?_ | refine vE_tt ?_ | refine vE_ff ?_ | refine vE_tf ?_ | refine vE_ft ?_ | refine vE_u ?_ | refine vP_to (by simp (disch := omega) only [gdW_true, gdW_false, gB_true, gB_false, gB_undef, pickV_true, pickV_false, Bool.not_true, Bool.not_false, Option.map_some, bin_add, bin_sub, bin_mul, bin_quo, bin_rem, lss_t, lss_f, leq_t, leq_f, gtr_t, gtr_f, geq_t, geq_f, eqi_t, eqi_f, nei_t, nei_f, rem_uw, conv_ui, conv_iu, conv_ii, not_bool, nil_ptr, fa_mk, ptrV, len_mk, cap_mk, eq_ptr_nil, ne_ptr_nil, eq_nil_nil, ne_nil_nil, eq_slice_nil, eq_nil_slice, ia_1, hx.len]; exact so_so) ?_)
    intro J2 hJ2
    have hJ : ∀ h', (own g * (pt r4 (.cells #[.map (some r8)] 51 (0, 0)) * (MP r8 (setM (0 :: onceL o x)) * (OutS r3 (onceL o x) * (F * tt))))) h' → J2 [] h' := fun h' q => by
      refine hJ2 _ fun _ => ?_
      repeat (with_reducible first | refine vP_so ?_ | refine vB_t ?_ | refine vB_f ?_ | refine vE_tt ?_ | refine vE_ff ?_ | refine vE_tf ?_ | refine vE_ft ?_ | refine vE_u ?_ | refine vP_to (by simp (disch := omega) only [gdW_true, gdW_false, gB_true, gB_false, gB_undef, pickV_true, pickV_false, Bool.not_true, Bool.not_false, Option.map_some, bin_add, bin_sub, bin_mul, bin_quo, bin_rem, lss_t, lss_f, leq_t, leq_f, gtr_t, gtr_f, geq_t, geq_f, eqi_t, eqi_f, nei_t, nei_f, rem_uw, conv_ui, conv_iu, conv_ii, not_bool, nil_ptr, fa_mk, ptrV, len_mk, cap_mk, eq_ptr_nil, ne_ptr_nil, eq_nil_nil, ne_nil_nil, eq_slice_nil, eq_nil_slice, ia_1]; exact so_so) ?_)
      exact ⟨xs.length - (i + 1), by omega, i + 1, rfl, rfl, by omega, by rw [hfold]; exact q⟩
    have hp4 : (pt r4 (.cells #[.map (some r8)] 51 (0, 0)) * (own g * (MP r8 (setM (0 :: o)) * (OutS r3 o * (F * tt))))) h1 := asr (by ac_rfl) hh1
    have l4 : ld1 (.pointer (some ⟨r4, 0, none⟩)) h1 = some (.map (some r8)) := ld1_mk (pt_get hp4) rfl
    have hm : (MP r8 (setM (0 :: o)) * (own g * (pt r4 (.cells #[.map (some r8)] 51 (0, 0)) * (OutS r3 o * (F * tt))))) h1 := asr (by ac_rfl) hh1
    obtain ⟨hlk, _⟩ := lk_MP (k := x) mapII intU zInt hm
    rw [setM_get] at hlk
    by_cases hin : x = 0 ∨ x ∈ o
    · have hin' : x ∈ 0 :: o := by rw [List.mem_cons]; exact hin
      rw [if_pos hin'] at hlk
      repeat (with_reducible first | refine vP_so ?_ | refine vB_t ?_ | refine vB_f ?_ | refine vE_tt ?_ | refine vE_ff ?_ | refine vE_tf ?_ | refine vE_ft ?_ | refine vE_u ?_ | refine vP_to (by simp (disch := omega) only [gdW_true, gdW_false, gB_true, gB_false, gB_undef, pickV_true, pickV_false, Bool.not_true, Bool.not_false, Option.map_some, bin_add, bin_sub, bin_mul, bin_quo, bin_rem, lss_t, lss_f, leq_t, leq_f, gtr_t, gtr_f, geq_t, geq_f, eqi_t, eqi_f, nei_t, nei_f, rem_uw, conv_ui, conv_iu, conv_ii, not_bool, nil_ptr, fa_mk, ptrV, len_mk, cap_mk, eq_ptr_nil, ne_ptr_nil, eq_nil_nil, ne_nil_nil, eq_slice_nil, eq_nil_slice, ia_1, f1, f2, l4, hlk]; exact so_so) ?_)
      have e1 : onceL o x = o := by unfold onceL; rw [if_pos hin]
      rw [e1] at hJ
      exact hJ h1 hh1
    · have hin' : ¬ x ∈ 0 :: o := by rw [List.mem_cons]; exact hin
      rw [if_neg hin'] at hlk
      repeat (with_reducible first | refine vP_so ?_ | refine vB_t ?_ | refine vB_f ?_ | refine vE_tt ?_ | refine vE_ff ?_ | refine vE_tf ?_ | refine vE_ft ?_ | refine vE_u ?_ | refine vP_to (by simp (disch := omega) only [gdW_true, gdW_false, gB_true, gB_false, gB_undef, pickV_true, pickV_false, Bool.not_true, Bool.not_false, Option.map_some, bin_add, bin_sub, bin_mul, bin_quo, bin_rem, lss_t, lss_f, leq_t, leq_f, gtr_t, gtr_f, geq_t, geq_f, eqi_t, eqi_f, nei_t, nei_f, rem_uw, conv_ui, conv_iu, conv_ii, not_bool, nil_ptr, fa_mk, ptrV, len_mk, cap_mk, eq_ptr_nil, ne_ptr_nil, eq_nil_nil, ne_nil_nil, eq_slice_nil, eq_nil_slice, ia_1, f1, f2, l4, hlk]; exact so_so) ?_)
      have e1 : onceL o x = o ++ [x] := by unfold onceL; rw [if_neg hin]
      have e2 : setM (0 :: onceL o x) = setM (x :: 0 :: o) := by rw [setM_once, if_neg hin]
      rw [e1] at e2
      rw [e1, e2] at hJ
      refine mu_MP mapII intU hm fun h3 hh3 => ?_
      rw [setM_put] at hh3
      obtain ⟨ov, hh3⟩ := OutS_elim (F := MP r8 (setM (x :: 0 :: o)) * (own g * (pt r4 (.cells #[.map (some r8)] 51 (0, 0)) * (F * tt)))) (asr (by ac_rfl) hh3)
      have l3 : ld1 (.pointer (some ⟨r3, 0, none⟩)) h3 = some ov := ld1_mk (pt_get hh3) rfl
      have eb : bldV #[.int .i64 0] [(0, 1, .int .i64 x)] = some #[.int .i64 x] := rfl
      repeat (with_reducible first | refine vP_so ?_ | refine vB_t ?_ | refine vB_f ?_ | refine vE_tt ?_ | refine vE_ff ?_ | refine vE_tf ?_ | refine vE_ft ?_ | refine vE_u ?_ | refine vP_to (by simp (disch := omega) only [gdW_true, gdW_false, gB_true, gB_false, gB_undef, pickV_true, pickV_false, Bool.not_true, Bool.not_false, Option.map_some, bin_add, bin_sub, bin_mul, bin_quo, bin_rem, lss_t, lss_f, leq_t, leq_f, gtr_t, gtr_f, geq_t, geq_f, eqi_t, eqi_f, nei_t, nei_f, rem_uw, conv_ui, conv_iu, conv_ii, not_bool, nil_ptr, fa_mk, ptrV, len_mk, cap_mk, eq_ptr_nil, ne_ptr_nil, eq_nil_nil, ne_nil_nil, eq_slice_nil, eq_nil_slice, ia_1, l3, eb]; exact so_so) ?_)
      refine vA_new (f := fun r => .slice (some ⟨r, 0, none⟩) 1 1) hh3 fun r20 h4 hh4 => ?_
      refine ap_new iE (l := o) (m := [x]) (F := pt r3 (.cells #[ov] 22 (0, 0)) * (MP r8 (setM (x :: 0 :: o)) * (own g * (pt r4 (.cells #[.map (some r8)] 51 (0, 0)) * F)))) elInt rfl rfl niInts rfl (by omega) (asr (by ac_rfl) hh4) rfl rfl (by simp only [List.length_singleton]; omega) fun v21 h5 hh5 => ?_
      have hp3 : (pt r3 (.cells #[ov] 22 (0, 0)) * (SG iE 3 v21 (o ++ [x]) * (MP r8 (setM (x :: 0 :: o)) * (own g * (pt r4 (.cells #[.map (some r8)] 51 (0, 0)) * (F * tt)))))) h5 := asr (by ac_rfl) hh5
      refine st1_mk hp3 (SG_one iE hh5) (by simp) fun h6 hh6 => ?_
      have hh6 : (OutS r3 (o ++ [x]) * (MP r8 (setM (x :: 0 :: o)) * (own g * (pt r4 (.cells #[.map (some r8)] 51 (0, 0)) * (F * tt))))) h6 := OutS_intro hh6
      exact hJ h6 (asr (by ac_rfl) hh6)
  · repeat (with_reducible first | refine vP_so ?_ | refine vB_t ?_ | refine vB_f ?_ | refine vE_tt ?_ | refine vE_ff ?_ | refine vE_tf ?_ | refine vE_ft ?_ | refine vE_u ?_ | refine vP_to (by simp (disch := omega) only [gdW_true, gdW_false, gB_true, gB_false, gB_undef, pickV_true, pickV_false, Bool.not_true, Bool.not_false, Option.map_some, bin_add, bin_sub, bin_mul, bin_quo, bin_rem, lss_t, lss_f, leq_t, leq_f, gtr_t, gtr_f, geq_t, geq_f, eqi_t, eqi_f, nei_t, nei_f, rem_uw, conv_ui, conv_iu, conv_ii, not_bool, nil_ptr, fa_mk, ptrV, len_mk, cap_mk, eq_ptr_nil, ne_ptr_nil, eq_nil_nil, ne_nil_nil, eq_slice_nil, eq_nil_slice, ia_1]; exact so_so) ?_)
    obtain rfl : i = xs.length := by omega
    rw [List.take_length] at hh1
    exact hK h1 hh1

theorem flatMap_len_le {l : List Gr} {r : Gr} (h : r ∈ l) : r.stack.length ≤ (l.flatMap (·.stack)).length := by
  induction l with
  | nil => simp at h
  | cons a l ih =>
    rw [List.mem_cons] at h
    rw [List.flatMap_cons, List.length_append]
    rcases h with rfl | h
    · omega
    · have := ih h; omega

theorem use_roots {g : Hp} {w : VW} {F : Asrt} {K : Value → Hp → Prop} {h : Hp} (hv : VAt g w) (hN : w.all.length ≤ 1000000) (hh : (own g * (F * tt)) h)
    (hK : ∀ v h', (SG iE 3 v w.rootsL * (own g * (F * tt))) h' → K v h') : CallH Try.prog 19 #[w.val] K h := by
  refine C19 ?_
  unfold D19
  have hgl := hv.gs_len
  have hnl : w.names.length ≤ 1000000 := by unfold VW.all at hN; rw [List.length_append] at hN; omega
  have hglob : w.globals.length ≤ 1000000 := by unfold VW.names at hnl; rw [List.length_append] at hnl; omega
  refine vA_new (o := .cells w.cells 26 (0, 0)) hh fun r1 h1 hh1 => ?_
  refine vA_new (o := .cells #[.slice none 0 0] 22 (0, 0)) hh1 fun r3 h2 hh2 => ?_
  refine vA_new (f := fun r => .map (some r)) hh2 fun r8 h3 hh3 => ?_
  have hh3 := MP_new hh3
  refine mu_MP mapII intU hh3 fun h4 hh4 => ?_
  have hset : (fun x => if x = 0 then some (Value.int .i64 1) else (none : Option Value)) = setM (0 :: []) := by
    funext x; unfold setM; simp
  rw [hset] at hh4
  refine vA_new hh4 fun r4 h5 hh5 => ?_
  refine st1_mk hh5 rfl (by simp) fun h6 hh6 => ?_
  have hh6 : (pt r4 (.cells #[.map (some r8)] 51 (0, 0)) * (MP r8 (setM (0 :: [])) * (pt r3 (.cells #[.slice none 0 0] 22 (0, 0)) * (pt r1 (.cells w.cells 26 (0, 0)) * (own g * (F * tt)))))) h6 := hh6
  have l3 := (vw_ld (r := r1) (w := w) (E := 26) (F := pt r4 (.cells #[.map (some r8)] 51 (0, 0)) * (MP r8 (setM (0 :: [])) * (pt r3 (.cells #[.slice none 0 0] 22 (0, 0)) * (own g * (F * tt))))) (asr (by ac_rfl) hh6)).2.2.2.1
  repeat (with_reducible first | refine vP_so ?_ | refine vB_t ?_ | refine vB_f ?_ | refine vE_tt ?_ | refine vE_ff ?_ | refine vE_tf ?_ | refine vE_ft ?_ | refine vE_u ?_ | refine vP_to (by simp (disch := omega) only [gdW_true, gdW_false, gB_true, gB_false, gB_undef, pickV_true, pickV_false, Bool.not_true, Bool.not_false, Option.map_some, bin_add, bin_sub, bin_mul, bin_quo, bin_rem, lss_t, lss_f, leq_t, leq_f, gtr_t, gtr_f, geq_t, geq_f, eqi_t, eqi_f, nei_t, nei_f, rem_uw, conv_ui, conv_iu, conv_ii, not_bool, nil_ptr, fa_mk, ptrV, len_mk, cap_mk, eq_ptr_nil, ne_ptr_nil, eq_nil_nil, ne_nil_nil, eq_slice_nil, eq_nil_slice, ia_1, l3]; exact so_so) ?_)
  have hh6 : (OutS r3 [] * (pt r4 (.cells #[.map (some r8)] 51 (0, 0)) * (MP r8 (setM (0 :: [])) * (pt r1 (.cells w.cells 26 (0, 0)) * (own g * (F * tt)))))) h6 :=
    OutS_intro (ov := .slice none 0 0) (asr (by ac_rfl) (SG_nil iE (E := 3) hh6))
  refine use_add (out := []) (F := pt r1 (.cells w.cells 26 (0, 0)) * F) hv.glob (by simp only [List.length_nil]; omega) (asr (by ac_rfl) hh6) fun h7 hh7 => ?_
  have l4 := (vw_ld (r := r1) (w := w) (E := 26) (F := own g * (pt r4 (.cells #[.map (some r8)] 51 (0, 0)) * (MP r8 (setM (0 :: w.globals.foldl onceL [])) * (OutS r3 (w.globals.foldl onceL []) * (F * tt))))) (asr (by ac_rfl) hh7)).2.2.2.2.1
  repeat (with_reducible first | refine vP_so ?_ | refine vB_t ?_ | refine vB_f ?_ | refine vE_tt ?_ | refine vE_ff ?_ | refine vE_tf ?_ | refine vE_ft ?_ | refine vE_u ?_ | refine vP_to (by simp (disch := omega) only [gdW_true, gdW_false, gB_true, gB_false, gB_undef, pickV_true, pickV_false, Bool.not_true, Bool.not_false, Option.map_some, bin_add, bin_sub, bin_mul, bin_quo, bin_rem, lss_t, lss_f, leq_t, leq_f, gtr_t, gtr_f, geq_t, geq_f, eqi_t, eqi_f, nei_t, nei_f, rem_uw, conv_ui, conv_iu, conv_ii, not_bool, nil_ptr, fa_mk, ptrV, len_mk, cap_mk, eq_ptr_nil, ne_ptr_nil, eq_nil_nil, ne_nil_nil, eq_slice_nil, eq_nil_slice, ia_1, l4, hgl.1]; exact so_so) ?_)
  refine ⟨fun m zs h' => ∃ (i : Nat), zs = [.int .i64 i] ∧ m = w.gs.length - i ∧ i ≤ w.gs.length ∧
      (own g * (pt r4 (.cells #[.map (some r8)] 51 (0, 0)) * (MP r8 (setM (0 :: (w.globals ++ ((w.gs.take i).filter live).flatMap (·.stack)).foldl onceL [])) * (OutS r3 ((w.globals ++ ((w.gs.take i).filter live).flatMap (·.stack)).foldl onceL []) * (pt r1 (.cells w.cells 26 (0, 0)) * F * tt))))) h',
    ⟨_, 0, rfl, rfl, by omega, by simpa using hh7⟩, ?_⟩
  rintro m v18 h8 ⟨i, hzs, rfl, hi, hh8⟩ _
  obtain rfl : v18 = .int .i64 i := by simpa using hzs
  by_cases hil : i < w.gs.length
  · have hw := own_vat hh8 hv
    obtain ⟨b, q, e1, _, _, _, e5⟩ := hw.gor (List.getElem?_eq_getElem hil) .i64
    have hro : w.gs[i] ∈ w.gs := List.getElem_mem hil
    have hstk := hv.stacks w.gs[i] hro
    have hsub : ∀ r, w.gs[i] = r → live r = true → r.stack.length + (w.globals ++ ((w.gs.take i).filter live).flatMap (·.stack)).length ≤ 1000000 := fun r e hl => by
      have h2 : w.names.length = w.globals.length + ((w.gs.filter live).flatMap (·.stack)).length := by unfold VW.names; rw [List.length_append]
      have h3 : w.gs.filter live = (w.gs.take i).filter live ++ (r :: (w.gs.drop (i + 1)).filter live) := by
        have e1 : w.gs = w.gs.take i ++ r :: w.gs.drop (i + 1) := by rw [← e, ← List.drop_eq_getElem_cons hil, List.take_append_drop]
        have e2 : (w.gs.take i ++ r :: w.gs.drop (i + 1)).filter live = (w.gs.take i).filter live ++ (r :: (w.gs.drop (i + 1)).filter live) := by rw [List.filter_append, List.filter_cons, if_pos hl]
        rw [← e2, ← e1]
      rw [h3, List.flatMap_append, List.flatMap_cons, List.length_append, List.length_append] at h2
      rw [List.length_append]
      omega
    have hstep : ∀ r, w.gs[i] = r → (w.globals ++ ((w.gs.take (i + 1)).filter live).flatMap (·.stack)).foldl onceL [] = if live r then r.stack.foldl onceL ((w.globals ++ ((w.gs.take i).filter live).flatMap (·.stack)).foldl onceL []) else (w.globals ++ ((w.gs.take i).filter live).flatMap (·.stack)).foldl onceL [] := fun r e => by
      rw [List.take_succ_eq_append_getElem hil, e, List.filter_append]
      by_cases hl : live r = true
      · rw [if_pos hl, List.filter_cons, if_pos hl, List.filter_nil, List.flatMap_append, ← List.append_assoc, List.foldl_append]
        simp
      · rw [if_neg hl, List.filter_cons, if_neg hl, List.filter_nil, List.append_nil]
    have hsub := hsub _ rfl
    have hstep := hstep _ rfl
    generalize w.gs[i] = r at *
    have hflen : ((w.globals ++ ((w.gs.take i).filter live).flatMap (·.stack)).foldl onceL []).length ≤ (w.globals ++ ((w.gs.take i).filter live).flatMap (·.stack)).length := by
      have := foldl_once_len (xs := w.globals ++ ((w.gs.take i).filter live).flatMap (·.stack)) (l := [])
      simpa using this
    generalize w.globals ++ ((w.gs.take i).filter live).flatMap (·.stack) = nm at *
    generalize nm.foldl onceL [] = o at *
    repeat (with_reducible first | refine vP_so ?_ | refine vB_t ?_ | refine vB_f ?_ | refine vE_tt ?_ | refine vE_ff ?_ | refine vE_tf ?_ | refine vE_ft ?_ | refine vE_u ?_ | refine vP_to (by simp (disch := omega) only [gdW_true, gdW_false, gB_true, gB_false, gB_undef, pickV_true, pickV_false, Bool.not_true, Bool.not_false, Option.map_some, bin_add, bin_sub, bin_mul, bin_quo, bin_rem, lss_t, lss_f, leq_t, leq_f, gtr_t, gtr_f, geq_t, geq_f, eqi_t, eqi_f, nei_t, nei_f, rem_uw, conv_ui, conv_iu, conv_ii, not_bool, nil_ptr, fa_mk, ptrV, len_mk, cap_mk, eq_ptr_nil, ne_ptr_nil, eq_nil_nil, ne_nil_nil, eq_slice_nil, eq_nil_slice, ia_1]; exact so_so) ?_)
    intro J2 hJ2
    have hJ : ∀ h', (own g * (pt r4 (.cells #[.map (some r8)] 51 (0, 0)) * (MP r8 (setM (0 :: if live r then r.stack.foldl onceL o else o)) * (OutS r3 (if live r then r.stack.foldl onceL o else o) * (pt r1 (.cells w.cells 26 (0, 0)) * F * tt))))) h' → J2 [] h' := fun h' q => by
      refine hJ2 _ fun _ => ?_
      repeat (with_reducible first | refine vP_so ?_ | refine vB_t ?_ | refine vB_f ?_ | refine vE_tt ?_ | refine vE_ff ?_ | refine vE_tf ?_ | refine vE_ft ?_ | refine vE_u ?_ | refine vP_to (by simp (disch := omega) only [gdW_true, gdW_false, gB_true, gB_false, gB_undef, pickV_true, pickV_false, Bool.not_true, Bool.not_false, Option.map_some, bin_add, bin_sub, bin_mul, bin_quo, bin_rem, lss_t, lss_f, leq_t, leq_f, gtr_t, gtr_f, geq_t, geq_f, eqi_t, eqi_f, nei_t, nei_f, rem_uw, conv_ui, conv_iu, conv_ii, not_bool, nil_ptr, fa_mk, ptrV, len_mk, cap_mk, eq_ptr_nil, ne_ptr_nil, eq_nil_nil, ne_nil_nil, eq_slice_nil, eq_nil_slice, ia_1]; exact so_so) ?_)
      exact ⟨w.gs.length - (i + 1), by omega, i + 1, rfl, rfl, by omega, by rw [hstep]; exact q⟩
    repeat (with_reducible first | refine vP_so ?_ | refine vB_t ?_ | refine vB_f ?_ | refine vE_tt ?_ | refine vE_ff ?_ | refine vE_tf ?_ | refine vE_ft ?_ | refine vE_u ?_ | refine vP_to (by simp (disch := omega) only [gdW_true, gdW_false, gB_true, gB_false, gB_undef, pickV_true, pickV_false, Bool.not_true, Bool.not_false, Option.map_some, bin_add, bin_sub, bin_mul, bin_quo, bin_rem, lss_t, lss_f, leq_t, leq_f, gtr_t, gtr_f, geq_t, geq_f, eqi_t, eqi_f, nei_t, nei_f, rem_uw, conv_ui, conv_iu, conv_ii, not_bool, nil_ptr, fa_mk, ptrV, len_mk, cap_mk, eq_ptr_nil, ne_ptr_nil, eq_nil_nil, ne_nil_nil, eq_slice_nil, eq_nil_slice, ia_1, e1, e5]; exact so_so) ?_)
    refine vA_new hh8 fun r7 h10 hh10 => ?_
    refine stN_mk (cs := #[.int .i64 r.st, .int .i64 r.p, r.sv]) hh10 (one_gr hstk) rfl (by simp) fun h11 hh11 => ?_
    have hc0 : ld1 (.pointer (some ⟨r7, 0 + 0, none⟩)) h11 = some (.int .i64 r.st) := ld1_mk (pt_get hh11) rfl
    have hc2 : ld1 (.pointer (some ⟨r7, 0 + 2, none⟩)) h11 = some r.sv := ld1_mk (pt_get hh11) rfl
    have hh11 : (own g * (pt r4 (.cells #[.map (some r8)] 51 (0, 0)) * (MP r8 (setM (0 :: o)) * (OutS r3 o * (pt r1 (.cells w.cells 26 (0, 0)) * F * tt))))) h11 :=
      dropL (P := pt r7 (.cells #[.int .i64 r.st, .int .i64 r.p, r.sv] 41 (0, 0))) (Q := own g * (pt r4 (.cells #[.map (some r8)] 51 (0, 0)) * (MP r8 (setM (0 :: o)) * (OutS r3 o * (pt r1 (.cells w.cells 26 (0, 0)) * F))))) (asr (by ac_rfl) hh11) |> asr (by ac_rfl)
    by_cases hst : r.st = 5
    · have hl : live r = false := by unfold live; simp [hst]
      rw [hl] at hJ
      repeat (with_reducible first | refine vP_so ?_ | refine vB_t ?_ | refine vB_f ?_ | refine vE_tt ?_ | refine vE_ff ?_ | refine vE_tf ?_ | refine vE_ft ?_ | refine vE_u ?_ | refine vP_to (by simp (disch := omega) only [gdW_true, gdW_false, gB_true, gB_false, gB_undef, pickV_true, pickV_false, Bool.not_true, Bool.not_false, Option.map_some, bin_add, bin_sub, bin_mul, bin_quo, bin_rem, lss_t, lss_f, leq_t, leq_f, gtr_t, gtr_f, geq_t, geq_f, eqi_t, eqi_f, nei_t, nei_f, rem_uw, conv_ui, conv_iu, conv_ii, not_bool, nil_ptr, fa_mk, ptrV, len_mk, cap_mk, eq_ptr_nil, ne_ptr_nil, eq_nil_nil, ne_nil_nil, eq_slice_nil, eq_nil_slice, ia_1, hc0]; exact so_so) ?_)
      exact hJ h11 hh11
    · have hl : live r = true := by unfold live; simpa using hst
      rw [hl] at hJ
      have := hsub hl
      repeat (with_reducible first | refine vP_so ?_ | refine vB_t ?_ | refine vB_f ?_ | refine vE_tt ?_ | refine vE_ff ?_ | refine vE_tf ?_ | refine vE_ft ?_ | refine vE_u ?_ | refine vP_to (by simp (disch := omega) only [gdW_true, gdW_false, gB_true, gB_false, gB_undef, pickV_true, pickV_false, Bool.not_true, Bool.not_false, Option.map_some, bin_add, bin_sub, bin_mul, bin_quo, bin_rem, lss_t, lss_f, leq_t, leq_f, gtr_t, gtr_f, geq_t, geq_f, eqi_t, eqi_f, nei_t, nei_f, rem_uw, conv_ui, conv_iu, conv_ii, not_bool, nil_ptr, fa_mk, ptrV, len_mk, cap_mk, eq_ptr_nil, ne_ptr_nil, eq_nil_nil, ne_nil_nil, eq_slice_nil, eq_nil_slice, ia_1, hc0, hc2]; exact so_so) ?_)
      refine use_add (F := pt r1 (.cells w.cells 26 (0, 0)) * F) hstk (by omega) hh11 fun h12 hh12 => ?_
      exact hJ h12 hh12
  · obtain rfl : i = w.gs.length := by omega
    rw [List.take_length] at hh8
    have hh8 : (OutS r3 w.rootsL * (own g * (pt r4 (.cells #[.map (some r8)] 51 (0, 0)) * (MP r8 (setM (0 :: w.rootsL)) * (pt r1 (.cells w.cells 26 (0, 0)) * F * tt))))) h8 := asr (by ac_rfl) hh8
    obtain ⟨ov, hh8⟩ := OutS_elim hh8
    have l3 : ld1 (.pointer (some ⟨r3, 0, none⟩)) h8 = some ov := ld1_mk (pt_get hh8) rfl
    repeat (with_reducible first | refine vP_so ?_ | refine vB_t ?_ | refine vB_f ?_ | refine vE_tt ?_ | refine vE_ff ?_ | refine vE_tf ?_ | refine vE_ft ?_ | refine vE_u ?_ | refine vP_to (by simp (disch := omega) only [gdW_true, gdW_false, gB_true, gB_false, gB_undef, pickV_true, pickV_false, Bool.not_true, Bool.not_false, Option.map_some, bin_add, bin_sub, bin_mul, bin_quo, bin_rem, lss_t, lss_f, leq_t, leq_f, gtr_t, gtr_f, geq_t, geq_f, eqi_t, eqi_f, nei_t, nei_f, rem_uw, conv_ui, conv_iu, conv_ii, not_bool, nil_ptr, fa_mk, ptrV, len_mk, cap_mk, eq_ptr_nil, ne_ptr_nil, eq_nil_nil, ne_nil_nil, eq_slice_nil, eq_nil_slice, ia_1, l3]; exact so_so) ?_)
    refine hK ov h8 (dropL (P := pt r3 (.cells #[ov] 22 (0, 0)) * (pt r4 (.cells #[.map (some r8)] 51 (0, 0)) * (MP r8 (setM (0 :: w.rootsL)) * pt r1 (.cells w.cells 26 (0, 0))))) (Q := SG iE 3 ov w.rootsL * (own g * F)) (asr (by ac_rfl) hh8) |> asr (by ac_rfl))

end Go.Proofs
