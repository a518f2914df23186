/-
  AuditEach: the walk.
-/
import Derived.Test.YtdcoflglkfbpcaaL2
set_option linter.unusedVariables false
set_option linter.unusedSimpArgs false
set_option maxRecDepth 100000
set_option maxHeartbeats 8000000
namespace Go.Proofs
open Go.Sl

theorem txt_at {k : Int} (h : 1 ≤ k ∧ k ≤ 8) : wordsV.toArray[0 + (k - 1).toNat * 1]? = some (txtV k) := by
  have : k = 1 ∨ k = 2 ∨ k = 3 ∨ k = 4 ∨ k = 5 ∨ k = 6 ∨ k = 7 ∨ k = 8 := by omega
  rcases this with rfl | rfl | rfl | rfl | rfl | rfl | rfl | rfl <;> rfl

theorem pt_cast {r E : Nat} {c c' : Array Value} {F : Asrt} {h : Hp} (e : c = c') (q : (pt r (.cells c E (0, 0)) * F) h) : (pt r (.cells c' E (0, 0)) * F) h := e ▸ q

theorem each_tr (g : Hp) (rule ps : Int) : Tr Try.prog 9 #[.int .i64 rule, .int .i64 ps] (own g) (fun v => pr (v = .bool true) * own g) := by
  refine Tr.of fun h hh => C9 ?_
  unfold D9
  have hr8 := urem_lt (x := rule) (b := 8) (by omega)
  have hp64 := urem_lt (x := ps) (b := 64) (by omega)
  repeat (with_reducible first | refine vP_so ?_ | refine vB_t ?_ | refine vB_f ?_ | refine vE_tt ?_ | refine vE_ff ?_ | refine vE_tf ?_ | refine vE_ft ?_ | refine vE_u ?_ | refine vP_to (by simp (disch := omega) only [gdW_true, gdW_false, gB_true, gB_false, gB_undef, pickV_true, pickV_false, Bool.not_true, Bool.not_false, Option.map_some, bin_add, bin_sub, bin_mul, bin_quo, bin_rem, lss_t, lss_f, leq_t, leq_f, gtr_t, gtr_f, geq_t, geq_f, eqi_t, eqi_f, nei_t, nei_f, rem_uw, conv_ui, conv_iu, conv_ii, not_bool, nil_ptr, fa_mk, ptrV, len_mk, cap_mk, eq_ptr_nil, ne_ptr_nil, eq_nil_nil, ne_nil_nil, eq_slice_nil, eq_nil_slice, ia_1, conv_u .i64 rule, conv_u .i64 ps]; exact so_so) ?_)
  obtain ⟨k, hk⟩ : ∃ k, 1 + urem rule 8 = k := ⟨_, rfl⟩
  obtain ⟨n, hn⟩ : ∃ n, 1 + urem ps 64 = n := ⟨_, rfl⟩
  rw [hk, hn]
  have hk8 : 1 ≤ k ∧ k ≤ 8 := by omega
  have hn1 : 1 ≤ n := by omega
  clear hk hn hr8 hp64
  have b1 : bldV #[(Value.int .i64 0), (Value.int .i64 0)] [(0, 1, (Value.int .i64 64)), (1, 1, (Value.int .i64 0))] = some #[.int .i64 64, .int .i64 0] := rfl
  rw [b1]
  refine vA_new (f := fun r => .slice (some ⟨r, 0, none⟩) 2 2) hh fun r1 h1 hh1 => ?_
  have hh1 : (SG iE 3 (.slice (some ⟨r1, 0, none⟩) 2 2) [64, 0] * (own g * tt)) h1 := SG_intro iE (pre := []) (post := []) (l := [64, 0]) rfl rfl (by simp) (by omega) (by simp) hh1
  refine use_stack hh1 fun a0 c0 h2 hh2 => ?_
  refine vP_to (x := .agg #[.int .i64 2, .int .i64 0, .slice a0 16 c0]) rfl ?_
  refine use_stack hh2 fun a1 c1 h3 hh3 => ?_
  refine vP_to (x := .agg #[.int .i64 3, .int .i64 (-1), .slice a1 16 c1]) rfl ?_
  have b2 : bldV #[(Value.int .i64 0), (Value.int .i64 0), (Value.slice none 0 0), (Value.int .i64 0), (Value.int .i64 0), (Value.slice none 0 0)] [(0, 3, .agg #[.int .i64 2, .int .i64 0, .slice a0 16 c0]), (3, 3, .agg #[.int .i64 3, .int .i64 (-1), .slice a1 16 c1])] = some #[.int .i64 2, .int .i64 0, .slice a0 16 c0, .int .i64 3, .int .i64 (-1), .slice a1 16 c1] := rfl
  rw [b2]
  refine vA_new (f := fun r => .slice (some ⟨r, 0, none⟩) 2 2) hh3 fun rg h4 hh4 => ?_
  have b3 : bldV #[(Value.int .i64 0)] [(0, 1, (Value.int .i64 68))] = some #[.int .i64 68] := rfl
  rw [b3]
  refine vA_new (f := fun r => .slice (some ⟨r, 0, none⟩) 1 1) hh4 fun r2 h5 hh5 => ?_
  have hh5 : (SG iE 3 (.slice (some ⟨r2, 0, none⟩) 1 1) [68] * (pt rg (.cells #[.int .i64 2, .int .i64 0, .slice a0 16 c0, .int .i64 3, .int .i64 (-1), .slice a1 16 c1] 41 (0, 0)) * (SG iE 3 (.slice a1 16 c1) (List.replicate 16 0) * (SG iE 3 (.slice a0 16 c0) (List.replicate 16 0) * (SG iE 3 (.slice (some ⟨r1, 0, none⟩) 2 2) [64, 0] * (own g * tt)))))) h5 := SG_intro iE (pre := []) (post := []) (l := [68]) rfl rfl (by simp) (by omega) (by simp) hh5
  refine vP_to (x := .agg #[.int .i64 64, .slice (some ⟨r2, 0, none⟩) 1 1, .bool false]) rfl ?_
  have b4 : bldV #[(Value.int .i64 0), (Value.int .i64 0)] [(0, 1, (Value.int .i64 0)), (1, 1, (Value.int .i64 64))] = some #[.int .i64 0, .int .i64 64] := rfl
  rw [b4]
  refine vA_new (f := fun r => .slice (some ⟨r, 0, none⟩) 2 2) hh5 fun r3 h6 hh6 => ?_
  have hh6 : (SG iE 3 (.slice (some ⟨r3, 0, none⟩) 2 2) [0, 64] * (SG iE 3 (.slice (some ⟨r2, 0, none⟩) 1 1) [68] * (pt rg (.cells #[.int .i64 2, .int .i64 0, .slice a0 16 c0, .int .i64 3, .int .i64 (-1), .slice a1 16 c1] 41 (0, 0)) * (SG iE 3 (.slice a1 16 c1) (List.replicate 16 0) * (SG iE 3 (.slice a0 16 c0) (List.replicate 16 0) * (SG iE 3 (.slice (some ⟨r1, 0, none⟩) 2 2) [64, 0] * (own g * tt))))))) h6 := SG_intro iE (pre := []) (post := []) (l := [0, 64]) rfl rfl (by simp) (by omega) (by simp) hh6
  refine vP_to (x := .agg #[.int .i64 68, .slice (some ⟨r3, 0, none⟩) 2 2, .bool false]) rfl ?_
  have b5 : bldV #[(Value.int .i64 0), (Value.slice none 0 0), (Value.bool false), (Value.int .i64 0), (Value.slice none 0 0), (Value.bool false)] [(0, 3, .agg #[.int .i64 64, .slice (some ⟨r2, 0, none⟩) 1 1, .bool false]), (3, 3, .agg #[.int .i64 68, .slice (some ⟨r3, 0, none⟩) 2 2, .bool false])] = some #[.int .i64 64, .slice (some ⟨r2, 0, none⟩) 1 1, .bool false, .int .i64 68, .slice (some ⟨r3, 0, none⟩) 2 2, .bool false] := rfl
  rw [b5]
  refine vA_new (f := fun r => .slice (some ⟨r, 0, none⟩) 2 2) hh6 fun ro h7 hh7 => ?_
  obtain ⟨e0, he0⟩ : ∃ e0 : Ev, e0 = ⟨0, 0, 3, -1, 68, false, false, [64, 0], [68], List.replicate 16 0, List.replicate 16 0, .slice (some ⟨r1, 0, none⟩) 2 2, .slice (some ⟨r2, 0, none⟩) 1 1, .slice (some ⟨r3, 0, none⟩) 2 2, .slice a0 16 c0, .slice a1 16 c1, rg, ro⟩ := ⟨_, rfl⟩
  have q1 : obP e0 = pt ro (.cells #[.int .i64 64, .slice (some ⟨r2, 0, none⟩) 1 1, .bool false, .int .i64 68, .slice (some ⟨r3, 0, none⟩) 2 2, .bool false] 30 (0, 0)) := by subst he0; rfl
  have q2 : v1P e0 = SG iE 3 (.slice (some ⟨r3, 0, none⟩) 2 2) [0, 64] := by subst he0; rfl
  have q3 : v0P e0 = SG iE 3 (.slice (some ⟨r2, 0, none⟩) 1 1) [68] := by subst he0; rfl
  have q4 : gsP e0 = pt rg (.cells #[.int .i64 2, .int .i64 0, .slice a0 16 c0, .int .i64 3, .int .i64 (-1), .slice a1 16 c1] 41 (0, 0)) := by subst he0; rfl
  have q5 : t1P e0 = SG iE 3 (.slice a1 16 c1) (List.replicate 16 0) := by subst he0; rfl
  have q6 : t0P e0 = SG iE 3 (.slice a0 16 c0) (List.replicate 16 0) := by subst he0; rfl
  have q7 : gP e0 = SG iE 3 (.slice (some ⟨r1, 0, none⟩) 2 2) [64, 0] := by subst he0; rfl
  have hh7 : (obP e0 * (v1P e0 * (v0P e0 * (gsP e0 * (t1P e0 * (t0P e0 * (gP e0 * (own g * tt)))))))) h7 := by
    rw [q1, q2, q3, q4, q5, q6, q7]; exact hh7
  have hv : (bldV #[(Value.int .i64 0), (Value.int .i64 0), (Value.int .i64 0), (Value.slice none 0 0), (Value.slice none 0 0), (Value.slice none 0 0), (Value.int .i64 0), (Value.int .i64 0), (Value.int .i64 0)] [(0, 1, (Value.int .i64 0)), (3, 1, .slice (some ⟨r1, 0, none⟩) 2 2), (4, 1, .slice (some ⟨rg, 0, none⟩) 2 2), (5, 1, .slice (some ⟨ro, 0, none⟩) 2 2)]).map Value.agg = some e0.w.val := by subst he0; rfl
  refine vP_to hv ?_
  refine vA_new (f := ptrV) hh7 fun r8 h8 hh8 => ?_
  have hone : e0.w.cells.toList.all Go.Sl.one = true := by subst he0; rfl
  refine stN_mk (cs := e0.w.cells) hh8 hone rfl (by simp) fun h9 hh9 => ?_
  have hh9 : (pt r8 (.cells e0.w.cells 26 (0, 0)) * (obP e0 * (v1P e0 * (v0P e0 * (gsP e0 * (t1P e0 * (t0P e0 * (gP e0 * (own g * tt))))))))) h9 := by
    have hp : putL #[(Value.int .i64 0), (Value.int .i64 0), (Value.int .i64 0), (Value.slice none 0 0), (Value.slice none 0 0), (Value.slice none 0 0), (Value.int .i64 0), (Value.int .i64 0), (Value.int .i64 0)] 0 e0.w.cells.toList = e0.w.cells := by subst he0; rfl
    rw [hp] at hh9; exact hh9
  have hh9 : (e0.mem * (pt r8 (.cells e0.w.cells 26 (0, 0)) * own g * tt)) h9 := asr (by unfold Ev.mem; ac_rfl) hh9
  have l8 : ∀ {e : Ev} {h : Hp}, (e.mem * (pt r8 (.cells e.w.cells 26 (0, 0)) * own g * tt)) h → ldN 9 (.pointer (some ⟨r8, 0, none⟩)) h = some e.w.val := fun {e h} q =>
    (vw_ld (r := r8) (w := e.w) (E := 26) (F := e.mem * (own g * tt)) (asr (by ac_rfl) q)).2.2.2.2.2.2.2.2.2
  -- before anything is spoilt
  have ok0 : e0.Ok := by subst he0; exact ⟨rfl, rfl, ⟨by simp, fun x hx => List.eq_of_mem_replicate hx⟩, ⟨by simp, fun x hx => List.eq_of_mem_replicate hx⟩, .inr rfl⟩
  have hg0 : ∀ x ∈ e0.gl, x ≠ 0 → x = 64 := by subst he0; intro x hx; simp at hx; omega
  have hs0 : ∀ x ∈ e0.sl0, x ≠ 0 → x = e0.a1 := by subst he0; intro x hx; simp at hx; exact fun _ => hx
  have f1 := ok0.b1f hg0 hs0
  have f2 : ¬ B2 e0.w := ok0.b2f (by subst he0; rfl)
  have f3 : ¬ B3 e0.w := Ev.b3f (by subst he0; show ¬ ((3 : Int) = 2 ∧ _); omega)
  have f4 : ¬ B4 e0.w n := Ev.b4f hn1 (by subst he0; exact .inl ⟨rfl, rfl⟩)
  have f5 : ¬ B5 e0.w := Ev.b5f (by subst he0; rfl)
  have f6 : ¬ B6 e0.w := Ev.b6f (by subst he0; show (0 : Int) ≠ 2; omega)
  have f7 : ¬ B7 e0.w := ok0.b7f (by subst he0; simp) (by subst he0; exact .inl rfl)
  have f8 : ¬ B8 e0.w := Ev.b8f (by subst he0; exact .inr ⟨rfl, rfl⟩)
  have o0 : outN (brkF e0.w n) 8 = [] := first_zero f1 f2 f3 f4 f5 f6 f7 f8
  have z0 : firstL (outN (brkF e0.w n) 8) = 0 := by rw [o0]; rfl
  repeat (with_reducible first | refine vP_so ?_ | refine vB_t ?_ | refine vB_f ?_ | refine vE_tt ?_ | refine vE_ff ?_ | refine vE_tf ?_ | refine vE_ft ?_ | refine vE_u ?_ | refine vP_to (by simp (disch := omega) only [gdW_true, gdW_false, gB_true, gB_false, gB_undef, pickV_true, pickV_false, Bool.not_true, Bool.not_false, Option.map_some, bin_add, bin_sub, bin_mul, bin_quo, bin_rem, lss_t, lss_f, leq_t, leq_f, gtr_t, gtr_f, geq_t, geq_f, eqi_t, eqi_f, nei_t, nei_f, rem_uw, conv_ui, conv_iu, conv_ii, not_bool, nil_ptr, fa_mk, ptrV, len_mk, cap_mk, eq_ptr_nil, ne_ptr_nil, eq_nil_nil, ne_nil_nil, eq_slice_nil, eq_nil_slice, ia_1, l8 hh9]; exact so_so) ?_)
  refine use_acheckE ok0.small hh9 fun h10 hh10 => ?_
  rw [z0]
  repeat (with_reducible first | refine vP_so ?_ | refine vB_t ?_ | refine vB_f ?_ | refine vE_tt ?_ | refine vE_ff ?_ | refine vE_tf ?_ | refine vE_ft ?_ | refine vE_u ?_ | refine vP_to (by simp (disch := omega) only [gdW_true, gdW_false, gB_true, gB_false, gB_undef, pickV_true, pickV_false, Bool.not_true, Bool.not_false, Option.map_some, bin_add, bin_sub, bin_mul, bin_quo, bin_rem, lss_t, lss_f, leq_t, leq_f, gtr_t, gtr_f, geq_t, geq_f, eqi_t, eqi_f, nei_t, nei_f, rem_uw, conv_ui, conv_iu, conv_ii, not_bool, nil_ptr, fa_mk, ptrV, len_mk, cap_mk, eq_ptr_nil, ne_ptr_nil, eq_nil_nil, ne_nil_nil, eq_slice_nil, eq_nil_slice, ia_1, l8 hh10]; exact so_so) ?_)
  refine use_aallE ok0.small hh10 fun v42 h11 hh11 => ?_
  have hlen := SG_len iE hh11
  rw [o0] at hlen
  simp only [List.length_nil] at hlen
  have hh11 : (e0.mem * (pt r8 (.cells e0.w.cells 26 (0, 0)) * own g * tt)) h11 := dropL (P := SG iE 3 v42 (outN (brkF e0.w n) 8)) (Q := e0.mem * (pt r8 (.cells e0.w.cells 26 (0, 0)) * own g)) (asr (by ac_rfl) hh11) |> asr (by ac_rfl)
  repeat (with_reducible first | refine vP_so ?_ | refine vB_t ?_ | refine vB_f ?_ | refine vE_tt ?_ | refine vE_ff ?_ | refine vE_tf ?_ | refine vE_ft ?_ | refine vE_u ?_ | refine vP_to (by simp (disch := omega) only [gdW_true, gdW_false, gB_true, gB_false, gB_undef, pickV_true, pickV_false, Bool.not_true, Bool.not_false, Option.map_some, bin_add, bin_sub, bin_mul, bin_quo, bin_rem, lss_t, lss_f, leq_t, leq_f, gtr_t, gtr_f, geq_t, geq_f, eqi_t, eqi_f, nei_t, nei_f, rem_uw, conv_ui, conv_iu, conv_ii, not_bool, nil_ptr, fa_mk, ptrV, len_mk, cap_mk, eq_ptr_nil, ne_ptr_nil, eq_nil_nil, ne_nil_nil, eq_slice_nil, eq_nil_slice, ia_1, hlen]; exact so_so) ?_)
  intro J1 hJ1
  -- what follows a view that is spoilt
  have hJ : ∀ (e : Ev) (h' : Hp), e.Ok → outN (brkF e.w n) 8 = [k] → (e.mem * (pt r8 (.cells e.w.cells 26 (0, 0)) * own g * tt)) h' → J1 [] h' := fun e h12 ok ho hh12 => by
    refine hJ1 _ fun _ => ?_
    repeat (with_reducible first | refine vP_so ?_ | refine vB_t ?_ | refine vB_f ?_ | refine vE_tt ?_ | refine vE_ff ?_ | refine vE_tf ?_ | refine vE_ft ?_ | refine vE_u ?_ | refine vP_to (by simp (disch := omega) only [gdW_true, gdW_false, gB_true, gB_false, gB_undef, pickV_true, pickV_false, Bool.not_true, Bool.not_false, Option.map_some, bin_add, bin_sub, bin_mul, bin_quo, bin_rem, lss_t, lss_f, leq_t, leq_f, gtr_t, gtr_f, geq_t, geq_f, eqi_t, eqi_f, nei_t, nei_f, rem_uw, conv_ui, conv_iu, conv_ii, not_bool, nil_ptr, fa_mk, ptrV, len_mk, cap_mk, eq_ptr_nil, ne_ptr_nil, eq_nil_nil, ne_nil_nil, eq_slice_nil, eq_nil_slice, ia_1, l8 hh12]; exact so_so) ?_)
    refine use_aallE ok.small hh12 fun v106 h13 hh13 => ?_
    rw [ho] at hh13
    have eb : bldV #[(Value.string ⟨#[]⟩), (Value.string ⟨#[]⟩), (Value.string ⟨#[]⟩), (Value.string ⟨#[]⟩), (Value.string ⟨#[]⟩), (Value.string ⟨#[]⟩), (Value.string ⟨#[]⟩), (Value.string ⟨#[]⟩)] [(0, 1, (Value.string ⟨#[108, 111, 115, 116]⟩)), (1, 1, (Value.string ⟨#[111, 98, 106, 101, 99, 116, 115]⟩)), (2, 1, (Value.string ⟨#[116, 119, 105, 99, 101]⟩)), (3, 1, (Value.string ⟨#[112, 108, 97, 99, 101, 115]⟩)), (4, 1, (Value.string ⟨#[119, 111, 114, 107]⟩)), (5, 1, (Value.string ⟨#[119, 104, 105, 116, 101]⟩)), (6, 1, (Value.string ⟨#[110, 117, 109, 98, 101, 114, 115]⟩)), (7, 1, (Value.string ⟨#[109, 97, 114, 107, 101, 100]⟩))] = some wordsV.toArray := rfl
    rw [eb]
    refine vA_new (f := fun r => .slice (some ⟨r, 0, none⟩) 8 8) hh13 fun r9 h14 hh14 => ?_
    have lt : ld1 (.pointer (some ⟨r9, 0 + (k - 1).toNat * 1, none⟩)) h14 = some (txtV k) := ld1_mk (pt_get hh14) (txt_at hk8)
    have hh14 : (SG iE 3 v106 [k] * (e.mem * (pt r8 (.cells e.w.cells 26 (0, 0)) * own g * tt))) h14 := dropL (P := pt r9 (.cells wordsV.toArray 9 (0, 0))) (Q := SG iE 3 v106 [k] * (e.mem * (pt r8 (.cells e.w.cells 26 (0, 0)) * own g))) (asr (by ac_rfl) hh14) |> asr (by ac_rfl)
    repeat (with_reducible first | refine vP_so ?_ | refine vB_t ?_ | refine vB_f ?_ | refine vE_tt ?_ | refine vE_ff ?_ | refine vE_tf ?_ | refine vE_ft ?_ | refine vE_u ?_ | refine vP_to (by simp (disch := omega) only [gdW_true, gdW_false, gB_true, gB_false, gB_undef, pickV_true, pickV_false, Bool.not_true, Bool.not_false, Option.map_some, bin_add, bin_sub, bin_mul, bin_quo, bin_rem, lss_t, lss_f, leq_t, leq_f, gtr_t, gtr_f, geq_t, geq_f, eqi_t, eqi_f, nei_t, nei_f, rem_uw, conv_ui, conv_iu, conv_ii, not_bool, nil_ptr, fa_mk, ptrV, len_mk, cap_mk, eq_ptr_nil, ne_ptr_nil, eq_nil_nil, ne_nil_nil, eq_slice_nil, eq_nil_slice, ia_1, lt]; exact so_so) ?_)
    refine use_told30 (F := SG iE 3 v106 [k] * (e.mem * (pt r8 (.cells e.w.cells 26 (0, 0)) * own g))) (asr (by ac_rfl) hh14) fun h15 hh15 => ?_
    have hh15 : (SG iE 3 v106 [k] * (e.mem * (pt r8 (.cells e.w.cells 26 (0, 0)) * own g * tt))) h15 := asr (by ac_rfl) hh15
    have hlen := SG_len iE hh15
    obtain ⟨p, i1, i2, _⟩ := el1 hh15 (i := 0) (a := k) rfl .i64
    have i1 : iaS 1 v106 (.int .i64 0) = some p := i1
    simp only [List.length_singleton] at hlen
    have hh15 : (e.mem * (pt r8 (.cells e.w.cells 26 (0, 0)) * own g * tt)) h15 := dropL (P := SG iE 3 v106 [k]) (Q := e.mem * (pt r8 (.cells e.w.cells 26 (0, 0)) * own g)) (asr (by ac_rfl) hh15) |> asr (by ac_rfl)
    repeat (with_reducible first | refine vP_so ?_ | refine vB_t ?_ | refine vB_f ?_ | refine vE_tt ?_ | refine vE_ff ?_ | refine vE_tf ?_ | refine vE_ft ?_ | refine vE_u ?_ | refine vP_to (by simp (disch := omega) only [gdW_true, gdW_false, gB_true, gB_false, gB_undef, pickV_true, pickV_false, Bool.not_true, Bool.not_false, Option.map_some, bin_add, bin_sub, bin_mul, bin_quo, bin_rem, lss_t, lss_f, leq_t, leq_f, gtr_t, gtr_f, geq_t, geq_f, eqi_t, eqi_f, nei_t, nei_f, rem_uw, conv_ui, conv_iu, conv_ii, not_bool, nil_ptr, fa_mk, ptrV, len_mk, cap_mk, eq_ptr_nil, ne_ptr_nil, eq_nil_nil, ne_nil_nil, eq_slice_nil, eq_nil_slice, ia_1, hlen, i1, i2, l8 hh15]; exact so_so) ?_)
    refine use_acheckE ok.small hh15 fun h16 hh16 => ?_
    have z : firstL (outN (brkF e.w n) 8) = k := by rw [ho]; rfl
    rw [z]
    repeat (with_reducible first | refine vP_so ?_ | refine vB_t ?_ | refine vB_f ?_ | refine vE_tt ?_ | refine vE_ff ?_ | refine vE_tf ?_ | refine vE_ft ?_ | refine vE_u ?_ | refine vP_to (by simp (disch := omega) only [gdW_true, gdW_false, gB_true, gB_false, gB_undef, pickV_true, pickV_false, Bool.not_true, Bool.not_false, Option.map_some, bin_add, bin_sub, bin_mul, bin_quo, bin_rem, lss_t, lss_f, leq_t, leq_f, gtr_t, gtr_f, geq_t, geq_f, eqi_t, eqi_f, nei_t, nei_f, rem_uw, conv_ui, conv_iu, conv_ii, not_bool, nil_ptr, fa_mk, ptrV, len_mk, cap_mk, eq_ptr_nil, ne_ptr_nil, eq_nil_nil, ne_nil_nil, eq_slice_nil, eq_nil_slice, ia_1]; exact so_so) ?_)
    refine use_atext (F := e.mem * (pt r8 (.cells e.w.cells 26 (0, 0)) * own g)) (asr (by ac_rfl) hh16) fun h17 hh17 => ?_
    repeat (with_reducible first | refine vP_so ?_ | refine vB_t ?_ | refine vB_f ?_ | refine vE_tt ?_ | refine vE_ff ?_ | refine vE_tf ?_ | refine vE_ft ?_ | refine vE_u ?_ | refine vP_to (by simp (disch := omega) only [gdW_true, gdW_false, gB_true, gB_false, gB_undef, pickV_true, pickV_false, Bool.not_true, Bool.not_false, Option.map_some, bin_add, bin_sub, bin_mul, bin_quo, bin_rem, lss_t, lss_f, leq_t, leq_f, gtr_t, gtr_f, geq_t, geq_f, eqi_t, eqi_f, nei_t, nei_f, rem_uw, conv_ui, conv_iu, conv_ii, not_bool, nil_ptr, fa_mk, ptrV, len_mk, cap_mk, eq_ptr_nil, ne_ptr_nil, eq_nil_nil, ne_nil_nil, eq_slice_nil, eq_nil_slice, ia_1, eq_txt]; exact so_so) ?_)
    exact ret rfl (dropL (P := e.mem * pt r8 (.cells e.w.cells 26 (0, 0))) (Q := own g) (asr (by ac_rfl) hh17))
  have y_ph : e0.ph = 0 := by subst he0; rfl
  have y_nt : e0.nt = 0 := by subst he0; rfl
  have y_st1 : e0.st1 = 3 := by subst he0; rfl
  have y_p1 : e0.p1 = -1 := by subst he0; rfl
  have y_a1 : e0.a1 = 68 := by subst he0; rfl
  have y_m0 : e0.m0 = false := by subst he0; rfl
  have y_m1 : e0.m1 = false := by subst he0; rfl
  have y_gl : e0.gl = [64, 0] := by subst he0; rfl
  have y_sl0 : e0.sl0 = [68] := by subst he0; rfl
  have y_k0 : e0.k0 = List.replicate 16 0 := by subst he0; rfl
  have y_k1 : e0.k1 = List.replicate 16 0 := by subst he0; rfl
  have lw := vw_ld (r := r8) (w := e0.w) (E := 26) (F := e0.mem * (own g * tt)) (asr (by ac_rfl) hh11)
  have lw3 : ld1 (.pointer (some ⟨r8, 0 + 3, none⟩)) h11 = some (.slice (some ⟨r1, 0, none⟩) 2 2) := by rw [lw.2.2.2.1]; subst he0; rfl
  have lwS : ∀ {h : Hp} {F : Asrt}, (pt r8 (.cells e0.w.cells 26 (0, 0)) * F) h → ld1 (.pointer (some ⟨r8, 0 + 4, none⟩)) h = some (.slice (some ⟨rg, 0, none⟩) 2 2) := fun q => by rw [(vw_ld (r := r8) (w := e0.w) (E := 26) q).2.2.2.2.1]; subst he0; rfl
  have lwO : ∀ {h : Hp} {F : Asrt}, (pt r8 (.cells e0.w.cells 26 (0, 0)) * F) h → ld1 (.pointer (some ⟨r8, 0 + 5, none⟩)) h = some (.slice (some ⟨ro, 0, none⟩) 2 2) := fun q => by rw [(vw_ld (r := r8) (w := e0.w) (E := 26) q).2.2.2.2.2.1]; subst he0; rfl
  have hV : (pt r8 (.cells e0.w.cells 26 (0, 0)) * (gP e0 * t0P e0 * t1P e0 * v0P e0 * v1P e0 * gsP e0 * obP e0 * own g * tt)) h11 := asr (by unfold Ev.mem; ac_rfl) hh11
  have l4 := lwS hV
  have l5 := lwO hV
  have fin : ∀ (e : Ev) (h' : Hp), e.Ok → outN (brkF e.w n) 8 = [k] → (pt r8 (.cells e.w.cells 26 (0, 0)) * (e.mem * (own g * tt))) h' → J1 [] h' := fun e h' a b q => hJ e h' a b (asr (by ac_rfl) q)
  clear hh7 hv hone hh9 hh10 hlen o0 z0 l8 hJ1 hJ lw
  have : k = 1 ∨ k = 2 ∨ k = 3 ∨ k = 4 ∨ k = 5 ∨ k = 6 ∨ k = 7 ∨ k = 8 := by omega
  rcases this with rfl | rfl | rfl | rfl | rfl | rfl | rfl | rfl
  · have hG : (gP e0 * (t0P e0 * t1P e0 * v0P e0 * v1P e0 * gsP e0 * obP e0 * pt r8 (.cells e0.w.cells 26 (0, 0)) * own g * tt)) h11 := asr (by unfold Ev.mem; ac_rfl) hh11
    rw [q7] at hG
    obtain ⟨p, i1, _, i3⟩ := el1 hG (i := 1) (a := 0) rfl .i64
    have i1 : iaS 1 (.slice (some ⟨r1, 0, none⟩) 2 2) (.int .i64 1) = some p := i1
    repeat (with_reducible first | refine vP_so ?_ | refine vB_t ?_ | refine vB_f ?_ | refine vE_tt ?_ | refine vE_ff ?_ | refine vE_tf ?_ | refine vE_ft ?_ | refine vE_u ?_ | refine vP_to (by simp (disch := omega) only [gdW_true, gdW_false, gB_true, gB_false, gB_undef, pickV_true, pickV_false, Bool.not_true, Bool.not_false, Option.map_some, bin_add, bin_sub, bin_mul, bin_quo, bin_rem, lss_t, lss_f, leq_t, leq_f, gtr_t, gtr_f, geq_t, geq_f, eqi_t, eqi_f, nei_t, nei_f, rem_uw, conv_ui, conv_iu, conv_ii, not_bool, nil_ptr, fa_mk, ptrV, len_mk, cap_mk, eq_ptr_nil, ne_ptr_nil, eq_nil_nil, ne_nil_nil, eq_slice_nil, eq_nil_slice, ia_1, lw3, i1]; exact so_so) ?_)
    refine i3 69 _ fun h' q => ?_
    have q : (SG iE 3 (.slice (some ⟨r1, 0, none⟩) 2 2) [64, 69] * (t0P e0 * t1P e0 * v0P e0 * v1P e0 * gsP e0 * obP e0 * pt r8 (.cells e0.w.cells 26 (0, 0)) * own g * tt)) h' := q
    have ok1 : Ev.Ok { e0 with gl := [64, 69] } := ⟨rfl, ok0.sl, ok0.k0, ok0.k1, ok0.a1⟩
    have hm : Ev.mem { e0 with gl := [64, 69] } = SG iE 3 (.slice (some ⟨r1, 0, none⟩) 2 2) [64, 69] * (t0P e0 * (t1P e0 * (v0P e0 * (v1P e0 * (gsP e0 * obP e0))))) := by subst he0; rfl
    have hc : ({ e0 with gl := [64, 69] } : Ev).w.cells = e0.w.cells := by subst he0; rfl
    refine fin { e0 with gl := [64, 69] } h' ok1 ((out_eq (cb_t (Ev.b1t (e := { e0 with gl := [64, 69] }) (by simp) y_a1)) (cb_f (Ev.Ok.b2f (e := { e0 with gl := [64, 69] }) ok1 y_a1)) (cb_f (Ev.b3f (e := { e0 with gl := [64, 69] }) (by show ¬ (e0.st1 = 2 ∧ _); omega))) (cb_f (Ev.b4f (e := { e0 with gl := [64, 69] }) hn1 (.inl ⟨y_st1, y_p1⟩))) (cb_f (Ev.b5f (e := { e0 with gl := [64, 69] }) y_nt)) (cb_f (Ev.b6f (e := { e0 with gl := [64, 69] }) (by show e0.ph ≠ 2; omega))) (cb_f (Ev.Ok.b7f (e := { e0 with gl := [64, 69] }) ok1 (by show e0.k0.length = 16; rw [y_k0]; simp) (.inl y_ph))) (cb_f (Ev.b8f (e := { e0 with gl := [64, 69] }) (.inr ⟨y_m0, y_m1⟩)))).trans rfl) ?_
    rw [hm, hc]
    exact asr (by ac_rfl) (q)
  · have hB : (obP e0 * (gP e0 * t0P e0 * t1P e0 * v0P e0 * v1P e0 * gsP e0 * pt r8 (.cells e0.w.cells 26 (0, 0)) * own g * tt)) h11 := asr (by unfold Ev.mem; ac_rfl) hh11
    rw [q1] at hB
    repeat (with_reducible first | refine vP_so ?_ | refine vB_t ?_ | refine vB_f ?_ | refine vE_tt ?_ | refine vE_ff ?_ | refine vE_tf ?_ | refine vE_ft ?_ | refine vE_u ?_ | refine vP_to (by simp (disch := omega) only [gdW_true, gdW_false, gB_true, gB_false, gB_undef, pickV_true, pickV_false, Bool.not_true, Bool.not_false, Option.map_some, bin_add, bin_sub, bin_mul, bin_quo, bin_rem, lss_t, lss_f, leq_t, leq_f, gtr_t, gtr_f, geq_t, geq_f, eqi_t, eqi_f, nei_t, nei_f, rem_uw, conv_ui, conv_iu, conv_ii, not_bool, nil_ptr, fa_mk, ptrV, len_mk, cap_mk, eq_ptr_nil, ne_ptr_nil, eq_nil_nil, ne_nil_nil, eq_slice_nil, eq_nil_slice, ia_1, l5]; exact so_so) ?_)
    refine st1_mk hB rfl (by simp) fun h19 q => ?_
    have q := pt_cast (c' := #[.int .i64 64, .slice (some ⟨r2, 0, none⟩) 1 1, .bool false, .int .i64 64, .slice (some ⟨r3, 0, none⟩) 2 2, .bool false]) rfl q
    have l5' := lwO (h := h19) (F := pt ro (.cells #[.int .i64 64, .slice (some ⟨r2, 0, none⟩) 1 1, .bool false, .int .i64 64, .slice (some ⟨r3, 0, none⟩) 2 2, .bool false] 30 (0, 0)) * (gP e0 * t0P e0 * t1P e0 * v0P e0 * v1P e0 * gsP e0 * own g * tt)) (asr (by ac_rfl) q)
    have lo : ld1 (.pointer (some ⟨ro, 0 + Int.toNat 0 * 3 + 1, none⟩)) h19 = some (.slice (some ⟨r2, 0, none⟩) 1 1) := ld1_mk (pt_get q) rfl
    have hG : (v0P e0 * (pt ro (.cells #[.int .i64 64, .slice (some ⟨r2, 0, none⟩) 1 1, .bool false, .int .i64 64, .slice (some ⟨r3, 0, none⟩) 2 2, .bool false] 30 (0, 0)) * (gP e0 * t0P e0 * t1P e0 * v1P e0 * gsP e0 * pt r8 (.cells e0.w.cells 26 (0, 0)) * own g * tt))) h19 := asr (by ac_rfl) q
    rw [q3] at hG
    obtain ⟨p, i1, _, i3⟩ := el1 hG (i := 0) (a := 68) rfl .i64
    have i1 : iaS 1 (.slice (some ⟨r2, 0, none⟩) 1 1) (.int .i64 0) = some p := i1
    repeat (with_reducible first | refine vP_so ?_ | refine vB_t ?_ | refine vB_f ?_ | refine vE_tt ?_ | refine vE_ff ?_ | refine vE_tf ?_ | refine vE_ft ?_ | refine vE_u ?_ | refine vP_to (by simp (disch := omega) only [gdW_true, gdW_false, gB_true, gB_false, gB_undef, pickV_true, pickV_false, Bool.not_true, Bool.not_false, Option.map_some, bin_add, bin_sub, bin_mul, bin_quo, bin_rem, lss_t, lss_f, leq_t, leq_f, gtr_t, gtr_f, geq_t, geq_f, eqi_t, eqi_f, nei_t, nei_f, rem_uw, conv_ui, conv_iu, conv_ii, not_bool, nil_ptr, fa_mk, ptrV, len_mk, cap_mk, eq_ptr_nil, ne_ptr_nil, eq_nil_nil, ne_nil_nil, eq_slice_nil, eq_nil_slice, ia_1, l5', lo, i1]; exact so_so) ?_)
    refine i3 0 _ fun h' q => ?_
    have q : (SG iE 3 (.slice (some ⟨r2, 0, none⟩) 1 1) [0] * (pt ro (.cells #[.int .i64 64, .slice (some ⟨r2, 0, none⟩) 1 1, .bool false, .int .i64 64, .slice (some ⟨r3, 0, none⟩) 2 2, .bool false] 30 (0, 0)) * (gP e0 * t0P e0 * t1P e0 * v1P e0 * gsP e0 * pt r8 (.cells e0.w.cells 26 (0, 0)) * own g * tt))) h' := q
    have ok1 : Ev.Ok { e0 with a1 := 64, sl0 := [0] } := ⟨ok0.gl, rfl, ok0.k0, ok0.k1, .inl rfl⟩
    have hm : Ev.mem { e0 with a1 := 64, sl0 := [0] } = gP e0 * (t0P e0 * (t1P e0 * (SG iE 3 (.slice (some ⟨r2, 0, none⟩) 1 1) [0] * (v1P e0 * (gsP e0 * pt ro (.cells #[.int .i64 64, .slice (some ⟨r2, 0, none⟩) 1 1, .bool false, .int .i64 64, .slice (some ⟨r3, 0, none⟩) 2 2, .bool false] 30 (0, 0))))))) := by subst he0; rfl
    have hc : ({ e0 with a1 := 64, sl0 := [0] } : Ev).w.cells = e0.w.cells := by subst he0; rfl
    refine fin { e0 with a1 := 64, sl0 := [0] } h' ok1 ((out_eq (cb_f (Ev.Ok.b1f (e := { e0 with a1 := 64, sl0 := [0] }) ok1 hg0 (fun x hx hn => by simp at hx; exact (hn hx).elim))) (cb_t (Ev.b2t (e := { e0 with a1 := 64, sl0 := [0] }) rfl)) (cb_f (Ev.b3f (e := { e0 with a1 := 64, sl0 := [0] }) (by show ¬ (e0.st1 = 2 ∧ _); omega))) (cb_f (Ev.b4f (e := { e0 with a1 := 64, sl0 := [0] }) hn1 (.inl ⟨y_st1, y_p1⟩))) (cb_f (Ev.b5f (e := { e0 with a1 := 64, sl0 := [0] }) y_nt)) (cb_f (Ev.b6f (e := { e0 with a1 := 64, sl0 := [0] }) (by show e0.ph ≠ 2; omega))) (cb_f (Ev.Ok.b7f (e := { e0 with a1 := 64, sl0 := [0] }) ok1 (by show e0.k0.length = 16; rw [y_k0]; simp) (.inl y_ph))) (cb_f (Ev.b8f (e := { e0 with a1 := 64, sl0 := [0] }) (.inr ⟨y_m0, y_m1⟩)))).trans rfl) ?_
    rw [hm, hc]
    exact asr (by ac_rfl) (q)
  · have hB : (gsP e0 * (gP e0 * t0P e0 * t1P e0 * v0P e0 * v1P e0 * obP e0 * pt r8 (.cells e0.w.cells 26 (0, 0)) * own g * tt)) h11 := asr (by unfold Ev.mem; ac_rfl) hh11
    rw [q4] at hB
    repeat (with_reducible first | refine vP_so ?_ | refine vB_t ?_ | refine vB_f ?_ | refine vE_tt ?_ | refine vE_ff ?_ | refine vE_tf ?_ | refine vE_ft ?_ | refine vE_u ?_ | refine vP_to (by simp (disch := omega) only [gdW_true, gdW_false, gB_true, gB_false, gB_undef, pickV_true, pickV_false, Bool.not_true, Bool.not_false, Option.map_some, bin_add, bin_sub, bin_mul, bin_quo, bin_rem, lss_t, lss_f, leq_t, leq_f, gtr_t, gtr_f, geq_t, geq_f, eqi_t, eqi_f, nei_t, nei_f, rem_uw, conv_ui, conv_iu, conv_ii, not_bool, nil_ptr, fa_mk, ptrV, len_mk, cap_mk, eq_ptr_nil, ne_ptr_nil, eq_nil_nil, ne_nil_nil, eq_slice_nil, eq_nil_slice, ia_1, l4]; exact so_so) ?_)
    refine use_stack hB fun a2 c2 h21 q => ?_
    have l4' := lwS (h := h21) (F := SG iE 3 (.slice a2 16 c2) (List.replicate 16 0) * (pt rg (.cells #[.int .i64 2, .int .i64 0, .slice a0 16 c0, .int .i64 3, .int .i64 (-1), .slice a1 16 c1] 41 (0, 0)) * (gP e0 * t0P e0 * t1P e0 * v0P e0 * v1P e0 * obP e0 * own g * tt))) (asr (by ac_rfl) q)
    refine ⟨l4', ?_⟩
    refine vP_to (x := .agg #[.int .i64 2, .int .i64 0, .slice a2 16 c2]) rfl ?_
    repeat (with_reducible first | refine vP_so ?_ | refine vB_t ?_ | refine vB_f ?_ | refine vE_tt ?_ | refine vE_ff ?_ | refine vE_tf ?_ | refine vE_ft ?_ | refine vE_u ?_ | refine vP_to (by simp (disch := omega) only [gdW_true, gdW_false, gB_true, gB_false, gB_undef, pickV_true, pickV_false, Bool.not_true, Bool.not_false, Option.map_some, bin_add, bin_sub, bin_mul, bin_quo, bin_rem, lss_t, lss_f, leq_t, leq_f, gtr_t, gtr_f, geq_t, geq_f, eqi_t, eqi_f, nei_t, nei_f, rem_uw, conv_ui, conv_iu, conv_ii, not_bool, nil_ptr, fa_mk, ptrV, len_mk, cap_mk, eq_ptr_nil, ne_ptr_nil, eq_nil_nil, ne_nil_nil, eq_slice_nil, eq_nil_slice, ia_1]; exact so_so) ?_)
    have q : (pt rg (.cells #[.int .i64 2, .int .i64 0, .slice a0 16 c0, .int .i64 3, .int .i64 (-1), .slice a1 16 c1] 41 (0, 0)) * (SG iE 3 (.slice a2 16 c2) (List.replicate 16 0) * (gP e0 * t0P e0 * t1P e0 * v0P e0 * v1P e0 * obP e0 * pt r8 (.cells e0.w.cells 26 (0, 0)) * own g * tt))) h21 := asr (by ac_rfl) q
    refine stN_mk (cs := #[.int .i64 2, .int .i64 0, .slice a2 16 c2]) q rfl rfl (by simp) fun h' q => ?_
    have q := pt_cast (c' := #[.int .i64 2, .int .i64 0, .slice a0 16 c0, .int .i64 2, .int .i64 0, .slice a2 16 c2]) rfl q
    have q : (pt rg (.cells #[.int .i64 2, .int .i64 0, .slice a0 16 c0, .int .i64 2, .int .i64 0, .slice a2 16 c2] 41 (0, 0)) * (SG iE 3 (.slice a2 16 c2) (List.replicate 16 0) * (gP e0 * t0P e0 * v0P e0 * v1P e0 * obP e0 * pt r8 (.cells e0.w.cells 26 (0, 0)) * own g * tt))) h' := dropL (P := t1P e0) (Q := pt rg (.cells #[.int .i64 2, .int .i64 0, .slice a0 16 c0, .int .i64 2, .int .i64 0, .slice a2 16 c2] 41 (0, 0)) * (SG iE 3 (.slice a2 16 c2) (List.replicate 16 0) * (gP e0 * t0P e0 * v0P e0 * v1P e0 * obP e0 * pt r8 (.cells e0.w.cells 26 (0, 0)) * own g))) (asr (by ac_rfl) q) |> asr (by ac_rfl)
    have ok1 : Ev.Ok { e0 with st1 := 2, p1 := 0, k1 := List.replicate 16 0, t1 := .slice a2 16 c2 } := ⟨ok0.gl, ok0.sl, ok0.k0, ⟨by simp, fun x hx => List.eq_of_mem_replicate hx⟩, ok0.a1⟩
    have hm : Ev.mem { e0 with st1 := 2, p1 := 0, k1 := List.replicate 16 0, t1 := .slice a2 16 c2 } = gP e0 * (t0P e0 * (SG iE 3 (.slice a2 16 c2) (List.replicate 16 0) * (v0P e0 * (v1P e0 * (pt rg (.cells #[.int .i64 2, .int .i64 0, .slice a0 16 c0, .int .i64 2, .int .i64 0, .slice a2 16 c2] 41 (0, 0)) * obP e0))))) := by subst he0; rfl
    have hc : ({ e0 with st1 := 2, p1 := 0, k1 := List.replicate 16 0, t1 := .slice a2 16 c2 } : Ev).w.cells = e0.w.cells := by subst he0; rfl
    refine fin { e0 with st1 := 2, p1 := 0, k1 := List.replicate 16 0, t1 := .slice a2 16 c2 } h' ok1 ((out_eq (cb_f (Ev.Ok.b1f (e := { e0 with st1 := 2, p1 := 0, k1 := List.replicate 16 0, t1 := .slice a2 16 c2 }) ok1 hg0 hs0)) (cb_f (Ev.Ok.b2f (e := { e0 with st1 := 2, p1 := 0, k1 := List.replicate 16 0, t1 := .slice a2 16 c2 }) ok1 y_a1)) (cb_t (Ev.b3t (e := { e0 with st1 := 2, p1 := 0, k1 := List.replicate 16 0, t1 := .slice a2 16 c2 }) ⟨rfl, rfl⟩)) (cb_f (Ev.b4f (e := { e0 with st1 := 2, p1 := 0, k1 := List.replicate 16 0, t1 := .slice a2 16 c2 }) hn1 (.inr ⟨rfl, rfl⟩))) (cb_f (Ev.b5f (e := { e0 with st1 := 2, p1 := 0, k1 := List.replicate 16 0, t1 := .slice a2 16 c2 }) y_nt)) (cb_f (Ev.b6f (e := { e0 with st1 := 2, p1 := 0, k1 := List.replicate 16 0, t1 := .slice a2 16 c2 }) (by show e0.ph ≠ 2; omega))) (cb_f (Ev.Ok.b7f (e := { e0 with st1 := 2, p1 := 0, k1 := List.replicate 16 0, t1 := .slice a2 16 c2 }) ok1 (by show e0.k0.length = 16; rw [y_k0]; simp) (.inl y_ph))) (cb_f (Ev.b8f (e := { e0 with st1 := 2, p1 := 0, k1 := List.replicate 16 0, t1 := .slice a2 16 c2 }) (.inr ⟨y_m0, y_m1⟩)))).trans rfl) ?_
    rw [hm, hc]
    exact asr (by ac_rfl) (q)
  · have hB : (gsP e0 * (gP e0 * t0P e0 * t1P e0 * v0P e0 * v1P e0 * obP e0 * pt r8 (.cells e0.w.cells 26 (0, 0)) * own g * tt)) h11 := asr (by unfold Ev.mem; ac_rfl) hh11
    rw [q4] at hB
    repeat (with_reducible first | refine vP_so ?_ | refine vB_t ?_ | refine vB_f ?_ | refine vE_tt ?_ | refine vE_ff ?_ | refine vE_tf ?_ | refine vE_ft ?_ | refine vE_u ?_ | refine vP_to (by simp (disch := omega) only [gdW_true, gdW_false, gB_true, gB_false, gB_undef, pickV_true, pickV_false, Bool.not_true, Bool.not_false, Option.map_some, bin_add, bin_sub, bin_mul, bin_quo, bin_rem, lss_t, lss_f, leq_t, leq_f, gtr_t, gtr_f, geq_t, geq_f, eqi_t, eqi_f, nei_t, nei_f, rem_uw, conv_ui, conv_iu, conv_ii, not_bool, nil_ptr, fa_mk, ptrV, len_mk, cap_mk, eq_ptr_nil, ne_ptr_nil, eq_nil_nil, ne_nil_nil, eq_slice_nil, eq_nil_slice, ia_1, l4]; exact so_so) ?_)
    refine st1_mk hB rfl (by simp) fun h' q => ?_
    have q := pt_cast (c' := #[.int .i64 2, .int .i64 0, .slice a0 16 c0, .int .i64 3, .int .i64 0, .slice a1 16 c1]) rfl q
    have ok1 : Ev.Ok { e0 with p1 := 0 } := ⟨ok0.gl, ok0.sl, ok0.k0, ok0.k1, ok0.a1⟩
    have hm : Ev.mem { e0 with p1 := 0 } = gP e0 * (t0P e0 * (t1P e0 * (v0P e0 * (v1P e0 * (pt rg (.cells #[.int .i64 2, .int .i64 0, .slice a0 16 c0, .int .i64 3, .int .i64 0, .slice a1 16 c1] 41 (0, 0)) * obP e0))))) := by subst he0; rfl
    have hc : ({ e0 with p1 := 0 } : Ev).w.cells = e0.w.cells := by subst he0; rfl
    refine fin { e0 with p1 := 0 } h' ok1 ((out_eq (cb_f (Ev.Ok.b1f (e := { e0 with p1 := 0 }) ok1 hg0 hs0)) (cb_f (Ev.Ok.b2f (e := { e0 with p1 := 0 }) ok1 y_a1)) (cb_f (Ev.b3f (e := { e0 with p1 := 0 }) (by show ¬ (e0.st1 = 2 ∧ _); omega))) (cb_t (Ev.b4t (e := { e0 with p1 := 0 }) ⟨y_st1, rfl⟩)) (cb_f (Ev.b5f (e := { e0 with p1 := 0 }) y_nt)) (cb_f (Ev.b6f (e := { e0 with p1 := 0 }) (by show e0.ph ≠ 2; omega))) (cb_f (Ev.Ok.b7f (e := { e0 with p1 := 0 }) ok1 (by show e0.k0.length = 16; rw [y_k0]; simp) (.inl y_ph))) (cb_f (Ev.b8f (e := { e0 with p1 := 0 }) (.inr ⟨y_m0, y_m1⟩)))).trans rfl) ?_
    rw [hm, hc]
    exact asr (by ac_rfl) (q)
  · have hB := hV
    have y_c : e0.w.cells = #[.int .i64 0, .int .i64 0, .int .i64 0, .slice (some ⟨r1, 0, none⟩) 2 2, .slice (some ⟨rg, 0, none⟩) 2 2, .slice (some ⟨ro, 0, none⟩) 2 2, .int .i64 0, .int .i64 0, .int .i64 0] := by subst he0; rfl
    rw [y_c] at hB
    repeat (with_reducible first | refine vP_so ?_ | refine vB_t ?_ | refine vB_f ?_ | refine vE_tt ?_ | refine vE_ff ?_ | refine vE_tf ?_ | refine vE_ft ?_ | refine vE_u ?_ | refine vP_to (by simp (disch := omega) only [gdW_true, gdW_false, gB_true, gB_false, gB_undef, pickV_true, pickV_false, Bool.not_true, Bool.not_false, Option.map_some, bin_add, bin_sub, bin_mul, bin_quo, bin_rem, lss_t, lss_f, leq_t, leq_f, gtr_t, gtr_f, geq_t, geq_f, eqi_t, eqi_f, nei_t, nei_f, rem_uw, conv_ui, conv_iu, conv_ii, not_bool, nil_ptr, fa_mk, ptrV, len_mk, cap_mk, eq_ptr_nil, ne_ptr_nil, eq_nil_nil, ne_nil_nil, eq_slice_nil, eq_nil_slice, ia_1]; exact so_so) ?_)
    refine st1_mk hB rfl (by simp) fun h' q => ?_
    have q := pt_cast (c' := #[.int .i64 0, .int .i64 0, .int .i64 0, .slice (some ⟨r1, 0, none⟩) 2 2, .slice (some ⟨rg, 0, none⟩) 2 2, .slice (some ⟨ro, 0, none⟩) 2 2, .int .i64 0, .int .i64 1, .int .i64 0]) rfl q
    have ok1 : Ev.Ok { e0 with nt := 1 } := ⟨ok0.gl, ok0.sl, ok0.k0, ok0.k1, ok0.a1⟩
    have hm : Ev.mem { e0 with nt := 1 } = gP e0 * (t0P e0 * (t1P e0 * (v0P e0 * (v1P e0 * (gsP e0 * obP e0))))) := by subst he0; rfl
    have hc : ({ e0 with nt := 1 } : Ev).w.cells = #[.int .i64 0, .int .i64 0, .int .i64 0, .slice (some ⟨r1, 0, none⟩) 2 2, .slice (some ⟨rg, 0, none⟩) 2 2, .slice (some ⟨ro, 0, none⟩) 2 2, .int .i64 0, .int .i64 1, .int .i64 0] := by subst he0; rfl
    refine fin { e0 with nt := 1 } h' ok1 ((out_eq (cb_f (Ev.Ok.b1f (e := { e0 with nt := 1 }) ok1 hg0 hs0)) (cb_f (Ev.Ok.b2f (e := { e0 with nt := 1 }) ok1 y_a1)) (cb_f (Ev.b3f (e := { e0 with nt := 1 }) (by show ¬ (e0.st1 = 2 ∧ _); omega))) (cb_f (Ev.b4f (e := { e0 with nt := 1 }) hn1 (.inl ⟨y_st1, y_p1⟩))) (cb_t (Ev.b5t (e := { e0 with nt := 1 }) rfl y_ph)) (cb_f (Ev.b6f (e := { e0 with nt := 1 }) (by show e0.ph ≠ 2; omega))) (cb_f (Ev.Ok.b7f (e := { e0 with nt := 1 }) ok1 (by show e0.k0.length = 16; rw [y_k0]; simp) (.inl y_ph))) (cb_f (Ev.b8f (e := { e0 with nt := 1 }) (.inr ⟨y_m0, y_m1⟩)))).trans rfl) ?_
    rw [hm, hc]
    exact asr (by ac_rfl) (q)
  · have hB := hV
    have y_c : e0.w.cells = #[.int .i64 0, .int .i64 0, .int .i64 0, .slice (some ⟨r1, 0, none⟩) 2 2, .slice (some ⟨rg, 0, none⟩) 2 2, .slice (some ⟨ro, 0, none⟩) 2 2, .int .i64 0, .int .i64 0, .int .i64 0] := by subst he0; rfl
    rw [y_c] at hB
    repeat (with_reducible first | refine vP_so ?_ | refine vB_t ?_ | refine vB_f ?_ | refine vE_tt ?_ | refine vE_ff ?_ | refine vE_tf ?_ | refine vE_ft ?_ | refine vE_u ?_ | refine vP_to (by simp (disch := omega) only [gdW_true, gdW_false, gB_true, gB_false, gB_undef, pickV_true, pickV_false, Bool.not_true, Bool.not_false, Option.map_some, bin_add, bin_sub, bin_mul, bin_quo, bin_rem, lss_t, lss_f, leq_t, leq_f, gtr_t, gtr_f, geq_t, geq_f, eqi_t, eqi_f, nei_t, nei_f, rem_uw, conv_ui, conv_iu, conv_ii, not_bool, nil_ptr, fa_mk, ptrV, len_mk, cap_mk, eq_ptr_nil, ne_ptr_nil, eq_nil_nil, ne_nil_nil, eq_slice_nil, eq_nil_slice, ia_1]; exact so_so) ?_)
    refine st1_mk hB rfl (by simp) fun h25 q => ?_
    have q := pt_cast (c' := #[.int .i64 2, .int .i64 0, .int .i64 0, .slice (some ⟨r1, 0, none⟩) 2 2, .slice (some ⟨rg, 0, none⟩) 2 2, .slice (some ⟨ro, 0, none⟩) 2 2, .int .i64 0, .int .i64 0, .int .i64 0]) rfl q
    have l5' : ld1 (.pointer (some ⟨r8, 0 + 5, none⟩)) h25 = some (.slice (some ⟨ro, 0, none⟩) 2 2) := ld1_mk (pt_get q) rfl
    have hB : (obP e0 * (pt r8 (.cells #[.int .i64 2, .int .i64 0, .int .i64 0, .slice (some ⟨r1, 0, none⟩) 2 2, .slice (some ⟨rg, 0, none⟩) 2 2, .slice (some ⟨ro, 0, none⟩) 2 2, .int .i64 0, .int .i64 0, .int .i64 0] 26 (0, 0)) * (gP e0 * t0P e0 * t1P e0 * v0P e0 * v1P e0 * gsP e0 * own g * tt))) h25 := asr (by ac_rfl) q
    rw [q1] at hB
    repeat (with_reducible first | refine vP_so ?_ | refine vB_t ?_ | refine vB_f ?_ | refine vE_tt ?_ | refine vE_ff ?_ | refine vE_tf ?_ | refine vE_ft ?_ | refine vE_u ?_ | refine vP_to (by simp (disch := omega) only [gdW_true, gdW_false, gB_true, gB_false, gB_undef, pickV_true, pickV_false, Bool.not_true, Bool.not_false, Option.map_some, bin_add, bin_sub, bin_mul, bin_quo, bin_rem, lss_t, lss_f, leq_t, leq_f, gtr_t, gtr_f, geq_t, geq_f, eqi_t, eqi_f, nei_t, nei_f, rem_uw, conv_ui, conv_iu, conv_ii, not_bool, nil_ptr, fa_mk, ptrV, len_mk, cap_mk, eq_ptr_nil, ne_ptr_nil, eq_nil_nil, ne_nil_nil, eq_slice_nil, eq_nil_slice, ia_1, l5']; exact so_so) ?_)
    refine st1_mk hB rfl (by simp) fun h' q => ?_
    have q := pt_cast (c' := #[.int .i64 64, .slice (some ⟨r2, 0, none⟩) 1 1, .bool true, .int .i64 68, .slice (some ⟨r3, 0, none⟩) 2 2, .bool false]) rfl q
    have ok1 : Ev.Ok { e0 with ph := 2, m0 := true } := ⟨ok0.gl, ok0.sl, ok0.k0, ok0.k1, ok0.a1⟩
    have hm : Ev.mem { e0 with ph := 2, m0 := true } = gP e0 * (t0P e0 * (t1P e0 * (v0P e0 * (v1P e0 * (gsP e0 * pt ro (.cells #[.int .i64 64, .slice (some ⟨r2, 0, none⟩) 1 1, .bool true, .int .i64 68, .slice (some ⟨r3, 0, none⟩) 2 2, .bool false] 30 (0, 0))))))) := by subst he0; rfl
    have hc : ({ e0 with ph := 2, m0 := true } : Ev).w.cells = #[.int .i64 2, .int .i64 0, .int .i64 0, .slice (some ⟨r1, 0, none⟩) 2 2, .slice (some ⟨rg, 0, none⟩) 2 2, .slice (some ⟨ro, 0, none⟩) 2 2, .int .i64 0, .int .i64 0, .int .i64 0] := by subst he0; rfl
    refine fin { e0 with ph := 2, m0 := true } h' ok1 ((out_eq (cb_f (Ev.Ok.b1f (e := { e0 with ph := 2, m0 := true }) ok1 hg0 hs0)) (cb_f (Ev.Ok.b2f (e := { e0 with ph := 2, m0 := true }) ok1 y_a1)) (cb_f (Ev.b3f (e := { e0 with ph := 2, m0 := true }) (by show ¬ (e0.st1 = 2 ∧ _); omega))) (cb_f (Ev.b4f (e := { e0 with ph := 2, m0 := true }) hn1 (.inl ⟨y_st1, y_p1⟩))) (cb_f (Ev.b5f (e := { e0 with ph := 2, m0 := true }) y_nt)) (cb_t (Ev.b6t (e := { e0 with ph := 2, m0 := true }) rfl (by show 64 ∈ e0.gl; rw [y_gl]; simp) (by show 68 ∈ e0.sl0; rw [y_sl0]; simp) y_a1 y_m1)) (cb_f (Ev.Ok.b7f (e := { e0 with ph := 2, m0 := true }) ok1 (by show e0.k0.length = 16; rw [y_k0]; simp) (.inr rfl))) (cb_f (Ev.b8f (e := { e0 with ph := 2, m0 := true }) (.inl rfl)))).trans rfl) ?_
    rw [hm, hc]
    exact asr (by ac_rfl) (q)
  · have hG : (t0P e0 * (gP e0 * t1P e0 * v0P e0 * v1P e0 * gsP e0 * obP e0 * pt r8 (.cells e0.w.cells 26 (0, 0)) * own g * tt)) h11 := asr (by unfold Ev.mem; ac_rfl) hh11
    rw [q6] at hG
    obtain ⟨sv', i1, q⟩ := to_to iE hG (j := 15) (by simp) .i64
    have i1 : slV 1 (.slice a0 16 c0) none (some (.int .i64 15)) none = some sv' := i1
    have q : (SG iE 3 sv' (List.replicate 15 0) * (gP e0 * t1P e0 * v0P e0 * v1P e0 * gsP e0 * obP e0 * pt r8 (.cells e0.w.cells 26 (0, 0)) * own g * tt)) h11 := q
    have h1s := SG_one iE q
    have hB : (gsP e0 * (SG iE 3 sv' (List.replicate 15 0) * (gP e0 * t1P e0 * v0P e0 * v1P e0 * obP e0 * pt r8 (.cells e0.w.cells 26 (0, 0)) * own g * tt))) h11 := asr (by ac_rfl) q
    rw [q4] at hB
    have lo : ld1 (.pointer (some ⟨rg, 0 + Int.toNat 0 * 3 + 2, none⟩)) h11 = some (.slice a0 16 c0) := ld1_mk (pt_get hB) rfl
    repeat (with_reducible first | refine vP_so ?_ | refine vB_t ?_ | refine vB_f ?_ | refine vE_tt ?_ | refine vE_ff ?_ | refine vE_tf ?_ | refine vE_ft ?_ | refine vE_u ?_ | refine vP_to (by simp (disch := omega) only [gdW_true, gdW_false, gB_true, gB_false, gB_undef, pickV_true, pickV_false, Bool.not_true, Bool.not_false, Option.map_some, bin_add, bin_sub, bin_mul, bin_quo, bin_rem, lss_t, lss_f, leq_t, leq_f, gtr_t, gtr_f, geq_t, geq_f, eqi_t, eqi_f, nei_t, nei_f, rem_uw, conv_ui, conv_iu, conv_ii, not_bool, nil_ptr, fa_mk, ptrV, len_mk, cap_mk, eq_ptr_nil, ne_ptr_nil, eq_nil_nil, ne_nil_nil, eq_slice_nil, eq_nil_slice, ia_1, l4, lo, i1]; exact so_so) ?_)
    refine st1_mk hB h1s (by simp) fun h' q => ?_
    have q := pt_cast (c' := #[.int .i64 2, .int .i64 0, sv', .int .i64 3, .int .i64 (-1), .slice a1 16 c1]) rfl q
    have ok1 : Ev.Ok { e0 with k0 := List.replicate 15 0, t0 := sv' } := ⟨ok0.gl, ok0.sl, ⟨by simp, fun x hx => List.eq_of_mem_replicate hx⟩, ok0.k1, ok0.a1⟩
    have hm : Ev.mem { e0 with k0 := List.replicate 15 0, t0 := sv' } = gP e0 * (SG iE 3 sv' (List.replicate 15 0) * (t1P e0 * (v0P e0 * (v1P e0 * (pt rg (.cells #[.int .i64 2, .int .i64 0, sv', .int .i64 3, .int .i64 (-1), .slice a1 16 c1] 41 (0, 0)) * obP e0))))) := by subst he0; rfl
    have hc : ({ e0 with k0 := List.replicate 15 0, t0 := sv' } : Ev).w.cells = e0.w.cells := by subst he0; rfl
    refine fin { e0 with k0 := List.replicate 15 0, t0 := sv' } h' ok1 ((out_eq (cb_f (Ev.Ok.b1f (e := { e0 with k0 := List.replicate 15 0, t0 := sv' }) ok1 hg0 hs0)) (cb_f (Ev.Ok.b2f (e := { e0 with k0 := List.replicate 15 0, t0 := sv' }) ok1 y_a1)) (cb_f (Ev.b3f (e := { e0 with k0 := List.replicate 15 0, t0 := sv' }) (by show ¬ (e0.st1 = 2 ∧ _); omega))) (cb_f (Ev.b4f (e := { e0 with k0 := List.replicate 15 0, t0 := sv' }) hn1 (.inl ⟨y_st1, y_p1⟩))) (cb_f (Ev.b5f (e := { e0 with k0 := List.replicate 15 0, t0 := sv' }) y_nt)) (cb_f (Ev.b6f (e := { e0 with k0 := List.replicate 15 0, t0 := sv' }) (by show e0.ph ≠ 2; omega))) (cb_t (Ev.b7t (e := { e0 with k0 := List.replicate 15 0, t0 := sv' }) (by simp))) (cb_f (Ev.b8f (e := { e0 with k0 := List.replicate 15 0, t0 := sv' }) (.inr ⟨y_m0, y_m1⟩)))).trans rfl) ?_
    rw [hm, hc]
    exact asr (by ac_rfl) (q)
  · have hB : (obP e0 * (gP e0 * t0P e0 * t1P e0 * v0P e0 * v1P e0 * gsP e0 * pt r8 (.cells e0.w.cells 26 (0, 0)) * own g * tt)) h11 := asr (by unfold Ev.mem; ac_rfl) hh11
    rw [q1] at hB
    repeat (with_reducible first | refine vP_so ?_ | refine vB_t ?_ | refine vB_f ?_ | refine vE_tt ?_ | refine vE_ff ?_ | refine vE_tf ?_ | refine vE_ft ?_ | refine vE_u ?_ | refine vP_to (by simp (disch := omega) only [gdW_true, gdW_false, gB_true, gB_false, gB_undef, pickV_true, pickV_false, Bool.not_true, Bool.not_false, Option.map_some, bin_add, bin_sub, bin_mul, bin_quo, bin_rem, lss_t, lss_f, leq_t, leq_f, gtr_t, gtr_f, geq_t, geq_f, eqi_t, eqi_f, nei_t, nei_f, rem_uw, conv_ui, conv_iu, conv_ii, not_bool, nil_ptr, fa_mk, ptrV, len_mk, cap_mk, eq_ptr_nil, ne_ptr_nil, eq_nil_nil, ne_nil_nil, eq_slice_nil, eq_nil_slice, ia_1, l5]; exact so_so) ?_)
    refine st1_mk hB rfl (by simp) fun h' q => ?_
    have q := pt_cast (c' := #[.int .i64 64, .slice (some ⟨r2, 0, none⟩) 1 1, .bool false, .int .i64 68, .slice (some ⟨r3, 0, none⟩) 2 2, .bool true]) rfl q
    have ok1 : Ev.Ok { e0 with m1 := true } := ⟨ok0.gl, ok0.sl, ok0.k0, ok0.k1, ok0.a1⟩
    have hm : Ev.mem { e0 with m1 := true } = gP e0 * (t0P e0 * (t1P e0 * (v0P e0 * (v1P e0 * (gsP e0 * pt ro (.cells #[.int .i64 64, .slice (some ⟨r2, 0, none⟩) 1 1, .bool false, .int .i64 68, .slice (some ⟨r3, 0, none⟩) 2 2, .bool true] 30 (0, 0))))))) := by subst he0; rfl
    have hc : ({ e0 with m1 := true } : Ev).w.cells = e0.w.cells := by subst he0; rfl
    refine fin { e0 with m1 := true } h' ok1 ((out_eq (cb_f (Ev.Ok.b1f (e := { e0 with m1 := true }) ok1 hg0 hs0)) (cb_f (Ev.Ok.b2f (e := { e0 with m1 := true }) ok1 y_a1)) (cb_f (Ev.b3f (e := { e0 with m1 := true }) (by show ¬ (e0.st1 = 2 ∧ _); omega))) (cb_f (Ev.b4f (e := { e0 with m1 := true }) hn1 (.inl ⟨y_st1, y_p1⟩))) (cb_f (Ev.b5f (e := { e0 with m1 := true }) y_nt)) (cb_f (Ev.b6f (e := { e0 with m1 := true }) (by show e0.ph ≠ 2; omega))) (cb_f (Ev.Ok.b7f (e := { e0 with m1 := true }) ok1 (by show e0.k0.length = 16; rw [y_k0]; simp) (.inl y_ph))) (cb_t (Ev.b8t (e := { e0 with m1 := true }) y_ph rfl))).trans rfl) ?_
    rw [hm, hc]
    exact asr (by ac_rfl) (q)

end Go.Proofs
