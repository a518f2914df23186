/-
  ViewChains: the walk.
-/
import Derived.Test.YtdcoflglkfbpcaaLl
import Derived.Test.YtdcoflglkfbpcaaVb
set_option linter.unusedVariables false
set_option linter.unusedSimpArgs false
set_option maxRecDepth 100000
set_option maxHeartbeats 2000000
namespace Go.Proofs
open Go.Sl

/-- The links so far. -/
structure CI (k c : Nat) (G : Hp) (L : List Rw) (i : Nat) : Prop where
  len : L.length = i
  row : ∀ (j : Nat) (p : Rw), L[j]? = some p → p.1.1 = 64 + (j : Int) ∧ p.1.2.2 = false ∧ p.2 = [nxt k c j]
  ints : ∀ p ∈ L, IntsAt G (slv p.1.2.1) p.2

def chW (gv : Value) (gl : List Int) (ov : Value) (L : List Rw) : VW := ⟨0, 0, 0, gv, gl, .slice none 0 0, [], ov, L.map Rw.ob, 0, 0, 0⟩

theorem CI.chain {k c : Nat} {G : Hp} {L : List Rw} {gv ov : Value} {b : Bool} (h : CI k c G L k) (hk : 2 ≤ k) (hc : 1 ≤ c) : ChainW (chW gv (if b then [64, 64 + (k : Int) - 1] else [64]) ov L) k c b := by
  refine ⟨hk, hc, by simp [chW, h.len], fun i o ho => ?_, fun x => ?_⟩
  · have ho : (L.map Rw.ob)[i]? = some o := ho
    rw [List.getElem?_map] at ho
    obtain ⟨p, hp, rfl⟩ := Option.map_eq_some_iff.1 ho
    obtain ⟨h1, h2, h3⟩ := h.row i p hp
    exact ⟨h1, h3, h2⟩
  · unfold VW.names chW
    cases b <;> simp

theorem chain_tr (g : Hp) (n cut : Int) (b : Bool) : Tr Try.prog 7 #[.int .i64 n, .int .i64 cut, .bool b] (own g) (fun v => pr (v = .bool true) * own g) := by
  refine Tr.of fun h hh => C7 ?_
  unfold D7
  have hu1 := urem_lt (x := n) (b := 39) (by omega)
  obtain ⟨k, hk⟩ : ∃ k : Nat, 2 + urem n 39 = k := ⟨(2 + urem n 39).toNat, by omega⟩
  have hk2 : 2 ≤ k ∧ k ≤ 40 := by omega
  have hu2 := urem_lt (x := cut) (b := (k : Int) + 5) (by omega)
  obtain ⟨c, hc⟩ : ∃ c : Nat, 1 + urem cut ((k : Int) + 5) = c := ⟨(1 + urem cut ((k : Int) + 5)).toNat, by omega⟩
  have hc2 : 1 ≤ c ∧ c ≤ k + 5 := by omega
  have eb : ∀ x : Int, bldV #[.int .i64 0] [(0, 1, .int .i64 x)] = some #[.int .i64 x] := fun _ => rfl
  repeat (with_reducible first | refine vP_so ?_ | refine vB_t ?_ | refine vB_f ?_ | refine vE_tt ?_ | refine vE_ff ?_ | refine vE_tf ?_ | refine vE_ft ?_ | refine vE_u ?_ | refine vP_to (by simp (disch := omega) only [gdW_true, gdW_false, gB_true, gB_false, gB_undef, pickV_true, pickV_false, Bool.not_true, Bool.not_false, Option.map_some, bin_add, bin_sub, bin_mul, bin_quo, bin_rem, lss_t, lss_f, leq_t, leq_f, gtr_t, gtr_f, geq_t, geq_f, eqi_t, eqi_f, nei_t, nei_f, rem_uw, conv_ui, conv_iu, conv_ii, not_bool, nil_ptr, fa_mk, ptrV, len_mk, cap_mk, eq_ptr_nil, ne_ptr_nil, eq_nil_nil, ne_nil_nil, eq_slice_nil, eq_nil_slice, ia_1, conv_u .i64 n, conv_u .i64 cut, hk, hc]; exact so_so) ?_)
  rw [eb]
  refine vA_new (f := fun r => .slice (some ⟨r, 0, none⟩) 1 1) hh fun r31 h1 hh1 => ?_
  have hh1 : (SG iE 3 (.slice (some ⟨r31, 0, none⟩) 1 1) [64] * (own g * tt)) h1 := SG_intro iE (pre := []) (post := []) (l := [64]) rfl rfl (by simp) (by omega) (by simp) hh1
  refine vP_to (x := (chW (.slice (some ⟨r31, 0, none⟩) 1 1) [64] (.slice none 0 0) []).val) rfl ?_
  refine vA_new (f := ptrV) hh1 fun r9 h2 hh2 => ?_
  refine stN_mk (cs := (chW (.slice (some ⟨r31, 0, none⟩) 1 1) [64] (.slice none 0 0) []).cells) hh2 rfl rfl (by simp) fun h3 hh3 => ?_
  rw [putL_all (c := #[(Value.int .i64 0), (Value.int .i64 0), (Value.int .i64 0), (Value.slice none 0 0), (Value.slice none 0 0), (Value.slice none 0 0), (Value.int .i64 0), (Value.int .i64 0), (Value.int .i64 0)]) (d := (chW (.slice (some ⟨r31, 0, none⟩) 1 1) [64] (.slice none 0 0) []).cells) rfl] at hh3
  obtain ⟨gv, hgv⟩ : ∃ gv, gv = Value.slice (some ⟨r31, 0, none⟩) 1 1 := ⟨_, rfl⟩
  rw [← hgv] at hh3
  have hh3 : (SG obE 30 (.slice none 0 0) [] * (own Hp.emp * (pt r9 (.cells (chW gv [64] (.slice none 0 0) []).cells 26 (0, 0)) * (SG iE 3 gv [64] * (own g * tt))))) h3 := SG_nil obE (own_emp hh3)
  refine ⟨fun m zs h' => ∃ (i : Nat) (ov : Value) (L : List Rw) (G : Hp), zs = [.int .i64 i] ∧ m = k - i ∧ i ≤ k ∧ CI k c G L i ∧
      (SG obE 30 ov (L.map (·.1)) * (own G * (pt r9 (.cells (chW gv [64] ov L).cells 26 (0, 0)) * (SG iE 3 gv [64] * (own g * tt))))) h',
    ⟨_, 0, .slice none 0 0, [], Hp.emp, rfl, rfl, by omega, ⟨rfl, by simp, by simp⟩, hh3⟩, ?_⟩
  clear hh3 hh2 hh1 hh
  rintro m v10 h4 ⟨i, ov, L, G, hzs, rfl, hi, hCI, hh4⟩ _
  obtain rfl : v10 = .int .i64 i := by simpa using hzs
  by_cases hil : i < k
  · repeat (with_reducible first | refine vP_so ?_ | refine vB_t ?_ | refine vB_f ?_ | refine vE_tt ?_ | refine vE_ff ?_ | refine vE_tf ?_ | refine vE_ft ?_ | refine vE_u ?_ | refine vP_to (by simp (disch := omega) only [gdW_true, gdW_false, gB_true, gB_false, gB_undef, pickV_true, pickV_false, Bool.not_true, Bool.not_false, Option.map_some, bin_add, bin_sub, bin_mul, bin_quo, bin_rem, lss_t, lss_f, leq_t, leq_f, gtr_t, gtr_f, geq_t, geq_f, eqi_t, eqi_f, nei_t, nei_f, rem_uw, conv_ui, conv_iu, conv_ii, not_bool, nil_ptr, fa_mk, ptrV, len_mk, cap_mk, eq_ptr_nil, ne_ptr_nil, eq_nil_nil, ne_nil_nil, eq_slice_nil, eq_nil_slice, ia_1, eb]; exact so_so) ?_)
    rw [eb]
    refine vA_new (f := fun r => .slice (some ⟨r, 0, none⟩) 1 1) hh4 fun r40 h5 hh5 => ?_
    have hh5 : (SG iE 3 (.slice (some ⟨r40, 0, none⟩) 1 1) [0] * (SG obE 30 ov (L.map (·.1)) * (own G * (pt r9 (.cells (chW gv [64] ov L).cells 26 (0, 0)) * (SG iE 3 gv [64] * (own g * tt)))))) h5 := SG_intro iE (pre := []) (post := []) (l := [0]) rfl rfl (by simp) (by omega) (by simp) hh5
    refine vP_to (x := .agg #[.int .i64 (64 + (i : Int)), .slice (some ⟨r40, 0, none⟩) 1 1, .bool false]) rfl ?_
    refine vA_new (f := ptrV) hh5 fun r11 h6 hh6 => ?_
    refine stN_mk (cs := #[.int .i64 (64 + (i : Int)), .slice (some ⟨r40, 0, none⟩) 1 1, .bool false]) hh6 rfl rfl (by simp) fun h7 hh7 => ?_
    have hh7 := pt_cst (c' := #[.int .i64 (64 + (i : Int)), .slice (some ⟨r40, 0, none⟩) 1 1, .bool false]) rfl hh7
    obtain ⟨s, hs⟩ : ∃ s : SlV, s = (some ⟨r40, 0, none⟩, 1, 1) := ⟨_, rfl⟩
    have hss : Value.slice (some ⟨r40, 0, none⟩) 1 1 = slv s := by rw [hs]; rfl
    rw [hss] at hh7
    intro J2 hJ2
    have hK : ∀ (h' : Hp), (pt r11 (.cells #[.int .i64 (64 + (i : Int)), slv s, .bool false] 30 (0, 0)) * (SG iE 3 (slv s) [nxt k c i] * (SG obE 30 ov (L.map (·.1)) * (own G * (pt r9 (.cells (chW gv [64] ov L).cells 26 (0, 0)) * (SG iE 3 gv [64] * (own g * tt))))))) h' → J2 [] h' := fun h' q => by
      refine hJ2 _ fun _ => ?_
      have l9 := (vw_ld (r := r9) (w := chW gv [64] ov L) (E := 26) (asr (by ac_rfl) q : (pt r9 (.cells (chW gv [64] ov L).cells 26 (0, 0)) * (pt r11 (.cells #[.int .i64 (64 + (i : Int)), slv s, .bool false] 30 (0, 0)) * (SG iE 3 (slv s) [nxt k c i] * (SG obE 30 ov (L.map (·.1)) * (own G * (SG iE 3 gv [64] * (own g * tt))))))) h')).2.2.2.2.2.1
      have l9 : ld1 (.pointer (some ⟨r9, 0 + 5, none⟩)) h' = some ov := l9
      have l11 : ldN 3 (.pointer (some ⟨r11, 0, none⟩)) h' = some (.agg #[.int .i64 (64 + (i : Int)), slv s, .bool false]) := by rw [ldN_mk (pt_get q) (by simp)]; rfl
      have bO : bldV #[(Value.int .i64 0), (Value.slice none 0 0), (Value.bool false)] [(0, 3, .agg #[.int .i64 (64 + (i : Int)), slv s, .bool false])] = some #[.int .i64 (64 + (i : Int)), slv s, .bool false] := rfl
      repeat (with_reducible first | refine vP_so ?_ | refine vB_t ?_ | refine vB_f ?_ | refine vE_tt ?_ | refine vE_ff ?_ | refine vE_tf ?_ | refine vE_ft ?_ | refine vE_u ?_ | refine vP_to (by simp (disch := omega) only [gdW_true, gdW_false, gB_true, gB_false, gB_undef, pickV_true, pickV_false, Bool.not_true, Bool.not_false, Option.map_some, bin_add, bin_sub, bin_mul, bin_quo, bin_rem, lss_t, lss_f, leq_t, leq_f, gtr_t, gtr_f, geq_t, geq_f, eqi_t, eqi_f, nei_t, nei_f, rem_uw, conv_ui, conv_iu, conv_ii, not_bool, nil_ptr, fa_mk, ptrV, len_mk, cap_mk, eq_ptr_nil, ne_ptr_nil, eq_nil_nil, ne_nil_nil, eq_slice_nil, eq_nil_slice, ia_1, l9, l11]; exact so_so) ?_)
      rw [bO]
      refine vA_new (f := fun r => .slice (some ⟨r, 0, none⟩) 1 1) q fun r60 h9 hh9 => ?_
      refine ap_new obE (l := L.map (·.1)) (m := [(64 + (i : Int), s, false)]) (F := pt r11 (.cells #[.int .i64 (64 + (i : Int)), slv s, .bool false] 30 (0, 0)) * (SG iE 3 (slv s) [nxt k c i] * (own G * (pt r9 (.cells (chW gv [64] ov L).cells 26 (0, 0)) * (SG iE 3 gv [64] * own g))))) elObj rfl rfl niObjs rfl (by omega) (asr (by ac_rfl) hh9) rfl rfl (by rw [List.length_map, hCI.len]; simp only [List.length_singleton]; omega) fun v61 h10 hh10 => ?_
      have o61 := SG_one obE hh10
      repeat (with_reducible first | refine vP_so ?_ | refine vB_t ?_ | refine vB_f ?_ | refine vE_tt ?_ | refine vE_ff ?_ | refine vE_tf ?_ | refine vE_ft ?_ | refine vE_u ?_ | refine vP_to (by simp (disch := omega) only [gdW_true, gdW_false, gB_true, gB_false, gB_undef, pickV_true, pickV_false, Bool.not_true, Bool.not_false, Option.map_some, bin_add, bin_sub, bin_mul, bin_quo, bin_rem, lss_t, lss_f, leq_t, leq_f, gtr_t, gtr_f, geq_t, geq_f, eqi_t, eqi_f, nei_t, nei_f, rem_uw, conv_ui, conv_iu, conv_ii, not_bool, nil_ptr, fa_mk, ptrV, len_mk, cap_mk, eq_ptr_nil, ne_ptr_nil, eq_nil_nil, ne_nil_nil, eq_slice_nil, eq_nil_slice, ia_1]; exact so_so) ?_)
      refine st1_mk (asr (by ac_rfl) hh10 : (pt r9 (.cells (chW gv [64] ov L).cells 26 (0, 0)) * (SG obE 30 v61 (L.map (·.1) ++ [(64 + (i : Int), s, false)]) * (SG iE 3 (slv s) [nxt k c i] * (own G * (pt r11 (.cells #[.int .i64 (64 + (i : Int)), slv s, .bool false] 30 (0, 0)) * (SG iE 3 gv [64] * (own g * tt))))))) h10) o61 (by simp [VW.cells]) fun h11 hh11 => ?_
      have hh11 := pt_cst (c' := (chW gv [64] v61 (L ++ [((64 + (i : Int), s, false), [nxt k c i])])).cells) rfl hh11
      repeat (with_reducible first | refine vP_so ?_ | refine vB_t ?_ | refine vB_f ?_ | refine vE_tt ?_ | refine vE_ff ?_ | refine vE_tf ?_ | refine vE_ft ?_ | refine vE_u ?_ | refine vP_to (by simp (disch := omega) only [gdW_true, gdW_false, gB_true, gB_false, gB_undef, pickV_true, pickV_false, Bool.not_true, Bool.not_false, Option.map_some, bin_add, bin_sub, bin_mul, bin_quo, bin_rem, lss_t, lss_f, leq_t, leq_f, gtr_t, gtr_f, geq_t, geq_f, eqi_t, eqi_f, nei_t, nei_f, rem_uw, conv_ui, conv_iu, conv_ii, not_bool, nil_ptr, fa_mk, ptrV, len_mk, cap_mk, eq_ptr_nil, ne_ptr_nil, eq_nil_nil, ne_nil_nil, eq_slice_nil, eq_nil_slice, ia_1]; exact so_so) ?_)
      obtain ⟨g1, hg1, hh11⟩ := own_pick (A := SG iE 3 (slv s) [nxt k c i]) (F := own G * (SG obE 30 v61 (L.map (·.1) ++ [(64 + (i : Int), s, false)]) * (pt r9 (.cells (chW gv [64] v61 (L ++ [((64 + (i : Int), s, false), [nxt k c i])])).cells 26 (0, 0)) * (pt r11 (.cells #[.int .i64 (64 + (i : Int)), slv s, .bool false] 30 (0, 0)) * (SG iE 3 gv [64] * (own g * tt)))))) (asr (by ac_rfl) hh11)
      obtain ⟨G', hh11, t1, t2⟩ := own_two (asr (by ac_rfl) hh11 : (own G * (own g1 * (SG obE 30 v61 (L.map (·.1) ++ [(64 + (i : Int), s, false)]) * (pt r9 (.cells (chW gv [64] v61 (L ++ [((64 + (i : Int), s, false), [nxt k c i])])).cells 26 (0, 0)) * (pt r11 (.cells #[.int .i64 (64 + (i : Int)), slv s, .bool false] 30 (0, 0)) * (SG iE 3 gv [64] * (own g * tt))))))) h11)
      refine ⟨k - (i + 1), by omega, i + 1, v61, L ++ [((64 + (i : Int), s, false), [nxt k c i])], G', by simp, rfl, by omega, ⟨by simp [hCI.len], fun j p hp => ?_, fun p hp => ?_⟩, ?_⟩
      · by_cases hj : j < L.length
        · rw [List.getElem?_append_left hj] at hp
          exact hCI.row j p hp
        · have hjl := (List.getElem?_eq_some_iff.1 hp).1
          have hj : j = L.length := by simp at hjl; omega
          subst hj
          rw [List.getElem?_append_right (Nat.le_refl _), Nat.sub_self] at hp
          cases hp
          rw [hCI.len]
          exact ⟨rfl, rfl, rfl⟩
      · rcases List.mem_append.1 hp with hp | hp
        · exact t1 (hCI.ints p hp)
        · obtain rfl := List.mem_singleton.1 hp
          exact t2 (SG_ints (star_emp hg1))
      · rw [List.map_append]
        exact dropL (P := pt r11 (.cells #[.int .i64 (64 + (i : Int)), slv s, .bool false] 30 (0, 0))) (Q := SG obE 30 v61 (L.map (·.1) ++ [(64 + (i : Int), s, false)]) * (own G' * (pt r9 (.cells (chW gv [64] v61 (L ++ [((64 + (i : Int), s, false), [nxt k c i])])).cells 26 (0, 0)) * (SG iE 3 gv [64] * own g)))) (asr (by ac_rfl) hh11) |> asr (by ac_rfl)
    have l11 : ld1 (.pointer (some ⟨r11, 0 + 1, none⟩)) h7 = some (slv s) := ld1_mk (pt_get hh7) rfl
    have hS : (SG iE 3 (slv s) [0] * (pt r11 (.cells #[.int .i64 (64 + (i : Int)), slv s, .bool false] 30 (0, 0)) * (SG obE 30 ov (L.map (·.1)) * (own G * (pt r9 (.cells (chW gv [64] ov L).cells 26 (0, 0)) * (SG iE 3 gv [64] * (own g * tt))))))) h7 := asr (by ac_rfl) hh7
    obtain ⟨p0, f1, _, f3⟩ := el1 hS (i := 0) (a := 0) rfl .i64
    have f1 : iaS 1 (slv s) (.int .i64 0) = some p0 := f1
    by_cases h1 : i + 1 < k
    · by_cases h2 : i + 1 = c
      · have e : nxt k c i = 0 := by unfold nxt; rw [if_neg (fun q => q.2 h2)]
        rw [e] at hK
        repeat (with_reducible first | refine vP_so ?_ | refine vB_t ?_ | refine vB_f ?_ | refine vE_tt ?_ | refine vE_ff ?_ | refine vE_tf ?_ | refine vE_ft ?_ | refine vE_u ?_ | refine vP_to (by simp (disch := omega) only [gdW_true, gdW_false, gB_true, gB_false, gB_undef, pickV_true, pickV_false, Bool.not_true, Bool.not_false, Option.map_some, bin_add, bin_sub, bin_mul, bin_quo, bin_rem, lss_t, lss_f, leq_t, leq_f, gtr_t, gtr_f, geq_t, geq_f, eqi_t, eqi_f, nei_t, nei_f, rem_uw, conv_ui, conv_iu, conv_ii, not_bool, nil_ptr, fa_mk, ptrV, len_mk, cap_mk, eq_ptr_nil, ne_ptr_nil, eq_nil_nil, ne_nil_nil, eq_slice_nil, eq_nil_slice, ia_1, l11]; exact so_so) ?_)
        exact hK h7 (asr (by ac_rfl) hS)
      · have e : nxt k c i = 65 + (i : Int) := by unfold nxt; rw [if_pos ⟨h1, h2⟩]
        rw [e] at hK
        repeat (with_reducible first | refine vP_so ?_ | refine vB_t ?_ | refine vB_f ?_ | refine vE_tt ?_ | refine vE_ff ?_ | refine vE_tf ?_ | refine vE_ft ?_ | refine vE_u ?_ | refine vP_to (by simp (disch := omega) only [gdW_true, gdW_false, gB_true, gB_false, gB_undef, pickV_true, pickV_false, Bool.not_true, Bool.not_false, Option.map_some, bin_add, bin_sub, bin_mul, bin_quo, bin_rem, lss_t, lss_f, leq_t, leq_f, gtr_t, gtr_f, geq_t, geq_f, eqi_t, eqi_f, nei_t, nei_f, rem_uw, conv_ui, conv_iu, conv_ii, not_bool, nil_ptr, fa_mk, ptrV, len_mk, cap_mk, eq_ptr_nil, ne_ptr_nil, eq_nil_nil, ne_nil_nil, eq_slice_nil, eq_nil_slice, ia_1, l11, f1]; exact so_so) ?_)
        refine f3 (65 + (i : Int)) _ fun h12 hh12 => ?_
        exact hK h12 (asr (by ac_rfl) hh12)
    · have e : nxt k c i = 0 := by unfold nxt; rw [if_neg (fun q => h1 q.1)]
      rw [e] at hK
      repeat (with_reducible first | refine vP_so ?_ | refine vB_t ?_ | refine vB_f ?_ | refine vE_tt ?_ | refine vE_ff ?_ | refine vE_tf ?_ | refine vE_ft ?_ | refine vE_u ?_ | refine vP_to (by simp (disch := omega) only [gdW_true, gdW_false, gB_true, gB_false, gB_undef, pickV_true, pickV_false, Bool.not_true, Bool.not_false, Option.map_some, bin_add, bin_sub, bin_mul, bin_quo, bin_rem, lss_t, lss_f, leq_t, leq_f, gtr_t, gtr_f, geq_t, geq_f, eqi_t, eqi_f, nei_t, nei_f, rem_uw, conv_ui, conv_iu, conv_ii, not_bool, nil_ptr, fa_mk, ptrV, len_mk, cap_mk, eq_ptr_nil, ne_ptr_nil, eq_nil_nil, ne_nil_nil, eq_slice_nil, eq_nil_slice, ia_1, l11]; exact so_so) ?_)
      exact hK h7 (asr (by ac_rfl) hS)
  · obtain rfl : i = k := by omega
    repeat (with_reducible first | refine vP_so ?_ | refine vB_t ?_ | refine vB_f ?_ | refine vE_tt ?_ | refine vE_ff ?_ | refine vE_tf ?_ | refine vE_ft ?_ | refine vE_u ?_ | refine vP_to (by simp (disch := omega) only [gdW_true, gdW_false, gB_true, gB_false, gB_undef, pickV_true, pickV_false, Bool.not_true, Bool.not_false, Option.map_some, bin_add, bin_sub, bin_mul, bin_quo, bin_rem, lss_t, lss_f, leq_t, leq_f, gtr_t, gtr_f, geq_t, geq_f, eqi_t, eqi_f, nei_t, nei_f, rem_uw, conv_ui, conv_iu, conv_ii, not_bool, nil_ptr, fa_mk, ptrV, len_mk, cap_mk, eq_ptr_nil, ne_ptr_nil, eq_nil_nil, ne_nil_nil, eq_slice_nil, eq_nil_slice, ia_1]; exact so_so) ?_)
    intro J3 hJ3
    obtain ⟨e, he⟩ : ∃ e : Nat, e = min c i := ⟨_, rfl⟩
    have hmin : min2V (.int .i64 (c : Int)) (.int .i64 (i : Int)) = some (.int .i64 (e : Int)) := by
      show some (Value.int .i64 (if (i : Int) < (c : Int) then (i : Int) else (c : Int))) = _
      congr 2
      split <;> omega
    have hK3 : ∀ (gv : Value) (gl : List Int) (h' : Hp), gl = (if b then [64, 64 + (i : Int) - 1] else [64]) → (SG iE 3 gv gl * (SG obE 30 ov (L.map (·.1)) * (own G * (pt r9 (.cells (chW gv gl ov L).cells 26 (0, 0)) * (own g * tt))))) h' → J3 [] h' := fun gv gl h' hgl q => by
      refine hJ3 _ fun _ => ?_
      obtain ⟨w, hw⟩ : ∃ w, w = chW gv gl ov L := ⟨_, rfl⟩
      have hC : ChainW w i c b := by rw [hw, hgl]; exact hCI.chain hk2.1 hc2.1
      rw [← hw] at q
      obtain ⟨g2, hg2, q⟩ := own_pick (A := SG iE 3 gv gl * (SG obE 30 ov (L.map (·.1)) * (own G * (pt r9 (.cells w.cells 26 (0, 0)) * own g)))) (F := emp * tt) (asr (by rw [emp_star]; ac_rfl) q)
      have a1 : (SG obE 30 ov (L.map (·.1)) * (SG iE 3 gv gl * (own G * (pt r9 (.cells w.cells 26 (0, 0)) * own g)))) g2 := asr (by ac_rfl) hg2
      have a2 : (own G * (SG obE 30 ov (L.map (·.1)) * (SG iE 3 gv gl * (pt r9 (.cells w.cells 26 (0, 0)) * own g)))) g2 := asr (by ac_rfl) hg2
      have a3 : (pt r9 (.cells w.cells 26 (0, 0)) * (own G * (SG obE 30 ov (L.map (·.1)) * (SG iE 3 gv gl * own g)))) g2 := asr (by ac_rfl) hg2
      have hv2 : VAt g2 w := by
        rw [hw]
        refine ⟨SG_ints hg2, rows_nil _, ?_, fun o ho => ?_, by simp [chW]⟩
        · have := SG_rows obE a1
          rw [rows_ob] at this
          exact this
        · obtain ⟨p, hp, rfl⟩ := List.mem_map.1 ho
          exact own_ints a2 (hCI.ints p hp)
      have hgl2 : gl.length ≤ 2 := by rw [hgl]; cases b <;> simp
      have hs2 : Small w := by
        refine FewP.small ⟨fun o ho => ?_, by rw [hw]; simp [chW], by rw [hC.len]; omega, by rw [hw]; simp [chW], by rw [hw]; show gl.length ≤ 40; omega⟩ fun o ho => ?_
        · obtain ⟨j, hj, ej⟩ := List.getElem_of_mem ho
          rw [(hC.ob j o (by rw [List.getElem?_eq_getElem hj, ej])).2.1]
          simp
        · obtain ⟨j, hj, ej⟩ := List.getElem_of_mem ho
          rw [(hC.ob j o (by rw [List.getElem?_eq_getElem hj, ej])).1]
          have := hC.len
          omega
      have hN2 := hs2.all
      have l9 := (vw_ld (r := r9) (w := w) (E := 26) a3).2.2.2.2.2.2.2.2.2
      have fin : ∀ h', (own g2 * (emp * tt)) h' → ((pr (Value.bool true = Value.bool true) * own g) * tt) h' := fun h' q => by
        have q := own_back hg2 q
        exact ret rfl (dropL (P := SG iE 3 gv gl * (SG obE 30 ov (L.map (·.1)) * (own G * pt r9 (.cells w.cells 26 (0, 0))))) (Q := own g) (asr (by rw [emp_star]; ac_rfl) q))
      clear a1 a2 a3 hg2 hw
      repeat (with_reducible first | refine vP_so ?_ | refine vB_t ?_ | refine vB_f ?_ | refine vE_tt ?_ | refine vE_ff ?_ | refine vE_tf ?_ | refine vE_ft ?_ | refine vE_u ?_ | refine vP_to (by simp (disch := omega) only [gdW_true, gdW_false, gB_true, gB_false, gB_undef, pickV_true, pickV_false, Bool.not_true, Bool.not_false, Option.map_some, bin_add, bin_sub, bin_mul, bin_quo, bin_rem, lss_t, lss_f, leq_t, leq_f, gtr_t, gtr_f, geq_t, geq_f, eqi_t, eqi_f, nei_t, nei_f, rem_uw, conv_ui, conv_iu, conv_ii, not_bool, nil_ptr, fa_mk, ptrV, len_mk, cap_mk, eq_ptr_nil, ne_ptr_nil, eq_nil_nil, ne_nil_nil, eq_slice_nil, eq_nil_slice, ia_1, hmin, own_ldN q l9]; exact so_so) ?_)
      refine use_reach hv2 hN2 q fun v76 R h14 hR nR hh14 => ?_
      have hRe : R = chainR i c b := Rise_ext hR.1 chainR_rise fun x => by
        rw [hR.2, hC.rch]
        refine ⟨fun q => q.1, fun q => ⟨q, ?_⟩⟩
        obtain ⟨j, hj, rfl⟩ := hC.atR q
        rw [hC.at hj]; rfl
      have hRl : (R.length : Int) = (e : Int) + (if b = true ∧ e < i then 1 else 0) := by rw [hRe, chainR_len, he]
      have len76 := SG_len iE hh14
      have hh14 : (own g2 * (emp * tt)) h14 := dropL (P := SG iE 3 v76 R) (Q := own g2) (asr (by rw [emp_star]) hh14) |> asr (by rw [emp_star])
      intro J4 hJ4
      have hK4 : J4 [.int .i64 (R.length : Int)] h14 := by
        refine hJ4 _ _ fun _ => ?_
        repeat (with_reducible first | refine vP_so ?_ | refine vB_t ?_ | refine vB_f ?_ | refine vE_tt ?_ | refine vE_ff ?_ | refine vE_tf ?_ | refine vE_ft ?_ | refine vE_u ?_ | refine vP_to (by simp (disch := omega) only [gdW_true, gdW_false, gB_true, gB_false, gB_undef, pickV_true, pickV_false, Bool.not_true, Bool.not_false, Option.map_some, bin_add, bin_sub, bin_mul, bin_quo, bin_rem, lss_t, lss_f, leq_t, leq_f, gtr_t, gtr_f, geq_t, geq_f, eqi_t, eqi_f, nei_t, nei_f, rem_uw, conv_ui, conv_iu, conv_ii, not_bool, nil_ptr, fa_mk, ptrV, len_mk, cap_mk, eq_ptr_nil, ne_ptr_nil, eq_nil_nil, ne_nil_nil, eq_slice_nil, eq_nil_slice, ia_1, len76]; exact so_so) ?_)
        refine ⟨fun m zs h' => ∃ j : Nat, zs = [.int .i64 j] ∧ m = i - j ∧ j ≤ i ∧ (own g2 * (emp * tt)) h', ⟨_, 0, rfl, rfl, by omega, hh14⟩, ?_⟩
        rintro m v15 h16 ⟨j, hzs, rfl, hj, hh16⟩ _
        obtain rfl : v15 = .int .i64 j := by simpa using hzs
        by_cases hjl : j < i
        · repeat (with_reducible first | refine vP_so ?_ | refine vB_t ?_ | refine vB_f ?_ | refine vE_tt ?_ | refine vE_ff ?_ | refine vE_tf ?_ | refine vE_ft ?_ | refine vE_u ?_ | refine vP_to (by simp (disch := omega) only [gdW_true, gdW_false, gB_true, gB_false, gB_undef, pickV_true, pickV_false, Bool.not_true, Bool.not_false, Option.map_some, bin_add, bin_sub, bin_mul, bin_quo, bin_rem, lss_t, lss_f, leq_t, leq_f, gtr_t, gtr_f, geq_t, geq_f, eqi_t, eqi_f, nei_t, nei_f, rem_uw, conv_ui, conv_iu, conv_ii, not_bool, nil_ptr, fa_mk, ptrV, len_mk, cap_mk, eq_ptr_nil, ne_ptr_nil, eq_nil_nil, ne_nil_nil, eq_slice_nil, eq_nil_slice, ia_1, own_ldN hh16 l9]; exact so_so) ?_)
          refine use_path hv2 hN2 hh16 fun v98 l h17 hP nl hh17 => ?_
          obtain ⟨hl1, hl2⟩ := hC.path hjl hP
          have len98 := SG_len iE hh17
          have hi17 : IntsAt h17 v98 l := SG_ints hh17
          have nxt5 : ∃ m', m' < i - j ∧ ∃ j' : Nat, [Value.int .i64 ((j : Int) + 1)] = [.int .i64 j'] ∧ m' = i - j' ∧ j' ≤ i ∧ (own g2 * (emp * tt)) h17 :=
            ⟨i - (j + 1), by omega, j + 1, by simp, rfl, by omega, dropL (P := SG iE 3 v98 l) (Q := own g2) (asr (by rw [emp_star]) hh17) |> asr (by rw [emp_star])⟩
          intro J6 hJ6
          have hK6 : J6 [.int .i64 (if j < e then (j : Int) + 1 else 0)] h17 := by
            refine hJ6 _ _ fun _ => ?_
            intro J7 hJ7
            have hK7 : J7 [.int .i64 (l.length : Int)] h17 := by
              refine hJ7 _ _ fun _ => ?_
              by_cases h0 : l.length = 0
              · repeat (with_reducible first | refine vP_so ?_ | refine vB_t ?_ | refine vB_f ?_ | refine vE_tt ?_ | refine vE_ff ?_ | refine vE_tf ?_ | refine vE_ft ?_ | refine vE_u ?_ | refine vP_to (by simp (disch := omega) only [gdW_true, gdW_false, gB_true, gB_false, gB_undef, pickV_true, pickV_false, Bool.not_true, Bool.not_false, Option.map_some, bin_add, bin_sub, bin_mul, bin_quo, bin_rem, lss_t, lss_f, leq_t, leq_f, gtr_t, gtr_f, geq_t, geq_f, eqi_t, eqi_f, nei_t, nei_f, rem_uw, conv_ui, conv_iu, conv_ii, not_bool, nil_ptr, fa_mk, ptrV, len_mk, cap_mk, eq_ptr_nil, ne_ptr_nil, eq_nil_nil, ne_nil_nil, eq_slice_nil, eq_nil_slice, ia_1, len98]; exact so_so) ?_)
                exact nxt5
              · obtain ⟨pa, a1, a2⟩ := hi17.get (l.length - 1) _ .i64 (hl2 (by omega))
                rw [show (((l.length - 1 : Nat)) : Int) = (l.length : Int) - 1 by omega] at a1
                repeat (with_reducible first | refine vP_so ?_ | refine vB_t ?_ | refine vB_f ?_ | refine vE_tt ?_ | refine vE_ff ?_ | refine vE_tf ?_ | refine vE_ft ?_ | refine vE_u ?_ | refine vP_to (by simp (disch := omega) only [gdW_true, gdW_false, gB_true, gB_false, gB_undef, pickV_true, pickV_false, Bool.not_true, Bool.not_false, Option.map_some, bin_add, bin_sub, bin_mul, bin_quo, bin_rem, lss_t, lss_f, leq_t, leq_f, gtr_t, gtr_f, geq_t, geq_f, eqi_t, eqi_f, nei_t, nei_f, rem_uw, conv_ui, conv_iu, conv_ii, not_bool, nil_ptr, fa_mk, ptrV, len_mk, cap_mk, eq_ptr_nil, ne_ptr_nil, eq_nil_nil, ne_nil_nil, eq_slice_nil, eq_nil_slice, ia_1, len98, a1, a2]; exact so_so) ?_)
                exact nxt5
            unfold chainL at hl1
            rw [← he] at hl1
            cases b with
            | false =>
              have e1 : (l.length : Int) = if j < e then (j : Int) + 1 else 0 := by
                rw [hl1]; simp; split <;> simp
              rw [e1] at hK7
              repeat (with_reducible first | refine vP_so ?_ | refine vB_t ?_ | refine vB_f ?_ | refine vE_tt ?_ | refine vE_ff ?_ | refine vE_tf ?_ | refine vE_ft ?_ | refine vE_u ?_ | refine vP_to (by simp (disch := omega) only [gdW_true, gdW_false, gB_true, gB_false, gB_undef, pickV_true, pickV_false, Bool.not_true, Bool.not_false, Option.map_some, bin_add, bin_sub, bin_mul, bin_quo, bin_rem, lss_t, lss_f, leq_t, leq_f, gtr_t, gtr_f, geq_t, geq_f, eqi_t, eqi_f, nei_t, nei_f, rem_uw, conv_ui, conv_iu, conv_ii, not_bool, nil_ptr, fa_mk, ptrV, len_mk, cap_mk, eq_ptr_nil, ne_ptr_nil, eq_nil_nil, ne_nil_nil, eq_slice_nil, eq_nil_slice, ia_1]; exact so_so) ?_)
              exact hK7
            | true =>
              by_cases hje : j + 1 = i
              · have e1 : (l.length : Int) = 1 := by rw [hl1]; simp [hje]
                rw [e1] at hK7
                repeat (with_reducible first | refine vP_so ?_ | refine vB_t ?_ | refine vB_f ?_ | refine vE_tt ?_ | refine vE_ff ?_ | refine vE_tf ?_ | refine vE_ft ?_ | refine vE_u ?_ | refine vP_to (by simp (disch := omega) only [gdW_true, gdW_false, gB_true, gB_false, gB_undef, pickV_true, pickV_false, Bool.not_true, Bool.not_false, Option.map_some, bin_add, bin_sub, bin_mul, bin_quo, bin_rem, lss_t, lss_f, leq_t, leq_f, gtr_t, gtr_f, geq_t, geq_f, eqi_t, eqi_f, nei_t, nei_f, rem_uw, conv_ui, conv_iu, conv_ii, not_bool, nil_ptr, fa_mk, ptrV, len_mk, cap_mk, eq_ptr_nil, ne_ptr_nil, eq_nil_nil, ne_nil_nil, eq_slice_nil, eq_nil_slice, ia_1]; exact so_so) ?_)
                exact hK7
              · have e1 : (l.length : Int) = if j < e then (j : Int) + 1 else 0 := by
                  rw [hl1]; simp [hje]; split <;> simp
                rw [e1] at hK7
                repeat (with_reducible first | refine vP_so ?_ | refine vB_t ?_ | refine vB_f ?_ | refine vE_tt ?_ | refine vE_ff ?_ | refine vE_tf ?_ | refine vE_ft ?_ | refine vE_u ?_ | refine vP_to (by simp (disch := omega) only [gdW_true, gdW_false, gB_true, gB_false, gB_undef, pickV_true, pickV_false, Bool.not_true, Bool.not_false, Option.map_some, bin_add, bin_sub, bin_mul, bin_quo, bin_rem, lss_t, lss_f, leq_t, leq_f, gtr_t, gtr_f, geq_t, geq_f, eqi_t, eqi_f, nei_t, nei_f, rem_uw, conv_ui, conv_iu, conv_ii, not_bool, nil_ptr, fa_mk, ptrV, len_mk, cap_mk, eq_ptr_nil, ne_ptr_nil, eq_nil_nil, ne_nil_nil, eq_slice_nil, eq_nil_slice, ia_1]; exact so_so) ?_)
                exact hK7
          by_cases hjn : j < e
          · rw [if_pos hjn] at hK6
            repeat (with_reducible first | refine vP_so ?_ | refine vB_t ?_ | refine vB_f ?_ | refine vE_tt ?_ | refine vE_ff ?_ | refine vE_tf ?_ | refine vE_ft ?_ | refine vE_u ?_ | refine vP_to (by simp (disch := omega) only [gdW_true, gdW_false, gB_true, gB_false, gB_undef, pickV_true, pickV_false, Bool.not_true, Bool.not_false, Option.map_some, bin_add, bin_sub, bin_mul, bin_quo, bin_rem, lss_t, lss_f, leq_t, leq_f, gtr_t, gtr_f, geq_t, geq_f, eqi_t, eqi_f, nei_t, nei_f, rem_uw, conv_ui, conv_iu, conv_ii, not_bool, nil_ptr, fa_mk, ptrV, len_mk, cap_mk, eq_ptr_nil, ne_ptr_nil, eq_nil_nil, ne_nil_nil, eq_slice_nil, eq_nil_slice, ia_1]; exact so_so) ?_)
            exact hK6
          · rw [if_neg hjn] at hK6
            repeat (with_reducible first | refine vP_so ?_ | refine vB_t ?_ | refine vB_f ?_ | refine vE_tt ?_ | refine vE_ff ?_ | refine vE_tf ?_ | refine vE_ft ?_ | refine vE_u ?_ | refine vP_to (by simp (disch := omega) only [gdW_true, gdW_false, gB_true, gB_false, gB_undef, pickV_true, pickV_false, Bool.not_true, Bool.not_false, Option.map_some, bin_add, bin_sub, bin_mul, bin_quo, bin_rem, lss_t, lss_f, leq_t, leq_f, gtr_t, gtr_f, geq_t, geq_f, eqi_t, eqi_f, nei_t, nei_f, rem_uw, conv_ui, conv_iu, conv_ii, not_bool, nil_ptr, fa_mk, ptrV, len_mk, cap_mk, eq_ptr_nil, ne_ptr_nil, eq_nil_nil, ne_nil_nil, eq_slice_nil, eq_nil_slice, ia_1]; exact so_so) ?_)
            exact hK6
        obtain rfl : j = i := by omega
        repeat (with_reducible first | refine vP_so ?_ | refine vB_t ?_ | refine vB_f ?_ | refine vE_tt ?_ | refine vE_ff ?_ | refine vE_tf ?_ | refine vE_ft ?_ | refine vE_u ?_ | refine vP_to (by simp (disch := omega) only [gdW_true, gdW_false, gB_true, gB_false, gB_undef, pickV_true, pickV_false, Bool.not_true, Bool.not_false, Option.map_some, bin_add, bin_sub, bin_mul, bin_quo, bin_rem, lss_t, lss_f, leq_t, leq_f, gtr_t, gtr_f, geq_t, geq_f, eqi_t, eqi_f, nei_t, nei_f, rem_uw, conv_ui, conv_iu, conv_ii, not_bool, nil_ptr, fa_mk, ptrV, len_mk, cap_mk, eq_ptr_nil, ne_ptr_nil, eq_nil_nil, ne_nil_nil, eq_slice_nil, eq_nil_slice, ia_1]; exact so_so) ?_)
        refine use_told29 (F := own g2) (asr (by rw [emp_star]) hh16) fun h20 hh20 => ?_
        have hh20 : (own g2 * (emp * tt)) h20 := asr (by rw [emp_star]) hh20
        repeat (with_reducible first | refine vP_so ?_ | refine vB_t ?_ | refine vB_f ?_ | refine vE_tt ?_ | refine vE_ff ?_ | refine vE_tf ?_ | refine vE_ft ?_ | refine vE_u ?_ | refine vP_to (by simp (disch := omega) only [gdW_true, gdW_false, gB_true, gB_false, gB_undef, pickV_true, pickV_false, Bool.not_true, Bool.not_false, Option.map_some, bin_add, bin_sub, bin_mul, bin_quo, bin_rem, lss_t, lss_f, leq_t, leq_f, gtr_t, gtr_f, geq_t, geq_f, eqi_t, eqi_f, nei_t, nei_f, rem_uw, conv_ui, conv_iu, conv_ii, not_bool, nil_ptr, fa_mk, ptrV, len_mk, cap_mk, eq_ptr_nil, ne_ptr_nil, eq_nil_nil, ne_nil_nil, eq_slice_nil, eq_nil_slice, ia_1, own_ldN hh20 l9]; exact so_so) ?_)
        refine use_white (F := emp) hv2 hN2 hh20 fun v132 wl h21 hwl _ hh21 => ?_
        have hwe : wl = chainR j c b := Rise_ext hwl.1 chainR_rise fun x => by
          rw [hwl.2, hC.rch]
          refine ⟨fun q => q.1, fun q => ⟨q, ?_⟩⟩
          obtain ⟨i', hj', rfl⟩ := hC.atR q
          have ho : w.objs[i']? = some (w.objs[i']'(by rw [hC.len]; exact hj')) := List.getElem?_eq_getElem _
          exact ⟨i', _, hC.at hj', ho, (hC.ob i' _ ho).2.2⟩
        have len21 := SG_len iE hh21
        rw [hwe, ← hRe] at len21
        have hh21 : (own g2 * (emp * tt)) h21 := dropL (P := SG iE 3 v132 wl) (Q := own g2) (asr (by rw [emp_star]) hh21) |> asr (by rw [emp_star])
        have hsum : sumO w.objs = (j : Int) := by
          have : ∀ l : List Ob, (∀ o ∈ l, szO o = 1) → sumO l = (l.length : Int) := fun l => by
            induction l with
            | nil => intro _; rfl
            | cons o l ih =>
              intro hq
              simp only [sumO, List.length_cons]
              rw [hq o (by simp), ih fun o' ho' => hq o' (by simp [ho'])]
              omega
          rw [this w.objs fun o ho => ?_, hC.len]
          obtain ⟨q1, hq1, ej⟩ := List.getElem_of_mem ho
          show szS (ofS (o.slots.length : Int)) = 1
          rw [(hC.ob q1 o (by rw [List.getElem?_eq_getElem hq1, ej])).2.1]
          rfl
        repeat (with_reducible first | refine vP_so ?_ | refine vB_t ?_ | refine vB_f ?_ | refine vE_tt ?_ | refine vE_ff ?_ | refine vE_tf ?_ | refine vE_ft ?_ | refine vE_u ?_ | refine vP_to (by simp (disch := omega) only [gdW_true, gdW_false, gB_true, gB_false, gB_undef, pickV_true, pickV_false, Bool.not_true, Bool.not_false, Option.map_some, bin_add, bin_sub, bin_mul, bin_quo, bin_rem, lss_t, lss_f, leq_t, leq_f, gtr_t, gtr_f, geq_t, geq_f, eqi_t, eqi_f, nei_t, nei_f, rem_uw, conv_ui, conv_iu, conv_ii, not_bool, nil_ptr, fa_mk, ptrV, len_mk, cap_mk, eq_ptr_nil, ne_ptr_nil, eq_nil_nil, ne_nil_nil, eq_slice_nil, eq_nil_slice, ia_1, len21, own_ldN hh21 l9]; exact so_so) ?_)
        refine use_words (F := emp) hv2 (by rw [hC.len]; omega) hh21 fun h22 hh22 => ?_
        rw [hsum]
        repeat (with_reducible first | refine vP_so ?_ | refine vB_t ?_ | refine vB_f ?_ | refine vE_tt ?_ | refine vE_ff ?_ | refine vE_tf ?_ | refine vE_ft ?_ | refine vE_u ?_ | refine vP_to (by simp (disch := omega) only [gdW_true, gdW_false, gB_true, gB_false, gB_undef, pickV_true, pickV_false, Bool.not_true, Bool.not_false, Option.map_some, bin_add, bin_sub, bin_mul, bin_quo, bin_rem, lss_t, lss_f, leq_t, leq_f, gtr_t, gtr_f, geq_t, geq_f, eqi_t, eqi_f, nei_t, nei_f, rem_uw, conv_ui, conv_iu, conv_ii, not_bool, nil_ptr, fa_mk, ptrV, len_mk, cap_mk, eq_ptr_nil, ne_ptr_nil, eq_nil_nil, ne_nil_nil, eq_slice_nil, eq_nil_slice, ia_1]; exact so_so) ?_)
        exact fin h22 hh22
      cases b with
      | false =>
        have e1 : (R.length : Int) = e := by rw [hRl]; simp
        rw [e1] at hK4
        repeat (with_reducible first | refine vP_so ?_ | refine vB_t ?_ | refine vB_f ?_ | refine vE_tt ?_ | refine vE_ff ?_ | refine vE_tf ?_ | refine vE_ft ?_ | refine vE_u ?_ | refine vP_to (by simp (disch := omega) only [gdW_true, gdW_false, gB_true, gB_false, gB_undef, pickV_true, pickV_false, Bool.not_true, Bool.not_false, Option.map_some, bin_add, bin_sub, bin_mul, bin_quo, bin_rem, lss_t, lss_f, leq_t, leq_f, gtr_t, gtr_f, geq_t, geq_f, eqi_t, eqi_f, nei_t, nei_f, rem_uw, conv_ui, conv_iu, conv_ii, not_bool, nil_ptr, fa_mk, ptrV, len_mk, cap_mk, eq_ptr_nil, ne_ptr_nil, eq_nil_nil, ne_nil_nil, eq_slice_nil, eq_nil_slice, ia_1]; exact so_so) ?_)
        exact hK4
      | true =>
        by_cases hei : e < i
        · have e1 : (R.length : Int) = (e : Int) + 1 := by rw [hRl]; simp [hei]
          rw [e1] at hK4
          repeat (with_reducible first | refine vP_so ?_ | refine vB_t ?_ | refine vB_f ?_ | refine vE_tt ?_ | refine vE_ff ?_ | refine vE_tf ?_ | refine vE_ft ?_ | refine vE_u ?_ | refine vP_to (by simp (disch := omega) only [gdW_true, gdW_false, gB_true, gB_false, gB_undef, pickV_true, pickV_false, Bool.not_true, Bool.not_false, Option.map_some, bin_add, bin_sub, bin_mul, bin_quo, bin_rem, lss_t, lss_f, leq_t, leq_f, gtr_t, gtr_f, geq_t, geq_f, eqi_t, eqi_f, nei_t, nei_f, rem_uw, conv_ui, conv_iu, conv_ii, not_bool, nil_ptr, fa_mk, ptrV, len_mk, cap_mk, eq_ptr_nil, ne_ptr_nil, eq_nil_nil, ne_nil_nil, eq_slice_nil, eq_nil_slice, ia_1]; exact so_so) ?_)
          exact hK4
        · have e1 : (R.length : Int) = e := by rw [hRl]; simp [hei]
          rw [e1] at hK4
          repeat (with_reducible first | refine vP_so ?_ | refine vB_t ?_ | refine vB_f ?_ | refine vE_tt ?_ | refine vE_ff ?_ | refine vE_tf ?_ | refine vE_ft ?_ | refine vE_u ?_ | refine vP_to (by simp (disch := omega) only [gdW_true, gdW_false, gB_true, gB_false, gB_undef, pickV_true, pickV_false, Bool.not_true, Bool.not_false, Option.map_some, bin_add, bin_sub, bin_mul, bin_quo, bin_rem, lss_t, lss_f, leq_t, leq_f, gtr_t, gtr_f, geq_t, geq_f, eqi_t, eqi_f, nei_t, nei_f, rem_uw, conv_ui, conv_iu, conv_ii, not_bool, nil_ptr, fa_mk, ptrV, len_mk, cap_mk, eq_ptr_nil, ne_ptr_nil, eq_nil_nil, ne_nil_nil, eq_slice_nil, eq_nil_slice, ia_1]; exact so_so) ?_)
          exact hK4
    cases b with
    | false =>
      repeat (with_reducible first | refine vP_so ?_ | refine vB_t ?_ | refine vB_f ?_ | refine vE_tt ?_ | refine vE_ff ?_ | refine vE_tf ?_ | refine vE_ft ?_ | refine vE_u ?_ | refine vP_to (by simp (disch := omega) only [gdW_true, gdW_false, gB_true, gB_false, gB_undef, pickV_true, pickV_false, Bool.not_true, Bool.not_false, Option.map_some, bin_add, bin_sub, bin_mul, bin_quo, bin_rem, lss_t, lss_f, leq_t, leq_f, gtr_t, gtr_f, geq_t, geq_f, eqi_t, eqi_f, nei_t, nei_f, rem_uw, conv_ui, conv_iu, conv_ii, not_bool, nil_ptr, fa_mk, ptrV, len_mk, cap_mk, eq_ptr_nil, ne_ptr_nil, eq_nil_nil, ne_nil_nil, eq_slice_nil, eq_nil_slice, ia_1]; exact so_so) ?_)
      exact hK3 gv [64] h4 rfl (asr (by ac_rfl) hh4)
    | true =>
      have l3 := (vw_ld (r := r9) (w := chW gv [64] ov L) (E := 26) (asr (by ac_rfl) hh4 : (pt r9 (.cells (chW gv [64] ov L).cells 26 (0, 0)) * (SG obE 30 ov (L.map (·.1)) * (own G * (SG iE 3 gv [64] * (own g * tt))))) h4)).2.2.2.1
      have l3 : ld1 (.pointer (some ⟨r9, 0 + 3, none⟩)) h4 = some gv := l3
      repeat (with_reducible first | refine vP_so ?_ | refine vB_t ?_ | refine vB_f ?_ | refine vE_tt ?_ | refine vE_ff ?_ | refine vE_tf ?_ | refine vE_ft ?_ | refine vE_u ?_ | refine vP_to (by simp (disch := omega) only [gdW_true, gdW_false, gB_true, gB_false, gB_undef, pickV_true, pickV_false, Bool.not_true, Bool.not_false, Option.map_some, bin_add, bin_sub, bin_mul, bin_quo, bin_rem, lss_t, lss_f, leq_t, leq_f, gtr_t, gtr_f, geq_t, geq_f, eqi_t, eqi_f, nei_t, nei_f, rem_uw, conv_ui, conv_iu, conv_ii, not_bool, nil_ptr, fa_mk, ptrV, len_mk, cap_mk, eq_ptr_nil, ne_ptr_nil, eq_nil_nil, ne_nil_nil, eq_slice_nil, eq_nil_slice, ia_1, l3, eb]; exact so_so) ?_)
      rw [eb]
      refine vA_new (f := fun r => .slice (some ⟨r, 0, none⟩) 1 1) hh4 fun r69 h23 hh23 => ?_
      refine ap_new iE (l := [64]) (m := [64 + (i : Int) - 1]) (F := SG obE 30 ov (L.map (·.1)) * (own G * (pt r9 (.cells (chW gv [64] ov L).cells 26 (0, 0)) * own g))) elInt rfl rfl niInts rfl (by omega) (asr (by ac_rfl) hh23) rfl rfl (by simp) fun v70 h24 hh24 => ?_
      have o70 := SG_one iE hh24
      repeat (with_reducible first | refine vP_so ?_ | refine vB_t ?_ | refine vB_f ?_ | refine vE_tt ?_ | refine vE_ff ?_ | refine vE_tf ?_ | refine vE_ft ?_ | refine vE_u ?_ | refine vP_to (by simp (disch := omega) only [gdW_true, gdW_false, gB_true, gB_false, gB_undef, pickV_true, pickV_false, Bool.not_true, Bool.not_false, Option.map_some, bin_add, bin_sub, bin_mul, bin_quo, bin_rem, lss_t, lss_f, leq_t, leq_f, gtr_t, gtr_f, geq_t, geq_f, eqi_t, eqi_f, nei_t, nei_f, rem_uw, conv_ui, conv_iu, conv_ii, not_bool, nil_ptr, fa_mk, ptrV, len_mk, cap_mk, eq_ptr_nil, ne_ptr_nil, eq_nil_nil, ne_nil_nil, eq_slice_nil, eq_nil_slice, ia_1]; exact so_so) ?_)
      refine st1_mk (asr (by ac_rfl) hh24 : (pt r9 (.cells (chW gv [64] ov L).cells 26 (0, 0)) * (SG iE 3 v70 ([64] ++ [64 + (i : Int) - 1]) * (SG obE 30 ov (L.map (·.1)) * (own G * (own g * tt))))) h24) o70 (by simp [VW.cells]) fun h25 hh25 => ?_
      have hh25 := pt_cst (c' := (chW v70 [64, 64 + (i : Int) - 1] ov L).cells) rfl hh25
      exact hK3 v70 [64, 64 + (i : Int) - 1] h25 rfl (asr (by ac_rfl) hh25)

end Go.Proofs
