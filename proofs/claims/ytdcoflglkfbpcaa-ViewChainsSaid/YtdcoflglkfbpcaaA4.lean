/-
  Contracts of package audit: All, Check, Text.
-/
import Derived.Test.YtdcoflglkfbpcaaA3
set_option linter.unusedVariables false
set_option linter.unusedSimpArgs false
set_option maxRecDepth 100000
namespace Go.Proofs
open Go.Sl

noncomputable def brkF (w : VW) (ps : Int) : Nat → Bool
  | 0 => cb (B1 w)
  | 1 => cb (B2 w)
  | 2 => cb (B3 w)
  | 3 => cb (B4 w ps)
  | 4 => cb (B5 w)
  | 5 => cb (B6 w)
  | 6 => cb (B7 w)
  | _ => cb (B8 w)

def outN (f : Nat → Bool) : Nat → List Int
  | 0 => []
  | i + 1 => outN f i ++ (if f i then [(i : Int) + 1] else [])

theorem outN_len (f : Nat → Bool) : ∀ i, (outN f i).length ≤ i
  | 0 => by simp [outN]
  | i + 1 => by
    have := outN_len f i
    unfold outN
    split <;> simp <;> omega

def wordsV : List Value := [.string ⟨#[108, 111, 115, 116]⟩, .string ⟨#[111, 98, 106, 101, 99, 116, 115]⟩, .string ⟨#[116, 119, 105, 99, 101]⟩, .string ⟨#[112, 108, 97, 99, 101, 115]⟩, .string ⟨#[119, 111, 114, 107]⟩, .string ⟨#[119, 104, 105, 116, 101]⟩, .string ⟨#[110, 117, 109, 98, 101, 114, 115]⟩, .string ⟨#[109, 97, 114, 107, 101, 100]⟩]

def txtV (c : Int) : Value := if 1 ≤ c ∧ c ≤ 8 then wordsV.getD (c - 1).toNat (.string ⟨#[]⟩) else .string ⟨#[]⟩

theorem txtV_str (c : Int) : ∃ s, txtV c = .string s := by
  unfold txtV
  split
  · rename_i h
    obtain ⟨k, rfl⟩ : ∃ k : Nat, c = k := ⟨c.toNat, by omega⟩
    have : k = 1 ∨ k = 2 ∨ k = 3 ∨ k = 4 ∨ k = 5 ∨ k = 6 ∨ k = 7 ∨ k = 8 := by omega
    rcases this with rfl | rfl | rfl | rfl | rfl | rfl | rfl | rfl <;> exact ⟨_, rfl⟩
  · exact ⟨_, rfl⟩

theorem eq_str (a : ByteArray) : eqV 3 false (.string a) (.string a) = some (.bool true) := by
  have e : eqS 3 (.string a) (.string a) = some true := by
    show some (a.toList == a.toList) = _
    simp
  unfold eqV
  rw [e]; rfl

theorem eq_txt (c : Int) : eqV 3 false (txtV c) (txtV c) = some (.bool true) := by
  obtain ⟨s, hs⟩ := txtV_str c
  rw [hs]; exact eq_str s

def rulesC : Array Value := #[.string ⟨#[108, 111, 115, 116]⟩, .func (.func 73) #[] #[], .string ⟨#[111, 98, 106, 101, 99, 116, 115]⟩, .func (.func 74) #[] #[], .string ⟨#[116, 119, 105, 99, 101]⟩, .func (.func 75) #[] #[], .string ⟨#[112, 108, 97, 99, 101, 115]⟩, .func (.func 76) #[] #[],
  .string ⟨#[119, 111, 114, 107]⟩, .func (.func 77) #[] #[], .string ⟨#[119, 104, 105, 116, 101]⟩, .func (.func 78) #[] #[], .string ⟨#[110, 117, 109, 98, 101, 114, 115]⟩, .func (.func 79) #[] #[], .string ⟨#[109, 97, 114, 107, 101, 100]⟩, .func (.func 80) #[] #[]]

theorem use_rules {F : Asrt} {K : Value → Hp → Prop} {h : Hp} (hh : F h) (hK : ∀ r h', (pt r (.cells rulesC 69 (0, 0)) * F) h' → K (.slice (some ⟨r, 0, none⟩) 8 8) h') : CallH Try.prog 57 #[] K h := by
  refine C57 ?_
  unfold D57
  have eb : ∀ s f, bldV #[.string ⟨#[]⟩, .nilFunc] [(0, 1, .string s), (1, 1, .func f #[] #[])] = some #[.string s, .func f #[] #[]] := fun _ _ => rfl
  repeat (with_reducible first | refine vP_so ?_ | refine vB_t ?_ | refine vB_f ?_ | refine vE_tt ?_ | refine vE_ff ?_ | refine vE_tf ?_ | refine vE_ft ?_ | refine vE_u ?_ | refine vP_to (by simp (disch := omega) only [gdW_true, gdW_false, gB_true, gB_false, gB_undef, pickV_true, pickV_false, Bool.not_true, Bool.not_false, Option.map_some, bin_add, bin_sub, bin_mul, bin_quo, bin_rem, lss_t, lss_f, leq_t, leq_f, gtr_t, gtr_f, geq_t, geq_f, eqi_t, eqi_f, nei_t, nei_f, rem_uw, conv_ui, conv_iu, conv_ii, not_bool, nil_ptr, fa_mk, ptrV, len_mk, cap_mk, eq_ptr_nil, ne_ptr_nil, eq_nil_nil, ne_nil_nil, eq_slice_nil, eq_nil_slice, ia_1, eb]; exact so_so) ?_)
  have eb2 : bldV #[.string ⟨#[]⟩, .nilFunc, .string ⟨#[]⟩, .nilFunc, .string ⟨#[]⟩, .nilFunc, .string ⟨#[]⟩, .nilFunc, .string ⟨#[]⟩, .nilFunc, .string ⟨#[]⟩, .nilFunc, .string ⟨#[]⟩, .nilFunc, .string ⟨#[]⟩, .nilFunc]
    [(0, 2, .agg #[.string ⟨#[108, 111, 115, 116]⟩, .func (.func 73) #[] #[]]), (2, 2, .agg #[.string ⟨#[111, 98, 106, 101, 99, 116, 115]⟩, .func (.func 74) #[] #[]]), (4, 2, .agg #[.string ⟨#[116, 119, 105, 99, 101]⟩, .func (.func 75) #[] #[]]), (6, 2, .agg #[.string ⟨#[112, 108, 97, 99, 101, 115]⟩, .func (.func 76) #[] #[]]),
     (8, 2, .agg #[.string ⟨#[119, 111, 114, 107]⟩, .func (.func 77) #[] #[]]), (10, 2, .agg #[.string ⟨#[119, 104, 105, 116, 101]⟩, .func (.func 78) #[] #[]]), (12, 2, .agg #[.string ⟨#[110, 117, 109, 98, 101, 114, 115]⟩, .func (.func 79) #[] #[]]), (14, 2, .agg #[.string ⟨#[109, 97, 114, 107, 101, 100]⟩, .func (.func 80) #[] #[]])] = some rulesC := rfl
  rw [eb2]
  exact vA_new (f := fun r => .slice (some ⟨r, 0, none⟩) 8 8) hh hK

/-- What a view is to be, so that all sums and lists stay within bounds. -/
structure Small (w : VW) : Prop where
  all : w.all.length ≤ 1000000
  objs : w.objs.length ≤ 1000000
  gs : w.gs.length ≤ 1000000
  addr : ∀ o ∈ w.objs, o.addr ≤ 9223372036854775807

theorem use_aall {g : Hp} {w : VW} {ps : Int} {F : Asrt} {K : Value → Hp → Prop} {h : Hp} (hv : VAt g w) (hs : Small w) (hh : (own g * (F * tt)) h)
    (hK : ∀ v h', (SG iE 3 v (outN (brkF w ps) 8) * (own g * (F * tt))) h' → K v h') : CallH Try.prog 28 #[w.val, .int .i64 ps] K h := by
  refine C28 ?_
  unfold D28
  refine vA_new (o := .cells w.cells 26 (0, 0)) hh fun r1 h1 hh1 => ?_
  refine use_rules hh1 fun r8 h2 hh2 => ?_
  repeat (with_reducible first | refine vP_so ?_ | refine vB_t ?_ | refine vB_f ?_ | refine vE_tt ?_ | refine vE_ff ?_ | refine vE_tf ?_ | refine vE_ft ?_ | refine vE_u ?_ | refine vP_to (by simp (disch := omega) only [gdW_true, gdW_false, gB_true, gB_false, gB_undef, pickV_true, pickV_false, Bool.not_true, Bool.not_false, Option.map_some, bin_add, bin_sub, bin_mul, bin_quo, bin_rem, lss_t, lss_f, leq_t, leq_f, gtr_t, gtr_f, geq_t, geq_f, eqi_t, eqi_f, nei_t, nei_f, rem_uw, conv_ui, conv_iu, conv_ii, not_bool, nil_ptr, fa_mk, ptrV, len_mk, cap_mk, eq_ptr_nil, ne_ptr_nil, eq_nil_nil, ne_nil_nil, eq_slice_nil, eq_nil_slice, ia_1]; exact so_so) ?_)
  refine ⟨fun m zs h' => ∃ (i : Nat) (v5 : Value), zs = [.int .i64 i, v5] ∧ m = 8 - i ∧ i ≤ 8 ∧ (SG iE 3 v5 (outN (brkF w ps) i) * (pt r8 (.cells rulesC 69 (0, 0)) * (pt r1 (.cells w.cells 26 (0, 0)) * (own g * (F * tt))))) h', ⟨_, 0, .slice none 0 0, rfl, rfl, by omega, SG_nil iE hh2⟩, ?_⟩
  rintro m v10 v5 h3 ⟨i, v5', hzs, rfl, hi, hh3⟩ _
  obtain ⟨rfl, rfl⟩ : v10 = .int .i64 i ∧ v5 = v5' := by simpa using hzs
  by_cases hil : i < 8
  · have hlen := outN_len (brkF w ps) i
    repeat (with_reducible first | refine vP_so ?_ | refine vB_t ?_ | refine vB_f ?_ | refine vE_tt ?_ | refine vE_ff ?_ | refine vE_tf ?_ | refine vE_ft ?_ | refine vE_u ?_ | refine vP_to (by simp (disch := omega) only [gdW_true, gdW_false, gB_true, gB_false, gB_undef, pickV_true, pickV_false, Bool.not_true, Bool.not_false, Option.map_some, bin_add, bin_sub, bin_mul, bin_quo, bin_rem, lss_t, lss_f, leq_t, leq_f, gtr_t, gtr_f, geq_t, geq_f, eqi_t, eqi_f, nei_t, nei_f, rem_uw, conv_ui, conv_iu, conv_ii, not_bool, nil_ptr, fa_mk, ptrV, len_mk, cap_mk, eq_ptr_nil, ne_ptr_nil, eq_nil_nil, ne_nil_nil, eq_slice_nil, eq_nil_slice, ia_1]; exact so_so) ?_)
    intro J2 hJ2
    have hJ : ∀ v' h', (SG iE 3 v' (outN (brkF w ps) (i + 1)) * (pt r8 (.cells rulesC 69 (0, 0)) * (pt r1 (.cells w.cells 26 (0, 0)) * (own g * (F * tt))))) h' → J2 [v'] h' := fun v' h' q => by
      refine hJ2 _ _ fun _ => ?_
      repeat (with_reducible first | refine vP_so ?_ | refine vB_t ?_ | refine vB_f ?_ | refine vE_tt ?_ | refine vE_ff ?_ | refine vE_tf ?_ | refine vE_ft ?_ | refine vE_u ?_ | refine vP_to (by simp (disch := omega) only [gdW_true, gdW_false, gB_true, gB_false, gB_undef, pickV_true, pickV_false, Bool.not_true, Bool.not_false, Option.map_some, bin_add, bin_sub, bin_mul, bin_quo, bin_rem, lss_t, lss_f, leq_t, leq_f, gtr_t, gtr_f, geq_t, geq_f, eqi_t, eqi_f, nei_t, nei_f, rem_uw, conv_ui, conv_iu, conv_ii, not_bool, nil_ptr, fa_mk, ptrV, len_mk, cap_mk, eq_ptr_nil, ne_ptr_nil, eq_nil_nil, ne_nil_nil, eq_slice_nil, eq_nil_slice, ia_1]; exact so_so) ?_)
      exact ⟨8 - (i + 1), by omega, i + 1, v', rfl, rfl, by omega, q⟩
    have hR : (pt r8 (.cells rulesC 69 (0, 0)) * (SG iE 3 v5 (outN (brkF w ps) i) * (pt r1 (.cells w.cells 26 (0, 0)) * (own g * (F * tt))))) h3 := asr (by ac_rfl) hh3
    -- behind the rule's own answer
    have tail : ∀ h', (own g * (SG iE 3 v5 (outN (brkF w ps) i) * (pt r8 (.cells rulesC 69 (0, 0)) * (pt r1 (.cells w.cells 26 (0, 0)) * F)) * tt)) h' →
        vB (.bool (brkF w ps i)) (vP (binV .add (.int .i64 (i : Int)) (.int .i64 1)) fun v22 =>
          vA ((bldV #[.int .i64 0] [(0, 1, v22)]).map fun c => (Obj.cells c 3 (0, 0), fun r => Value.slice (some ⟨r, 0, none⟩) 1 1)) (fun v23 h8 =>
          apW Try.prog #[22, 22] 22 v5 v23 (fun v24 h9 => J2 [v24] h9) h8) h')
        (J2 [v5] h') := fun h' q => by
      cases hb : brkF w ps i with
      | true =>
        have e : outN (brkF w ps) (i + 1) = outN (brkF w ps) i ++ [(i : Int) + 1] := by show _ ++ (if brkF w ps i then _ else _) = _; rw [hb]; rfl
        rw [e] at hJ
        have eb : bldV #[.int .i64 0] [(0, 1, .int .i64 ((i : Int) + 1))] = some #[.int .i64 ((i : Int) + 1)] := rfl
        repeat (with_reducible first | refine vP_so ?_ | refine vB_t ?_ | refine vB_f ?_ | refine vE_tt ?_ | refine vE_ff ?_ | refine vE_tf ?_ | refine vE_ft ?_ | refine vE_u ?_ | refine vP_to (by simp (disch := omega) only [gdW_true, gdW_false, gB_true, gB_false, gB_undef, pickV_true, pickV_false, Bool.not_true, Bool.not_false, Option.map_some, bin_add, bin_sub, bin_mul, bin_quo, bin_rem, lss_t, lss_f, leq_t, leq_f, gtr_t, gtr_f, geq_t, geq_f, eqi_t, eqi_f, nei_t, nei_f, rem_uw, conv_ui, conv_iu, conv_ii, not_bool, nil_ptr, fa_mk, ptrV, len_mk, cap_mk, eq_ptr_nil, ne_ptr_nil, eq_nil_nil, ne_nil_nil, eq_slice_nil, eq_nil_slice, ia_1]; exact so_so) ?_)
        rw [eb]
        refine vA_new (f := fun r => .slice (some ⟨r, 0, none⟩) 1 1) q fun r23 h8 hh8 => ?_
        refine ap_new iE (l := outN (brkF w ps) i) (m := [(i : Int) + 1]) (F := pt r8 (.cells rulesC 69 (0, 0)) * (pt r1 (.cells w.cells 26 (0, 0)) * (own g * F))) elInt rfl rfl niInts rfl (by omega) (asr (by ac_rfl) hh8) rfl rfl (by simp only [List.length_singleton]; omega) fun v24 h9 hh9 => ?_
        exact hJ v24 h9 (asr (by ac_rfl) hh9)
      | false =>
        have e : outN (brkF w ps) (i + 1) = outN (brkF w ps) i := by show _ ++ (if brkF w ps i then _ else _) = _; rw [hb]; simp
        rw [e] at hJ
        repeat (with_reducible first | refine vP_so ?_ | refine vB_t ?_ | refine vB_f ?_ | refine vE_tt ?_ | refine vE_ff ?_ | refine vE_tf ?_ | refine vE_ft ?_ | refine vE_u ?_ | refine vP_to (by simp (disch := omega) only [gdW_true, gdW_false, gB_true, gB_false, gB_undef, pickV_true, pickV_false, Bool.not_true, Bool.not_false, Option.map_some, bin_add, bin_sub, bin_mul, bin_quo, bin_rem, lss_t, lss_f, leq_t, leq_f, gtr_t, gtr_f, geq_t, geq_f, eqi_t, eqi_f, nei_t, nei_f, rem_uw, conv_ui, conv_iu, conv_ii, not_bool, nil_ptr, fa_mk, ptrV, len_mk, cap_mk, eq_ptr_nil, ne_ptr_nil, eq_nil_nil, ne_nil_nil, eq_slice_nil, eq_nil_slice, ia_1]; exact so_so) ?_)
        exact hJ v5 h' (asr (by ac_rfl) q)
    -- the call of the rule
    have call : ∀ (s : ByteArray) (fn : Nat), (rulesC[i * 2]? = some (.string s) ∧ rulesC[i * 2 + 1]? = some (.func (.func fn) #[] #[])) → bodied Try.prog fn = true →
        (∀ (G : Asrt) (h : Hp) (K : Value → Hp → Prop), (own g * (G * tt)) h → (∀ h', (own g * (G * tt)) h' → K (.bool (brkF w ps i)) h') → CallH Try.prog fn #[w.val, .int .i64 ps] K h) →
        vP (iaS 2 (.slice (some ⟨r8, 0, none⟩) 8 8) (.int .i64 (i : Int))) fun v13 =>
        vP (ldN 2 v13 h3) fun v14 =>
        vA (some (Obj.cells #[.string ⟨#[]⟩, .nilFunc] 69 (0, 0), ptrV)) (fun v7 h5 =>
        stN 2 v7 v14 (fun _ h6 =>
        vP (faV 1 v7) fun v15 =>
        vP (ld1 v15 h6) fun v16 =>
        vP (ldN 9 (ptrV r1) h6) fun v17 =>
        cvW Try.prog v16 #[v17, .int .i64 ps] (fun v19 h7 =>
        vB v19 (vP (binV .add (.int .i64 (i : Int)) (.int .i64 1)) fun v22 =>
          vA ((bldV #[.int .i64 0] [(0, 1, v22)]).map fun c => (Obj.cells c 3 (0, 0), fun r => Value.slice (some ⟨r, 0, none⟩) 1 1)) (fun v23 h8 =>
          apW Try.prog #[22, 22] 22 v5 v23 (fun v24 h9 => J2 [v24] h9) h8) h7)
        (J2 [v5] h7)) h6) h5) h3 := by
      intro s fn ⟨c1, c2⟩ hbd hfn
      have hld : ldN 2 (.pointer (some ⟨r8, 0 + (i : Int).toNat * 2, none⟩)) h3 = some (.agg #[.string s, .func (.func fn) #[] #[]]) := by
        rw [ldN_mk (pt_get hR) (by rw [show rulesC.size = 16 from rfl]; omega)]
        congr 2
        rw [Int.toNat_natCast, Nat.zero_add]
        apply Array.ext_getElem?
        intro j
        rw [Array.getElem?_extract]
        rcases Nat.lt_or_ge j 2 with hj | hj
        · have : j = 0 ∨ j = 1 := by omega
          rcases this with rfl | rfl
          · rw [if_pos (by rw [show rulesC.size = 16 from rfl]; omega), Nat.add_zero, c1]; rfl
          · rw [if_pos (by rw [show rulesC.size = 16 from rfl]; omega), c2]; rfl
        · rw [if_neg (by rw [show rulesC.size = 16 from rfl]; omega), Array.getElem?_eq_none (by simpa using hj)]
      repeat (with_reducible first | refine vP_so ?_ | refine vB_t ?_ | refine vB_f ?_ | refine vE_tt ?_ | refine vE_ff ?_ | refine vE_tf ?_ | refine vE_ft ?_ | refine vE_u ?_ | refine vP_to (by simp (disch := omega) only [gdW_true, gdW_false, gB_true, gB_false, gB_undef, pickV_true, pickV_false, Bool.not_true, Bool.not_false, Option.map_some, bin_add, bin_sub, bin_mul, bin_quo, bin_rem, lss_t, lss_f, leq_t, leq_f, gtr_t, gtr_f, geq_t, geq_f, eqi_t, eqi_f, nei_t, nei_f, rem_uw, conv_ui, conv_iu, conv_ii, not_bool, nil_ptr, fa_mk, ptrV, len_mk, cap_mk, eq_ptr_nil, ne_ptr_nil, eq_nil_nil, ne_nil_nil, eq_slice_nil, eq_nil_slice, ia_1, hld]; exact so_so) ?_)
      refine vA_new hh3 fun r7 h5 hh5 => ?_
      refine stN_mk (cs := #[.string s, .func (.func fn) #[] #[]]) hh5 rfl rfl (by simp) fun h6 hh6 => ?_
      have hc1 : ld1 (.pointer (some ⟨r7, 0 + 1, none⟩)) h6 = some (.func (.func fn) #[] #[]) := ld1_mk (pt_get hh6) rfl
      have hh6 : (SG iE 3 v5 (outN (brkF w ps) i) * (pt r8 (.cells rulesC 69 (0, 0)) * (pt r1 (.cells w.cells 26 (0, 0)) * (own g * (F * tt))))) h6 :=
        dropL (P := pt r7 (.cells #[.string s, .func (.func fn) #[] #[]] 69 (0, 0))) (Q := SG iE 3 v5 (outN (brkF w ps) i) * (pt r8 (.cells rulesC 69 (0, 0)) * (pt r1 (.cells w.cells 26 (0, 0)) * (own g * F)))) (asr (by ac_rfl) hh6) |> asr (by ac_rfl)
      have l9 := (vw_ld (r := r1) (w := w) (E := 26) (F := SG iE 3 v5 (outN (brkF w ps) i) * (pt r8 (.cells rulesC 69 (0, 0)) * (own g * (F * tt)))) (asr (by ac_rfl) hh6)).2.2.2.2.2.2.2.2.2
      repeat (with_reducible first | refine vP_so ?_ | refine vB_t ?_ | refine vB_f ?_ | refine vE_tt ?_ | refine vE_ff ?_ | refine vE_tf ?_ | refine vE_ft ?_ | refine vE_u ?_ | refine vP_to (by simp (disch := omega) only [gdW_true, gdW_false, gB_true, gB_false, gB_undef, pickV_true, pickV_false, Bool.not_true, Bool.not_false, Option.map_some, bin_add, bin_sub, bin_mul, bin_quo, bin_rem, lss_t, lss_f, leq_t, leq_f, gtr_t, gtr_f, geq_t, geq_f, eqi_t, eqi_f, nei_t, nei_f, rem_uw, conv_ui, conv_iu, conv_ii, not_bool, nil_ptr, fa_mk, ptrV, len_mk, cap_mk, eq_ptr_nil, ne_ptr_nil, eq_nil_nil, ne_nil_nil, eq_slice_nil, eq_nil_slice, ia_1, hc1, l9]; exact so_so) ?_)
      refine cv_fn hbd ?_
      exact hfn (SG iE 3 v5 (outN (brkF w ps) i) * (pt r8 (.cells rulesC 69 (0, 0)) * (pt r1 (.cells w.cells 26 (0, 0)) * F))) h6 _ (asr (by ac_rfl) hh6) tail
    have : i = 0 ∨ i = 1 ∨ i = 2 ∨ i = 3 ∨ i = 4 ∨ i = 5 ∨ i = 6 ∨ i = 7 := by omega
    rcases this with rfl | rfl | rfl | rfl | rfl | rfl | rfl | rfl
    · exact call _ 73 ⟨rfl, rfl⟩ (by kernel_rfl) fun G h K q k => use_alost hv hs.all q k
    · exact call _ 74 ⟨rfl, rfl⟩ (by kernel_rfl) fun G h K q k => use_aobjects hv hs.addr q k
    · exact call _ 75 ⟨rfl, rfl⟩ (by kernel_rfl) fun G h K q k => use_atwice hv hs.gs q k
    · exact call _ 76 ⟨rfl, rfl⟩ (by kernel_rfl) fun G h K q k => use_aplaces hv q k
    · exact call _ 77 ⟨rfl, rfl⟩ (by kernel_rfl) fun G h K q k => use_awork q k
    · exact call _ 78 ⟨rfl, rfl⟩ (by kernel_rfl) fun G h K q k => use_awhite hv hs.all q k
    · exact call _ 79 ⟨rfl, rfl⟩ (by kernel_rfl) fun G h K q k => use_anumbers hv q k
    · exact call _ 80 ⟨rfl, rfl⟩ (by kernel_rfl) fun G h K q k => use_amarked hv q k
  · obtain rfl : i = 8 := by omega
    repeat (with_reducible first | refine vP_so ?_ | refine vB_t ?_ | refine vB_f ?_ | refine vE_tt ?_ | refine vE_ff ?_ | refine vE_tf ?_ | refine vE_ft ?_ | refine vE_u ?_ | refine vP_to (by simp (disch := omega) only [gdW_true, gdW_false, gB_true, gB_false, gB_undef, pickV_true, pickV_false, Bool.not_true, Bool.not_false, Option.map_some, bin_add, bin_sub, bin_mul, bin_quo, bin_rem, lss_t, lss_f, leq_t, leq_f, gtr_t, gtr_f, geq_t, geq_f, eqi_t, eqi_f, nei_t, nei_f, rem_uw, conv_ui, conv_iu, conv_ii, not_bool, nil_ptr, fa_mk, ptrV, len_mk, cap_mk, eq_ptr_nil, ne_ptr_nil, eq_nil_nil, ne_nil_nil, eq_slice_nil, eq_nil_slice, ia_1]; exact so_so) ?_)
    exact hK v5 h3 (dropL (P := pt r8 (.cells rulesC 69 (0, 0)) * pt r1 (.cells w.cells 26 (0, 0))) (Q := SG iE 3 v5 (outN (brkF w ps) 8) * (own g * F)) (asr (by ac_rfl) hh3) |> asr (by ac_rfl))

def firstL : List Int → Int
  | [] => 0
  | x :: _ => x

theorem use_acheck {g : Hp} {w : VW} {ps : Int} {F : Asrt} {K : Value → Hp → Prop} {h : Hp} (hv : VAt g w) (hs : Small w) (hh : (own g * (F * tt)) h)
    (hK : ∀ h', (own g * (F * tt)) h' → K (.int .i64 (firstL (outN (brkF w ps) 8))) h') : CallH Try.prog 29 #[w.val, .int .i64 ps] K h := by
  refine C29 ?_
  unfold D29
  refine vA_new (o := .cells w.cells 26 (0, 0)) hh fun r1 h1 hh1 => ?_
  have l9 := (vw_ld (r := r1) (w := w) (E := 26) hh1).2.2.2.2.2.2.2.2.2
  repeat (with_reducible first | refine vP_so ?_ | refine vB_t ?_ | refine vB_f ?_ | refine vE_tt ?_ | refine vE_ff ?_ | refine vE_tf ?_ | refine vE_ft ?_ | refine vE_u ?_ | refine vP_to (by simp (disch := omega) only [gdW_true, gdW_false, gB_true, gB_false, gB_undef, pickV_true, pickV_false, Bool.not_true, Bool.not_false, Option.map_some, bin_add, bin_sub, bin_mul, bin_quo, bin_rem, lss_t, lss_f, leq_t, leq_f, gtr_t, gtr_f, geq_t, geq_f, eqi_t, eqi_f, nei_t, nei_f, rem_uw, conv_ui, conv_iu, conv_ii, not_bool, nil_ptr, fa_mk, ptrV, len_mk, cap_mk, eq_ptr_nil, ne_ptr_nil, eq_nil_nil, ne_nil_nil, eq_slice_nil, eq_nil_slice, ia_1, l9]; exact so_so) ?_)
  refine use_aall (F := pt r1 (.cells w.cells 26 (0, 0)) * F) hv hs (asr (by ac_rfl) hh1) fun v8 h2 hh2 => ?_
  have hlen := SG_len iE hh2
  have hd : (own g * (F * tt)) h2 := dropL (P := SG iE 3 v8 (outN (brkF w ps) 8) * pt r1 (.cells w.cells 26 (0, 0))) (Q := own g * F) (asr (by ac_rfl) hh2) |> asr (by ac_rfl)
  cases hl : outN (brkF w ps) 8 with
  | nil =>
    rw [hl] at hlen hK
    simp only [List.length_nil] at hlen
    repeat (with_reducible first | refine vP_so ?_ | refine vB_t ?_ | refine vB_f ?_ | refine vE_tt ?_ | refine vE_ff ?_ | refine vE_tf ?_ | refine vE_ft ?_ | refine vE_u ?_ | refine vP_to (by simp (disch := omega) only [gdW_true, gdW_false, gB_true, gB_false, gB_undef, pickV_true, pickV_false, Bool.not_true, Bool.not_false, Option.map_some, bin_add, bin_sub, bin_mul, bin_quo, bin_rem, lss_t, lss_f, leq_t, leq_f, gtr_t, gtr_f, geq_t, geq_f, eqi_t, eqi_f, nei_t, nei_f, rem_uw, conv_ui, conv_iu, conv_ii, not_bool, nil_ptr, fa_mk, ptrV, len_mk, cap_mk, eq_ptr_nil, ne_ptr_nil, eq_nil_nil, ne_nil_nil, eq_slice_nil, eq_nil_slice, ia_1, hlen]; exact so_so) ?_)
    exact hK h2 hd
  | cons x l =>
    rw [hl] at hlen hK hh2
    obtain ⟨p, f1, f2, _⟩ := el1 hh2 (i := 0) (a := x) rfl .i64
    have f1 : iaS 1 v8 (.int .i64 0) = some p := f1
    have hp : 0 < (x :: l).length := by simp
    repeat (with_reducible first | refine vP_so ?_ | refine vB_t ?_ | refine vB_f ?_ | refine vE_tt ?_ | refine vE_ff ?_ | refine vE_tf ?_ | refine vE_ft ?_ | refine vE_u ?_ | refine vP_to (by simp (disch := omega) only [gdW_true, gdW_false, gB_true, gB_false, gB_undef, pickV_true, pickV_false, Bool.not_true, Bool.not_false, Option.map_some, bin_add, bin_sub, bin_mul, bin_quo, bin_rem, lss_t, lss_f, leq_t, leq_f, gtr_t, gtr_f, geq_t, geq_f, eqi_t, eqi_f, nei_t, nei_f, rem_uw, conv_ui, conv_iu, conv_ii, not_bool, nil_ptr, fa_mk, ptrV, len_mk, cap_mk, eq_ptr_nil, ne_ptr_nil, eq_nil_nil, ne_nil_nil, eq_slice_nil, eq_nil_slice, ia_1, hlen, f1, f2]; exact so_so) ?_)
    exact hK h2 hd

theorem use_atext {c : Int} {F : Asrt} {K : Value → Hp → Prop} {h : Hp} (hh : (F * tt) h) (hK : ∀ h', (F * tt) h' → K (txtV c) h') : CallH Try.prog 30 #[.int .i64 c] K h := by
  refine C30 ?_
  unfold D30
  refine use_rules hh fun r h1 hh1 => ?_
  by_cases h1' : 1 ≤ c
  · by_cases h8 : c ≤ 8
    · have : c = 1 ∨ c = 2 ∨ c = 3 ∨ c = 4 ∨ c = 5 ∨ c = 6 ∨ c = 7 ∨ c = 8 := by omega
      have hb := pt_get hh1
      rcases this with rfl | rfl | rfl | rfl | rfl | rfl | rfl | rfl
      all_goals
        repeat (with_reducible first | refine vP_so ?_ | refine vB_t ?_ | refine vB_f ?_ | refine vE_tt ?_ | refine vE_ff ?_ | refine vE_tf ?_ | refine vE_ft ?_ | refine vE_u ?_ | refine vP_to (by simp (disch := omega) only [gdW_true, gdW_false, gB_true, gB_false, gB_undef, pickV_true, pickV_false, Bool.not_true, Bool.not_false, Option.map_some, bin_add, bin_sub, bin_mul, bin_quo, bin_rem, lss_t, lss_f, leq_t, leq_f, gtr_t, gtr_f, geq_t, geq_f, eqi_t, eqi_f, nei_t, nei_f, rem_uw, conv_ui, conv_iu, conv_ii, not_bool, nil_ptr, fa_mk, ptrV, len_mk, cap_mk, eq_ptr_nil, ne_ptr_nil, eq_nil_nil, ne_nil_nil, eq_slice_nil, eq_nil_slice, ia_1]; exact so_so) ?_)
        refine vP_to (ld1_mk hb rfl) ?_
        exact hK h1 (dropL hh1)
    · have e : txtV c = .string ⟨#[]⟩ := by unfold txtV; rw [if_neg (by omega)]
      rw [e] at hK
      repeat (with_reducible first | refine vP_so ?_ | refine vB_t ?_ | refine vB_f ?_ | refine vE_tt ?_ | refine vE_ff ?_ | refine vE_tf ?_ | refine vE_ft ?_ | refine vE_u ?_ | refine vP_to (by simp (disch := omega) only [gdW_true, gdW_false, gB_true, gB_false, gB_undef, pickV_true, pickV_false, Bool.not_true, Bool.not_false, Option.map_some, bin_add, bin_sub, bin_mul, bin_quo, bin_rem, lss_t, lss_f, leq_t, leq_f, gtr_t, gtr_f, geq_t, geq_f, eqi_t, eqi_f, nei_t, nei_f, rem_uw, conv_ui, conv_iu, conv_ii, not_bool, nil_ptr, fa_mk, ptrV, len_mk, cap_mk, eq_ptr_nil, ne_ptr_nil, eq_nil_nil, ne_nil_nil, eq_slice_nil, eq_nil_slice, ia_1]; exact so_so) ?_)
      exact hK h1 (dropL hh1)
  · have e : txtV c = .string ⟨#[]⟩ := by unfold txtV; rw [if_neg (by omega)]
    rw [e] at hK
    repeat (with_reducible first | refine vP_so ?_ | refine vB_t ?_ | refine vB_f ?_ | refine vE_tt ?_ | refine vE_ff ?_ | refine vE_tf ?_ | refine vE_ft ?_ | refine vE_u ?_ | refine vP_to (by simp (disch := omega) only [gdW_true, gdW_false, gB_true, gB_false, gB_undef, pickV_true, pickV_false, Bool.not_true, Bool.not_false, Option.map_some, bin_add, bin_sub, bin_mul, bin_quo, bin_rem, lss_t, lss_f, leq_t, leq_f, gtr_t, gtr_f, geq_t, geq_f, eqi_t, eqi_f, nei_t, nei_f, rem_uw, conv_ui, conv_iu, conv_ii, not_bool, nil_ptr, fa_mk, ptrV, len_mk, cap_mk, eq_ptr_nil, ne_ptr_nil, eq_nil_nil, ne_nil_nil, eq_slice_nil, eq_nil_slice, ia_1]; exact so_so) ?_)
    exact hK h1 (dropL hh1)

end Go.Proofs
