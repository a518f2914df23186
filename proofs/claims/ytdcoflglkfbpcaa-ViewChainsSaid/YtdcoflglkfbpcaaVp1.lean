/-
  Contracts of package view: Path.
-/
import Derived.Test.YtdcoflglkfbpcaaVs2
import Derived.Test.YtdcoflglkfbpcaaVb
set_option linter.unusedVariables false
set_option linter.unusedSimpArgs false
set_option maxRecDepth 100000
set_option maxHeartbeats 4000000
namespace Go.Proofs
open Go.Sl

def fM (f : Int → Option Int) : Int → Option Value := fun x => (f x).map fun (y : Int) => Value.int .i64 y

theorem fM_put (f : Int → Option Int) (b c : Int) : (fun x => if x = b then some (Value.int .i64 c) else fM f x) = fM (fun x => if x = b then some c else f x) := by
  funext x
  unfold fM
  by_cases h : x = b
  · simp [h]
  · simp [h]

theorem slots_len {w : VW} {o : Ob} (h : o ∈ w.objs) : o.slots.length ≤ w.all.length := by
  have : ∀ {l : List Ob}, o ∈ l → o.slots.length ≤ (l.flatMap (·.slots)).length := fun {l} => by
    induction l with
    | nil => intro h; simp at h
    | cons a l ih =>
      intro h
      rw [List.flatMap_cons, List.length_append]
      rcases List.mem_cons.1 h with rfl | h
      · omega
      · have := ih h; omega
  have := this h
  unfold VW.all
  rw [List.length_append]
  omega

theorem use_path {g : Hp} {w : VW} {a : Int} {F : Asrt} {K : Value → Hp → Prop} {h : Hp} (hv : VAt g w) (hN : w.all.length ≤ 1000000) (hh : (own g * (F * tt)) h)
    (hK : ∀ v l h', PathL w a l → l.length ≤ 1000000 → (SG iE 3 v l * (own g * (F * tt))) h' → K v h') : CallH Try.prog 15 #[w.val, .int .i64 a] K h := by
  refine C15 ?_
  unfold D15
  have x0 : ∀ a b : Value, exV (.tuple #[a, b]) 0 = some a := fun _ _ => rfl
  have x1 : ∀ a b : Value, exV (.tuple #[a, b]) 1 = some b := fun _ _ => rfl
  have eb : ∀ x : Int, bldV #[.int .i64 0] [(0, 1, .int .i64 x)] = some #[.int .i64 x] := fun _ => rfl
  refine vA_new (o := .cells w.cells 26 (0, 0)) hh fun r2 h1 hh1 => ?_
  have l9 := (vw_ld (r := r2) (w := w) (E := 26) hh1).2.2.2.2.2.2.2.2.2
  repeat (with_reducible first | refine vP_so ?_ | refine vB_t ?_ | refine vB_f ?_ | refine vE_tt ?_ | refine vE_ff ?_ | refine vE_tf ?_ | refine vE_ft ?_ | refine vE_u ?_ | refine vP_to (by simp (disch := omega) only [gdW_true, gdW_false, gB_true, gB_false, gB_undef, pickV_true, pickV_false, Bool.not_true, Bool.not_false, Option.map_some, bin_add, bin_sub, bin_mul, bin_quo, bin_rem, lss_t, lss_f, leq_t, leq_f, gtr_t, gtr_f, geq_t, geq_f, eqi_t, eqi_f, nei_t, nei_f, rem_uw, conv_ui, conv_iu, conv_ii, not_bool, nil_ptr, fa_mk, ptrV, len_mk, cap_mk, eq_ptr_nil, ne_ptr_nil, eq_nil_nil, ne_nil_nil, eq_slice_nil, eq_nil_slice, ia_1, l9]; exact so_so) ?_)
  refine use_places (F := pt r2 (.cells w.cells 26 (0, 0)) * F) hv (asr (by ac_rfl) hh1) fun r26 h2 hh2 => ?_
  refine vA_new (f := fun r => .map (some r)) hh2 fun r27 h3 hh3 => ?_
  have hh3 := MP_new hh3
  obtain ⟨B, hB⟩ : ∃ B : Asrt, B = MP r26 (atM w.objs) * (pt r2 (.cells w.cells 26 (0, 0)) * F) := ⟨_, rfl⟩
  have hh3 : (MP r27 (fun _ => none) * (own g * (B * tt))) h3 := by rw [hB]; exact asr (by ac_rfl) hh3
  have lv : ∀ {h} {G : Asrt}, (G * (own g * (B * tt))) h → ldN 9 (.pointer (some ⟨r2, 0, none⟩)) h = some w.val := fun {h G} q =>
    (vw_ld (r := r2) (w := w) (E := 26) (F := G * (own g * (MP r26 (atM w.objs) * (F * tt)))) (asr (by rw [hB]; ac_rfl) q)).2.2.2.2.2.2.2.2.2
  have lo : ∀ {h} {G : Asrt}, (G * (own g * (B * tt))) h → ld1 (.pointer (some ⟨r2, 0 + 5, none⟩)) h = some w.ov := fun {h G} q =>
    (vw_ld (r := r2) (w := w) (E := 26) (F := G * (own g * (MP r26 (atM w.objs) * (F * tt)))) (asr (by rw [hB]; ac_rfl) q)).2.2.2.2.2.1
  have la : ∀ {h} {G : Asrt} (x : Int), (G * (own g * (B * tt))) h → lkV Try.prog 51 (.map (some r26)) (.int .i64 x) true h = some (.tuple #[((w.at x).map fun (i : Nat) => Value.int .i64 (i : Int)).getD (.int .i64 0), .bool (w.at x).isSome]) ∧ lkV Try.prog 51 (.map (some r26)) (.int .i64 x) false h = some (((w.at x).map fun (i : Nat) => Value.int .i64 (i : Int)).getD (.int .i64 0)) := fun {h G} x q => by
    have q : (MP r26 (atM w.objs) * (G * (own g * (pt r2 (.cells w.cells 26 (0, 0)) * (F * tt))))) h := asr (by rw [hB]; ac_rfl) q
    obtain ⟨e1, e2⟩ := lk_MP (k := x) mapII intU zInt q
    rw [atM_at] at e1 e2
    refine ⟨?_, e1⟩
    rw [e2]
    cases w.at x <;> rfl
  have ow : ∀ {h} {G : Asrt}, (G * (own g * (B * tt))) h → VAt h w := fun {h G} q => own_vat (F := G * (B * tt)) (asr (by ac_rfl) q) hv
  have fin : ∀ v l h', PathL w a l → l.length ≤ 1000000 → (SG iE 3 v l * (own g * (B * tt))) h' → K v h' := fun v l h' p1 p2 q => by
    rw [hB] at q
    exact hK v l h' p1 p2 (dropL (P := MP r26 (atM w.objs) * pt r2 (.cells w.cells 26 (0, 0))) (Q := SG iE 3 v l * (own g * F)) (asr (by ac_rfl) q) |> asr (by ac_rfl))
  clear hK l9 hh1 hh2 hh
  have hroots : ∀ x, x ∈ w.rootsL ↔ w.root x := fun x => by unfold VW.rootsL VW.root; rw [foldl_once_mem]; simp
  have hrnd : w.rootsL.Nodup := foldl_once_nodup (by simp)
  have hrl : w.rootsL.length ≤ 1000000 := Nat.le_trans (nodup_len hrnd fun x hx => (Rch.root ((hroots x).1 hx).1 ((hroots x).1 hx).2).all) hN
  repeat (with_reducible first | refine vP_so ?_ | refine vB_t ?_ | refine vB_f ?_ | refine vE_tt ?_ | refine vE_ff ?_ | refine vE_tf ?_ | refine vE_ft ?_ | refine vE_u ?_ | refine vP_to (by simp (disch := omega) only [gdW_true, gdW_false, gB_true, gB_false, gB_undef, pickV_true, pickV_false, Bool.not_true, Bool.not_false, Option.map_some, bin_add, bin_sub, bin_mul, bin_quo, bin_rem, lss_t, lss_f, leq_t, leq_f, gtr_t, gtr_f, geq_t, geq_f, eqi_t, eqi_f, nei_t, nei_f, rem_uw, conv_ui, conv_iu, conv_ii, not_bool, nil_ptr, fa_mk, ptrV, len_mk, cap_mk, eq_ptr_nil, ne_ptr_nil, eq_nil_nil, ne_nil_nil, eq_slice_nil, eq_nil_slice, ia_1, lv hh3]; exact so_so) ?_)
  refine use_roots (F := MP r27 (fun _ => none) * B) hv hN (asr (by ac_rfl) hh3) fun v29 h4 hh4 => ?_
  obtain ⟨g1, hg1, hh4⟩ := own_pick hh4
  have hi1 : IntsAt g1 v29 w.rootsL := SG_ints (E := 3) (F := emp) ⟨g1, Hp.emp, Disj.emp g1, by rw [Hp.add_emp], hg1, rfl⟩
  refine use_svals (g := g1) (F := own g * (MP r27 (fun _ => none) * B)) hi1 hrl (asr (by ac_rfl) hh4) fun v31 h6 hh6 => ?_
  have hh6 : (SG iE 3 v31 (srt w.rootsL) * (MP r27 (fM fun _ => none) * (own g * (B * tt)))) h6 := dropL (P := own g1) (Q := SG iE 3 v31 (srt w.rootsL) * (MP r27 (fun _ => none) * (own g * B))) (asr (by ac_rfl) hh6) |> asr (by ac_rfl)
  intro J1 hJ1
  -- the tail
  have hJ : ∀ (v7 : Value) (h7 : Hp) (L : List Int) (f : Int → Option Int) (P : Int → List Int) (d : Nat), BF w f P d L → (L = [] ∧ ∀ q, ¬ Go.Sl.Way w q a) ∨ a ∈ L → (SG iE 3 v7 L * (MP r27 (fM f) * (own g * (B * tt)))) h7 → J1 [v7] h7 := by
    intro v7 h7 L f P d hF hL hh7
    refine hJ1 _ _ fun _ => ?_
    have hlen := SG_len iE hh7
    have hla := (la (G := SG iE 3 v7 L * MP r27 (fM f)) a (asr (by ac_rfl) hh7)).1
    have nil : ∀ {h}, (SG iE 3 v7 L * (MP r27 (fM f) * (own g * (B * tt)))) h → (SG iE 3 (.slice none 0 0) [] * (own g * (B * tt))) h := fun q => SG_nil iE (dropL (P := SG iE 3 v7 L * MP r27 (fM f)) (Q := own g * B) (asr (by ac_rfl) q) |> asr (by ac_rfl))
    cases hat : w.at a with
    | none =>
      rw [hat] at hla
      simp only [Option.map_none, Option.getD_none, Option.isSome_none] at hla
      repeat (with_reducible first | refine vP_so ?_ | refine vB_t ?_ | refine vB_f ?_ | refine vE_tt ?_ | refine vE_ff ?_ | refine vE_tf ?_ | refine vE_ft ?_ | refine vE_u ?_ | refine vP_to (by simp (disch := omega) only [gdW_true, gdW_false, gB_true, gB_false, gB_undef, pickV_true, pickV_false, Bool.not_true, Bool.not_false, Option.map_some, bin_add, bin_sub, bin_mul, bin_quo, bin_rem, lss_t, lss_f, leq_t, leq_f, gtr_t, gtr_f, geq_t, geq_f, eqi_t, eqi_f, nei_t, nei_f, rem_uw, conv_ui, conv_iu, conv_ii, not_bool, nil_ptr, fa_mk, ptrV, len_mk, cap_mk, eq_ptr_nil, ne_ptr_nil, eq_nil_nil, ne_nil_nil, eq_slice_nil, eq_nil_slice, ia_1, hla, x0, x1]; exact so_so) ?_)
      exact fin _ [] h7 (.inr ⟨rfl, .inl hat⟩) (by simp) (nil hh7)
    | some k =>
      rw [hat] at hla
      simp only [Option.map_some, Option.getD_some, Option.isSome_some] at hla
      rcases hL with ⟨rfl, hno⟩ | hL
      · simp only [List.length_nil] at hlen
        repeat (with_reducible first | refine vP_so ?_ | refine vB_t ?_ | refine vB_f ?_ | refine vE_tt ?_ | refine vE_ff ?_ | refine vE_tf ?_ | refine vE_ft ?_ | refine vE_u ?_ | refine vP_to (by simp (disch := omega) only [gdW_true, gdW_false, gB_true, gB_false, gB_undef, pickV_true, pickV_false, Bool.not_true, Bool.not_false, Option.map_some, bin_add, bin_sub, bin_mul, bin_quo, bin_rem, lss_t, lss_f, leq_t, leq_f, gtr_t, gtr_f, geq_t, geq_f, eqi_t, eqi_f, nei_t, nei_f, rem_uw, conv_ui, conv_iu, conv_ii, not_bool, nil_ptr, fa_mk, ptrV, len_mk, cap_mk, eq_ptr_nil, ne_ptr_nil, eq_nil_nil, ne_nil_nil, eq_slice_nil, eq_nil_slice, ia_1, hla, x0, x1, hlen]; exact so_so) ?_)
        exact fin _ [] h7 (.inr ⟨rfl, .inr hno⟩) (by simp) (nil hh7)
      · have hpos := List.length_pos_of_mem hL
        have hVa := ((hF.lev a).1 hL).1
        repeat (with_reducible first | refine vP_so ?_ | refine vB_t ?_ | refine vB_f ?_ | refine vE_tt ?_ | refine vE_ff ?_ | refine vE_tf ?_ | refine vE_ft ?_ | refine vE_u ?_ | refine vP_to (by simp (disch := omega) only [gdW_true, gdW_false, gB_true, gB_false, gB_undef, pickV_true, pickV_false, Bool.not_true, Bool.not_false, Option.map_some, bin_add, bin_sub, bin_mul, bin_quo, bin_rem, lss_t, lss_f, leq_t, leq_f, gtr_t, gtr_f, geq_t, geq_f, eqi_t, eqi_f, nei_t, nei_f, rem_uw, conv_ui, conv_iu, conv_ii, not_bool, nil_ptr, fa_mk, ptrV, len_mk, cap_mk, eq_ptr_nil, ne_ptr_nil, eq_nil_nil, ne_nil_nil, eq_slice_nil, eq_nil_slice, ia_1, hla, x0, x1, hlen, eb]; exact so_so) ?_)
        rw [eb]
        refine vA_new (f := fun r => .slice (some ⟨r, 0, none⟩) 1 1) hh7 fun r120 h8 hh8 => ?_
        have hh8 : (SG iE 3 (.slice (some ⟨r120, 0, none⟩) 1 1) [a] * (SG iE 3 v7 L * (MP r27 (fM f) * (own g * (B * tt))))) h8 := SG_intro iE (pre := []) (post := []) (l := [a]) rfl rfl (by simp) (by omega) (by simp) hh8
        have lf : ∀ {h} {v} {l : List Int} (x : Int), (SG iE 3 v l * (SG iE 3 v7 L * (MP r27 (fM f) * (own g * (B * tt))))) h → lkV Try.prog 51 (.map (some r27)) (.int .i64 x) true h = some (.tuple #[((fM f x)).getD (.int .i64 0), .bool (fM f x).isSome]) := fun {h v l} x q =>
          (lk_MP (k := x) mapII intU zInt (asr (by ac_rfl) q : (MP r27 (fM f) * (SG iE 3 v l * (SG iE 3 v7 L * (own g * (B * tt))))) h)).2
        have hlf := lf a hh8
        repeat (with_reducible first | refine vP_so ?_ | refine vB_t ?_ | refine vB_f ?_ | refine vE_tt ?_ | refine vE_ff ?_ | refine vE_tf ?_ | refine vE_ft ?_ | refine vE_u ?_ | refine vP_to (by simp (disch := omega) only [gdW_true, gdW_false, gB_true, gB_false, gB_undef, pickV_true, pickV_false, Bool.not_true, Bool.not_false, Option.map_some, bin_add, bin_sub, bin_mul, bin_quo, bin_rem, lss_t, lss_f, leq_t, leq_f, gtr_t, gtr_f, geq_t, geq_f, eqi_t, eqi_f, nei_t, nei_f, rem_uw, conv_ui, conv_iu, conv_ii, not_bool, nil_ptr, fa_mk, ptrV, len_mk, cap_mk, eq_ptr_nil, ne_ptr_nil, eq_nil_nil, ne_nil_nil, eq_slice_nil, eq_nil_slice, ia_1, hlf, x0, x1]; exact so_so) ?_)
        refine ⟨fun m zs h' => ∃ (y : Int) (rest : List Int) (ov : Value), zs = [(fM f y).getD (.int .i64 0), ov, .bool (fM f y).isSome] ∧ m = (P y).length ∧ Vis w f y ∧ P a = P y ++ rest ∧ (SG iE 3 ov (y :: rest) * (SG iE 3 v7 L * (MP r27 (fM f) * (own g * (B * tt))))) h',
          ⟨_, a, [], _, rfl, rfl, hVa, by simp, hh8⟩, ?_⟩
        have hPa : (P a).length ≤ 1000000 := by
          have h1 : ∀ x, Vis w f x → (P x).Nodup ∧ ∀ y ∈ P x, y ∈ w.all := by
            intro x
            generalize hn : (P x).length = n
            induction n using Nat.strongRecOn generalizing x with
            | ind n ih =>
              intro hx
              have hxa := (hF.best x hx).way.rch.all
              cases hq : f x with
              | none =>
                have hr : w.root x := by rcases hx with hx | hx; exact hx; exact (hx hq).elim
                rw [(hF.rt x hr).2]
                exact ⟨by simp, fun y hy => by simp at hy; exact hy ▸ hxa⟩
              | some z =>
                obtain ⟨hz, hp⟩ := hF.par x z hq
                have hlt : (P z).length < n := by rw [← hn, hp]; simp
                obtain ⟨i1, i2⟩ := ih _ hlt z rfl hz
                rw [hp]
                refine ⟨?_, fun y hy => ?_⟩
                · rw [List.nodup_append]
                  refine ⟨i1, by simp, fun u hu b hb => ?_⟩
                  obtain rfl : b = x := by simpa using hb
                  rintro rfl
                  -- a shorter way to the same
                  have : ∀ y, Vis w f y → ∀ u ∈ P y, (P u).length ≤ (P y).length ∧ Vis w f u := by
                    intro y
                    generalize hm : (P y).length = m
                    induction m using Nat.strongRecOn generalizing y with
                    | ind m ih2 =>
                      intro hy u hu
                      cases hq2 : f y with
                      | none =>
                        have hr : w.root y := by rcases hy with hy | hy; exact hy; exact (hy hq2).elim
                        rw [(hF.rt y hr).2] at hu
                        obtain rfl : u = y := by simpa using hu
                        exact ⟨by omega, hy⟩
                      | some z2 =>
                        obtain ⟨hz2, hp2⟩ := hF.par y z2 hq2
                        rw [hp2] at hu
                        have hl2 : (P z2).length < m := by rw [← hm, hp2]; simp
                        rcases List.mem_append.1 hu with hu | hu
                        · obtain ⟨j1, j2⟩ := ih2 _ hl2 z2 rfl hz2 u hu
                          exact ⟨by omega, j2⟩
                        · obtain rfl : u = y := by simpa using hu
                          exact ⟨by omega, hy⟩
                  have := (this z hz u hu).1
                  omega
                · rcases List.mem_append.1 hy with hy | hy
                  · exact i2 y hy
                  · obtain rfl : y = x := by simpa using hy
                    exact hxa
          obtain ⟨i1, i2⟩ := h1 a hVa
          have := nodup_len i1 i2
          omega
        rintro m v23 v22 v24 h9 ⟨y, rest, ov, hzs, rfl, hy, hPy, hh9⟩ _
        obtain ⟨rfl, rfl, rfl⟩ : v23 = (fM f y).getD (.int .i64 0) ∧ v22 = ov ∧ v24 = .bool (fM f y).isSome := by simpa using hzs
        cases hq : f y with
        | none =>
          have hr : w.root y := by rcases hy with hy | hy; exact hy; exact (hy hq).elim
          have e : P a = y :: rest := by rw [hPy, (hF.rt y hr).2]; rfl
          have e2 : fM f y = none := by unfold fM; rw [hq]; rfl
          rw [e2]
          simp only [Option.isSome_none, Option.getD_none]
          repeat (with_reducible first | refine vP_so ?_ | refine vB_t ?_ | refine vB_f ?_ | refine vE_tt ?_ | refine vE_ff ?_ | refine vE_tf ?_ | refine vE_ft ?_ | refine vE_u ?_ | refine vP_to (by simp (disch := omega) only [gdW_true, gdW_false, gB_true, gB_false, gB_undef, pickV_true, pickV_false, Bool.not_true, Bool.not_false, Option.map_some, bin_add, bin_sub, bin_mul, bin_quo, bin_rem, lss_t, lss_f, leq_t, leq_f, gtr_t, gtr_f, geq_t, geq_f, eqi_t, eqi_f, nei_t, nei_f, rem_uw, conv_ui, conv_iu, conv_ii, not_bool, nil_ptr, fa_mk, ptrV, len_mk, cap_mk, eq_ptr_nil, ne_ptr_nil, eq_nil_nil, ne_nil_nil, eq_slice_nil, eq_nil_slice, ia_1]; exact so_so) ?_)
          exact fin _ (y :: rest) h9 (.inl ⟨by rw [hat]; simp, e ▸ hF.best a hVa⟩) (by rw [← e]; exact hPa) (dropL (P := SG iE 3 v7 L * MP r27 (fM f)) (Q := SG iE 3 v22 (y :: rest) * (own g * B)) (asr (by ac_rfl) hh9) |> asr (by ac_rfl))
        | some z =>
          obtain ⟨hz, hp⟩ := hF.par y z hq
          have e2 : fM f y = some (.int .i64 z) := by unfold fM; rw [hq]; rfl
          rw [e2]
          simp only [Option.isSome_some, Option.getD_some]
          have hll : (y :: rest).length ≤ 1000000 := by
            have : (P a).length = (P z).length + (y :: rest).length := by rw [hPy, hp]; simp
            omega
          repeat (with_reducible first | refine vP_so ?_ | refine vB_t ?_ | refine vB_f ?_ | refine vE_tt ?_ | refine vE_ff ?_ | refine vE_tf ?_ | refine vE_ft ?_ | refine vE_u ?_ | refine vP_to (by simp (disch := omega) only [gdW_true, gdW_false, gB_true, gB_false, gB_undef, pickV_true, pickV_false, Bool.not_true, Bool.not_false, Option.map_some, bin_add, bin_sub, bin_mul, bin_quo, bin_rem, lss_t, lss_f, leq_t, leq_f, gtr_t, gtr_f, geq_t, geq_f, eqi_t, eqi_f, nei_t, nei_f, rem_uw, conv_ui, conv_iu, conv_ii, not_bool, nil_ptr, fa_mk, ptrV, len_mk, cap_mk, eq_ptr_nil, ne_ptr_nil, eq_nil_nil, ne_nil_nil, eq_slice_nil, eq_nil_slice, ia_1, eb]; exact so_so) ?_)
          rw [eb]
          refine vA_new (f := fun r => .slice (some ⟨r, 0, none⟩) 1 1) hh9 fun r135 h10 hh10 => ?_
          have hh10 : (SG iE 3 (.slice (some ⟨r135, 0, none⟩) 1 1) [z] * (SG iE 3 v22 (y :: rest) * (SG iE 3 v7 L * (MP r27 (fM f) * (own g * (B * tt)))))) h10 := SG_intro iE (pre := []) (post := []) (l := [z]) rfl rfl (by simp) (by omega) (by simp) hh10
          have hw : (SG iE 3 v22 (y :: rest) * (SG iE 3 (.slice (some ⟨r135, 0, none⟩) 1 1) [z] * (SG iE 3 v7 L * (MP r27 (fM f) * (own g * (B * tt)))))) h10 := asr (by ac_rfl) hh10
          refine ap_part iE (F := SG iE 3 v22 (y :: rest) * (SG iE 3 v7 L * (MP r27 (fM f) * (own g * B)))) elInt rfl rfl niInts rfl (by omega) (asr (by ac_rfl) hh10) (part_all iE hw) hw (by simp only [List.length_singleton]; omega) fun v137 h11 hh11 => ?_
          have hh11 : (SG iE 3 v137 (z :: y :: rest) * (SG iE 3 v7 L * (MP r27 (fM f) * (own g * (B * tt))))) h11 := dropL (P := SG iE 3 v22 (y :: rest)) (Q := SG iE 3 v137 ([z] ++ (y :: rest)) * (SG iE 3 v7 L * (MP r27 (fM f) * (own g * B)))) (asr (by ac_rfl) hh11) |> asr (by ac_rfl)
          have hPz : P a = P z ++ (y :: rest) := by
            rw [hPy, hp, List.append_assoc]
            first | done | rfl
          have hlf := lf z hh11
          repeat (with_reducible first | refine vP_so ?_ | refine vB_t ?_ | refine vB_f ?_ | refine vE_tt ?_ | refine vE_ff ?_ | refine vE_tf ?_ | refine vE_ft ?_ | refine vE_u ?_ | refine vP_to (by simp (disch := omega) only [gdW_true, gdW_false, gB_true, gB_false, gB_undef, pickV_true, pickV_false, Bool.not_true, Bool.not_false, Option.map_some, bin_add, bin_sub, bin_mul, bin_quo, bin_rem, lss_t, lss_f, leq_t, leq_f, gtr_t, gtr_f, geq_t, geq_f, eqi_t, eqi_f, nei_t, nei_f, rem_uw, conv_ui, conv_iu, conv_ii, not_bool, nil_ptr, fa_mk, ptrV, len_mk, cap_mk, eq_ptr_nil, ne_ptr_nil, eq_nil_nil, ne_nil_nil, eq_slice_nil, eq_nil_slice, ia_1, hlf, x0, x1]; exact so_so) ?_)
          exact ⟨(P z).length, by rw [hp]; simp, z, y :: rest, v137, rfl, rfl, hz, hPz, hh11⟩
  -- the levels
  clear hh3 hh4 hi1 hg1
  refine ⟨fun m zs h' => ∃ (L : List Int) (f : Int → Option Int) (P : Int → List Int) (d : Nat) (v : Value), zs = [v] ∧ m = 2 * unv w f + (if L = [] then 0 else 1) ∧ BF w f P d L ∧ (Vis w f a → a ∈ L) ∧ (SG iE 3 v L * (MP r27 (fM f) * (own g * (B * tt)))) h',
    ⟨_, srt w.rootsL, fun _ => none, fun x => [x], 0, v31, rfl, rfl, BF.start (fun x => by rw [srt_mem, hroots]) (srt_rise hrnd), fun q => by rw [srt_mem, hroots]; rcases q with q | q; exact q; exact (q rfl).elim, hh6⟩, ?_⟩
  rintro m v7 h12 ⟨L, f, P, d, v, hzs, rfl, hF, hA, hh12⟩ _
  obtain rfl : v7 = v := by simpa using hzs
  have hlen7 := SG_len iE hh12
  have hLs := hF.small
  by_cases hL0 : L = []
  · subst hL0
    simp only [List.length_nil] at hlen7
    repeat (with_reducible first | refine vP_so ?_ | refine vB_t ?_ | refine vB_f ?_ | refine vE_tt ?_ | refine vE_ff ?_ | refine vE_tf ?_ | refine vE_ft ?_ | refine vE_u ?_ | refine vP_to (by simp (disch := omega) only [gdW_true, gdW_false, gB_true, gB_false, gB_undef, pickV_true, pickV_false, Bool.not_true, Bool.not_false, Option.map_some, bin_add, bin_sub, bin_mul, bin_quo, bin_rem, lss_t, lss_f, leq_t, leq_f, gtr_t, gtr_f, geq_t, geq_f, eqi_t, eqi_f, nei_t, nei_f, rem_uw, conv_ui, conv_iu, conv_ii, not_bool, nil_ptr, fa_mk, ptrV, len_mk, cap_mk, eq_ptr_nil, ne_ptr_nil, eq_nil_nil, ne_nil_nil, eq_slice_nil, eq_nil_slice, ia_1, hlen7]; exact so_so) ?_)
    exact hJ v7 h12 [] f P d hF (.inl ⟨rfl, fun q hq => by have := hA (hF.over hq); simp at this⟩) hh12
  have hLpos := List.length_pos_iff.2 hL0
  repeat (with_reducible first | refine vP_so ?_ | refine vB_t ?_ | refine vB_f ?_ | refine vE_tt ?_ | refine vE_ff ?_ | refine vE_tf ?_ | refine vE_ft ?_ | refine vE_u ?_ | refine vP_to (by simp (disch := omega) only [gdW_true, gdW_false, gB_true, gB_false, gB_undef, pickV_true, pickV_false, Bool.not_true, Bool.not_false, Option.map_some, bin_add, bin_sub, bin_mul, bin_quo, bin_rem, lss_t, lss_f, leq_t, leq_f, gtr_t, gtr_f, geq_t, geq_f, eqi_t, eqi_f, nei_t, nei_f, rem_uw, conv_ui, conv_iu, conv_ii, not_bool, nil_ptr, fa_mk, ptrV, len_mk, cap_mk, eq_ptr_nil, ne_ptr_nil, eq_nil_nil, ne_nil_nil, eq_slice_nil, eq_nil_slice, ia_1, hlen7]; exact so_so) ?_)
  refine ⟨fun m zs h' => ∃ (i : Nat) (v8 : Value), zs = [.int .i64 i, v8] ∧ m = L.length - i ∧ i ≤ L.length ∧ a ∉ L.take i ∧ (SG iE 3 v8 ((L.take i).filter fun x => (w.at x).isSome) * (SG iE 3 v7 L * (MP r27 (fM f) * (own g * (B * tt))))) h', ⟨_, 0, _, rfl, rfl, by omega, by simp, SG_nil iE hh12⟩, ?_⟩
  rintro m v37 v8 h13 ⟨i, v8', hzs, rfl, hi, hna, hh13⟩ _
  obtain ⟨rfl, rfl⟩ : v37 = .int .i64 i ∧ v8 = v8' := by simpa using hzs
  have hS7 : (SG iE 3 v7 L * (SG iE 3 v8 ((L.take i).filter fun x => (w.at x).isSome) * (MP r27 (fM f) * (own g * (B * tt))))) h13 := asr (by ac_rfl) hh13
  by_cases hil : i < L.length
  · obtain ⟨p, f1, f2, _⟩ := el1 hS7 (List.getElem?_eq_getElem hil) .i64
    have htk := List.take_succ_eq_append_getElem hil
    have hxL : L[i] ∈ L := List.getElem_mem hil
    have hfl : ((L.take i).filter fun x => (w.at x).isSome).length ≤ i := Nat.le_trans (List.length_filter_le ..) (by rw [List.length_take]; omega)
    generalize L[i] = x at *
    repeat (with_reducible first | refine vP_so ?_ | refine vB_t ?_ | refine vB_f ?_ | refine vE_tt ?_ | refine vE_ff ?_ | refine vE_tf ?_ | refine vE_ft ?_ | refine vE_u ?_ | refine vP_to (by simp (disch := omega) only [gdW_true, gdW_false, gB_true, gB_false, gB_undef, pickV_true, pickV_false, Bool.not_true, Bool.not_false, Option.map_some, bin_add, bin_sub, bin_mul, bin_quo, bin_rem, lss_t, lss_f, leq_t, leq_f, gtr_t, gtr_f, geq_t, geq_f, eqi_t, eqi_f, nei_t, nei_f, rem_uw, conv_ui, conv_iu, conv_ii, not_bool, nil_ptr, fa_mk, ptrV, len_mk, cap_mk, eq_ptr_nil, ne_ptr_nil, eq_nil_nil, ne_nil_nil, eq_slice_nil, eq_nil_slice, ia_1, f1, f2]; exact so_so) ?_)
    intro J5 hJ5
    have hJ5' : ∀ v8' h', (SG iE 3 v8' ((L.take (i + 1)).filter fun x => (w.at x).isSome) * (SG iE 3 v7 L * (MP r27 (fM f) * (own g * (B * tt))))) h' → J5 [v8'] h' := fun v8' h' q => by
      refine hJ5 _ _ fun _ => ?_
      by_cases hxa : x = a
      · repeat (with_reducible first | refine vP_so ?_ | refine vB_t ?_ | refine vB_f ?_ | refine vE_tt ?_ | refine vE_ff ?_ | refine vE_tf ?_ | refine vE_ft ?_ | refine vE_u ?_ | refine vP_to (by simp (disch := omega) only [gdW_true, gdW_false, gB_true, gB_false, gB_undef, pickV_true, pickV_false, Bool.not_true, Bool.not_false, Option.map_some, bin_add, bin_sub, bin_mul, bin_quo, bin_rem, lss_t, lss_f, leq_t, leq_f, gtr_t, gtr_f, geq_t, geq_f, eqi_t, eqi_f, nei_t, nei_f, rem_uw, conv_ui, conv_iu, conv_ii, not_bool, nil_ptr, fa_mk, ptrV, len_mk, cap_mk, eq_ptr_nil, ne_ptr_nil, eq_nil_nil, ne_nil_nil, eq_slice_nil, eq_nil_slice, ia_1]; exact so_so) ?_)
        exact hJ v7 h' L f P d hF (.inr (hxa ▸ hxL)) (dropL (P := SG iE 3 v8' ((L.take (i + 1)).filter fun x => (w.at x).isSome)) (Q := SG iE 3 v7 L * (MP r27 (fM f) * (own g * B))) (asr (by ac_rfl) q) |> asr (by ac_rfl))
      · repeat (with_reducible first | refine vP_so ?_ | refine vB_t ?_ | refine vB_f ?_ | refine vE_tt ?_ | refine vE_ff ?_ | refine vE_tf ?_ | refine vE_ft ?_ | refine vE_u ?_ | refine vP_to (by simp (disch := omega) only [gdW_true, gdW_false, gB_true, gB_false, gB_undef, pickV_true, pickV_false, Bool.not_true, Bool.not_false, Option.map_some, bin_add, bin_sub, bin_mul, bin_quo, bin_rem, lss_t, lss_f, leq_t, leq_f, gtr_t, gtr_f, geq_t, geq_f, eqi_t, eqi_f, nei_t, nei_f, rem_uw, conv_ui, conv_iu, conv_ii, not_bool, nil_ptr, fa_mk, ptrV, len_mk, cap_mk, eq_ptr_nil, ne_ptr_nil, eq_nil_nil, ne_nil_nil, eq_slice_nil, eq_nil_slice, ia_1]; exact so_so) ?_)
        refine ⟨L.length - (i + 1), by omega, i + 1, v8', by simp, rfl, by omega, ?_, q⟩
        rw [htk, List.mem_append]
        rintro (h | h)
        · exact hna h
        · simp at h; exact hxa h.symm
    have hla := (la (G := SG iE 3 v8 ((L.take i).filter fun x => (w.at x).isSome) * (SG iE 3 v7 L * MP r27 (fM f))) x (asr (by ac_rfl) hh13)).1
    rw [htk, List.filter_append] at hJ5'
    cases hat : w.at x with
    | none =>
      rw [hat] at hla
      have e : [x].filter (fun x => (w.at x).isSome) = [] := by simp [hat]
      rw [e, List.append_nil] at hJ5'
      simp only [Option.map_none, Option.getD_none, Option.isSome_none] at hla
      repeat (with_reducible first | refine vP_so ?_ | refine vB_t ?_ | refine vB_f ?_ | refine vE_tt ?_ | refine vE_ff ?_ | refine vE_tf ?_ | refine vE_ft ?_ | refine vE_u ?_ | refine vP_to (by simp (disch := omega) only [gdW_true, gdW_false, gB_true, gB_false, gB_undef, pickV_true, pickV_false, Bool.not_true, Bool.not_false, Option.map_some, bin_add, bin_sub, bin_mul, bin_quo, bin_rem, lss_t, lss_f, leq_t, leq_f, gtr_t, gtr_f, geq_t, geq_f, eqi_t, eqi_f, nei_t, nei_f, rem_uw, conv_ui, conv_iu, conv_ii, not_bool, nil_ptr, fa_mk, ptrV, len_mk, cap_mk, eq_ptr_nil, ne_ptr_nil, eq_nil_nil, ne_nil_nil, eq_slice_nil, eq_nil_slice, ia_1, hla, x0, x1]; exact so_so) ?_)
      exact hJ5' v8 h13 hh13
    | some k =>
      rw [hat] at hla
      have e : [x].filter (fun x => (w.at x).isSome) = [x] := by simp [hat]
      rw [e] at hJ5'
      simp only [Option.map_some, Option.getD_some, Option.isSome_some] at hla
      repeat (with_reducible first | refine vP_so ?_ | refine vB_t ?_ | refine vB_f ?_ | refine vE_tt ?_ | refine vE_ff ?_ | refine vE_tf ?_ | refine vE_ft ?_ | refine vE_u ?_ | refine vP_to (by simp (disch := omega) only [gdW_true, gdW_false, gB_true, gB_false, gB_undef, pickV_true, pickV_false, Bool.not_true, Bool.not_false, Option.map_some, bin_add, bin_sub, bin_mul, bin_quo, bin_rem, lss_t, lss_f, leq_t, leq_f, gtr_t, gtr_f, geq_t, geq_f, eqi_t, eqi_f, nei_t, nei_f, rem_uw, conv_ui, conv_iu, conv_ii, not_bool, nil_ptr, fa_mk, ptrV, len_mk, cap_mk, eq_ptr_nil, ne_ptr_nil, eq_nil_nil, ne_nil_nil, eq_slice_nil, eq_nil_slice, ia_1, hla, x0, x1, eb]; exact so_so) ?_)
      rw [eb]
      refine vA_new (f := fun r => .slice (some ⟨r, 0, none⟩) 1 1) hh13 fun r50 h15 hh15 => ?_
      refine ap_new iE (l := (L.take i).filter fun x => (w.at x).isSome) (m := [x]) (F := SG iE 3 v7 L * (MP r27 (fM f) * (own g * B))) elInt rfl rfl niInts rfl (by omega) (asr (by ac_rfl) hh15) rfl rfl (by simp only [List.length_singleton]; omega) fun v51 h16 hh16 => ?_
      exact hJ5' v51 h16 (asr (by ac_rfl) hh16)
  obtain rfl : i = L.length := by omega
  rw [List.take_length] at hh13 hna
  have hnv : ¬ Vis w f a := fun q => hna (hA q)
  have hlen8 := SG_len iE hh13
  have hTlen : (L.filter fun x => (w.at x).isSome).length ≤ 1000000 := Nat.le_trans (List.length_filter_le ..) (by omega)
  obtain ⟨T, hT⟩ : ∃ T, T = L.filter fun x => (w.at x).isSome := ⟨_, rfl⟩
  rw [← hT] at hh13 hlen8 hTlen
  repeat (with_reducible first | refine vP_so ?_ | refine vB_t ?_ | refine vB_f ?_ | refine vE_tt ?_ | refine vE_ff ?_ | refine vE_tf ?_ | refine vE_ft ?_ | refine vE_u ?_ | refine vP_to (by simp (disch := omega) only [gdW_true, gdW_false, gB_true, gB_false, gB_undef, pickV_true, pickV_false, Bool.not_true, Bool.not_false, Option.map_some, bin_add, bin_sub, bin_mul, bin_quo, bin_rem, lss_t, lss_f, leq_t, leq_f, gtr_t, gtr_f, geq_t, geq_f, eqi_t, eqi_f, nei_t, nei_f, rem_uw, conv_ui, conv_iu, conv_ii, not_bool, nil_ptr, fa_mk, ptrV, len_mk, cap_mk, eq_ptr_nil, ne_ptr_nil, eq_nil_nil, ne_nil_nil, eq_slice_nil, eq_nil_slice, ia_1, hlen8]; exact so_so) ?_)
  refine ⟨fun m zs h' => ∃ (j : Nat) (v13 : Value) (N : List Int) (f' : Int → Option Int) (P' : Int → List Int), zs = [v13, .int .i64 j] ∧ m = T.length - j ∧ j ≤ T.length ∧ (∀ c, BN w f P d L (T.take j) c [] N f' P') ∧ (SG iE 3 v13 N * (SG iE 3 v8 T * (SG iE 3 v7 L * (MP r27 (fM f') * (own g * (B * tt)))))) h',
    ⟨_, 0, _, [], f, P, rfl, rfl, by omega, fun c => hF.begin, SG_nil iE hh13⟩, ?_⟩
  rintro m v13 v58 h17 ⟨j, v13', N, f', P', hzs, rfl, hj, hBN, hh17⟩ _
  obtain ⟨rfl, rfl⟩ : v13 = v13' ∧ v58 = .int .i64 j := by simpa using hzs
  by_cases hjl : j < T.length
  · have hS8 : (SG iE 3 v8 T * (SG iE 3 v13 N * (SG iE 3 v7 L * (MP r27 (fM f') * (own g * (B * tt)))))) h17 := asr (by ac_rfl) hh17
    obtain ⟨p, f1, f2, _⟩ := el1 hS8 (List.getElem?_eq_getElem hjl) .i64
    have htk := List.take_succ_eq_append_getElem hjl
    have hsp : T = T.take j ++ T[j] :: T.drop (j + 1) := by rw [← List.drop_eq_getElem_cons hjl, List.take_append_drop]
    have hcT : T[j] ∈ T := List.getElem_mem hjl
    generalize T[j] = c at *
    have hBN := hBN c
    have hcT : c ∈ L.filter fun x => (w.at x).isSome := hT ▸ hcT
    have hc1 := (List.mem_filter.1 hcT).2
    cases hat : w.at c with
    | none => rw [hat] at hc1; cases hc1
    | some k =>
    obtain ⟨o, hok, hoa⟩ := at_some hat
    have hom := List.mem_of_getElem? hok
    obtain ⟨b0, q0, e1, _, e3, _, _⟩ := (ow (G := SG iE 3 v8 T * (SG iE 3 v13 N * (SG iE 3 v7 L * MP r27 (fM f')))) (asr (by ac_rfl) hh17)).obj hok .i64
    have hla := (la (G := SG iE 3 v8 T * (SG iE 3 v13 N * (SG iE 3 v7 L * MP r27 (fM f')))) c (asr (by ac_rfl) hh17)).2
    have lo17 := lo (G := SG iE 3 v8 T * (SG iE 3 v13 N * (SG iE 3 v7 L * MP r27 (fM f')))) (asr (by ac_rfl) hh17)
    rw [hat] at hla
    simp only [Option.map_some, Option.getD_some] at hla
    repeat (with_reducible first | refine vP_so ?_ | refine vB_t ?_ | refine vB_f ?_ | refine vE_tt ?_ | refine vE_ff ?_ | refine vE_tf ?_ | refine vE_ft ?_ | refine vE_u ?_ | refine vP_to (by simp (disch := omega) only [gdW_true, gdW_false, gB_true, gB_false, gB_undef, pickV_true, pickV_false, Bool.not_true, Bool.not_false, Option.map_some, bin_add, bin_sub, bin_mul, bin_quo, bin_rem, lss_t, lss_f, leq_t, leq_f, gtr_t, gtr_f, geq_t, geq_f, eqi_t, eqi_f, nei_t, nei_f, rem_uw, conv_ui, conv_iu, conv_ii, not_bool, nil_ptr, fa_mk, ptrV, len_mk, cap_mk, eq_ptr_nil, ne_ptr_nil, eq_nil_nil, ne_nil_nil, eq_slice_nil, eq_nil_slice, ia_1, f1, f2, lo17, hla, e1, e3]; exact so_so) ?_)
    have hsl := slots_len hom
    refine use_svals (F := SG iE 3 v8 T * (SG iE 3 v13 N * (SG iE 3 v7 L * (MP r27 (fM f') * B)))) (hv.slots o hom) (by omega) (asr (by ac_rfl) hh17) fun v71 h19 hh19 => ?_
    have hh19 : (SG iE 3 v71 (srt o.slots) * (SG iE 3 v13 N * (SG iE 3 v8 T * (SG iE 3 v7 L * (MP r27 (fM f') * (own g * (B * tt))))))) h19 := asr (by ac_rfl) hh19
    have hsort := srt_sorted o.slots
    have hmem : ∀ x, x ∈ srt o.slots ↔ x ∈ o.slots := fun x => srt_mem
    have hslen : (srt o.slots).length ≤ 1000000 := by have : (srt o.slots).length = o.slots.length := List.length_mergeSort _; omega
    generalize srt o.slots = U at *
    have hlen71 := SG_len iE hh19
    have hedge : ∀ b, w.edge c b ↔ b ∈ U ∧ b ≠ 0 := fun b => by
      rw [hmem]
      constructor
      · rintro ⟨k', o', h1, h2, h3, h4⟩
        rw [hat] at h1; cases h1
        rw [hok] at h2; cases h2
        exact ⟨h3, h4⟩
      · rintro ⟨h3, h4⟩
        exact ⟨k, o, hat, hok, h3, h4⟩
    repeat (with_reducible first | refine vP_so ?_ | refine vB_t ?_ | refine vB_f ?_ | refine vE_tt ?_ | refine vE_ff ?_ | refine vE_tf ?_ | refine vE_ft ?_ | refine vE_u ?_ | refine vP_to (by simp (disch := omega) only [gdW_true, gdW_false, gB_true, gB_false, gB_undef, pickV_true, pickV_false, Bool.not_true, Bool.not_false, Option.map_some, bin_add, bin_sub, bin_mul, bin_quo, bin_rem, lss_t, lss_f, leq_t, leq_f, gtr_t, gtr_f, geq_t, geq_f, eqi_t, eqi_f, nei_t, nei_f, rem_uw, conv_ui, conv_iu, conv_ii, not_bool, nil_ptr, fa_mk, ptrV, len_mk, cap_mk, eq_ptr_nil, ne_ptr_nil, eq_nil_nil, ne_nil_nil, eq_slice_nil, eq_nil_slice, ia_1, hlen71]; exact so_so) ?_)
    refine ⟨fun m zs h' => ∃ (q : Nat) (v13 : Value) (N : List Int) (f' : Int → Option Int) (P' : Int → List Int), zs = [.int .i64 q, v13] ∧ m = U.length - q ∧ q ≤ U.length ∧ BN w f P d L (T.take j) c (U.take q) N f' P' ∧ (SG iE 3 v71 U * (SG iE 3 v13 N * (SG iE 3 v8 T * (SG iE 3 v7 L * (MP r27 (fM f') * (own g * (B * tt))))))) h',
      ⟨_, 0, v13, N, f', P', rfl, rfl, by omega, hBN, hh19⟩, ?_⟩
    clear hBN hh17 hh19 hS8 lo17 hla e1 e3 f1 f2 hS7 hlen7 hlen71
    clear hzs
    rintro m v73 v13 h20 ⟨q, v13', N, f', P', hzs, rfl, hq, hBN, hh20⟩ _
    obtain ⟨rfl, rfl⟩ : v73 = .int .i64 q ∧ v13 = v13' := by simpa using hzs
    by_cases hql : q < U.length
    · obtain ⟨p, f1, f2, _⟩ := el1 hh20 (List.getElem?_eq_getElem hql) .i64
      have htkU := List.take_succ_eq_append_getElem hql
      have hspU : U = U.take q ++ U[q] :: U.drop (q + 1) := by rw [← List.drop_eq_getElem_cons hql, List.take_append_drop]
      have hbU : U[q] ∈ U := List.getElem_mem hql
      have hNs := hBN.small
      generalize U[q] = b at *
      have hle : ∀ x ∈ U.take q, x ≤ b := by
        rw [hspU] at hsort
        exact fun x hx => (List.pairwise_append.1 hsort).2.2 x hx b (by simp)
      repeat (with_reducible first | refine vP_so ?_ | refine vB_t ?_ | refine vB_f ?_ | refine vE_tt ?_ | refine vE_ff ?_ | refine vE_tf ?_ | refine vE_ft ?_ | refine vE_u ?_ | refine vP_to (by simp (disch := omega) only [gdW_true, gdW_false, gB_true, gB_false, gB_undef, pickV_true, pickV_false, Bool.not_true, Bool.not_false, Option.map_some, bin_add, bin_sub, bin_mul, bin_quo, bin_rem, lss_t, lss_f, leq_t, leq_f, gtr_t, gtr_f, geq_t, geq_f, eqi_t, eqi_f, nei_t, nei_f, rem_uw, conv_ui, conv_iu, conv_ii, not_bool, nil_ptr, fa_mk, ptrV, len_mk, cap_mk, eq_ptr_nil, ne_ptr_nil, eq_nil_nil, ne_nil_nil, eq_slice_nil, eq_nil_slice, ia_1]; exact so_so) ?_)
      intro J8 hJ8
      have hJ8' : ∀ v13' N' f'' P'' h', BN w f P d L (T.take j) c (U.take (q + 1)) N' f'' P'' → (SG iE 3 v71 U * (SG iE 3 v13' N' * (SG iE 3 v8 T * (SG iE 3 v7 L * (MP r27 (fM f'') * (own g * (B * tt))))))) h' → J8 [v13'] h' := fun v13' N' f'' P'' h' b1 b2 => by
        refine hJ8 _ _ fun _ => ?_
        repeat (with_reducible first | refine vP_so ?_ | refine vB_t ?_ | refine vB_f ?_ | refine vE_tt ?_ | refine vE_ff ?_ | refine vE_tf ?_ | refine vE_ft ?_ | refine vE_u ?_ | refine vP_to (by simp (disch := omega) only [gdW_true, gdW_false, gB_true, gB_false, gB_undef, pickV_true, pickV_false, Bool.not_true, Bool.not_false, Option.map_some, bin_add, bin_sub, bin_mul, bin_quo, bin_rem, lss_t, lss_f, leq_t, leq_f, gtr_t, gtr_f, geq_t, geq_f, eqi_t, eqi_f, nei_t, nei_f, rem_uw, conv_ui, conv_iu, conv_ii, not_bool, nil_ptr, fa_mk, ptrV, len_mk, cap_mk, eq_ptr_nil, ne_ptr_nil, eq_nil_nil, ne_nil_nil, eq_slice_nil, eq_nil_slice, ia_1]; exact so_so) ?_)
        exact ⟨U.length - (q + 1), by omega, q + 1, v13', N', f'', P'', by simp, rfl, by omega, b1, b2⟩
      rw [htkU] at hJ8'
      have hlf := (lk_MP (k := b) mapII intU zInt (asr (by ac_rfl) hh20 : (MP r27 (fM f') * (SG iE 3 v71 U * (SG iE 3 v13 N * (SG iE 3 v8 T * (SG iE 3 v7 L * (own g * (B * tt))))))) h20)).2
      by_cases hb0 : b = 0
      · repeat (with_reducible first | refine vP_so ?_ | refine vB_t ?_ | refine vB_f ?_ | refine vE_tt ?_ | refine vE_ff ?_ | refine vE_tf ?_ | refine vE_ft ?_ | refine vE_u ?_ | refine vP_to (by simp (disch := omega) only [gdW_true, gdW_false, gB_true, gB_false, gB_undef, pickV_true, pickV_false, Bool.not_true, Bool.not_false, Option.map_some, bin_add, bin_sub, bin_mul, bin_quo, bin_rem, lss_t, lss_f, leq_t, leq_f, gtr_t, gtr_f, geq_t, geq_f, eqi_t, eqi_f, nei_t, nei_f, rem_uw, conv_ui, conv_iu, conv_ii, not_bool, nil_ptr, fa_mk, ptrV, len_mk, cap_mk, eq_ptr_nil, ne_ptr_nil, eq_nil_nil, ne_nil_nil, eq_slice_nil, eq_nil_slice, ia_1, f1, f2, hlf, x0, x1]; exact so_so) ?_)
        exact hJ8' v13 N f' P' h20 (hBN.skip (.inl hb0)) hh20
      cases hfb : f' b with
      | some y =>
        have e2 : fM f' b = some (.int .i64 y) := by unfold fM; rw [hfb]; rfl
        rw [e2] at hlf
        simp only [Option.getD_some, Option.isSome_some] at hlf
        repeat (with_reducible first | refine vP_so ?_ | refine vB_t ?_ | refine vB_f ?_ | refine vE_tt ?_ | refine vE_ff ?_ | refine vE_tf ?_ | refine vE_ft ?_ | refine vE_u ?_ | refine vP_to (by simp (disch := omega) only [gdW_true, gdW_false, gB_true, gB_false, gB_undef, pickV_true, pickV_false, Bool.not_true, Bool.not_false, Option.map_some, bin_add, bin_sub, bin_mul, bin_quo, bin_rem, lss_t, lss_f, leq_t, leq_f, gtr_t, gtr_f, geq_t, geq_f, eqi_t, eqi_f, nei_t, nei_f, rem_uw, conv_ui, conv_iu, conv_ii, not_bool, nil_ptr, fa_mk, ptrV, len_mk, cap_mk, eq_ptr_nil, ne_ptr_nil, eq_nil_nil, ne_nil_nil, eq_slice_nil, eq_nil_slice, ia_1, f1, f2, hlf, x0, x1]; exact so_so) ?_)
        exact hJ8' v13 N f' P' h20 (hBN.skip (.inr (.inr (by rw [hfb]; simp)))) hh20
      | none =>
        have e2 : fM f' b = none := by unfold fM; rw [hfb]; rfl
        rw [e2] at hlf
        simp only [Option.getD_none, Option.isSome_none] at hlf
        have lv20 := lv (G := SG iE 3 v71 U * (SG iE 3 v13 N * (SG iE 3 v8 T * (SG iE 3 v7 L * MP r27 (fM f'))))) (asr (by ac_rfl) hh20)
        repeat (with_reducible first | refine vP_so ?_ | refine vB_t ?_ | refine vB_f ?_ | refine vE_tt ?_ | refine vE_ff ?_ | refine vE_tf ?_ | refine vE_ft ?_ | refine vE_u ?_ | refine vP_to (by simp (disch := omega) only [gdW_true, gdW_false, gB_true, gB_false, gB_undef, pickV_true, pickV_false, Bool.not_true, Bool.not_false, Option.map_some, bin_add, bin_sub, bin_mul, bin_quo, bin_rem, lss_t, lss_f, leq_t, leq_f, gtr_t, gtr_f, geq_t, geq_f, eqi_t, eqi_f, nei_t, nei_f, rem_uw, conv_ui, conv_iu, conv_ii, not_bool, nil_ptr, fa_mk, ptrV, len_mk, cap_mk, eq_ptr_nil, ne_ptr_nil, eq_nil_nil, ne_nil_nil, eq_slice_nil, eq_nil_slice, ia_1, f1, f2, hlf, x0, x1, lv20]; exact so_so) ?_)
        refine use_roots (F := SG iE 3 v71 U * (SG iE 3 v13 N * (SG iE 3 v8 T * (SG iE 3 v7 L * (MP r27 (fM f') * B))))) hv hN (asr (by ac_rfl) hh20) fun v91 h22 hh22 => ?_
        have hir : IntsAt h22 v91 w.rootsL := SG_ints hh22
        have hh22 : (SG iE 3 v71 U * (SG iE 3 v13 N * (SG iE 3 v8 T * (SG iE 3 v7 L * (MP r27 (fM f') * (own g * (B * tt))))))) h22 := dropL (P := SG iE 3 v91 w.rootsL) (Q := SG iE 3 v71 U * (SG iE 3 v13 N * (SG iE 3 v8 T * (SG iE 3 v7 L * (MP r27 (fM f') * (own g * B)))))) (asr (by ac_rfl) hh22) |> asr (by ac_rfl)
        repeat (with_reducible first | refine vP_so ?_ | refine vB_t ?_ | refine vB_f ?_ | refine vE_tt ?_ | refine vE_ff ?_ | refine vE_tf ?_ | refine vE_ft ?_ | refine vE_u ?_ | refine vP_to (by simp (disch := omega) only [gdW_true, gdW_false, gB_true, gB_false, gB_undef, pickV_true, pickV_false, Bool.not_true, Bool.not_false, Option.map_some, bin_add, bin_sub, bin_mul, bin_quo, bin_rem, lss_t, lss_f, leq_t, leq_f, gtr_t, gtr_f, geq_t, geq_f, eqi_t, eqi_f, nei_t, nei_f, rem_uw, conv_ui, conv_iu, conv_ii, not_bool, nil_ptr, fa_mk, ptrV, len_mk, cap_mk, eq_ptr_nil, ne_ptr_nil, eq_nil_nil, ne_nil_nil, eq_slice_nil, eq_nil_slice, ia_1]; exact so_so) ?_)
        refine use_contains hir ?_
        by_cases hbr : b ∈ w.rootsL
        · rw [decide_eq_true hbr]
          repeat (with_reducible first | refine vP_so ?_ | refine vB_t ?_ | refine vB_f ?_ | refine vE_tt ?_ | refine vE_ff ?_ | refine vE_tf ?_ | refine vE_ft ?_ | refine vE_u ?_ | refine vP_to (by simp (disch := omega) only [gdW_true, gdW_false, gB_true, gB_false, gB_undef, pickV_true, pickV_false, Bool.not_true, Bool.not_false, Option.map_some, bin_add, bin_sub, bin_mul, bin_quo, bin_rem, lss_t, lss_f, leq_t, leq_f, gtr_t, gtr_f, geq_t, geq_f, eqi_t, eqi_f, nei_t, nei_f, rem_uw, conv_ui, conv_iu, conv_ii, not_bool, nil_ptr, fa_mk, ptrV, len_mk, cap_mk, eq_ptr_nil, ne_ptr_nil, eq_nil_nil, ne_nil_nil, eq_slice_nil, eq_nil_slice, ia_1]; exact so_so) ?_)
          exact hJ8' v13 N f' P' h22 (hBN.skip (.inr (.inl ((hroots b).1 hbr)))) hh22
        · rw [decide_eq_false hbr]
          have hnvb : ¬ Vis w f' b := by
            rintro (h | h)
            · exact hbr ((hroots b).2 h)
            · exact h hfb
          repeat (with_reducible first | refine vP_so ?_ | refine vB_t ?_ | refine vB_f ?_ | refine vE_tt ?_ | refine vE_ff ?_ | refine vE_tf ?_ | refine vE_ft ?_ | refine vE_u ?_ | refine vP_to (by simp (disch := omega) only [gdW_true, gdW_false, gB_true, gB_false, gB_undef, pickV_true, pickV_false, Bool.not_true, Bool.not_false, Option.map_some, bin_add, bin_sub, bin_mul, bin_quo, bin_rem, lss_t, lss_f, leq_t, leq_f, gtr_t, gtr_f, geq_t, geq_f, eqi_t, eqi_f, nei_t, nei_f, rem_uw, conv_ui, conv_iu, conv_ii, not_bool, nil_ptr, fa_mk, ptrV, len_mk, cap_mk, eq_ptr_nil, ne_ptr_nil, eq_nil_nil, ne_nil_nil, eq_slice_nil, eq_nil_slice, ia_1]; exact so_so) ?_)
          refine mu_MP mapII intU (asr (by ac_rfl) hh22 : (MP r27 (fM f') * (SG iE 3 v71 U * (SG iE 3 v13 N * (SG iE 3 v8 T * (SG iE 3 v7 L * (own g * (B * tt))))))) h22) fun h24 hh24 => ?_
          rw [fM_put] at hh24
          repeat (with_reducible first | refine vP_so ?_ | refine vB_t ?_ | refine vB_f ?_ | refine vE_tt ?_ | refine vE_ff ?_ | refine vE_tf ?_ | refine vE_ft ?_ | refine vE_u ?_ | refine vP_to (by simp (disch := omega) only [gdW_true, gdW_false, gB_true, gB_false, gB_undef, pickV_true, pickV_false, Bool.not_true, Bool.not_false, Option.map_some, bin_add, bin_sub, bin_mul, bin_quo, bin_rem, lss_t, lss_f, leq_t, leq_f, gtr_t, gtr_f, geq_t, geq_f, eqi_t, eqi_f, nei_t, nei_f, rem_uw, conv_ui, conv_iu, conv_ii, not_bool, nil_ptr, fa_mk, ptrV, len_mk, cap_mk, eq_ptr_nil, ne_ptr_nil, eq_nil_nil, ne_nil_nil, eq_slice_nil, eq_nil_slice, ia_1, eb]; exact so_so) ?_)
          rw [eb]
          refine vA_new (f := fun r => .slice (some ⟨r, 0, none⟩) 1 1) hh24 fun r101 h25 hh25 => ?_
          refine ap_new iE (l := N) (m := [b]) (F := MP r27 (fM fun x => if x = b then some c else f' x) * (SG iE 3 v71 U * (SG iE 3 v8 T * (SG iE 3 v7 L * (own g * B))))) elInt rfl rfl niInts rfl (by omega) (asr (by ac_rfl) hh25) rfl rfl (by simp only [List.length_singleton]; omega) fun v102 h26 hh26 => ?_
          exact hJ8' v102 (N ++ [b]) _ _ h26 (hBN.add (hT.symm.trans hsp) ((hedge b).2 ⟨hbU, hb0⟩) hle hnvb) (asr (by ac_rfl) hh26)
    · obtain rfl : q = U.length := by omega
      rw [List.take_length] at hBN
      repeat (with_reducible first | refine vP_so ?_ | refine vB_t ?_ | refine vB_f ?_ | refine vE_tt ?_ | refine vE_ff ?_ | refine vE_tf ?_ | refine vE_ft ?_ | refine vE_u ?_ | refine vP_to (by simp (disch := omega) only [gdW_true, gdW_false, gB_true, gB_false, gB_undef, pickV_true, pickV_false, Bool.not_true, Bool.not_false, Option.map_some, bin_add, bin_sub, bin_mul, bin_quo, bin_rem, lss_t, lss_f, leq_t, leq_f, gtr_t, gtr_f, geq_t, geq_f, eqi_t, eqi_f, nei_t, nei_f, rem_uw, conv_ui, conv_iu, conv_ii, not_bool, nil_ptr, fa_mk, ptrV, len_mk, cap_mk, eq_ptr_nil, ne_ptr_nil, eq_nil_nil, ne_nil_nil, eq_slice_nil, eq_nil_slice, ia_1]; exact so_so) ?_)
      refine ⟨T.length - (j + 1), by omega, j + 1, v13, N, f', P', by simp, rfl, by omega, fun c' => ?_, dropL (P := SG iE 3 v71 U) (Q := SG iE 3 v13 N * (SG iE 3 v8 T * (SG iE 3 v7 L * (MP r27 (fM f') * (own g * B))))) (asr (by ac_rfl) hh20) |> asr (by ac_rfl)⟩
      rw [htk]
      exact hBN.next fun x hx => ((hedge x).1 hx).1
  · obtain rfl : j = T.length := by omega
    repeat (with_reducible first | refine vP_so ?_ | refine vB_t ?_ | refine vB_f ?_ | refine vE_tt ?_ | refine vE_ff ?_ | refine vE_tf ?_ | refine vE_ft ?_ | refine vE_u ?_ | refine vP_to (by simp (disch := omega) only [gdW_true, gdW_false, gB_true, gB_false, gB_undef, pickV_true, pickV_false, Bool.not_true, Bool.not_false, Option.map_some, bin_add, bin_sub, bin_mul, bin_quo, bin_rem, lss_t, lss_f, leq_t, leq_f, gtr_t, gtr_f, geq_t, geq_f, eqi_t, eqi_f, nei_t, nei_f, rem_uw, conv_ui, conv_iu, conv_ii, not_bool, nil_ptr, fa_mk, ptrV, len_mk, cap_mk, eq_ptr_nil, ne_ptr_nil, eq_nil_nil, ne_nil_nil, eq_slice_nil, eq_nil_slice, ia_1]; exact so_so) ?_)
    have hBN := hBN 0
    rw [List.take_length, hT] at hBN
    refine ⟨2 * unv w f' + (if N = [] then 0 else 1), ?_, N, f', P', d + 1, v13, rfl, rfl, hBN.done, fun q => (hBN.new a).2 ⟨q, hnv⟩, dropL (P := SG iE 3 v8 T * SG iE 3 v7 L) (Q := SG iE 3 v13 N * (MP r27 (fM f') * (own g * B))) (asr (by ac_rfl) hh17) |> asr (by ac_rfl)⟩
    rw [if_neg hL0]
    by_cases hN0 : N = []
    · rw [if_pos hN0]
      have := hBN.unv_le hN0
      omega
    · rw [if_neg hN0]
      have := hBN.fewer hN0
      omega

end Go.Proofs
