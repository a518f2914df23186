/-
  Contracts of treadmillref29: Path.
-/
import Derived.Test.YtdcoflglkfbpcaaVt1
import Derived.Test.YtdcoflglkfbpcaaVb2
set_option linter.unusedVariables false
set_option linter.unusedSimpArgs false
set_option maxRecDepth 100000
set_option maxHeartbeats 4000000
namespace Go.Proofs
open Go.Sl

theorem fM_fv (f : Int → Option Int) (x : Int) : (fM f x).getD (.int .i64 0) = .int .i64 (fv f x) := by
  unfold fM fv
  cases f x <;> rfl

theorem rise_nodup {l : List Int} (h : Rise l) : l.Nodup := h.imp fun h e => by omega

/-- The best so far: of the roots that lead on, one of the nearest, the least of these. -/
def BestI (w : VW) (far : Int → Option Int) (T : List Int) (b : Int) : Prop :=
  (b = 0 ∧ ∀ x ∈ T, ¬ (w.root x ∧ fv far x ≠ 0)) ∨ (b ∈ T ∧ (w.root b ∧ fv far b ≠ 0) ∧ ∀ x ∈ T, w.root x ∧ fv far x ≠ 0 → fv far b ≤ fv far x ∧ (fv far x = fv far b → b ≤ x))

section
variable {w : VW} {far : Int → Option Int} {T : List Int} {b x : Int}

theorem BestI.skip (h : BestI w far T b) (hx : ¬ (w.root x ∧ fv far x ≠ 0)) : BestI w far (T ++ [x]) b := by
  rcases h with ⟨h1, h2⟩ | ⟨h1, h2, h3⟩
  · refine .inl ⟨h1, fun y hy => ?_⟩
    rcases List.mem_append.1 hy with hy | hy
    · exact h2 y hy
    · obtain rfl := List.mem_singleton.1 hy; exact hx
  · refine .inr ⟨by simp [h1], h2, fun y hy hq => ?_⟩
    rcases List.mem_append.1 hy with hy | hy
    · exact h3 y hy hq
    · obtain rfl := List.mem_singleton.1 hy; exact (hx hq).elim

theorem BestI.first (h : BestI w far T b) (h0 : b = 0) (hx : w.root x ∧ fv far x ≠ 0) : BestI w far (T ++ [x]) x := by
  refine .inr ⟨by simp, hx, fun y hy hq => ?_⟩
  rcases List.mem_append.1 hy with hy | hy
  · rcases h with ⟨_, h2⟩ | ⟨_, h2, _⟩
    · exact (h2 y hy hq).elim
    · exact (h2.1.2 h0).elim
  · obtain rfl := List.mem_singleton.1 hy; exact ⟨by omega, fun _ => by omega⟩

theorem BestI.less (h : BestI w far T b) (h0 : b ≠ 0) (hx : w.root x ∧ fv far x ≠ 0) (hl : fv far x < fv far b) : BestI w far (T ++ [x]) x := by
  obtain ⟨_, _, h3⟩ := h.resolve_left fun q => h0 q.1
  refine .inr ⟨by simp, hx, fun y hy hq => ?_⟩
  rcases List.mem_append.1 hy with hy | hy
  · have := (h3 y hy hq).1
    exact ⟨by omega, fun _ => by omega⟩
  · obtain rfl := List.mem_singleton.1 hy; exact ⟨by omega, fun _ => by omega⟩

theorem BestI.keep (h : BestI w far T b) (h0 : b ≠ 0) (hl : fv far b ≤ fv far x) (hr : ∀ y ∈ T, y < x) : BestI w far (T ++ [x]) b := by
  obtain ⟨h1, h2, h3⟩ := h.resolve_left fun q => h0 q.1
  refine .inr ⟨by simp [h1], h2, fun y hy hq => ?_⟩
  rcases List.mem_append.1 hy with hy | hy
  · exact h3 y hy hq
  · obtain rfl := List.mem_singleton.1 hy
    have := hr b h1
    exact ⟨hl, fun _ => by omega⟩

end

/-- The least so far of those that C holds of. -/
def NextI (C : Int → Prop) (T : List Int) (b : Int) : Prop := (b = 0 ∧ ∀ x ∈ T, ¬ C x) ∨ (b ∈ T ∧ C b ∧ ∀ x ∈ T, C x → b ≤ x)

section
variable {C : Int → Prop} {T : List Int} {b x : Int}

theorem NextI.skip (h : NextI C T b) (hx : ¬ C x) : NextI C (T ++ [x]) b := by
  rcases h with ⟨h1, h2⟩ | ⟨h1, h2, h3⟩
  · refine .inl ⟨h1, fun y hy => ?_⟩
    rcases List.mem_append.1 hy with hy | hy
    · exact h2 y hy
    · obtain rfl := List.mem_singleton.1 hy; exact hx
  · refine .inr ⟨by simp [h1], h2, fun y hy hq => ?_⟩
    rcases List.mem_append.1 hy with hy | hy
    · exact h3 y hy hq
    · obtain rfl := List.mem_singleton.1 hy; exact (hx hq).elim

theorem NextI.first (h : NextI (fun s => s ≠ 0 ∧ C s) T b) (h0 : b = 0) (hx : x ≠ 0 ∧ C x) : NextI (fun s => s ≠ 0 ∧ C s) (T ++ [x]) x := by
  refine .inr ⟨by simp, hx, fun y hy hq => ?_⟩
  rcases List.mem_append.1 hy with hy | hy
  · rcases h with ⟨_, h2⟩ | ⟨_, h2, _⟩
    · exact (h2 y hy hq).elim
    · exact (h2.1 h0).elim
  · obtain rfl := List.mem_singleton.1 hy; omega

theorem NextI.less (h : NextI C T b) (h0 : b ≠ 0) (hx : C x) (hl : x < b) : NextI C (T ++ [x]) x := by
  obtain ⟨_, _, h3⟩ := h.resolve_left fun q => h0 q.1
  refine .inr ⟨by simp, hx, fun y hy hq => ?_⟩
  rcases List.mem_append.1 hy with hy | hy
  · have := h3 y hy hq
    omega
  · obtain rfl := List.mem_singleton.1 hy; omega

theorem NextI.keep (h : NextI C T b) (h0 : b ≠ 0) (hl : b ≤ x) : NextI C (T ++ [x]) b := by
  obtain ⟨h1, h2, h3⟩ := h.resolve_left fun q => h0 q.1
  refine .inr ⟨by simp [h1], h2, fun y hy hq => ?_⟩
  rcases List.mem_append.1 hy with hy | hy
  · exact h3 y hy hq
  · obtain rfl := List.mem_singleton.1 hy; exact hl

end

theorem use_rpath {g : Hp} {w : VW} {a : Int} {l : List Int} {F : Asrt} {K : Value → Hp → Prop} {h : Hp} (hv : VAt g w) (hs : Small w) (hP : PathL w a l) (hh : (own g * (F * tt)) h)
    (hK : ∀ v h', (SG iE 3 v l * (own g * (F * tt))) h' → K v h') : CallH Try.prog 16 #[w.val, .int .i64 a] K h := by
  refine C16 ?_
  unfold D16
  have eb : ∀ x : Int, bldV #[.int .i64 0] [(0, 1, .int .i64 x)] = some #[.int .i64 x] := fun _ => rfl
  have hN := hs.all
  refine vA_new (o := .cells w.cells 26 (0, 0)) hh fun r2 h1 hh1 => ?_
  obtain ⟨B, hB⟩ : ∃ B : Asrt, B = pt r2 (.cells w.cells 26 (0, 0)) * F := ⟨_, rfl⟩
  have hh1 : (own g * (B * tt)) h1 := by rw [hB]; exact asr (by ac_rfl) hh1
  have lv0 : ∀ {h}, (own g * (B * tt)) h → ldN 9 (.pointer (some ⟨r2, 0, none⟩)) h = some w.val := fun {h} q =>
    (vw_ld (r := r2) (w := w) (E := 26) (F := own g * (F * tt)) (asr (by rw [hB]; ac_rfl) q)).2.2.2.2.2.2.2.2.2
  have lv : ∀ {h} {G : Asrt}, (G * (own g * (B * tt))) h → ldN 9 (.pointer (some ⟨r2, 0, none⟩)) h = some w.val := fun {h G} q =>
    (vw_ld (r := r2) (w := w) (E := 26) (F := G * (own g * (F * tt))) (asr (by rw [hB]; ac_rfl) q)).2.2.2.2.2.2.2.2.2
  have lo : ∀ {h} {G : Asrt}, (G * (own g * (B * tt))) h → ld1 (.pointer (some ⟨r2, 0 + 5, none⟩)) h = some w.ov := fun {h G} q =>
    (vw_ld (r := r2) (w := w) (E := 26) (F := G * (own g * (F * tt))) (asr (by rw [hB]; ac_rfl) q)).2.2.2.2.2.1
  have ow : ∀ {h} {G : Asrt}, (G * (own g * (B * tt))) h → VAt h w := fun {h G} q => own_vat (F := G * (B * tt)) (asr (by ac_rfl) q) hv
  have fin : ∀ v h', (SG iE 3 v l * (own g * (B * tt))) h' → K v h' := fun v h' q => by
    rw [hB] at q
    exact hK v h' (dropL (P := pt r2 (.cells w.cells 26 (0, 0))) (Q := SG iE 3 v l * (own g * F)) (asr (by ac_rfl) q) |> asr (by ac_rfl))
  have nil : l = [] → ∀ h', (own g * (B * tt)) h' → K (.slice none 0 0) h' := fun e h' q => by
    subst e
    exact fin _ h' (SG_nil iE q)
  clear hK hh
  by_cases ha0 : a = 0
  · repeat (with_reducible first | refine vP_so ?_ | refine vB_t ?_ | refine vB_f ?_ | refine vE_tt ?_ | refine vE_ff ?_ | refine vE_tf ?_ | refine vE_ft ?_ | refine vE_u ?_ | refine vP_to (by simp (disch := omega) only [gdW_true, gdW_false, gB_true, gB_false, gB_undef, pickV_true, pickV_false, Bool.not_true, Bool.not_false, Option.map_some, bin_add, bin_sub, bin_mul, bin_quo, bin_rem, lss_t, lss_f, leq_t, leq_f, gtr_t, gtr_f, geq_t, geq_f, eqi_t, eqi_f, nei_t, nei_f, rem_uw, conv_ui, conv_iu, conv_ii, not_bool, nil_ptr, fa_mk, ptrV, len_mk, cap_mk, eq_ptr_nil, ne_ptr_nil, eq_nil_nil, ne_nil_nil, eq_slice_nil, eq_nil_slice, ia_1]; exact so_so) ?_)
    refine nil ?_ h1 hh1
    rcases hP with ⟨_, hb⟩ | ⟨e, _⟩
    · exact (hb.way.rch.ne ha0).elim
    · exact e
  repeat (with_reducible first | refine vP_so ?_ | refine vB_t ?_ | refine vB_f ?_ | refine vE_tt ?_ | refine vE_ff ?_ | refine vE_tf ?_ | refine vE_ft ?_ | refine vE_u ?_ | refine vP_to (by simp (disch := omega) only [gdW_true, gdW_false, gB_true, gB_false, gB_undef, pickV_true, pickV_false, Bool.not_true, Bool.not_false, Option.map_some, bin_add, bin_sub, bin_mul, bin_quo, bin_rem, lss_t, lss_f, leq_t, leq_f, gtr_t, gtr_f, geq_t, geq_f, eqi_t, eqi_f, nei_t, nei_f, rem_uw, conv_ui, conv_iu, conv_ii, not_bool, nil_ptr, fa_mk, ptrV, len_mk, cap_mk, eq_ptr_nil, ne_ptr_nil, eq_nil_nil, ne_nil_nil, eq_slice_nil, eq_nil_slice, ia_1, lv0 hh1]; exact so_so) ?_)
  refine use_rfind hv hh1 fun h2 hh2 => ?_
  cases hat : w.at a with
  | none =>
    have hf : findV w a = -1 := by unfold findV; rw [hat]
    rw [hf]
    repeat (with_reducible first | refine vP_so ?_ | refine vB_t ?_ | refine vB_f ?_ | refine vE_tt ?_ | refine vE_ff ?_ | refine vE_tf ?_ | refine vE_ft ?_ | refine vE_u ?_ | refine vP_to (by simp (disch := omega) only [gdW_true, gdW_false, gB_true, gB_false, gB_undef, pickV_true, pickV_false, Bool.not_true, Bool.not_false, Option.map_some, bin_add, bin_sub, bin_mul, bin_quo, bin_rem, lss_t, lss_f, leq_t, leq_f, gtr_t, gtr_f, geq_t, geq_f, eqi_t, eqi_f, nei_t, nei_f, rem_uw, conv_ui, conv_iu, conv_ii, not_bool, nil_ptr, fa_mk, ptrV, len_mk, cap_mk, eq_ptr_nil, ne_ptr_nil, eq_nil_nil, ne_nil_nil, eq_slice_nil, eq_nil_slice, ia_1]; exact so_so) ?_)
    refine nil ?_ h2 hh2
    rcases hP with ⟨q, _⟩ | ⟨e, _⟩
    · exact (q hat).elim
    · exact e
  | some k0 =>
  have hf : findV w a = k0 := by unfold findV; rw [hat]
  rw [hf]
  repeat (with_reducible first | refine vP_so ?_ | refine vB_t ?_ | refine vB_f ?_ | refine vE_tt ?_ | refine vE_ff ?_ | refine vE_tf ?_ | refine vE_ft ?_ | refine vE_u ?_ | refine vP_to (by simp (disch := omega) only [gdW_true, gdW_false, gB_true, gB_false, gB_undef, pickV_true, pickV_false, Bool.not_true, Bool.not_false, Option.map_some, bin_add, bin_sub, bin_mul, bin_quo, bin_rem, lss_t, lss_f, leq_t, leq_f, gtr_t, gtr_f, geq_t, geq_f, eqi_t, eqi_f, nei_t, nei_f, rem_uw, conv_ui, conv_iu, conv_ii, not_bool, nil_ptr, fa_mk, ptrV, len_mk, cap_mk, eq_ptr_nil, ne_ptr_nil, eq_nil_nil, ne_nil_nil, eq_slice_nil, eq_nil_slice, ia_1, lv0 hh2]; exact so_so) ?_)
  refine use_rreach hv hs hh2 fun v30 R h3 hR nR hh3 => ?_
  have hiR : IntsAt h3 v30 R := SG_ints hh3
  have hh3 : (own g * (B * tt)) h3 := dropL (P := SG iE 3 v30 R) (Q := own g * B) (asr (by ac_rfl) hh3) |> asr (by ac_rfl)
  repeat (with_reducible first | refine vP_so ?_ | refine vB_t ?_ | refine vB_f ?_ | refine vE_tt ?_ | refine vE_ff ?_ | refine vE_tf ?_ | refine vE_ft ?_ | refine vE_u ?_ | refine vP_to (by simp (disch := omega) only [gdW_true, gdW_false, gB_true, gB_false, gB_undef, pickV_true, pickV_false, Bool.not_true, Bool.not_false, Option.map_some, bin_add, bin_sub, bin_mul, bin_quo, bin_rem, lss_t, lss_f, leq_t, leq_f, gtr_t, gtr_f, geq_t, geq_f, eqi_t, eqi_f, nei_t, nei_f, rem_uw, conv_ui, conv_iu, conv_ii, not_bool, nil_ptr, fa_mk, ptrV, len_mk, cap_mk, eq_ptr_nil, ne_ptr_nil, eq_nil_nil, ne_nil_nil, eq_slice_nil, eq_nil_slice, ia_1]; exact so_so) ?_)
  refine use_has hiR ?_
  by_cases haR : a ∉ R
  · rw [decide_eq_false haR]
    repeat (with_reducible first | refine vP_so ?_ | refine vB_t ?_ | refine vB_f ?_ | refine vE_tt ?_ | refine vE_ff ?_ | refine vE_tf ?_ | refine vE_ft ?_ | refine vE_u ?_ | refine vP_to (by simp (disch := omega) only [gdW_true, gdW_false, gB_true, gB_false, gB_undef, pickV_true, pickV_false, Bool.not_true, Bool.not_false, Option.map_some, bin_add, bin_sub, bin_mul, bin_quo, bin_rem, lss_t, lss_f, leq_t, leq_f, gtr_t, gtr_f, geq_t, geq_f, eqi_t, eqi_f, nei_t, nei_f, rem_uw, conv_ui, conv_iu, conv_ii, not_bool, nil_ptr, fa_mk, ptrV, len_mk, cap_mk, eq_ptr_nil, ne_ptr_nil, eq_nil_nil, ne_nil_nil, eq_slice_nil, eq_nil_slice, ia_1]; exact so_so) ?_)
    refine nil ?_ h3 hh3
    rcases hP with ⟨_, hb⟩ | ⟨e, _⟩
    · exact (haR ((hR.2 a).2 ⟨hb.way.rch, by rw [hat]; rfl⟩)).elim
    · exact e
  have haR : a ∈ R := Classical.not_not.1 haR
  rw [decide_eq_true haR]
  have hBest : Best w l a := by
    rcases hP with ⟨_, hb⟩ | ⟨_, q | q⟩
    · exact hb
    · rw [hat] at q; cases q
    · obtain ⟨p, hp⟩ := ((hR.2 a).1 haR).1.way
      exact (q p hp).elim
  have hRA : RA w a R := ⟨hR.2, hR.1, haR⟩
  repeat (with_reducible first | refine vP_so ?_ | refine vB_t ?_ | refine vB_f ?_ | refine vE_tt ?_ | refine vE_ff ?_ | refine vE_tf ?_ | refine vE_ft ?_ | refine vE_u ?_ | refine vP_to (by simp (disch := omega) only [gdW_true, gdW_false, gB_true, gB_false, gB_undef, pickV_true, pickV_false, Bool.not_true, Bool.not_false, Option.map_some, bin_add, bin_sub, bin_mul, bin_quo, bin_rem, lss_t, lss_f, leq_t, leq_f, gtr_t, gtr_f, geq_t, geq_f, eqi_t, eqi_f, nei_t, nei_f, rem_uw, conv_ui, conv_iu, conv_ii, not_bool, nil_ptr, fa_mk, ptrV, len_mk, cap_mk, eq_ptr_nil, ne_ptr_nil, eq_nil_nil, ne_nil_nil, eq_slice_nil, eq_nil_slice, ia_1, lv0 hh3]; exact so_so) ?_)
  refine use_rreach hv hs hh3 fun v36 R' h5 hR' _ hh5 => ?_
  obtain rfl : R' = R := Rise_ext hR'.1 hR.1 fun x => by rw [hR'.2, hR.2]
  refine vA_new (f := fun r => .map (some r)) hh5 fun r37 h6 hh6 => ?_
  have hh6 := MP_new hh6
  refine mu_MP mapII intU hh6 fun h7 hh7 => ?_
  have e0 : (fun x => if x = a then some (Value.int .i64 1) else (none : Option Value)) = fM (fun x => if x = a then some 1 else none) := fM_put (fun _ => none) a 1
  rw [e0] at hh7
  have hh7 : (SG iE 3 v36 R' * (MP r37 (fM fun x => if x = a then some 1 else none) * (own g * (B * tt)))) h7 := asr (by ac_rfl) hh7
  have lk : ∀ {h} {G : Asrt} {f : Int → Option Int} (x : Int), (G * (MP r37 (fM f) * (own g * (B * tt)))) h → lkV Try.prog 51 (.map (some r37)) (.int .i64 x) false h = some (.int .i64 (fv f x)) := fun {h G f} x q => by
    rw [← fM_fv]
    exact (lk_MP (k := x) mapII intU zInt (asr (by ac_rfl) q : (MP r37 (fM f) * (G * (own g * (B * tt)))) h)).1
  have hnd := rise_nodup hRA.rise
  have hatR : ∀ x ∈ R', ∃ (k : Nat) (o : Ob), w.at x = some k ∧ findV w x = k ∧ w.objs[k]? = some o ∧ o ∈ w.objs := fun x hx => by
    have := ((hR.2 x).1 hx).2
    cases hq : w.at x with
    | none => rw [hq] at this; cases this
    | some k =>
      obtain ⟨o, ho, _⟩ := at_some hq
      exact ⟨k, o, rfl, by unfold findV; rw [hq], ho, List.mem_of_getElem? ho⟩
  clear hh6 hh5 hh3 hh2 hh1 hiR hP
  refine ⟨fun m zs h' => ∃ (d : Nat) (far : Int → Option Int), zs = [.int .i64 d] ∧ m = R'.length + 1 - d ∧ 1 ≤ d ∧ d ≤ R'.length + 1 ∧ FarI w a R' d far ∧ (SG iE 3 v36 R' * (MP r37 (fM far) * (own g * (B * tt)))) h', ⟨_, 1, _, rfl, rfl, by omega, by omega, FarI.start hRA, hh7⟩, ?_⟩
  clear hh7
  rintro m v7 h8 ⟨d, far, hzs, rfl, hd1, hd2, hI, hh8⟩ _
  obtain rfl : v7 = .int .i64 d := by simpa using hzs
  have hlenR := SG_len iE hh8
  by_cases hdl : d ≤ R'.length
  · repeat (with_reducible first | refine vP_so ?_ | refine vB_t ?_ | refine vB_f ?_ | refine vE_tt ?_ | refine vE_ff ?_ | refine vE_tf ?_ | refine vE_ft ?_ | refine vE_u ?_ | refine vP_to (by simp (disch := omega) only [gdW_true, gdW_false, gB_true, gB_false, gB_undef, pickV_true, pickV_false, Bool.not_true, Bool.not_false, Option.map_some, bin_add, bin_sub, bin_mul, bin_quo, bin_rem, lss_t, lss_f, leq_t, leq_f, gtr_t, gtr_f, geq_t, geq_f, eqi_t, eqi_f, nei_t, nei_f, rem_uw, conv_ui, conv_iu, conv_ii, not_bool, nil_ptr, fa_mk, ptrV, len_mk, cap_mk, eq_ptr_nil, ne_ptr_nil, eq_nil_nil, ne_nil_nil, eq_slice_nil, eq_nil_slice, ia_1, hlenR]; exact so_so) ?_)
    refine ⟨fun m zs h' => ∃ (i : Nat) (far' : Int → Option Int), zs = [.int .i64 i] ∧ m = R'.length - i ∧ i ≤ R'.length ∧ FarR w a R' d far (R'.take i) far' ∧ (SG iE 3 v36 R' * (MP r37 (fM far') * (own g * (B * tt)))) h', ⟨_, 0, far, rfl, rfl, by omega, FarR.begin, hh8⟩, ?_⟩
    clear hh8 hzs
    rintro m v8 h9 ⟨i, far', hzs, rfl, hi, hFR, hh9⟩ _
    obtain rfl : v8 = .int .i64 i := by simpa using hzs
    by_cases hil : i < R'.length
    · obtain ⟨p, f1, f2, _⟩ := el1 hh9 (List.getElem?_eq_getElem hil) .i64
      have htk := List.take_succ_eq_append_getElem hil
      have hxR := List.getElem_mem hil
      generalize R'[i] = x at *
      repeat (with_reducible first | refine vP_so ?_ | refine vB_t ?_ | refine vB_f ?_ | refine vE_tt ?_ | refine vE_ff ?_ | refine vE_tf ?_ | refine vE_ft ?_ | refine vE_u ?_ | refine vP_to (by simp (disch := omega) only [gdW_true, gdW_false, gB_true, gB_false, gB_undef, pickV_true, pickV_false, Bool.not_true, Bool.not_false, Option.map_some, bin_add, bin_sub, bin_mul, bin_quo, bin_rem, lss_t, lss_f, leq_t, leq_f, gtr_t, gtr_f, geq_t, geq_f, eqi_t, eqi_f, nei_t, nei_f, rem_uw, conv_ui, conv_iu, conv_ii, not_bool, nil_ptr, fa_mk, ptrV, len_mk, cap_mk, eq_ptr_nil, ne_ptr_nil, eq_nil_nil, ne_nil_nil, eq_slice_nil, eq_nil_slice, ia_1, hlenR]; exact so_so) ?_)
      intro J3 hJ3
      have hJ : ∀ far'' h', FarR w a R' d far (R'.take i ++ [x]) far'' → (SG iE 3 v36 R' * (MP r37 (fM far'') * (own g * (B * tt)))) h' → J3 [] h' := fun far'' h' b1 b2 => by
        refine hJ3 _ fun _ => ?_
        repeat (with_reducible first | refine vP_so ?_ | refine vB_t ?_ | refine vB_f ?_ | refine vE_tt ?_ | refine vE_ff ?_ | refine vE_tf ?_ | refine vE_ft ?_ | refine vE_u ?_ | refine vP_to (by simp (disch := omega) only [gdW_true, gdW_false, gB_true, gB_false, gB_undef, pickV_true, pickV_false, Bool.not_true, Bool.not_false, Option.map_some, bin_add, bin_sub, bin_mul, bin_quo, bin_rem, lss_t, lss_f, leq_t, leq_f, gtr_t, gtr_f, geq_t, geq_f, eqi_t, eqi_f, nei_t, nei_f, rem_uw, conv_ui, conv_iu, conv_ii, not_bool, nil_ptr, fa_mk, ptrV, len_mk, cap_mk, eq_ptr_nil, ne_ptr_nil, eq_nil_nil, ne_nil_nil, eq_slice_nil, eq_nil_slice, ia_1]; exact so_so) ?_)
        exact ⟨R'.length - (i + 1), by omega, i + 1, far'', by simp, rfl, by omega, htk ▸ b1, b2⟩
      have hlk := lk x hh9
      by_cases hx0 : fv far' x = 0
      · have hx00 : fv far x = 0 := by
          by_cases q : fv far x = 0
          · exact q
          · have := hFR.old x q; omega
        obtain ⟨k, o, c1, c2, c3, c4⟩ := hatR x hxR
        have lo9 := lo (G := SG iE 3 v36 R' * MP r37 (fM far')) (asr (by ac_rfl) hh9)
        have lv9 := lv (G := SG iE 3 v36 R' * MP r37 (fM far')) (asr (by ac_rfl) hh9)
        repeat (with_reducible first | refine vP_so ?_ | refine vB_t ?_ | refine vB_f ?_ | refine vE_tt ?_ | refine vE_ff ?_ | refine vE_tf ?_ | refine vE_ft ?_ | refine vE_u ?_ | refine vP_to (by simp (disch := omega) only [gdW_true, gdW_false, gB_true, gB_false, gB_undef, pickV_true, pickV_false, Bool.not_true, Bool.not_false, Option.map_some, bin_add, bin_sub, bin_mul, bin_quo, bin_rem, lss_t, lss_f, leq_t, leq_f, gtr_t, gtr_f, geq_t, geq_f, eqi_t, eqi_f, nei_t, nei_f, rem_uw, conv_ui, conv_iu, conv_ii, not_bool, nil_ptr, fa_mk, ptrV, len_mk, cap_mk, eq_ptr_nil, ne_ptr_nil, eq_nil_nil, ne_nil_nil, eq_slice_nil, eq_nil_slice, ia_1, f1, f2, hlk, lo9, lv9]; exact so_so) ?_)
        refine use_rfind (F := SG iE 3 v36 R' * (MP r37 (fM far') * B)) hv (asr (by ac_rfl) hh9) fun h11 hh11 => ?_
        rw [c2]
        have hh11 : (SG iE 3 v36 R' * (MP r37 (fM far') * (own g * (B * tt)))) h11 := asr (by ac_rfl) hh11
        have lo11 := lo (G := SG iE 3 v36 R' * MP r37 (fM far')) (asr (by ac_rfl) hh11)
        obtain ⟨b0, q0, e1, _, e3, _, _⟩ := (ow (G := SG iE 3 v36 R' * MP r37 (fM far')) (asr (by ac_rfl) hh11)).obj c3 .i64
        have hsl := hv.slots o c4
        have lenS := hsl.len
        have ltS := hsl.lt
        refine ⟨lo11, ?_⟩
        repeat (with_reducible first | refine vP_so ?_ | refine vB_t ?_ | refine vB_f ?_ | refine vE_tt ?_ | refine vE_ff ?_ | refine vE_tf ?_ | refine vE_ft ?_ | refine vE_u ?_ | refine vP_to (by simp (disch := omega) only [gdW_true, gdW_false, gB_true, gB_false, gB_undef, pickV_true, pickV_false, Bool.not_true, Bool.not_false, Option.map_some, bin_add, bin_sub, bin_mul, bin_quo, bin_rem, lss_t, lss_f, leq_t, leq_f, gtr_t, gtr_f, geq_t, geq_f, eqi_t, eqi_f, nei_t, nei_f, rem_uw, conv_ui, conv_iu, conv_ii, not_bool, nil_ptr, fa_mk, ptrV, len_mk, cap_mk, eq_ptr_nil, ne_ptr_nil, eq_nil_nil, ne_nil_nil, eq_slice_nil, eq_nil_slice, ia_1, e1, e3]; exact so_so) ?_)
        refine ⟨fun m zs h' => ∃ (j : Nat) (far' : Int → Option Int), zs = [.int .i64 j] ∧ m = o.slots.length - j ∧ j ≤ o.slots.length ∧ FarR w a R' d far (R'.take i) far' ∧ (fv far' x ≠ 0 ∨ ∀ y ∈ o.slots.take j, y ≠ 0 → fv far y ≠ d) ∧ (SG iE 3 v36 R' * (MP r37 (fM far') * (own g * (B * tt)))) h', ⟨_, 0, far', rfl, rfl, by omega, hFR, .inr (by simp), hh11⟩, ?_⟩
        clear hFR hx0 hlk hh9 hh11 lo9 lv9 lo11 f1 f2 e1 e3 hzs
        rintro m v11 h12 ⟨j, far', hzs, rfl, hj, hFR, hst, hh12⟩ _
        obtain rfl : v11 = .int .i64 j := by simpa using hzs
        have hsl12 : IntsAt h12 o.sv o.slots := own_ints (F := SG iE 3 v36 R' * (MP r37 (fM far') * (B * tt))) (asr (by ac_rfl) hh12) hsl
        by_cases hjl : j < o.slots.length
        · obtain ⟨p2, g1, g2⟩ := hsl12.get j _ .i64 (List.getElem?_eq_getElem hjl)
          have htkS := List.take_succ_eq_append_getElem hjl
          have hys := List.getElem_mem hjl
          generalize o.slots[j] = y at *
          repeat (with_reducible first | refine vP_so ?_ | refine vB_t ?_ | refine vB_f ?_ | refine vE_tt ?_ | refine vE_ff ?_ | refine vE_tf ?_ | refine vE_ft ?_ | refine vE_u ?_ | refine vP_to (by simp (disch := omega) only [gdW_true, gdW_false, gB_true, gB_false, gB_undef, pickV_true, pickV_false, Bool.not_true, Bool.not_false, Option.map_some, bin_add, bin_sub, bin_mul, bin_quo, bin_rem, lss_t, lss_f, leq_t, leq_f, gtr_t, gtr_f, geq_t, geq_f, eqi_t, eqi_f, nei_t, nei_f, rem_uw, conv_ui, conv_iu, conv_ii, not_bool, nil_ptr, fa_mk, ptrV, len_mk, cap_mk, eq_ptr_nil, ne_ptr_nil, eq_nil_nil, ne_nil_nil, eq_slice_nil, eq_nil_slice, ia_1, lenS]; exact so_so) ?_)
          intro J5 hJ5
          have hJ' : ∀ far'' h', FarR w a R' d far (R'.take i) far'' → (fv far'' x ≠ 0 ∨ ∀ y' ∈ o.slots.take j ++ [y], y' ≠ 0 → fv far y' ≠ d) → (SG iE 3 v36 R' * (MP r37 (fM far'') * (own g * (B * tt)))) h' → J5 [] h' := fun far'' h' b1 b2 b3 => by
            refine hJ5 _ fun _ => ?_
            repeat (with_reducible first | refine vP_so ?_ | refine vB_t ?_ | refine vB_f ?_ | refine vE_tt ?_ | refine vE_ff ?_ | refine vE_tf ?_ | refine vE_ft ?_ | refine vE_u ?_ | refine vP_to (by simp (disch := omega) only [gdW_true, gdW_false, gB_true, gB_false, gB_undef, pickV_true, pickV_false, Bool.not_true, Bool.not_false, Option.map_some, bin_add, bin_sub, bin_mul, bin_quo, bin_rem, lss_t, lss_f, leq_t, leq_f, gtr_t, gtr_f, geq_t, geq_f, eqi_t, eqi_f, nei_t, nei_f, rem_uw, conv_ui, conv_iu, conv_ii, not_bool, nil_ptr, fa_mk, ptrV, len_mk, cap_mk, eq_ptr_nil, ne_ptr_nil, eq_nil_nil, ne_nil_nil, eq_slice_nil, eq_nil_slice, ia_1]; exact so_so) ?_)
            exact ⟨o.slots.length - (j + 1), by omega, j + 1, far'', by simp, rfl, by omega, b1, htkS ▸ b2, b3⟩
          have hlk := lk y hh12
          by_cases hyd : fv far' y = d
          · have hyd2 := (hFR.eqd hd1 y).1 hyd
            have hyR := (hI.iff y (by omega)).1
            have hy0 : y ≠ 0 := ((hR.2 y).1 hyR).1.ne
            have hi12 : IntsAt h12 v36 R' := SG_ints hh12
            repeat (with_reducible first | refine vP_so ?_ | refine vB_t ?_ | refine vB_f ?_ | refine vE_tt ?_ | refine vE_ff ?_ | refine vE_tf ?_ | refine vE_ft ?_ | refine vE_u ?_ | refine vP_to (by simp (disch := omega) only [gdW_true, gdW_false, gB_true, gB_false, gB_undef, pickV_true, pickV_false, Bool.not_true, Bool.not_false, Option.map_some, bin_add, bin_sub, bin_mul, bin_quo, bin_rem, lss_t, lss_f, leq_t, leq_f, gtr_t, gtr_f, geq_t, geq_f, eqi_t, eqi_f, nei_t, nei_f, rem_uw, conv_ui, conv_iu, conv_ii, not_bool, nil_ptr, fa_mk, ptrV, len_mk, cap_mk, eq_ptr_nil, ne_ptr_nil, eq_nil_nil, ne_nil_nil, eq_slice_nil, eq_nil_slice, ia_1, g1, g2, hlk]; exact so_so) ?_)
            refine use_has hi12 ?_
            rw [decide_eq_true hyR]
            repeat (with_reducible first | refine vP_so ?_ | refine vB_t ?_ | refine vB_f ?_ | refine vE_tt ?_ | refine vE_ff ?_ | refine vE_tf ?_ | refine vE_ft ?_ | refine vE_u ?_ | refine vP_to (by simp (disch := omega) only [gdW_true, gdW_false, gB_true, gB_false, gB_undef, pickV_true, pickV_false, Bool.not_true, Bool.not_false, Option.map_some, bin_add, bin_sub, bin_mul, bin_quo, bin_rem, lss_t, lss_f, leq_t, leq_f, gtr_t, gtr_f, geq_t, geq_f, eqi_t, eqi_f, nei_t, nei_f, rem_uw, conv_ui, conv_iu, conv_ii, not_bool, nil_ptr, fa_mk, ptrV, len_mk, cap_mk, eq_ptr_nil, ne_ptr_nil, eq_nil_nil, ne_nil_nil, eq_slice_nil, eq_nil_slice, ia_1]; exact so_so) ?_)
            refine mu_MP mapII intU (asr (by ac_rfl) hh12 : (MP r37 (fM far') * (SG iE 3 v36 R' * (own g * (B * tt)))) h12) fun h15 hh15 => ?_
            rw [fM_put] at hh15
            refine hJ' _ h15 (hFR.put hxR hx00 ⟨k, o, c1, c3, hys, hy0⟩ hyd2) (.inl ?_) (asr (by ac_rfl) hh15)
            simp only [fv, if_true, Option.getD_some]
            omega
          · repeat (with_reducible first | refine vP_so ?_ | refine vB_t ?_ | refine vB_f ?_ | refine vE_tt ?_ | refine vE_ff ?_ | refine vE_tf ?_ | refine vE_ft ?_ | refine vE_u ?_ | refine vP_to (by simp (disch := omega) only [gdW_true, gdW_false, gB_true, gB_false, gB_undef, pickV_true, pickV_false, Bool.not_true, Bool.not_false, Option.map_some, bin_add, bin_sub, bin_mul, bin_quo, bin_rem, lss_t, lss_f, leq_t, leq_f, gtr_t, gtr_f, geq_t, geq_f, eqi_t, eqi_f, nei_t, nei_f, rem_uw, conv_ui, conv_iu, conv_ii, not_bool, nil_ptr, fa_mk, ptrV, len_mk, cap_mk, eq_ptr_nil, ne_ptr_nil, eq_nil_nil, ne_nil_nil, eq_slice_nil, eq_nil_slice, ia_1, g1, g2, hlk]; exact so_so) ?_)
            refine hJ' far' h12 hFR ?_ hh12
            rcases hst with hst | hst
            · exact .inl hst
            · refine .inr fun y' hy' hn => ?_
              rcases List.mem_append.1 hy' with hy' | hy'
              · exact hst y' hy' hn
              · obtain rfl := List.mem_singleton.1 hy'
                exact fun q => hyd ((hFR.eqd hd1 y').2 q)
        · obtain rfl : j = o.slots.length := by omega
          rw [List.take_length] at hst
          repeat (with_reducible first | refine vP_so ?_ | refine vB_t ?_ | refine vB_f ?_ | refine vE_tt ?_ | refine vE_ff ?_ | refine vE_tf ?_ | refine vE_ft ?_ | refine vE_u ?_ | refine vP_to (by simp (disch := omega) only [gdW_true, gdW_false, gB_true, gB_false, gB_undef, pickV_true, pickV_false, Bool.not_true, Bool.not_false, Option.map_some, bin_add, bin_sub, bin_mul, bin_quo, bin_rem, lss_t, lss_f, leq_t, leq_f, gtr_t, gtr_f, geq_t, geq_f, eqi_t, eqi_f, nei_t, nei_f, rem_uw, conv_ui, conv_iu, conv_ii, not_bool, nil_ptr, fa_mk, ptrV, len_mk, cap_mk, eq_ptr_nil, ne_ptr_nil, eq_nil_nil, ne_nil_nil, eq_slice_nil, eq_nil_slice, ia_1, lenS]; exact so_so) ?_)
          refine hJ far' h12 (hFR.skip ?_) hh12
          rcases hst with hst | hst
          · exact .inl hst
          · refine .inr fun y ⟨k', o', d1, d2, d3, d4⟩ => ?_
            rw [c1] at d1; cases d1
            rw [c3] at d2; cases d2
            exact hst y d3 d4
      · repeat (with_reducible first | refine vP_so ?_ | refine vB_t ?_ | refine vB_f ?_ | refine vE_tt ?_ | refine vE_ff ?_ | refine vE_tf ?_ | refine vE_ft ?_ | refine vE_u ?_ | refine vP_to (by simp (disch := omega) only [gdW_true, gdW_false, gB_true, gB_false, gB_undef, pickV_true, pickV_false, Bool.not_true, Bool.not_false, Option.map_some, bin_add, bin_sub, bin_mul, bin_quo, bin_rem, lss_t, lss_f, leq_t, leq_f, gtr_t, gtr_f, geq_t, geq_f, eqi_t, eqi_f, nei_t, nei_f, rem_uw, conv_ui, conv_iu, conv_ii, not_bool, nil_ptr, fa_mk, ptrV, len_mk, cap_mk, eq_ptr_nil, ne_ptr_nil, eq_nil_nil, ne_nil_nil, eq_slice_nil, eq_nil_slice, ia_1, f1, f2, hlk]; exact so_so) ?_)
        exact hJ far' h9 (hFR.skip (.inl hx0)) hh9
    · obtain rfl : i = R'.length := by omega
      rw [List.take_length] at hFR
      repeat (with_reducible first | refine vP_so ?_ | refine vB_t ?_ | refine vB_f ?_ | refine vE_tt ?_ | refine vE_ff ?_ | refine vE_tf ?_ | refine vE_ft ?_ | refine vE_u ?_ | refine vP_to (by simp (disch := omega) only [gdW_true, gdW_false, gB_true, gB_false, gB_undef, pickV_true, pickV_false, Bool.not_true, Bool.not_false, Option.map_some, bin_add, bin_sub, bin_mul, bin_quo, bin_rem, lss_t, lss_f, leq_t, leq_f, gtr_t, gtr_f, geq_t, geq_f, eqi_t, eqi_f, nei_t, nei_f, rem_uw, conv_ui, conv_iu, conv_ii, not_bool, nil_ptr, fa_mk, ptrV, len_mk, cap_mk, eq_ptr_nil, ne_ptr_nil, eq_nil_nil, ne_nil_nil, eq_slice_nil, eq_nil_slice, ia_1, hlenR]; exact so_so) ?_)
      exact ⟨R'.length + 1 - (d + 1), by omega, d + 1, far', by simp, rfl, by omega, by omega, hFR.done hI hRA hd1, hh9⟩
  obtain rfl : d = R'.length + 1 := by omega
  have hLW := LW.of hBest hRA hI
  have lv8 := lv (G := SG iE 3 v36 R' * MP r37 (fM far)) (asr (by ac_rfl) hh8)
  repeat (with_reducible first | refine vP_so ?_ | refine vB_t ?_ | refine vB_f ?_ | refine vE_tt ?_ | refine vE_ff ?_ | refine vE_tf ?_ | refine vE_ft ?_ | refine vE_u ?_ | refine vP_to (by simp (disch := omega) only [gdW_true, gdW_false, gB_true, gB_false, gB_undef, pickV_true, pickV_false, Bool.not_true, Bool.not_false, Option.map_some, bin_add, bin_sub, bin_mul, bin_quo, bin_rem, lss_t, lss_f, leq_t, leq_f, gtr_t, gtr_f, geq_t, geq_f, eqi_t, eqi_f, nei_t, nei_f, rem_uw, conv_ui, conv_iu, conv_ii, not_bool, nil_ptr, fa_mk, ptrV, len_mk, cap_mk, eq_ptr_nil, ne_ptr_nil, eq_nil_nil, ne_nil_nil, eq_slice_nil, eq_nil_slice, ia_1, hlenR, lv8]; exact so_so) ?_)
  refine use_rroots (F := SG iE 3 v36 R' * (MP r37 (fM far) * B)) hv hN (asr (by ac_rfl) hh8) fun v95 h16 hh16 => ?_
  have hroots : ∀ x, x ∈ w.rootsL ↔ w.root x := fun x => by unfold VW.rootsL VW.root; rw [foldl_once_mem]; simp
  generalize w.rootsL = rl at *
  have hh16 : (SG iE 3 v95 rl * (SG iE 3 v36 R' * (MP r37 (fM far) * (own g * (B * tt))))) h16 := asr (by ac_rfl) hh16
  have lenR16 := SG_len iE (asr (by ac_rfl) hh16 : (SG iE 3 v36 R' * (SG iE 3 v95 rl * (MP r37 (fM far) * (own g * (B * tt))))) h16)
  refine ⟨fun m zs h' => ∃ (i : Nat) (b : Int), zs = [.int .i64 i, .int .i64 b] ∧ m = R'.length - i ∧ i ≤ R'.length ∧ BestI w far (R'.take i) b ∧ h' = h16,
    ⟨_, 0, 0, rfl, rfl, by omega, .inl ⟨rfl, by simp⟩, rfl⟩, ?_⟩
  clear hzs
  rintro m v14 v13 h17 ⟨i, b, hzs, rfl, hi, hinv, rfl⟩ _
  obtain ⟨rfl, rfl⟩ : v14 = .int .i64 i ∧ v13 = .int .i64 b := by simpa using hzs
  by_cases hil : i < R'.length
  · obtain ⟨p, f1, f2, _⟩ := el1 (asr (by ac_rfl) hh16 : (SG iE 3 v36 R' * (SG iE 3 v95 rl * (MP r37 (fM far) * (own g * (B * tt))))) h17) (List.getElem?_eq_getElem hil) .i64
    have htk := List.take_succ_eq_append_getElem hil
    have hrise : ∀ x ∈ R'.take i, x < R'[i] := fun x hx => by
      have hp := hRA.rise
      unfold Rise at hp
      have hp2 : (R'.take i ++ R'[i] :: R'.drop (i + 1)).Pairwise (· < ·) := by
        rw [← List.drop_eq_getElem_cons hil, List.take_append_drop]; exact hp
      exact (List.pairwise_append.1 hp2).2.2 x hx _ List.mem_cons_self
    generalize R'[i] = x at *
    repeat (with_reducible first | refine vP_so ?_ | refine vB_t ?_ | refine vB_f ?_ | refine vE_tt ?_ | refine vE_ff ?_ | refine vE_tf ?_ | refine vE_ft ?_ | refine vE_u ?_ | refine vP_to (by simp (disch := omega) only [gdW_true, gdW_false, gB_true, gB_false, gB_undef, pickV_true, pickV_false, Bool.not_true, Bool.not_false, Option.map_some, bin_add, bin_sub, bin_mul, bin_quo, bin_rem, lss_t, lss_f, leq_t, leq_f, gtr_t, gtr_f, geq_t, geq_f, eqi_t, eqi_f, nei_t, nei_f, rem_uw, conv_ui, conv_iu, conv_ii, not_bool, nil_ptr, fa_mk, ptrV, len_mk, cap_mk, eq_ptr_nil, ne_ptr_nil, eq_nil_nil, ne_nil_nil, eq_slice_nil, eq_nil_slice, ia_1, lenR16]; exact so_so) ?_)
    intro J7 hJ7
    have hJ : ∀ b', BestI w far (R'.take i ++ [x]) b' → J7 [.int .i64 b'] h17 := fun b' b1 => by
      refine hJ7 _ _ fun _ => ?_
      repeat (with_reducible first | refine vP_so ?_ | refine vB_t ?_ | refine vB_f ?_ | refine vE_tt ?_ | refine vE_ff ?_ | refine vE_tf ?_ | refine vE_ft ?_ | refine vE_u ?_ | refine vP_to (by simp (disch := omega) only [gdW_true, gdW_false, gB_true, gB_false, gB_undef, pickV_true, pickV_false, Bool.not_true, Bool.not_false, Option.map_some, bin_add, bin_sub, bin_mul, bin_quo, bin_rem, lss_t, lss_f, leq_t, leq_f, gtr_t, gtr_f, geq_t, geq_f, eqi_t, eqi_f, nei_t, nei_f, rem_uw, conv_ui, conv_iu, conv_ii, not_bool, nil_ptr, fa_mk, ptrV, len_mk, cap_mk, eq_ptr_nil, ne_ptr_nil, eq_nil_nil, ne_nil_nil, eq_slice_nil, eq_nil_slice, ia_1]; exact so_so) ?_)
      exact ⟨R'.length - (i + 1), by omega, i + 1, b', by simp, rfl, by omega, htk ▸ b1, rfl⟩
    have lx := lk (G := SG iE 3 v95 rl * SG iE 3 v36 R') x (asr (by ac_rfl) hh16)
    have lb := lk (G := SG iE 3 v95 rl * SG iE 3 v36 R') b (asr (by ac_rfl) hh16)
    repeat (with_reducible first | refine vP_so ?_ | refine vB_t ?_ | refine vB_f ?_ | refine vE_tt ?_ | refine vE_ff ?_ | refine vE_tf ?_ | refine vE_ft ?_ | refine vE_u ?_ | refine vP_to (by simp (disch := omega) only [gdW_true, gdW_false, gB_true, gB_false, gB_undef, pickV_true, pickV_false, Bool.not_true, Bool.not_false, Option.map_some, bin_add, bin_sub, bin_mul, bin_quo, bin_rem, lss_t, lss_f, leq_t, leq_f, gtr_t, gtr_f, geq_t, geq_f, eqi_t, eqi_f, nei_t, nei_f, rem_uw, conv_ui, conv_iu, conv_ii, not_bool, nil_ptr, fa_mk, ptrV, len_mk, cap_mk, eq_ptr_nil, ne_ptr_nil, eq_nil_nil, ne_nil_nil, eq_slice_nil, eq_nil_slice, ia_1, f1, f2]; exact so_so) ?_)
    refine C45 ?_
    unfold D45
    refine use_has (SG_ints hh16) ?_
    by_cases hxr : x ∈ rl
    · rw [decide_eq_true hxr]
      have hroot := (hroots x).1 hxr
      by_cases hx0 : fv far x = 0
      · repeat (with_reducible first | refine vP_so ?_ | refine vB_t ?_ | refine vB_f ?_ | refine vE_tt ?_ | refine vE_ff ?_ | refine vE_tf ?_ | refine vE_ft ?_ | refine vE_u ?_ | refine vP_to (by simp (disch := omega) only [gdW_true, gdW_false, gB_true, gB_false, gB_undef, pickV_true, pickV_false, Bool.not_true, Bool.not_false, Option.map_some, bin_add, bin_sub, bin_mul, bin_quo, bin_rem, lss_t, lss_f, leq_t, leq_f, gtr_t, gtr_f, geq_t, geq_f, eqi_t, eqi_f, nei_t, nei_f, rem_uw, conv_ui, conv_iu, conv_ii, not_bool, nil_ptr, fa_mk, ptrV, len_mk, cap_mk, eq_ptr_nil, ne_ptr_nil, eq_nil_nil, ne_nil_nil, eq_slice_nil, eq_nil_slice, ia_1, lx]; exact so_so) ?_)
        exact hJ b (hinv.skip fun q => q.2 hx0)
      · by_cases hb0 : b = 0
        · repeat (with_reducible first | refine vP_so ?_ | refine vB_t ?_ | refine vB_f ?_ | refine vE_tt ?_ | refine vE_ff ?_ | refine vE_tf ?_ | refine vE_ft ?_ | refine vE_u ?_ | refine vP_to (by simp (disch := omega) only [gdW_true, gdW_false, gB_true, gB_false, gB_undef, pickV_true, pickV_false, Bool.not_true, Bool.not_false, Option.map_some, bin_add, bin_sub, bin_mul, bin_quo, bin_rem, lss_t, lss_f, leq_t, leq_f, gtr_t, gtr_f, geq_t, geq_f, eqi_t, eqi_f, nei_t, nei_f, rem_uw, conv_ui, conv_iu, conv_ii, not_bool, nil_ptr, fa_mk, ptrV, len_mk, cap_mk, eq_ptr_nil, ne_ptr_nil, eq_nil_nil, ne_nil_nil, eq_slice_nil, eq_nil_slice, ia_1, lx]; exact so_so) ?_)
          exact hJ x (hinv.first hb0 ⟨hroot, hx0⟩)
        · by_cases hlt : fv far x < fv far b
          · repeat (with_reducible first | refine vP_so ?_ | refine vB_t ?_ | refine vB_f ?_ | refine vE_tt ?_ | refine vE_ff ?_ | refine vE_tf ?_ | refine vE_ft ?_ | refine vE_u ?_ | refine vP_to (by simp (disch := omega) only [gdW_true, gdW_false, gB_true, gB_false, gB_undef, pickV_true, pickV_false, Bool.not_true, Bool.not_false, Option.map_some, bin_add, bin_sub, bin_mul, bin_quo, bin_rem, lss_t, lss_f, leq_t, leq_f, gtr_t, gtr_f, geq_t, geq_f, eqi_t, eqi_f, nei_t, nei_f, rem_uw, conv_ui, conv_iu, conv_ii, not_bool, nil_ptr, fa_mk, ptrV, len_mk, cap_mk, eq_ptr_nil, ne_ptr_nil, eq_nil_nil, ne_nil_nil, eq_slice_nil, eq_nil_slice, ia_1, lx, lb]; exact so_so) ?_)
            exact hJ x (hinv.less hb0 ⟨hroot, hx0⟩ hlt)
          · repeat (with_reducible first | refine vP_so ?_ | refine vB_t ?_ | refine vB_f ?_ | refine vE_tt ?_ | refine vE_ff ?_ | refine vE_tf ?_ | refine vE_ft ?_ | refine vE_u ?_ | refine vP_to (by simp (disch := omega) only [gdW_true, gdW_false, gB_true, gB_false, gB_undef, pickV_true, pickV_false, Bool.not_true, Bool.not_false, Option.map_some, bin_add, bin_sub, bin_mul, bin_quo, bin_rem, lss_t, lss_f, leq_t, leq_f, gtr_t, gtr_f, geq_t, geq_f, eqi_t, eqi_f, nei_t, nei_f, rem_uw, conv_ui, conv_iu, conv_ii, not_bool, nil_ptr, fa_mk, ptrV, len_mk, cap_mk, eq_ptr_nil, ne_ptr_nil, eq_nil_nil, ne_nil_nil, eq_slice_nil, eq_nil_slice, ia_1, lx, lb]; exact so_so) ?_)
            exact hJ b (hinv.keep hb0 (by omega) hrise)
    · rw [decide_eq_false hxr]
      repeat (with_reducible first | refine vP_so ?_ | refine vB_t ?_ | refine vB_f ?_ | refine vE_tt ?_ | refine vE_ff ?_ | refine vE_tf ?_ | refine vE_ft ?_ | refine vE_u ?_ | refine vP_to (by simp (disch := omega) only [gdW_true, gdW_false, gB_true, gB_false, gB_undef, pickV_true, pickV_false, Bool.not_true, Bool.not_false, Option.map_some, bin_add, bin_sub, bin_mul, bin_quo, bin_rem, lss_t, lss_f, leq_t, leq_f, gtr_t, gtr_f, geq_t, geq_f, eqi_t, eqi_f, nei_t, nei_f, rem_uw, conv_ui, conv_iu, conv_ii, not_bool, nil_ptr, fa_mk, ptrV, len_mk, cap_mk, eq_ptr_nil, ne_ptr_nil, eq_nil_nil, ne_nil_nil, eq_slice_nil, eq_nil_slice, ia_1]; exact so_so) ?_)
      exact hJ b (hinv.skip fun q => hxr ((hroots x).2 q.1))
  obtain rfl : i = R'.length := by omega
  rw [List.take_length] at hinv
  -- the best is the way's first
  have h0l : l[0]? = some (l[0]'hLW.pos) := List.getElem?_eq_getElem hLW.pos
  have hbx : b = l[0]'hLW.pos := by
    have h1 := hLW.val 0 _ h0l
    have h2 := hLW.root _ h0l
    have hp := hLW.pos
    have hq : w.root (l[0]'hLW.pos) ∧ fv far (l[0]'hLW.pos) ≠ 0 := ⟨h2, by omega⟩
    rcases hinv with ⟨_, h3⟩ | ⟨h3, h4, h5⟩
    · exact (h3 _ h1.1 hq).elim
    · have h6 := h5 _ h1.1 hq
      have h7 := hLW.rmin _ b h0l h4.1 h4.2
      have h8 : fv far b = fv far (l[0]'hLW.pos) := by omega
      have := h6.2 h8.symm
      have := h7.2 h8
      omega
  repeat (with_reducible first | refine vP_so ?_ | refine vB_t ?_ | refine vB_f ?_ | refine vE_tt ?_ | refine vE_ff ?_ | refine vE_tf ?_ | refine vE_ft ?_ | refine vE_u ?_ | refine vP_to (by simp (disch := omega) only [gdW_true, gdW_false, gB_true, gB_false, gB_undef, pickV_true, pickV_false, Bool.not_true, Bool.not_false, Option.map_some, bin_add, bin_sub, bin_mul, bin_quo, bin_rem, lss_t, lss_f, leq_t, leq_f, gtr_t, gtr_f, geq_t, geq_f, eqi_t, eqi_f, nei_t, nei_f, rem_uw, conv_ui, conv_iu, conv_ii, not_bool, nil_ptr, fa_mk, ptrV, len_mk, cap_mk, eq_ptr_nil, ne_ptr_nil, eq_nil_nil, ne_nil_nil, eq_slice_nil, eq_nil_slice, ia_1, lenR16, eb]; exact so_so) ?_)
  rw [eb]
  refine vA_new (f := fun r => .slice (some ⟨r, 0, none⟩) 1 1) hh16 fun r130 h20 hh20 => ?_
  have hh20 : (SG iE 3 (.slice (some ⟨r130, 0, none⟩) 1 1) [b] * (SG iE 3 v95 rl * (SG iE 3 v36 R' * (MP r37 (fM far) * (own g * (B * tt)))))) h20 := SG_intro iE (pre := []) (post := []) (l := [b]) rfl rfl (by simp) (by omega) (by simp) hh20
  have hh20 : (SG iE 3 (.slice (some ⟨r130, 0, none⟩) 1 1) [b] * (MP r37 (fM far) * (own g * (B * tt)))) h20 := dropL (P := SG iE 3 v95 rl * SG iE 3 v36 R') (Q := SG iE 3 (.slice (some ⟨r130, 0, none⟩) 1 1) [b] * (MP r37 (fM far) * (own g * B))) (asr (by ac_rfl) hh20) |> asr (by ac_rfl)
  have hlL : l.length ≤ 1000000 := by
    have h1 := nodup_len hBest.nodup fun x hx => (hBest.way.rchs x hx).all
    omega
  refine ⟨fun m zs h' => ∃ (i : Nat) (c : Int) (ov : Value), zs = [.int .i64 c, ov] ∧ m = l.length - i ∧ l[i]? = some c ∧ (SG iE 3 ov (l.take (i + 1)) * (MP r37 (fM far) * (own g * (B * tt)))) h', ⟨_, 0, b, _, rfl, rfl, by rw [hbx]; exact h0l, by
    have e : l.take 1 = [b] := by
      rw [List.take_succ_eq_append_getElem hLW.pos, hbx]; rfl
    rw [e]; exact hh20⟩, ?_⟩
  clear hh20 hh16 hh8 hinv hzs lenR16 hlenR lv8
  rintro m v13 v16 h21 ⟨i, c, ov, hzs, rfl, hic, hh21⟩ _
  obtain ⟨rfl, rfl⟩ : v13 = .int .i64 c ∧ v16 = ov := by simpa using hzs
  have hi := (List.getElem?_eq_some_iff.1 hic).1
  have hcv := hLW.val i c hic
  by_cases hca : c = a
  · have hav := hLW.val (l.length - 1) a hLW.lst
    have hil : i + 1 = l.length := by
      rw [hca] at hcv
      have := hLW.pos
      omega
    rw [hil, List.take_length] at hh21
    repeat (with_reducible first | refine vP_so ?_ | refine vB_t ?_ | refine vB_f ?_ | refine vE_tt ?_ | refine vE_ff ?_ | refine vE_tf ?_ | refine vE_ft ?_ | refine vE_u ?_ | refine vP_to (by simp (disch := omega) only [gdW_true, gdW_false, gB_true, gB_false, gB_undef, pickV_true, pickV_false, Bool.not_true, Bool.not_false, Option.map_some, bin_add, bin_sub, bin_mul, bin_quo, bin_rem, lss_t, lss_f, leq_t, leq_f, gtr_t, gtr_f, geq_t, geq_f, eqi_t, eqi_f, nei_t, nei_f, rem_uw, conv_ui, conv_iu, conv_ii, not_bool, nil_ptr, fa_mk, ptrV, len_mk, cap_mk, eq_ptr_nil, ne_ptr_nil, eq_nil_nil, ne_nil_nil, eq_slice_nil, eq_nil_slice, ia_1]; exact so_so) ?_)
    exact fin v16 h21 (dropL (P := MP r37 (fM far)) (Q := SG iE 3 v16 l * (own g * B)) (asr (by ac_rfl) hh21) |> asr (by ac_rfl))
  · have hi1 : i + 1 < l.length := by
      rcases Nat.lt_or_ge (i + 1) l.length with q | q
      · exact q
      · have e : i = l.length - 1 := by omega
        have := hLW.lst
        rw [← e, hic] at this
        exact (hca (Option.some.inj this)).elim
    have hy : l[i + 1]? = some l[i + 1] := List.getElem?_eq_getElem hi1
    have htkl := List.take_succ_eq_append_getElem hi1
    have hedge := hLW.nxt i c _ hic hy
    have hyv := hLW.val (i + 1) _ hy
    have hmin := fun z => hLW.nmin i c _ z hic hy
    generalize l[i + 1] = y at *
    obtain ⟨k, o, c1, c3, hys, hy0⟩ := id hedge
    have c4 := List.mem_of_getElem? c3
    have c2 : findV w c = k := by unfold findV; rw [c1]
    have lo21 := lo (G := SG iE 3 v16 (l.take (i + 1)) * MP r37 (fM far)) (asr (by ac_rfl) hh21)
    have lv21 := lv (G := SG iE 3 v16 (l.take (i + 1)) * MP r37 (fM far)) (asr (by ac_rfl) hh21)
    repeat (with_reducible first | refine vP_so ?_ | refine vB_t ?_ | refine vB_f ?_ | refine vE_tt ?_ | refine vE_ff ?_ | refine vE_tf ?_ | refine vE_ft ?_ | refine vE_u ?_ | refine vP_to (by simp (disch := omega) only [gdW_true, gdW_false, gB_true, gB_false, gB_undef, pickV_true, pickV_false, Bool.not_true, Bool.not_false, Option.map_some, bin_add, bin_sub, bin_mul, bin_quo, bin_rem, lss_t, lss_f, leq_t, leq_f, gtr_t, gtr_f, geq_t, geq_f, eqi_t, eqi_f, nei_t, nei_f, rem_uw, conv_ui, conv_iu, conv_ii, not_bool, nil_ptr, fa_mk, ptrV, len_mk, cap_mk, eq_ptr_nil, ne_ptr_nil, eq_nil_nil, ne_nil_nil, eq_slice_nil, eq_nil_slice, ia_1, lo21, lv21]; exact so_so) ?_)
    refine use_rfind (F := SG iE 3 v16 (l.take (i + 1)) * (MP r37 (fM far) * B)) hv (asr (by ac_rfl) hh21) fun h22 hh22 => ?_
    rw [c2]
    have hh22 : (SG iE 3 v16 (l.take (i + 1)) * (MP r37 (fM far) * (own g * (B * tt)))) h22 := asr (by ac_rfl) hh22
    have lo22 := lo (G := SG iE 3 v16 (l.take (i + 1)) * MP r37 (fM far)) (asr (by ac_rfl) hh22)
    obtain ⟨b0, q0, e1, _, e3, _, _⟩ := (ow (G := SG iE 3 v16 (l.take (i + 1)) * MP r37 (fM far)) (asr (by ac_rfl) hh22)).obj c3 .i64
    have hsl := hv.slots o c4
    have lenS := hsl.len
    have ltS := hsl.lt
    have hsl22 : IntsAt h22 o.sv o.slots := own_ints (F := SG iE 3 v16 (l.take (i + 1)) * (MP r37 (fM far) * (B * tt))) (asr (by ac_rfl) hh22) hsl
    refine ⟨lo22, ?_⟩
    repeat (with_reducible first | refine vP_so ?_ | refine vB_t ?_ | refine vB_f ?_ | refine vE_tt ?_ | refine vE_ff ?_ | refine vE_tf ?_ | refine vE_ft ?_ | refine vE_u ?_ | refine vP_to (by simp (disch := omega) only [gdW_true, gdW_false, gB_true, gB_false, gB_undef, pickV_true, pickV_false, Bool.not_true, Bool.not_false, Option.map_some, bin_add, bin_sub, bin_mul, bin_quo, bin_rem, lss_t, lss_f, leq_t, leq_f, gtr_t, gtr_f, geq_t, geq_f, eqi_t, eqi_f, nei_t, nei_f, rem_uw, conv_ui, conv_iu, conv_ii, not_bool, nil_ptr, fa_mk, ptrV, len_mk, cap_mk, eq_ptr_nil, ne_ptr_nil, eq_nil_nil, ne_nil_nil, eq_slice_nil, eq_nil_slice, ia_1, e1, e3]; exact so_so) ?_)
    refine ⟨fun m zs h' => ∃ (j : Nat) (b : Int), zs = [.int .i64 j, .int .i64 b] ∧ m = o.slots.length - j ∧ j ≤ o.slots.length ∧ NextI (fun s => s ≠ 0 ∧ fv far s = fv far c - 1) (o.slots.take j) b ∧ h' = h22, ⟨_, 0, 0, rfl, rfl, by omega, .inl ⟨rfl, by simp⟩, rfl⟩, ?_⟩
    clear hzs
    rintro m v19 v18 h23 ⟨j, b2, hzs, rfl, hj, hinv, rfl⟩ _
    obtain ⟨rfl, rfl⟩ : v19 = .int .i64 j ∧ v18 = .int .i64 b2 := by simpa using hzs
    by_cases hjl : j < o.slots.length
    · obtain ⟨p2, g1, g2⟩ := hsl22.get j _ .i64 (List.getElem?_eq_getElem hjl)
      have htkS := List.take_succ_eq_append_getElem hjl
      generalize o.slots[j] = s at *
      repeat (with_reducible first | refine vP_so ?_ | refine vB_t ?_ | refine vB_f ?_ | refine vE_tt ?_ | refine vE_ff ?_ | refine vE_tf ?_ | refine vE_ft ?_ | refine vE_u ?_ | refine vP_to (by simp (disch := omega) only [gdW_true, gdW_false, gB_true, gB_false, gB_undef, pickV_true, pickV_false, Bool.not_true, Bool.not_false, Option.map_some, bin_add, bin_sub, bin_mul, bin_quo, bin_rem, lss_t, lss_f, leq_t, leq_f, gtr_t, gtr_f, geq_t, geq_f, eqi_t, eqi_f, nei_t, nei_f, rem_uw, conv_ui, conv_iu, conv_ii, not_bool, nil_ptr, fa_mk, ptrV, len_mk, cap_mk, eq_ptr_nil, ne_ptr_nil, eq_nil_nil, ne_nil_nil, eq_slice_nil, eq_nil_slice, ia_1, lenS]; exact so_so) ?_)
      intro J10 hJ10
      have hJ : ∀ b', NextI (fun s => s ≠ 0 ∧ fv far s = fv far c - 1) (o.slots.take j ++ [s]) b' → J10 [.int .i64 b'] h23 := fun b' b1 => by
        refine hJ10 _ _ fun _ => ?_
        repeat (with_reducible first | refine vP_so ?_ | refine vB_t ?_ | refine vB_f ?_ | refine vE_tt ?_ | refine vE_ff ?_ | refine vE_tf ?_ | refine vE_ft ?_ | refine vE_u ?_ | refine vP_to (by simp (disch := omega) only [gdW_true, gdW_false, gB_true, gB_false, gB_undef, pickV_true, pickV_false, Bool.not_true, Bool.not_false, Option.map_some, bin_add, bin_sub, bin_mul, bin_quo, bin_rem, lss_t, lss_f, leq_t, leq_f, gtr_t, gtr_f, geq_t, geq_f, eqi_t, eqi_f, nei_t, nei_f, rem_uw, conv_ui, conv_iu, conv_ii, not_bool, nil_ptr, fa_mk, ptrV, len_mk, cap_mk, eq_ptr_nil, ne_ptr_nil, eq_nil_nil, ne_nil_nil, eq_slice_nil, eq_nil_slice, ia_1]; exact so_so) ?_)
        exact ⟨o.slots.length - (j + 1), by omega, j + 1, b', by simp, rfl, by omega, htkS ▸ b1, rfl⟩
      have ls := lk (G := SG iE 3 v16 (l.take (i + 1))) s hh22
      have lc := lk (G := SG iE 3 v16 (l.take (i + 1))) c hh22
      by_cases hs0 : s = 0
      · repeat (with_reducible first | refine vP_so ?_ | refine vB_t ?_ | refine vB_f ?_ | refine vE_tt ?_ | refine vE_ff ?_ | refine vE_tf ?_ | refine vE_ft ?_ | refine vE_u ?_ | refine vP_to (by simp (disch := omega) only [gdW_true, gdW_false, gB_true, gB_false, gB_undef, pickV_true, pickV_false, Bool.not_true, Bool.not_false, Option.map_some, bin_add, bin_sub, bin_mul, bin_quo, bin_rem, lss_t, lss_f, leq_t, leq_f, gtr_t, gtr_f, geq_t, geq_f, eqi_t, eqi_f, nei_t, nei_f, rem_uw, conv_ui, conv_iu, conv_ii, not_bool, nil_ptr, fa_mk, ptrV, len_mk, cap_mk, eq_ptr_nil, ne_ptr_nil, eq_nil_nil, ne_nil_nil, eq_slice_nil, eq_nil_slice, ia_1, g1, g2]; exact so_so) ?_)
        exact hJ b2 (hinv.skip fun q => q.1 hs0)
      · by_cases hse : fv far s = fv far c - 1
        · by_cases hb0 : b2 = 0
          · repeat (with_reducible first | refine vP_so ?_ | refine vB_t ?_ | refine vB_f ?_ | refine vE_tt ?_ | refine vE_ff ?_ | refine vE_tf ?_ | refine vE_ft ?_ | refine vE_u ?_ | refine vP_to (by simp (disch := omega) only [gdW_true, gdW_false, gB_true, gB_false, gB_undef, pickV_true, pickV_false, Bool.not_true, Bool.not_false, Option.map_some, bin_add, bin_sub, bin_mul, bin_quo, bin_rem, lss_t, lss_f, leq_t, leq_f, gtr_t, gtr_f, geq_t, geq_f, eqi_t, eqi_f, nei_t, nei_f, rem_uw, conv_ui, conv_iu, conv_ii, not_bool, nil_ptr, fa_mk, ptrV, len_mk, cap_mk, eq_ptr_nil, ne_ptr_nil, eq_nil_nil, ne_nil_nil, eq_slice_nil, eq_nil_slice, ia_1, g1, g2, ls, lc]; exact so_so) ?_)
            exact hJ s (hinv.first hb0 ⟨hs0, hse⟩)
          · by_cases hlt : s < b2
            · repeat (with_reducible first | refine vP_so ?_ | refine vB_t ?_ | refine vB_f ?_ | refine vE_tt ?_ | refine vE_ff ?_ | refine vE_tf ?_ | refine vE_ft ?_ | refine vE_u ?_ | refine vP_to (by simp (disch := omega) only [gdW_true, gdW_false, gB_true, gB_false, gB_undef, pickV_true, pickV_false, Bool.not_true, Bool.not_false, Option.map_some, bin_add, bin_sub, bin_mul, bin_quo, bin_rem, lss_t, lss_f, leq_t, leq_f, gtr_t, gtr_f, geq_t, geq_f, eqi_t, eqi_f, nei_t, nei_f, rem_uw, conv_ui, conv_iu, conv_ii, not_bool, nil_ptr, fa_mk, ptrV, len_mk, cap_mk, eq_ptr_nil, ne_ptr_nil, eq_nil_nil, ne_nil_nil, eq_slice_nil, eq_nil_slice, ia_1, g1, g2, ls, lc]; exact so_so) ?_)
              exact hJ s (hinv.less hb0 ⟨hs0, hse⟩ hlt)
            · repeat (with_reducible first | refine vP_so ?_ | refine vB_t ?_ | refine vB_f ?_ | refine vE_tt ?_ | refine vE_ff ?_ | refine vE_tf ?_ | refine vE_ft ?_ | refine vE_u ?_ | refine vP_to (by simp (disch := omega) only [gdW_true, gdW_false, gB_true, gB_false, gB_undef, pickV_true, pickV_false, Bool.not_true, Bool.not_false, Option.map_some, bin_add, bin_sub, bin_mul, bin_quo, bin_rem, lss_t, lss_f, leq_t, leq_f, gtr_t, gtr_f, geq_t, geq_f, eqi_t, eqi_f, nei_t, nei_f, rem_uw, conv_ui, conv_iu, conv_ii, not_bool, nil_ptr, fa_mk, ptrV, len_mk, cap_mk, eq_ptr_nil, ne_ptr_nil, eq_nil_nil, ne_nil_nil, eq_slice_nil, eq_nil_slice, ia_1, g1, g2, ls, lc]; exact so_so) ?_)
              exact hJ b2 (hinv.keep hb0 (by omega))
        · repeat (with_reducible first | refine vP_so ?_ | refine vB_t ?_ | refine vB_f ?_ | refine vE_tt ?_ | refine vE_ff ?_ | refine vE_tf ?_ | refine vE_ft ?_ | refine vE_u ?_ | refine vP_to (by simp (disch := omega) only [gdW_true, gdW_false, gB_true, gB_false, gB_undef, pickV_true, pickV_false, Bool.not_true, Bool.not_false, Option.map_some, bin_add, bin_sub, bin_mul, bin_quo, bin_rem, lss_t, lss_f, leq_t, leq_f, gtr_t, gtr_f, geq_t, geq_f, eqi_t, eqi_f, nei_t, nei_f, rem_uw, conv_ui, conv_iu, conv_ii, not_bool, nil_ptr, fa_mk, ptrV, len_mk, cap_mk, eq_ptr_nil, ne_ptr_nil, eq_nil_nil, ne_nil_nil, eq_slice_nil, eq_nil_slice, ia_1, g1, g2, ls, lc]; exact so_so) ?_)
          exact hJ b2 (hinv.skip fun q => hse q.2)
    obtain rfl : j = o.slots.length := by omega
    rw [List.take_length] at hinv
    have hby : b2 = y := by
      have hyq : y ≠ 0 ∧ fv far y = fv far c - 1 := ⟨hy0, by omega⟩
      rcases hinv with ⟨_, h3⟩ | ⟨h3, h4, h5⟩
      · exact (h3 y hys hyq).elim
      · have h6 := h5 y hys hyq
        have h7 := hmin b2 ⟨k, o, c1, c3, h3, h4.1⟩ h4.2
        omega
    subst hby
    repeat (with_reducible first | refine vP_so ?_ | refine vB_t ?_ | refine vB_f ?_ | refine vE_tt ?_ | refine vE_ff ?_ | refine vE_tf ?_ | refine vE_ft ?_ | refine vE_u ?_ | refine vP_to (by simp (disch := omega) only [gdW_true, gdW_false, gB_true, gB_false, gB_undef, pickV_true, pickV_false, Bool.not_true, Bool.not_false, Option.map_some, bin_add, bin_sub, bin_mul, bin_quo, bin_rem, lss_t, lss_f, leq_t, leq_f, gtr_t, gtr_f, geq_t, geq_f, eqi_t, eqi_f, nei_t, nei_f, rem_uw, conv_ui, conv_iu, conv_ii, not_bool, nil_ptr, fa_mk, ptrV, len_mk, cap_mk, eq_ptr_nil, ne_ptr_nil, eq_nil_nil, ne_nil_nil, eq_slice_nil, eq_nil_slice, ia_1, lenS, eb]; exact so_so) ?_)
    rw [eb]
    refine vA_new (f := fun r => .slice (some ⟨r, 0, none⟩) 1 1) hh22 fun r184 h25 hh25 => ?_
    refine ap_new iE (l := l.take (i + 1)) (m := [b2]) (F := MP r37 (fM far) * (own g * B)) elInt rfl rfl niInts rfl (by omega) (asr (by ac_rfl) hh25) rfl rfl (by rw [List.length_take]; simp only [List.length_singleton]; omega) fun v185 h26 hh26 => ?_
    exact ⟨l.length - (i + 1), by omega, i + 1, b2, v185, rfl, rfl, hy, by rw [htkl]; exact asr (by ac_rfl) hh26⟩

end Go.Proofs
