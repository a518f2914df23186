/-
  Texts of the proof, in one file: Vs2, Vp1, Vq1, Vq2, Vt1, Ls, La.
-/
import Derived.Test.YtdcoflglkfbpcaaB10
import Derived.Test.YtdcoflglkfbpcaaB9
import Derived.Test.YtdcoflglkfbpcaaB3
import Derived.Test.YtdcoflglkfbpcaaB6
import Derived.Test.YtdcoflglkfbpcaaB4
set_option linter.unusedVariables false
set_option linter.unusedSimpArgs false
/-
  slices.Sorted(slices.Values(..)), as a contract of ours; view.Find, view.Words and the document's.
-/
set_option maxRecDepth 100000
namespace Go.Sl
open Go.RowKit Go.Shelf

theorem cell_spot {g : Hp} {a : Addr} {v : Value} (h : g.cell a = some v) : a.spot = none := by
  obtain ⟨o, ho, hc⟩ := Hp.block_of_cell h
  cases hs : a.spot with
  | none => rfl
  | some s => cases o <;> simp_all [Obj.cellAt]

/-- A call that makes a slice of its own and keeps all that was. -/
theorem callH_own {P : Program} {f : FuncId} {args : Array Value} {K : Value → Hp → Prop} {h : Hp} {E : Nat} {xs : List Int} {F : Asrt} (hF : F h)
    (hc : ∀ (w : World) (fr : Hp), w.hp = h.add fr → Calls P f args w fun e w' => ∃ v, e = .returned v ∧ w'.ownsRow w.heap.size E 1 v xs.length (xs.map (Value.int .i64)) ∧ Below w.heap.size w w')
    (hK : ∀ v h', (SG iE E v xs * F) h' → K v h') : CallH P f args K h := by
  intro w fr tg d ⟨e, et⟩
  refine (hc w fr e).mono ?_
  rintro e' w' ⟨v, rfl, hrow, hb⟩
  have hkeep : ∀ b o, w.hp b = some o → w'.hp b = some o := fun b o hq => by
    have hlt : b < w.heap.size := (Array.getElem?_eq_some_iff.1 hq).1
    exact (hb.block b hlt).trans hq
  have hh : ∀ b o, h b = some o → w.hp b = some o := fun b o q => by rw [e]; exact Hp.add_of_left q
  have main : ∀ h' : Hp, (∀ b o, h' b = some o → w'.hp b = some o) → (∀ b x, fr b = some x → h' b = none) → K v h' → ∃ v' h'' fr', Ending.returned v = .returned v' ∧ Disj h'' fr' ∧ w'.At tg (h''.add fr') ∧ Grows fr fr' ∧ K v' h'' := fun h' h1 h2 hk => by
    refine ⟨v, h', w'.hp.minus h', rfl, ?_, ⟨?_, ?_⟩, ?_, hk⟩
    · intro b
      rw [Hp.minus_apply]
      cases hq : h' b with
      | none => exact .inl rfl
      | some x => exact .inr (by simp)
    · apply Hp.ext'
      intro b
      rw [Hp.add_apply, Hp.minus_apply]
      cases hq : h' b with
      | none => simp
      | some x => simp [h1 b x hq]
    · rw [hb.os, hb.output, hb.tape]; exact et
    · intro b x hx
      rw [Hp.minus_apply, h2 b x hx]
      simp only [Option.isSome_none, Bool.false_eq_true, if_false]
      refine hkeep b x ?_
      rw [e, Hp.add_apply]
      have hn : h b = none := by
        rcases d b with q | q
        · exact q
        · rw [hx] at q; cases q
      rw [hn]
      simpa using hx
  have hfr : ∀ b x, fr b = some x → h b = none := fun b x hx => by
    rcases d b with q | q
    · exact q
    · rw [hx] at q; cases q
  rcases hrow.2 with ⟨rfl, hn⟩ | ⟨g, cap, cur, rfl, hg, hgb, h1, h2, h3, h4⟩
  · obtain rfl : xs = [] := List.length_eq_zero_iff.1 hn
    exact main h (fun b o q => hkeep b o (hh b o q)) hfr (hK _ _ (SG_nil iE hF))
  · have hgn : w.hp g = none := by
      show w.heap[g]? = none
      exact Array.getElem?_eq_none hg
    have hng : h g = none := by
      cases hq : h g with
      | none => rfl
      | some x => rw [hh g x hq] at hgn; cases hgn
    have hnf : fr g = none := by
      cases hq : fr g with
      | none => rfl
      | some x =>
        have : w.hp g = some x := by rw [e, Hp.add_apply, hng]; simpa using hq
        rw [this] at hgn; cases hgn
    refine main (h.upd g (.cells cur E (0, 0))) (fun b o q => ?_) (fun b x hx => ?_) (hK _ _ ?_)
    · by_cases hbg : b = g
      · subst hbg
        rw [Hp.upd_self] at q
        cases q
        exact hgb
      · rw [Hp.upd_ne hbg] at q
        exact hkeep b o (hh b o q)
    · have hbg : b ≠ g := fun q => by rw [q, hnf] at hx; cases hx
      rw [Hp.upd_ne hbg]
      exact hfr b x hx
    · have hcur : cur = ([] ++ (iE.cs xs ++ cur.toList.drop (xs.length * 1))).toArray := by
        apply Array.ext'
        rw [List.nil_append, iE_cs]
        show cur.toList = xs.map _ ++ cur.toList.drop (xs.length * 1)
        rw [← h4, List.take_append_drop]
      have hp := pt_new (o := .cells cur E (0, 0)) hF hng
      have hp : (pt g (.cells ([] ++ (iE.cs xs ++ cur.toList.drop (xs.length * 1))).toArray E (0, 0)) * F) (h.upd g (.cells cur E (0, 0))) := by rw [← hcur]; exact hp
      refine SG_intro iE (pre := []) rfl rfl h1 (by unfold maxLen at h2; omega) ?_ hp
      show (cap - xs.length) * 1 ≤ (cur.toList.drop (xs.length * 1)).length
      have hz : cur.toList.length = cap * 1 := h3
      rw [List.length_drop, hz]
      omega

end Go.Sl

namespace Go.Proofs
open Go.Sl

theorem ints_vs {w : World} {sv : Value} {xs : List Int} (h : IntsAt w.hp sv xs) : Vs.Ints w.heap.size w sv xs := by
  have hl := h.len
  unfold lenV at hl
  split at hl
  · rename_i a n c
    have hn : n = xs.length := by
      have := Value.int.inj (Option.some.inj hl)
      omega
    subst hn
    by_cases h0 : xs = []
    · subst h0
      exact .inl ⟨a, c, rfl, rfl⟩
    · have hpos : 0 < xs.length := List.length_pos_iff.2 h0
      cases a with
      | none =>
        obtain ⟨p, h1, _⟩ := h.get 0 xs[0] .i64 (List.getElem?_eq_getElem hpos)
        cases h1
      | some a =>
        have hget : ∀ j, (hj : j < xs.length) → w.hp.cell (a.add (j * 1)) = some (.int .i64 xs[j]) := fun j hj => by
          obtain ⟨p, h1, h2⟩ := h.get j xs[j] .i64 (List.getElem?_eq_getElem hj)
          rw [iaS_at hj] at h1
          cases h1
          exact h2
        obtain ⟨b, off, sp⟩ := a
        have hs : sp = none := cell_spot (hget 0 hpos)
        subst hs
        refine .inr ⟨b, off, c, rfl, ?_, fun j hj => ?_⟩
        · obtain ⟨o, ho, _⟩ := Hp.block_of_cell (hget 0 hpos)
          exact (Array.getElem?_eq_some_iff.1 ho).1
        · have := hget j hj
          rw [add_mk, Nat.mul_one] at this
          rw [cell?_hp, this, List.getElem?_eq_getElem hj]
          rfl
  · cases hl

theorem use_vals {sv : Value} {F : Asrt} {K : Value → Hp → Prop} {h : Hp} (hc : sv.cells = #[sv]) (hh : F h) (hK : ∀ r h', (pt r (.cells #[sv] 22 (0, 0)) * F) h' → K (.func (.func 69) #[] #[.pointer (some ⟨r, 0, none⟩)]) h') : CallH Try.prog 43 #[sv] K h := by
  refine C43 ?_
  unfold D43
  rw [hc]
  refine vA_new (f := ptrV) hh fun r h1 hh1 => ?_
  repeat (with_reducible first | refine vP_so ?_ | refine vB_t ?_ | refine vB_f ?_ | refine vE_tt ?_ | refine vE_ff ?_ | refine vE_tf ?_ | refine vE_ft ?_ | refine vE_u ?_ | refine vP_to (by simp (disch := omega) only [gdW_true, gdW_false, gB_true, gB_false, gB_undef, pickV_true, pickV_false, Bool.not_true, Bool.not_false, Option.map_some, bin_add, bin_sub, bin_mul, bin_quo, bin_rem, lss_t, lss_f, leq_t, leq_f, gtr_t, gtr_f, geq_t, geq_f, eqi_t, eqi_f, nei_t, nei_f, rem_uw, conv_ui, conv_iu, conv_ii, not_bool, nil_ptr, fa_mk, ptrV, len_mk, cap_mk, eq_ptr_nil, ne_ptr_nil, eq_nil_nil, ne_nil_nil, eq_slice_nil, eq_nil_slice, ia_1]; exact so_so) ?_)
  exact hK r h1 hh1

theorem ints_cells {g : Hp} {sv : Value} {xs : List Int} (h : IntsAt g sv xs) : sv.cells = #[sv] := by
  have hl := h.len
  unfold lenV at hl
  split at hl
  · rfl
  · cases hl

theorem use_app {sv : Value} {xs : List Int} {r : Nat} {F : Asrt} {K : Value → Hp → Prop} {h : Hp} (hx : IntsAt h sv xs) (hb : xs.length ≤ 1000000) (hh : (pt r (.cells #[sv] 22 (0, 0)) * F) h)
    (hK : ∀ v h', (SG iE 3 v xs * (pt r (.cells #[sv] 22 (0, 0)) * F)) h' → K v h') : CallH Try.prog 83 #[.slice none 0 0, .func (.func 69) #[] #[.pointer (some ⟨r, 0, none⟩)]] K h := by
  refine callH_own hh (fun w fr e => ?_) hK
  have hxw : IntsAt w.hp sv xs := by rw [e]; exact hx.mono
  have hr : w.hp r = some (.cells #[sv] 22 (0, 0)) := by rw [e]; exact Hp.add_of_left (pt_get hh)
  refine callsIn_wide.1 (Vs.app_in Fence.wide 3 trivial trivial rfl (by omega) r sv xs (by omega) (by unfold maxLen; omega) w ?_ ?_ (ints_vs hxw))
  · exact (Array.getElem?_eq_some_iff.1 hr).1
  · rw [cell?_hp]
    unfold Hp.cell
    simp only [hr, Option.bind_some]
    rfl

/-- slices.Sorted(slices.Values(..)). -/
theorem use_svals {g : Hp} {sv : Value} {xs : List Int} {F : Asrt} {K : Value → Hp → Prop} {h : Hp} (hx : IntsAt g sv xs) (hb : xs.length ≤ 1000000) (hh : (own g * (F * tt)) h)
    (hK : ∀ v h', (SG iE 3 v (srt xs) * (own g * (F * tt))) h' → K v h') : CallH Try.prog 43 #[sv] (fun v1 h1 => CallH Try.prog 42 #[v1] K h1) h := by
  refine use_vals (ints_cells hx) hh fun r h1 hh1 => ?_
  refine C42 ?_
  unfold D42
  refine C67 ?_
  unfold D67
  refine use_app (own_ints (F := pt r (.cells #[sv] 22 (0, 0)) * (F * tt)) (asr (by ac_rfl) hh1) hx) hb hh1 fun v h2 hh2 => ?_
  refine use_sort sortC (by omega) hh2 fun h3 hh3 => ?_
  exact hK v h3 (dropL (P := pt r (.cells #[sv] 22 (0, 0))) (Q := SG iE 3 v (srt xs) * (own g * F)) (asr (by ac_rfl) hh3) |> asr (by ac_rfl))

end Go.Proofs

/-
  Contracts of package view: Path.
-/
set_option maxRecDepth 100000
set_option maxHeartbeats 4000000
namespace Go.Proofs
open Go.Sl

def fM (f : Int → Option Int) : Int → Option Value := fun x => (f x).map fun (y : Int) => Value.int .i64 y

theorem fM_put (f : Int → Option Int) (b c : Int) : (fun x => if x = b then some (Value.int .i64 c) else fM f x) = fM (fun x => if x = b then some c else f x) := by
  funext x
  unfold fM
  by_cases h : x = b
  · simp [h]
  · simp [h]

theorem slots_len {w : VW} {o : Ob} (h : o ∈ w.objs) : o.slots.length ≤ w.all.length := by
  have : ∀ {l : List Ob}, o ∈ l → o.slots.length ≤ (l.flatMap (·.slots)).length := fun {l} => by
    induction l with
    | nil => intro h; simp at h
    | cons a l ih =>
      intro h
      rw [List.flatMap_cons, List.length_append]
      rcases List.mem_cons.1 h with rfl | h
      · omega
      · have := ih h; omega
  have := this h
  unfold VW.all
  rw [List.length_append]
  omega

theorem use_path {g : Hp} {w : VW} {a : Int} {F : Asrt} {K : Value → Hp → Prop} {h : Hp} (hv : VAt g w) (hN : w.all.length ≤ 1000000) (hh : (own g * (F * tt)) h)
    (hK : ∀ v l h', PathL w a l → l.length ≤ 1000000 → (SG iE 3 v l * (own g * (F * tt))) h' → K v h') : CallH Try.prog 15 #[w.val, .int .i64 a] K h := by
  refine C15 ?_
  unfold D15
  have x0 : ∀ a b : Value, exV (.tuple #[a, b]) 0 = some a := fun _ _ => rfl
  have x1 : ∀ a b : Value, exV (.tuple #[a, b]) 1 = some b := fun _ _ => rfl
  have eb : ∀ x : Int, bldV #[.int .i64 0] [(0, 1, .int .i64 x)] = some #[.int .i64 x] := fun _ => rfl
  refine vA_new (o := .cells w.cells 26 (0, 0)) hh fun r2 h1 hh1 => ?_
  have l9 := (vw_ld (r := r2) (w := w) (E := 26) hh1).2.2.2.2.2.2.2.2.2
  repeat (with_reducible first | refine vP_so ?_ | refine vB_t ?_ | refine vB_f ?_ | refine vE_tt ?_ | refine vE_ff ?_ | refine vE_tf ?_ | refine vE_ft ?_ | refine vE_u ?_ | refine vP_to (by simp (disch := omega) only [gdW_true, gdW_false, gB_true, gB_false, gB_undef, pickV_true, pickV_false, Bool.not_true, Bool.not_false, Option.map_some, bin_add, bin_sub, bin_mul, bin_quo, bin_rem, lss_t, lss_f, leq_t, leq_f, gtr_t, gtr_f, geq_t, geq_f, eqi_t, eqi_f, nei_t, nei_f, rem_uw, conv_ui, conv_iu, conv_ii, not_bool, nil_ptr, fa_mk, ptrV, len_mk, cap_mk, eq_ptr_nil, ne_ptr_nil, eq_nil_nil, ne_nil_nil, eq_slice_nil, eq_nil_slice, ia_1, l9]; exact so_so) ?_)
  refine use_places (F := pt r2 (.cells w.cells 26 (0, 0)) * F) hv (asr (by ac_rfl) hh1) fun r26 h2 hh2 => ?_
  refine vA_new (f := fun r => .map (some r)) hh2 fun r27 h3 hh3 => ?_
  have hh3 := MP_new hh3
  obtain ⟨B, hB⟩ : ∃ B : Asrt, B = MP r26 (atM w.objs) * (pt r2 (.cells w.cells 26 (0, 0)) * F) := ⟨_, rfl⟩
  have hh3 : (MP r27 (fun _ => none) * (own g * (B * tt))) h3 := by rw [hB]; exact asr (by ac_rfl) hh3
  have lv : ∀ {h} {G : Asrt}, (G * (own g * (B * tt))) h → ldN 9 (.pointer (some ⟨r2, 0, none⟩)) h = some w.val := fun {h G} q =>
    (vw_ld (r := r2) (w := w) (E := 26) (F := G * (own g * (MP r26 (atM w.objs) * (F * tt)))) (asr (by rw [hB]; ac_rfl) q)).2.2.2.2.2.2.2.2.2
  have lo : ∀ {h} {G : Asrt}, (G * (own g * (B * tt))) h → ld1 (.pointer (some ⟨r2, 0 + 5, none⟩)) h = some w.ov := fun {h G} q =>
    (vw_ld (r := r2) (w := w) (E := 26) (F := G * (own g * (MP r26 (atM w.objs) * (F * tt)))) (asr (by rw [hB]; ac_rfl) q)).2.2.2.2.2.1
  have la : ∀ {h} {G : Asrt} (x : Int), (G * (own g * (B * tt))) h → lkV Try.prog 51 (.map (some r26)) (.int .i64 x) true h = some (.tuple #[((w.at x).map fun (i : Nat) => Value.int .i64 (i : Int)).getD (.int .i64 0), .bool (w.at x).isSome]) ∧ lkV Try.prog 51 (.map (some r26)) (.int .i64 x) false h = some (((w.at x).map fun (i : Nat) => Value.int .i64 (i : Int)).getD (.int .i64 0)) := fun {h G} x q => by
    have q : (MP r26 (atM w.objs) * (G * (own g * (pt r2 (.cells w.cells 26 (0, 0)) * (F * tt))))) h := asr (by rw [hB]; ac_rfl) q
    obtain ⟨e1, e2⟩ := lk_MP (k := x) mapII intU zInt q
    rw [atM_at] at e1 e2
    refine ⟨?_, e1⟩
    rw [e2]
    cases w.at x <;> rfl
  have ow : ∀ {h} {G : Asrt}, (G * (own g * (B * tt))) h → VAt h w := fun {h G} q => own_vat (F := G * (B * tt)) (asr (by ac_rfl) q) hv
  have fin : ∀ v l h', PathL w a l → l.length ≤ 1000000 → (SG iE 3 v l * (own g * (B * tt))) h' → K v h' := fun v l h' p1 p2 q => by
    rw [hB] at q
    exact hK v l h' p1 p2 (dropL (P := MP r26 (atM w.objs) * pt r2 (.cells w.cells 26 (0, 0))) (Q := SG iE 3 v l * (own g * F)) (asr (by ac_rfl) q) |> asr (by ac_rfl))
  clear hK l9 hh1 hh2 hh
  have hroots : ∀ x, x ∈ w.rootsL ↔ w.root x := fun x => by unfold VW.rootsL VW.root; rw [foldl_once_mem]; simp
  have hrnd : w.rootsL.Nodup := foldl_once_nodup (by simp)
  have hrl : w.rootsL.length ≤ 1000000 := Nat.le_trans (nodup_len hrnd fun x hx => (Rch.root ((hroots x).1 hx).1 ((hroots x).1 hx).2).all) hN
  repeat (with_reducible first | refine vP_so ?_ | refine vB_t ?_ | refine vB_f ?_ | refine vE_tt ?_ | refine vE_ff ?_ | refine vE_tf ?_ | refine vE_ft ?_ | refine vE_u ?_ | refine vP_to (by simp (disch := omega) only [gdW_true, gdW_false, gB_true, gB_false, gB_undef, pickV_true, pickV_false, Bool.not_true, Bool.not_false, Option.map_some, bin_add, bin_sub, bin_mul, bin_quo, bin_rem, lss_t, lss_f, leq_t, leq_f, gtr_t, gtr_f, geq_t, geq_f, eqi_t, eqi_f, nei_t, nei_f, rem_uw, conv_ui, conv_iu, conv_ii, not_bool, nil_ptr, fa_mk, ptrV, len_mk, cap_mk, eq_ptr_nil, ne_ptr_nil, eq_nil_nil, ne_nil_nil, eq_slice_nil, eq_nil_slice, ia_1, lv hh3]; exact so_so) ?_)
  refine use_roots (F := MP r27 (fun _ => none) * B) hv hN (asr (by ac_rfl) hh3) fun v29 h4 hh4 => ?_
  obtain ⟨g1, hg1, hh4⟩ := own_pick hh4
  have hi1 : IntsAt g1 v29 w.rootsL := SG_ints (E := 3) (F := emp) ⟨g1, Hp.emp, Disj.emp g1, by rw [Hp.add_emp], hg1, rfl⟩
  refine use_svals (g := g1) (F := own g * (MP r27 (fun _ => none) * B)) hi1 hrl (asr (by ac_rfl) hh4) fun v31 h6 hh6 => ?_
  have hh6 : (SG iE 3 v31 (srt w.rootsL) * (MP r27 (fM fun _ => none) * (own g * (B * tt)))) h6 := dropL (P := own g1) (Q := SG iE 3 v31 (srt w.rootsL) * (MP r27 (fun _ => none) * (own g * B))) (asr (by ac_rfl) hh6) |> asr (by ac_rfl)
  intro J1 hJ1
  -- the tail
  have hJ : ∀ (v7 : Value) (h7 : Hp) (L : List Int) (f : Int → Option Int) (P : Int → List Int) (d : Nat), BF w f P d L → (L = [] ∧ ∀ q, ¬ Go.Sl.Way w q a) ∨ a ∈ L → (SG iE 3 v7 L * (MP r27 (fM f) * (own g * (B * tt)))) h7 → J1 [v7] h7 := by
    intro v7 h7 L f P d hF hL hh7
    refine hJ1 _ _ fun _ => ?_
    have hlen := SG_len iE hh7
    have hla := (la (G := SG iE 3 v7 L * MP r27 (fM f)) a (asr (by ac_rfl) hh7)).1
    have nil : ∀ {h}, (SG iE 3 v7 L * (MP r27 (fM f) * (own g * (B * tt)))) h → (SG iE 3 (.slice none 0 0) [] * (own g * (B * tt))) h := fun q => SG_nil iE (dropL (P := SG iE 3 v7 L * MP r27 (fM f)) (Q := own g * B) (asr (by ac_rfl) q) |> asr (by ac_rfl))
    cases hat : w.at a with
    | none =>
      rw [hat] at hla
      simp only [Option.map_none, Option.getD_none, Option.isSome_none] at hla
      repeat (with_reducible first | refine vP_so ?_ | refine vB_t ?_ | refine vB_f ?_ | refine vE_tt ?_ | refine vE_ff ?_ | refine vE_tf ?_ | refine vE_ft ?_ | refine vE_u ?_ | refine vP_to (by simp (disch := omega) only [gdW_true, gdW_false, gB_true, gB_false, gB_undef, pickV_true, pickV_false, Bool.not_true, Bool.not_false, Option.map_some, bin_add, bin_sub, bin_mul, bin_quo, bin_rem, lss_t, lss_f, leq_t, leq_f, gtr_t, gtr_f, geq_t, geq_f, eqi_t, eqi_f, nei_t, nei_f, rem_uw, conv_ui, conv_iu, conv_ii, not_bool, nil_ptr, fa_mk, ptrV, len_mk, cap_mk, eq_ptr_nil, ne_ptr_nil, eq_nil_nil, ne_nil_nil, eq_slice_nil, eq_nil_slice, ia_1, hla, x0, x1]; exact so_so) ?_)
      exact fin _ [] h7 (.inr ⟨rfl, .inl hat⟩) (by simp) (nil hh7)
    | some k =>
      rw [hat] at hla
      simp only [Option.map_some, Option.getD_some, Option.isSome_some] at hla
      rcases hL with ⟨rfl, hno⟩ | hL
      · simp only [List.length_nil] at hlen
        repeat (with_reducible first | refine vP_so ?_ | refine vB_t ?_ | refine vB_f ?_ | refine vE_tt ?_ | refine vE_ff ?_ | refine vE_tf ?_ | refine vE_ft ?_ | refine vE_u ?_ | refine vP_to (by simp (disch := omega) only [gdW_true, gdW_false, gB_true, gB_false, gB_undef, pickV_true, pickV_false, Bool.not_true, Bool.not_false, Option.map_some, bin_add, bin_sub, bin_mul, bin_quo, bin_rem, lss_t, lss_f, leq_t, leq_f, gtr_t, gtr_f, geq_t, geq_f, eqi_t, eqi_f, nei_t, nei_f, rem_uw, conv_ui, conv_iu, conv_ii, not_bool, nil_ptr, fa_mk, ptrV, len_mk, cap_mk, eq_ptr_nil, ne_ptr_nil, eq_nil_nil, ne_nil_nil, eq_slice_nil, eq_nil_slice, ia_1, hla, x0, x1, hlen]; exact so_so) ?_)
        exact fin _ [] h7 (.inr ⟨rfl, .inr hno⟩) (by simp) (nil hh7)
      · have hpos := List.length_pos_of_mem hL
        have hVa := ((hF.lev a).1 hL).1
        repeat (with_reducible first | refine vP_so ?_ | refine vB_t ?_ | refine vB_f ?_ | refine vE_tt ?_ | refine vE_ff ?_ | refine vE_tf ?_ | refine vE_ft ?_ | refine vE_u ?_ | refine vP_to (by simp (disch := omega) only [gdW_true, gdW_false, gB_true, gB_false, gB_undef, pickV_true, pickV_false, Bool.not_true, Bool.not_false, Option.map_some, bin_add, bin_sub, bin_mul, bin_quo, bin_rem, lss_t, lss_f, leq_t, leq_f, gtr_t, gtr_f, geq_t, geq_f, eqi_t, eqi_f, nei_t, nei_f, rem_uw, conv_ui, conv_iu, conv_ii, not_bool, nil_ptr, fa_mk, ptrV, len_mk, cap_mk, eq_ptr_nil, ne_ptr_nil, eq_nil_nil, ne_nil_nil, eq_slice_nil, eq_nil_slice, ia_1, hla, x0, x1, hlen, eb]; exact so_so) ?_)
        rw [eb]
        refine vA_new (f := fun r => .slice (some ⟨r, 0, none⟩) 1 1) hh7 fun r120 h8 hh8 => ?_
        have hh8 : (SG iE 3 (.slice (some ⟨r120, 0, none⟩) 1 1) [a] * (SG iE 3 v7 L * (MP r27 (fM f) * (own g * (B * tt))))) h8 := SG_intro iE (pre := []) (post := []) (l := [a]) rfl rfl (by simp) (by omega) (by simp) hh8
        have lf : ∀ {h} {v} {l : List Int} (x : Int), (SG iE 3 v l * (SG iE 3 v7 L * (MP r27 (fM f) * (own g * (B * tt))))) h → lkV Try.prog 51 (.map (some r27)) (.int .i64 x) true h = some (.tuple #[((fM f x)).getD (.int .i64 0), .bool (fM f x).isSome]) := fun {h v l} x q =>
          (lk_MP (k := x) mapII intU zInt (asr (by ac_rfl) q : (MP r27 (fM f) * (SG iE 3 v l * (SG iE 3 v7 L * (own g * (B * tt))))) h)).2
        have hlf := lf a hh8
        repeat (with_reducible first | refine vP_so ?_ | refine vB_t ?_ | refine vB_f ?_ | refine vE_tt ?_ | refine vE_ff ?_ | refine vE_tf ?_ | refine vE_ft ?_ | refine vE_u ?_ | refine vP_to (by simp (disch := omega) only [gdW_true, gdW_false, gB_true, gB_false, gB_undef, pickV_true, pickV_false, Bool.not_true, Bool.not_false, Option.map_some, bin_add, bin_sub, bin_mul, bin_quo, bin_rem, lss_t, lss_f, leq_t, leq_f, gtr_t, gtr_f, geq_t, geq_f, eqi_t, eqi_f, nei_t, nei_f, rem_uw, conv_ui, conv_iu, conv_ii, not_bool, nil_ptr, fa_mk, ptrV, len_mk, cap_mk, eq_ptr_nil, ne_ptr_nil, eq_nil_nil, ne_nil_nil, eq_slice_nil, eq_nil_slice, ia_1, hlf, x0, x1]; exact so_so) ?_)
        refine ⟨fun m zs h' => ∃ (y : Int) (rest : List Int) (ov : Value), zs = [(fM f y).getD (.int .i64 0), ov, .bool (fM f y).isSome] ∧ m = (P y).length ∧ Vis w f y ∧ P a = P y ++ rest ∧ (SG iE 3 ov (y :: rest) * (SG iE 3 v7 L * (MP r27 (fM f) * (own g * (B * tt))))) h',
          ⟨_, a, [], _, rfl, rfl, hVa, by simp, hh8⟩, ?_⟩
        have hPa : (P a).length ≤ 1000000 := by
          have h1 : ∀ x, Vis w f x → (P x).Nodup ∧ ∀ y ∈ P x, y ∈ w.all := by
            intro x
            generalize hn : (P x).length = n
            induction n using Nat.strongRecOn generalizing x with
            | ind n ih =>
              intro hx
              have hxa := (hF.best x hx).way.rch.all
              cases hq : f x with
              | none =>
                have hr : w.root x := by rcases hx with hx | hx; exact hx; exact (hx hq).elim
                rw [(hF.rt x hr).2]
                exact ⟨by simp, fun y hy => by simp at hy; exact hy ▸ hxa⟩
              | some z =>
                obtain ⟨hz, hp⟩ := hF.par x z hq
                have hlt : (P z).length < n := by rw [← hn, hp]; simp
                obtain ⟨i1, i2⟩ := ih _ hlt z rfl hz
                rw [hp]
                refine ⟨?_, fun y hy => ?_⟩
                · rw [List.nodup_append]
                  refine ⟨i1, by simp, fun u hu b hb => ?_⟩
                  obtain rfl : b = x := by simpa using hb
                  rintro rfl
                  -- a shorter way to the same
                  have : ∀ y, Vis w f y → ∀ u ∈ P y, (P u).length ≤ (P y).length ∧ Vis w f u := by
                    intro y
                    generalize hm : (P y).length = m
                    induction m using Nat.strongRecOn generalizing y with
                    | ind m ih2 =>
                      intro hy u hu
                      cases hq2 : f y with
                      | none =>
                        have hr : w.root y := by rcases hy with hy | hy; exact hy; exact (hy hq2).elim
                        rw [(hF.rt y hr).2] at hu
                        obtain rfl : u = y := by simpa using hu
                        exact ⟨by omega, hy⟩
                      | some z2 =>
                        obtain ⟨hz2, hp2⟩ := hF.par y z2 hq2
                        rw [hp2] at hu
                        have hl2 : (P z2).length < m := by rw [← hm, hp2]; simp
                        rcases List.mem_append.1 hu with hu | hu
                        · obtain ⟨j1, j2⟩ := ih2 _ hl2 z2 rfl hz2 u hu
                          exact ⟨by omega, j2⟩
                        · obtain rfl : u = y := by simpa using hu
                          exact ⟨by omega, hy⟩
                  have := (this z hz u hu).1
                  omega
                · rcases List.mem_append.1 hy with hy | hy
                  · exact i2 y hy
                  · obtain rfl : y = x := by simpa using hy
                    exact hxa
          obtain ⟨i1, i2⟩ := h1 a hVa
          have := nodup_len i1 i2
          omega
        rintro m v23 v22 v24 h9 ⟨y, rest, ov, hzs, rfl, hy, hPy, hh9⟩ _
        obtain ⟨rfl, rfl, rfl⟩ : v23 = (fM f y).getD (.int .i64 0) ∧ v22 = ov ∧ v24 = .bool (fM f y).isSome := by simpa using hzs
        cases hq : f y with
        | none =>
          have hr : w.root y := by rcases hy with hy | hy; exact hy; exact (hy hq).elim
          have e : P a = y :: rest := by rw [hPy, (hF.rt y hr).2]; rfl
          have e2 : fM f y = none := by unfold fM; rw [hq]; rfl
          rw [e2]
          simp only [Option.isSome_none, Option.getD_none]
          repeat (with_reducible first | refine vP_so ?_ | refine vB_t ?_ | refine vB_f ?_ | refine vE_tt ?_ | refine vE_ff ?_ | refine vE_tf ?_ | refine vE_ft ?_ | refine vE_u ?_ | refine vP_to (by simp (disch := omega) only [gdW_true, gdW_false, gB_true, gB_false, gB_undef, pickV_true, pickV_false, Bool.not_true, Bool.not_false, Option.map_some, bin_add, bin_sub, bin_mul, bin_quo, bin_rem, lss_t, lss_f, leq_t, leq_f, gtr_t, gtr_f, geq_t, geq_f, eqi_t, eqi_f, nei_t, nei_f, rem_uw, conv_ui, conv_iu, conv_ii, not_bool, nil_ptr, fa_mk, ptrV, len_mk, cap_mk, eq_ptr_nil, ne_ptr_nil, eq_nil_nil, ne_nil_nil, eq_slice_nil, eq_nil_slice, ia_1]; exact so_so) ?_)
          exact fin _ (y :: rest) h9 (.inl ⟨by rw [hat]; simp, e ▸ hF.best a hVa⟩) (by rw [← e]; exact hPa) (dropL (P := SG iE 3 v7 L * MP r27 (fM f)) (Q := SG iE 3 v22 (y :: rest) * (own g * B)) (asr (by ac_rfl) hh9) |> asr (by ac_rfl))
        | some z =>
          obtain ⟨hz, hp⟩ := hF.par y z hq
          have e2 : fM f y = some (.int .i64 z) := by unfold fM; rw [hq]; rfl
          rw [e2]
          simp only [Option.isSome_some, Option.getD_some]
          have hll : (y :: rest).length ≤ 1000000 := by
            have : (P a).length = (P z).length + (y :: rest).length := by rw [hPy, hp]; simp
            omega
          repeat (with_reducible first | refine vP_so ?_ | refine vB_t ?_ | refine vB_f ?_ | refine vE_tt ?_ | refine vE_ff ?_ | refine vE_tf ?_ | refine vE_ft ?_ | refine vE_u ?_ | refine vP_to (by simp (disch := omega) only [gdW_true, gdW_false, gB_true, gB_false, gB_undef, pickV_true, pickV_false, Bool.not_true, Bool.not_false, Option.map_some, bin_add, bin_sub, bin_mul, bin_quo, bin_rem, lss_t, lss_f, leq_t, leq_f, gtr_t, gtr_f, geq_t, geq_f, eqi_t, eqi_f, nei_t, nei_f, rem_uw, conv_ui, conv_iu, conv_ii, not_bool, nil_ptr, fa_mk, ptrV, len_mk, cap_mk, eq_ptr_nil, ne_ptr_nil, eq_nil_nil, ne_nil_nil, eq_slice_nil, eq_nil_slice, ia_1, eb]; exact so_so) ?_)
          rw [eb]
          refine vA_new (f := fun r => .slice (some ⟨r, 0, none⟩) 1 1) hh9 fun r135 h10 hh10 => ?_
          have hh10 : (SG iE 3 (.slice (some ⟨r135, 0, none⟩) 1 1) [z] * (SG iE 3 v22 (y :: rest) * (SG iE 3 v7 L * (MP r27 (fM f) * (own g * (B * tt)))))) h10 := SG_intro iE (pre := []) (post := []) (l := [z]) rfl rfl (by simp) (by omega) (by simp) hh10
          have hw : (SG iE 3 v22 (y :: rest) * (SG iE 3 (.slice (some ⟨r135, 0, none⟩) 1 1) [z] * (SG iE 3 v7 L * (MP r27 (fM f) * (own g * (B * tt)))))) h10 := asr (by ac_rfl) hh10
          refine ap_part iE (F := SG iE 3 v22 (y :: rest) * (SG iE 3 v7 L * (MP r27 (fM f) * (own g * B)))) elInt rfl rfl niInts rfl (by omega) (asr (by ac_rfl) hh10) (part_all iE hw) hw (by simp only [List.length_singleton]; omega) fun v137 h11 hh11 => ?_
          have hh11 : (SG iE 3 v137 (z :: y :: rest) * (SG iE 3 v7 L * (MP r27 (fM f) * (own g * (B * tt))))) h11 := dropL (P := SG iE 3 v22 (y :: rest)) (Q := SG iE 3 v137 ([z] ++ (y :: rest)) * (SG iE 3 v7 L * (MP r27 (fM f) * (own g * B)))) (asr (by ac_rfl) hh11) |> asr (by ac_rfl)
          have hPz : P a = P z ++ (y :: rest) := by
            rw [hPy, hp, List.append_assoc]
            first | done | rfl
          have hlf := lf z hh11
          repeat (with_reducible first | refine vP_so ?_ | refine vB_t ?_ | refine vB_f ?_ | refine vE_tt ?_ | refine vE_ff ?_ | refine vE_tf ?_ | refine vE_ft ?_ | refine vE_u ?_ | refine vP_to (by simp (disch := omega) only [gdW_true, gdW_false, gB_true, gB_false, gB_undef, pickV_true, pickV_false, Bool.not_true, Bool.not_false, Option.map_some, bin_add, bin_sub, bin_mul, bin_quo, bin_rem, lss_t, lss_f, leq_t, leq_f, gtr_t, gtr_f, geq_t, geq_f, eqi_t, eqi_f, nei_t, nei_f, rem_uw, conv_ui, conv_iu, conv_ii, not_bool, nil_ptr, fa_mk, ptrV, len_mk, cap_mk, eq_ptr_nil, ne_ptr_nil, eq_nil_nil, ne_nil_nil, eq_slice_nil, eq_nil_slice, ia_1, hlf, x0, x1]; exact so_so) ?_)
          exact ⟨(P z).length, by rw [hp]; simp, z, y :: rest, v137, rfl, rfl, hz, hPz, hh11⟩
  -- the levels
  clear hh3 hh4 hi1 hg1
  refine ⟨fun m zs h' => ∃ (L : List Int) (f : Int → Option Int) (P : Int → List Int) (d : Nat) (v : Value), zs = [v] ∧ m = 2 * unv w f + (if L = [] then 0 else 1) ∧ BF w f P d L ∧ (Vis w f a → a ∈ L) ∧ (SG iE 3 v L * (MP r27 (fM f) * (own g * (B * tt)))) h',
    ⟨_, srt w.rootsL, fun _ => none, fun x => [x], 0, v31, rfl, rfl, BF.start (fun x => by rw [srt_mem, hroots]) (srt_rise hrnd), fun q => by rw [srt_mem, hroots]; rcases q with q | q; exact q; exact (q rfl).elim, hh6⟩, ?_⟩
  rintro m v7 h12 ⟨L, f, P, d, v, hzs, rfl, hF, hA, hh12⟩ _
  obtain rfl : v7 = v := by simpa using hzs
  have hlen7 := SG_len iE hh12
  have hLs := hF.small
  by_cases hL0 : L = []
  · subst hL0
    simp only [List.length_nil] at hlen7
    repeat (with_reducible first | refine vP_so ?_ | refine vB_t ?_ | refine vB_f ?_ | refine vE_tt ?_ | refine vE_ff ?_ | refine vE_tf ?_ | refine vE_ft ?_ | refine vE_u ?_ | refine vP_to (by simp (disch := omega) only [gdW_true, gdW_false, gB_true, gB_false, gB_undef, pickV_true, pickV_false, Bool.not_true, Bool.not_false, Option.map_some, bin_add, bin_sub, bin_mul, bin_quo, bin_rem, lss_t, lss_f, leq_t, leq_f, gtr_t, gtr_f, geq_t, geq_f, eqi_t, eqi_f, nei_t, nei_f, rem_uw, conv_ui, conv_iu, conv_ii, not_bool, nil_ptr, fa_mk, ptrV, len_mk, cap_mk, eq_ptr_nil, ne_ptr_nil, eq_nil_nil, ne_nil_nil, eq_slice_nil, eq_nil_slice, ia_1, hlen7]; exact so_so) ?_)
    exact hJ v7 h12 [] f P d hF (.inl ⟨rfl, fun q hq => by have := hA (hF.over hq); simp at this⟩) hh12
  have hLpos := List.length_pos_iff.2 hL0
  repeat (with_reducible first | refine vP_so ?_ | refine vB_t ?_ | refine vB_f ?_ | refine vE_tt ?_ | refine vE_ff ?_ | refine vE_tf ?_ | refine vE_ft ?_ | refine vE_u ?_ | refine vP_to (by simp (disch := omega) only [gdW_true, gdW_false, gB_true, gB_false, gB_undef, pickV_true, pickV_false, Bool.not_true, Bool.not_false, Option.map_some, bin_add, bin_sub, bin_mul, bin_quo, bin_rem, lss_t, lss_f, leq_t, leq_f, gtr_t, gtr_f, geq_t, geq_f, eqi_t, eqi_f, nei_t, nei_f, rem_uw, conv_ui, conv_iu, conv_ii, not_bool, nil_ptr, fa_mk, ptrV, len_mk, cap_mk, eq_ptr_nil, ne_ptr_nil, eq_nil_nil, ne_nil_nil, eq_slice_nil, eq_nil_slice, ia_1, hlen7]; exact so_so) ?_)
  refine ⟨fun m zs h' => ∃ (i : Nat) (v8 : Value), zs = [.int .i64 i, v8] ∧ m = L.length - i ∧ i ≤ L.length ∧ a ∉ L.take i ∧ (SG iE 3 v8 ((L.take i).filter fun x => (w.at x).isSome) * (SG iE 3 v7 L * (MP r27 (fM f) * (own g * (B * tt))))) h', ⟨_, 0, _, rfl, rfl, by omega, by simp, SG_nil iE hh12⟩, ?_⟩
  rintro m v37 v8 h13 ⟨i, v8', hzs, rfl, hi, hna, hh13⟩ _
  obtain ⟨rfl, rfl⟩ : v37 = .int .i64 i ∧ v8 = v8' := by simpa using hzs
  have hS7 : (SG iE 3 v7 L * (SG iE 3 v8 ((L.take i).filter fun x => (w.at x).isSome) * (MP r27 (fM f) * (own g * (B * tt))))) h13 := asr (by ac_rfl) hh13
  by_cases hil : i < L.length
  · obtain ⟨p, f1, f2, _⟩ := el1 hS7 (List.getElem?_eq_getElem hil) .i64
    have htk := List.take_succ_eq_append_getElem hil
    have hxL : L[i] ∈ L := List.getElem_mem hil
    have hfl : ((L.take i).filter fun x => (w.at x).isSome).length ≤ i := Nat.le_trans (List.length_filter_le ..) (by rw [List.length_take]; omega)
    generalize L[i] = x at *
    repeat (with_reducible first | refine vP_so ?_ | refine vB_t ?_ | refine vB_f ?_ | refine vE_tt ?_ | refine vE_ff ?_ | refine vE_tf ?_ | refine vE_ft ?_ | refine vE_u ?_ | refine vP_to (by simp (disch := omega) only [gdW_true, gdW_false, gB_true, gB_false, gB_undef, pickV_true, pickV_false, Bool.not_true, Bool.not_false, Option.map_some, bin_add, bin_sub, bin_mul, bin_quo, bin_rem, lss_t, lss_f, leq_t, leq_f, gtr_t, gtr_f, geq_t, geq_f, eqi_t, eqi_f, nei_t, nei_f, rem_uw, conv_ui, conv_iu, conv_ii, not_bool, nil_ptr, fa_mk, ptrV, len_mk, cap_mk, eq_ptr_nil, ne_ptr_nil, eq_nil_nil, ne_nil_nil, eq_slice_nil, eq_nil_slice, ia_1, f1, f2]; exact so_so) ?_)
    intro J5 hJ5
    have hJ5' : ∀ v8' h', (SG iE 3 v8' ((L.take (i + 1)).filter fun x => (w.at x).isSome) * (SG iE 3 v7 L * (MP r27 (fM f) * (own g * (B * tt))))) h' → J5 [v8'] h' := fun v8' h' q => by
      refine hJ5 _ _ fun _ => ?_
      by_cases hxa : x = a
      · repeat (with_reducible first | refine vP_so ?_ | refine vB_t ?_ | refine vB_f ?_ | refine vE_tt ?_ | refine vE_ff ?_ | refine vE_tf ?_ | refine vE_ft ?_ | refine vE_u ?_ | refine vP_to (by simp (disch := omega) only [gdW_true, gdW_false, gB_true, gB_false, gB_undef, pickV_true, pickV_false, Bool.not_true, Bool.not_false, Option.map_some, bin_add, bin_sub, bin_mul, bin_quo, bin_rem, lss_t, lss_f, leq_t, leq_f, gtr_t, gtr_f, geq_t, geq_f, eqi_t, eqi_f, nei_t, nei_f, rem_uw, conv_ui, conv_iu, conv_ii, not_bool, nil_ptr, fa_mk, ptrV, len_mk, cap_mk, eq_ptr_nil, ne_ptr_nil, eq_nil_nil, ne_nil_nil, eq_slice_nil, eq_nil_slice, ia_1]; exact so_so) ?_)
        exact hJ v7 h' L f P d hF (.inr (hxa ▸ hxL)) (dropL (P := SG iE 3 v8' ((L.take (i + 1)).filter fun x => (w.at x).isSome)) (Q := SG iE 3 v7 L * (MP r27 (fM f) * (own g * B))) (asr (by ac_rfl) q) |> asr (by ac_rfl))
      · repeat (with_reducible first | refine vP_so ?_ | refine vB_t ?_ | refine vB_f ?_ | refine vE_tt ?_ | refine vE_ff ?_ | refine vE_tf ?_ | refine vE_ft ?_ | refine vE_u ?_ | refine vP_to (by simp (disch := omega) only [gdW_true, gdW_false, gB_true, gB_false, gB_undef, pickV_true, pickV_false, Bool.not_true, Bool.not_false, Option.map_some, bin_add, bin_sub, bin_mul, bin_quo, bin_rem, lss_t, lss_f, leq_t, leq_f, gtr_t, gtr_f, geq_t, geq_f, eqi_t, eqi_f, nei_t, nei_f, rem_uw, conv_ui, conv_iu, conv_ii, not_bool, nil_ptr, fa_mk, ptrV, len_mk, cap_mk, eq_ptr_nil, ne_ptr_nil, eq_nil_nil, ne_nil_nil, eq_slice_nil, eq_nil_slice, ia_1]; exact so_so) ?_)
        refine ⟨L.length - (i + 1), by omega, i + 1, v8', by simp, rfl, by omega, ?_, q⟩
        rw [htk, List.mem_append]
        rintro (h | h)
        · exact hna h
        · simp at h; exact hxa h.symm
    have hla := (la (G := SG iE 3 v8 ((L.take i).filter fun x => (w.at x).isSome) * (SG iE 3 v7 L * MP r27 (fM f))) x (asr (by ac_rfl) hh13)).1
    rw [htk, List.filter_append] at hJ5'
    cases hat : w.at x with
    | none =>
      rw [hat] at hla
      have e : [x].filter (fun x => (w.at x).isSome) = [] := by simp [hat]
      rw [e, List.append_nil] at hJ5'
      simp only [Option.map_none, Option.getD_none, Option.isSome_none] at hla
      repeat (with_reducible first | refine vP_so ?_ | refine vB_t ?_ | refine vB_f ?_ | refine vE_tt ?_ | refine vE_ff ?_ | refine vE_tf ?_ | refine vE_ft ?_ | refine vE_u ?_ | refine vP_to (by simp (disch := omega) only [gdW_true, gdW_false, gB_true, gB_false, gB_undef, pickV_true, pickV_false, Bool.not_true, Bool.not_false, Option.map_some, bin_add, bin_sub, bin_mul, bin_quo, bin_rem, lss_t, lss_f, leq_t, leq_f, gtr_t, gtr_f, geq_t, geq_f, eqi_t, eqi_f, nei_t, nei_f, rem_uw, conv_ui, conv_iu, conv_ii, not_bool, nil_ptr, fa_mk, ptrV, len_mk, cap_mk, eq_ptr_nil, ne_ptr_nil, eq_nil_nil, ne_nil_nil, eq_slice_nil, eq_nil_slice, ia_1, hla, x0, x1]; exact so_so) ?_)
      exact hJ5' v8 h13 hh13
    | some k =>
      rw [hat] at hla
      have e : [x].filter (fun x => (w.at x).isSome) = [x] := by simp [hat]
      rw [e] at hJ5'
      simp only [Option.map_some, Option.getD_some, Option.isSome_some] at hla
      repeat (with_reducible first | refine vP_so ?_ | refine vB_t ?_ | refine vB_f ?_ | refine vE_tt ?_ | refine vE_ff ?_ | refine vE_tf ?_ | refine vE_ft ?_ | refine vE_u ?_ | refine vP_to (by simp (disch := omega) only [gdW_true, gdW_false, gB_true, gB_false, gB_undef, pickV_true, pickV_false, Bool.not_true, Bool.not_false, Option.map_some, bin_add, bin_sub, bin_mul, bin_quo, bin_rem, lss_t, lss_f, leq_t, leq_f, gtr_t, gtr_f, geq_t, geq_f, eqi_t, eqi_f, nei_t, nei_f, rem_uw, conv_ui, conv_iu, conv_ii, not_bool, nil_ptr, fa_mk, ptrV, len_mk, cap_mk, eq_ptr_nil, ne_ptr_nil, eq_nil_nil, ne_nil_nil, eq_slice_nil, eq_nil_slice, ia_1, hla, x0, x1, eb]; exact so_so) ?_)
      rw [eb]
      refine vA_new (f := fun r => .slice (some ⟨r, 0, none⟩) 1 1) hh13 fun r50 h15 hh15 => ?_
      refine ap_new iE (l := (L.take i).filter fun x => (w.at x).isSome) (m := [x]) (F := SG iE 3 v7 L * (MP r27 (fM f) * (own g * B))) elInt rfl rfl niInts rfl (by omega) (asr (by ac_rfl) hh15) rfl rfl (by simp only [List.length_singleton]; omega) fun v51 h16 hh16 => ?_
      exact hJ5' v51 h16 (asr (by ac_rfl) hh16)
  obtain rfl : i = L.length := by omega
  rw [List.take_length] at hh13 hna
  have hnv : ¬ Vis w f a := fun q => hna (hA q)
  have hlen8 := SG_len iE hh13
  have hTlen : (L.filter fun x => (w.at x).isSome).length ≤ 1000000 := Nat.le_trans (List.length_filter_le ..) (by omega)
  obtain ⟨T, hT⟩ : ∃ T, T = L.filter fun x => (w.at x).isSome := ⟨_, rfl⟩
  rw [← hT] at hh13 hlen8 hTlen
  repeat (with_reducible first | refine vP_so ?_ | refine vB_t ?_ | refine vB_f ?_ | refine vE_tt ?_ | refine vE_ff ?_ | refine vE_tf ?_ | refine vE_ft ?_ | refine vE_u ?_ | refine vP_to (by simp (disch := omega) only [gdW_true, gdW_false, gB_true, gB_false, gB_undef, pickV_true, pickV_false, Bool.not_true, Bool.not_false, Option.map_some, bin_add, bin_sub, bin_mul, bin_quo, bin_rem, lss_t, lss_f, leq_t, leq_f, gtr_t, gtr_f, geq_t, geq_f, eqi_t, eqi_f, nei_t, nei_f, rem_uw, conv_ui, conv_iu, conv_ii, not_bool, nil_ptr, fa_mk, ptrV, len_mk, cap_mk, eq_ptr_nil, ne_ptr_nil, eq_nil_nil, ne_nil_nil, eq_slice_nil, eq_nil_slice, ia_1, hlen8]; exact so_so) ?_)
  refine ⟨fun m zs h' => ∃ (j : Nat) (v13 : Value) (N : List Int) (f' : Int → Option Int) (P' : Int → List Int), zs = [v13, .int .i64 j] ∧ m = T.length - j ∧ j ≤ T.length ∧ (∀ c, BN w f P d L (T.take j) c [] N f' P') ∧ (SG iE 3 v13 N * (SG iE 3 v8 T * (SG iE 3 v7 L * (MP r27 (fM f') * (own g * (B * tt)))))) h',
    ⟨_, 0, _, [], f, P, rfl, rfl, by omega, fun c => hF.begin, SG_nil iE hh13⟩, ?_⟩
  rintro m v13 v58 h17 ⟨j, v13', N, f', P', hzs, rfl, hj, hBN, hh17⟩ _
  obtain ⟨rfl, rfl⟩ : v13 = v13' ∧ v58 = .int .i64 j := by simpa using hzs
  by_cases hjl : j < T.length
  · have hS8 : (SG iE 3 v8 T * (SG iE 3 v13 N * (SG iE 3 v7 L * (MP r27 (fM f') * (own g * (B * tt)))))) h17 := asr (by ac_rfl) hh17
    obtain ⟨p, f1, f2, _⟩ := el1 hS8 (List.getElem?_eq_getElem hjl) .i64
    have htk := List.take_succ_eq_append_getElem hjl
    have hsp : T = T.take j ++ T[j] :: T.drop (j + 1) := by rw [← List.drop_eq_getElem_cons hjl, List.take_append_drop]
    have hcT : T[j] ∈ T := List.getElem_mem hjl
    generalize T[j] = c at *
    have hBN := hBN c
    have hcT : c ∈ L.filter fun x => (w.at x).isSome := hT ▸ hcT
    have hc1 := (List.mem_filter.1 hcT).2
    cases hat : w.at c with
    | none => rw [hat] at hc1; cases hc1
    | some k =>
    obtain ⟨o, hok, hoa⟩ := at_some hat
    have hom := List.mem_of_getElem? hok
    obtain ⟨b0, q0, e1, _, e3, _, _⟩ := (ow (G := SG iE 3 v8 T * (SG iE 3 v13 N * (SG iE 3 v7 L * MP r27 (fM f')))) (asr (by ac_rfl) hh17)).obj hok .i64
    have hla := (la (G := SG iE 3 v8 T * (SG iE 3 v13 N * (SG iE 3 v7 L * MP r27 (fM f')))) c (asr (by ac_rfl) hh17)).2
    have lo17 := lo (G := SG iE 3 v8 T * (SG iE 3 v13 N * (SG iE 3 v7 L * MP r27 (fM f')))) (asr (by ac_rfl) hh17)
    rw [hat] at hla
    simp only [Option.map_some, Option.getD_some] at hla
    repeat (with_reducible first | refine vP_so ?_ | refine vB_t ?_ | refine vB_f ?_ | refine vE_tt ?_ | refine vE_ff ?_ | refine vE_tf ?_ | refine vE_ft ?_ | refine vE_u ?_ | refine vP_to (by simp (disch := omega) only [gdW_true, gdW_false, gB_true, gB_false, gB_undef, pickV_true, pickV_false, Bool.not_true, Bool.not_false, Option.map_some, bin_add, bin_sub, bin_mul, bin_quo, bin_rem, lss_t, lss_f, leq_t, leq_f, gtr_t, gtr_f, geq_t, geq_f, eqi_t, eqi_f, nei_t, nei_f, rem_uw, conv_ui, conv_iu, conv_ii, not_bool, nil_ptr, fa_mk, ptrV, len_mk, cap_mk, eq_ptr_nil, ne_ptr_nil, eq_nil_nil, ne_nil_nil, eq_slice_nil, eq_nil_slice, ia_1, f1, f2, lo17, hla, e1, e3]; exact so_so) ?_)
    have hsl := slots_len hom
    refine use_svals (F := SG iE 3 v8 T * (SG iE 3 v13 N * (SG iE 3 v7 L * (MP r27 (fM f') * B)))) (hv.slots o hom) (by omega) (asr (by ac_rfl) hh17) fun v71 h19 hh19 => ?_
    have hh19 : (SG iE 3 v71 (srt o.slots) * (SG iE 3 v13 N * (SG iE 3 v8 T * (SG iE 3 v7 L * (MP r27 (fM f') * (own g * (B * tt))))))) h19 := asr (by ac_rfl) hh19
    have hsort := srt_sorted o.slots
    have hmem : ∀ x, x ∈ srt o.slots ↔ x ∈ o.slots := fun x => srt_mem
    have hslen : (srt o.slots).length ≤ 1000000 := by have : (srt o.slots).length = o.slots.length := List.length_mergeSort _; omega
    generalize srt o.slots = U at *
    have hlen71 := SG_len iE hh19
    have hedge : ∀ b, w.edge c b ↔ b ∈ U ∧ b ≠ 0 := fun b => by
      rw [hmem]
      constructor
      · rintro ⟨k', o', h1, h2, h3, h4⟩
        rw [hat] at h1; cases h1
        rw [hok] at h2; cases h2
        exact ⟨h3, h4⟩
      · rintro ⟨h3, h4⟩
        exact ⟨k, o, hat, hok, h3, h4⟩
    repeat (with_reducible first | refine vP_so ?_ | refine vB_t ?_ | refine vB_f ?_ | refine vE_tt ?_ | refine vE_ff ?_ | refine vE_tf ?_ | refine vE_ft ?_ | refine vE_u ?_ | refine vP_to (by simp (disch := omega) only [gdW_true, gdW_false, gB_true, gB_false, gB_undef, pickV_true, pickV_false, Bool.not_true, Bool.not_false, Option.map_some, bin_add, bin_sub, bin_mul, bin_quo, bin_rem, lss_t, lss_f, leq_t, leq_f, gtr_t, gtr_f, geq_t, geq_f, eqi_t, eqi_f, nei_t, nei_f, rem_uw, conv_ui, conv_iu, conv_ii, not_bool, nil_ptr, fa_mk, ptrV, len_mk, cap_mk, eq_ptr_nil, ne_ptr_nil, eq_nil_nil, ne_nil_nil, eq_slice_nil, eq_nil_slice, ia_1, hlen71]; exact so_so) ?_)
    refine ⟨fun m zs h' => ∃ (q : Nat) (v13 : Value) (N : List Int) (f' : Int → Option Int) (P' : Int → List Int), zs = [.int .i64 q, v13] ∧ m = U.length - q ∧ q ≤ U.length ∧ BN w f P d L (T.take j) c (U.take q) N f' P' ∧ (SG iE 3 v71 U * (SG iE 3 v13 N * (SG iE 3 v8 T * (SG iE 3 v7 L * (MP r27 (fM f') * (own g * (B * tt))))))) h',
      ⟨_, 0, v13, N, f', P', rfl, rfl, by omega, hBN, hh19⟩, ?_⟩
    clear hBN hh17 hh19 hS8 lo17 hla e1 e3 f1 f2 hS7 hlen7 hlen71
    clear hzs
    rintro m v73 v13 h20 ⟨q, v13', N, f', P', hzs, rfl, hq, hBN, hh20⟩ _
    obtain ⟨rfl, rfl⟩ : v73 = .int .i64 q ∧ v13 = v13' := by simpa using hzs
    by_cases hql : q < U.length
    · obtain ⟨p, f1, f2, _⟩ := el1 hh20 (List.getElem?_eq_getElem hql) .i64
      have htkU := List.take_succ_eq_append_getElem hql
      have hspU : U = U.take q ++ U[q] :: U.drop (q + 1) := by rw [← List.drop_eq_getElem_cons hql, List.take_append_drop]
      have hbU : U[q] ∈ U := List.getElem_mem hql
      have hNs := hBN.small
      generalize U[q] = b at *
      have hle : ∀ x ∈ U.take q, x ≤ b := by
        rw [hspU] at hsort
        exact fun x hx => (List.pairwise_append.1 hsort).2.2 x hx b (by simp)
      repeat (with_reducible first | refine vP_so ?_ | refine vB_t ?_ | refine vB_f ?_ | refine vE_tt ?_ | refine vE_ff ?_ | refine vE_tf ?_ | refine vE_ft ?_ | refine vE_u ?_ | refine vP_to (by simp (disch := omega) only [gdW_true, gdW_false, gB_true, gB_false, gB_undef, pickV_true, pickV_false, Bool.not_true, Bool.not_false, Option.map_some, bin_add, bin_sub, bin_mul, bin_quo, bin_rem, lss_t, lss_f, leq_t, leq_f, gtr_t, gtr_f, geq_t, geq_f, eqi_t, eqi_f, nei_t, nei_f, rem_uw, conv_ui, conv_iu, conv_ii, not_bool, nil_ptr, fa_mk, ptrV, len_mk, cap_mk, eq_ptr_nil, ne_ptr_nil, eq_nil_nil, ne_nil_nil, eq_slice_nil, eq_nil_slice, ia_1]; exact so_so) ?_)
      intro J8 hJ8
      have hJ8' : ∀ v13' N' f'' P'' h', BN w f P d L (T.take j) c (U.take (q + 1)) N' f'' P'' → (SG iE 3 v71 U * (SG iE 3 v13' N' * (SG iE 3 v8 T * (SG iE 3 v7 L * (MP r27 (fM f'') * (own g * (B * tt))))))) h' → J8 [v13'] h' := fun v13' N' f'' P'' h' b1 b2 => by
        refine hJ8 _ _ fun _ => ?_
        repeat (with_reducible first | refine vP_so ?_ | refine vB_t ?_ | refine vB_f ?_ | refine vE_tt ?_ | refine vE_ff ?_ | refine vE_tf ?_ | refine vE_ft ?_ | refine vE_u ?_ | refine vP_to (by simp (disch := omega) only [gdW_true, gdW_false, gB_true, gB_false, gB_undef, pickV_true, pickV_false, Bool.not_true, Bool.not_false, Option.map_some, bin_add, bin_sub, bin_mul, bin_quo, bin_rem, lss_t, lss_f, leq_t, leq_f, gtr_t, gtr_f, geq_t, geq_f, eqi_t, eqi_f, nei_t, nei_f, rem_uw, conv_ui, conv_iu, conv_ii, not_bool, nil_ptr, fa_mk, ptrV, len_mk, cap_mk, eq_ptr_nil, ne_ptr_nil, eq_nil_nil, ne_nil_nil, eq_slice_nil, eq_nil_slice, ia_1]; exact so_so) ?_)
        exact ⟨U.length - (q + 1), by omega, q + 1, v13', N', f'', P'', by simp, rfl, by omega, b1, b2⟩
      rw [htkU] at hJ8'
      have hlf := (lk_MP (k := b) mapII intU zInt (asr (by ac_rfl) hh20 : (MP r27 (fM f') * (SG iE 3 v71 U * (SG iE 3 v13 N * (SG iE 3 v8 T * (SG iE 3 v7 L * (own g * (B * tt))))))) h20)).2
      by_cases hb0 : b = 0
      · repeat (with_reducible first | refine vP_so ?_ | refine vB_t ?_ | refine vB_f ?_ | refine vE_tt ?_ | refine vE_ff ?_ | refine vE_tf ?_ | refine vE_ft ?_ | refine vE_u ?_ | refine vP_to (by simp (disch := omega) only [gdW_true, gdW_false, gB_true, gB_false, gB_undef, pickV_true, pickV_false, Bool.not_true, Bool.not_false, Option.map_some, bin_add, bin_sub, bin_mul, bin_quo, bin_rem, lss_t, lss_f, leq_t, leq_f, gtr_t, gtr_f, geq_t, geq_f, eqi_t, eqi_f, nei_t, nei_f, rem_uw, conv_ui, conv_iu, conv_ii, not_bool, nil_ptr, fa_mk, ptrV, len_mk, cap_mk, eq_ptr_nil, ne_ptr_nil, eq_nil_nil, ne_nil_nil, eq_slice_nil, eq_nil_slice, ia_1, f1, f2, hlf, x0, x1]; exact so_so) ?_)
        exact hJ8' v13 N f' P' h20 (hBN.skip (.inl hb0)) hh20
      cases hfb : f' b with
      | some y =>
        have e2 : fM f' b = some (.int .i64 y) := by unfold fM; rw [hfb]; rfl
        rw [e2] at hlf
        simp only [Option.getD_some, Option.isSome_some] at hlf
        repeat (with_reducible first | refine vP_so ?_ | refine vB_t ?_ | refine vB_f ?_ | refine vE_tt ?_ | refine vE_ff ?_ | refine vE_tf ?_ | refine vE_ft ?_ | refine vE_u ?_ | refine vP_to (by simp (disch := omega) only [gdW_true, gdW_false, gB_true, gB_false, gB_undef, pickV_true, pickV_false, Bool.not_true, Bool.not_false, Option.map_some, bin_add, bin_sub, bin_mul, bin_quo, bin_rem, lss_t, lss_f, leq_t, leq_f, gtr_t, gtr_f, geq_t, geq_f, eqi_t, eqi_f, nei_t, nei_f, rem_uw, conv_ui, conv_iu, conv_ii, not_bool, nil_ptr, fa_mk, ptrV, len_mk, cap_mk, eq_ptr_nil, ne_ptr_nil, eq_nil_nil, ne_nil_nil, eq_slice_nil, eq_nil_slice, ia_1, f1, f2, hlf, x0, x1]; exact so_so) ?_)
        exact hJ8' v13 N f' P' h20 (hBN.skip (.inr (.inr (by rw [hfb]; simp)))) hh20
      | none =>
        have e2 : fM f' b = none := by unfold fM; rw [hfb]; rfl
        rw [e2] at hlf
        simp only [Option.getD_none, Option.isSome_none] at hlf
        have lv20 := lv (G := SG iE 3 v71 U * (SG iE 3 v13 N * (SG iE 3 v8 T * (SG iE 3 v7 L * MP r27 (fM f'))))) (asr (by ac_rfl) hh20)
        repeat (with_reducible first | refine vP_so ?_ | refine vB_t ?_ | refine vB_f ?_ | refine vE_tt ?_ | refine vE_ff ?_ | refine vE_tf ?_ | refine vE_ft ?_ | refine vE_u ?_ | refine vP_to (by simp (disch := omega) only [gdW_true, gdW_false, gB_true, gB_false, gB_undef, pickV_true, pickV_false, Bool.not_true, Bool.not_false, Option.map_some, bin_add, bin_sub, bin_mul, bin_quo, bin_rem, lss_t, lss_f, leq_t, leq_f, gtr_t, gtr_f, geq_t, geq_f, eqi_t, eqi_f, nei_t, nei_f, rem_uw, conv_ui, conv_iu, conv_ii, not_bool, nil_ptr, fa_mk, ptrV, len_mk, cap_mk, eq_ptr_nil, ne_ptr_nil, eq_nil_nil, ne_nil_nil, eq_slice_nil, eq_nil_slice, ia_1, f1, f2, hlf, x0, x1, lv20]; exact so_so) ?_)
        refine use_roots (F := SG iE 3 v71 U * (SG iE 3 v13 N * (SG iE 3 v8 T * (SG iE 3 v7 L * (MP r27 (fM f') * B))))) hv hN (asr (by ac_rfl) hh20) fun v91 h22 hh22 => ?_
        have hir : IntsAt h22 v91 w.rootsL := SG_ints hh22
        have hh22 : (SG iE 3 v71 U * (SG iE 3 v13 N * (SG iE 3 v8 T * (SG iE 3 v7 L * (MP r27 (fM f') * (own g * (B * tt))))))) h22 := dropL (P := SG iE 3 v91 w.rootsL) (Q := SG iE 3 v71 U * (SG iE 3 v13 N * (SG iE 3 v8 T * (SG iE 3 v7 L * (MP r27 (fM f') * (own g * B)))))) (asr (by ac_rfl) hh22) |> asr (by ac_rfl)
        repeat (with_reducible first | refine vP_so ?_ | refine vB_t ?_ | refine vB_f ?_ | refine vE_tt ?_ | refine vE_ff ?_ | refine vE_tf ?_ | refine vE_ft ?_ | refine vE_u ?_ | refine vP_to (by simp (disch := omega) only [gdW_true, gdW_false, gB_true, gB_false, gB_undef, pickV_true, pickV_false, Bool.not_true, Bool.not_false, Option.map_some, bin_add, bin_sub, bin_mul, bin_quo, bin_rem, lss_t, lss_f, leq_t, leq_f, gtr_t, gtr_f, geq_t, geq_f, eqi_t, eqi_f, nei_t, nei_f, rem_uw, conv_ui, conv_iu, conv_ii, not_bool, nil_ptr, fa_mk, ptrV, len_mk, cap_mk, eq_ptr_nil, ne_ptr_nil, eq_nil_nil, ne_nil_nil, eq_slice_nil, eq_nil_slice, ia_1]; exact so_so) ?_)
        refine use_contains hir ?_
        by_cases hbr : b ∈ w.rootsL
        · rw [decide_eq_true hbr]
          repeat (with_reducible first | refine vP_so ?_ | refine vB_t ?_ | refine vB_f ?_ | refine vE_tt ?_ | refine vE_ff ?_ | refine vE_tf ?_ | refine vE_ft ?_ | refine vE_u ?_ | refine vP_to (by simp (disch := omega) only [gdW_true, gdW_false, gB_true, gB_false, gB_undef, pickV_true, pickV_false, Bool.not_true, Bool.not_false, Option.map_some, bin_add, bin_sub, bin_mul, bin_quo, bin_rem, lss_t, lss_f, leq_t, leq_f, gtr_t, gtr_f, geq_t, geq_f, eqi_t, eqi_f, nei_t, nei_f, rem_uw, conv_ui, conv_iu, conv_ii, not_bool, nil_ptr, fa_mk, ptrV, len_mk, cap_mk, eq_ptr_nil, ne_ptr_nil, eq_nil_nil, ne_nil_nil, eq_slice_nil, eq_nil_slice, ia_1]; exact so_so) ?_)
          exact hJ8' v13 N f' P' h22 (hBN.skip (.inr (.inl ((hroots b).1 hbr)))) hh22
        · rw [decide_eq_false hbr]
          have hnvb : ¬ Vis w f' b := by
            rintro (h | h)
            · exact hbr ((hroots b).2 h)
            · exact h hfb
          repeat (with_reducible first | refine vP_so ?_ | refine vB_t ?_ | refine vB_f ?_ | refine vE_tt ?_ | refine vE_ff ?_ | refine vE_tf ?_ | refine vE_ft ?_ | refine vE_u ?_ | refine vP_to (by simp (disch := omega) only [gdW_true, gdW_false, gB_true, gB_false, gB_undef, pickV_true, pickV_false, Bool.not_true, Bool.not_false, Option.map_some, bin_add, bin_sub, bin_mul, bin_quo, bin_rem, lss_t, lss_f, leq_t, leq_f, gtr_t, gtr_f, geq_t, geq_f, eqi_t, eqi_f, nei_t, nei_f, rem_uw, conv_ui, conv_iu, conv_ii, not_bool, nil_ptr, fa_mk, ptrV, len_mk, cap_mk, eq_ptr_nil, ne_ptr_nil, eq_nil_nil, ne_nil_nil, eq_slice_nil, eq_nil_slice, ia_1]; exact so_so) ?_)
          refine mu_MP mapII intU (asr (by ac_rfl) hh22 : (MP r27 (fM f') * (SG iE 3 v71 U * (SG iE 3 v13 N * (SG iE 3 v8 T * (SG iE 3 v7 L * (own g * (B * tt))))))) h22) fun h24 hh24 => ?_
          rw [fM_put] at hh24
          repeat (with_reducible first | refine vP_so ?_ | refine vB_t ?_ | refine vB_f ?_ | refine vE_tt ?_ | refine vE_ff ?_ | refine vE_tf ?_ | refine vE_ft ?_ | refine vE_u ?_ | refine vP_to (by simp (disch := omega) only [gdW_true, gdW_false, gB_true, gB_false, gB_undef, pickV_true, pickV_false, Bool.not_true, Bool.not_false, Option.map_some, bin_add, bin_sub, bin_mul, bin_quo, bin_rem, lss_t, lss_f, leq_t, leq_f, gtr_t, gtr_f, geq_t, geq_f, eqi_t, eqi_f, nei_t, nei_f, rem_uw, conv_ui, conv_iu, conv_ii, not_bool, nil_ptr, fa_mk, ptrV, len_mk, cap_mk, eq_ptr_nil, ne_ptr_nil, eq_nil_nil, ne_nil_nil, eq_slice_nil, eq_nil_slice, ia_1, eb]; exact so_so) ?_)
          rw [eb]
          refine vA_new (f := fun r => .slice (some ⟨r, 0, none⟩) 1 1) hh24 fun r101 h25 hh25 => ?_
          refine ap_new iE (l := N) (m := [b]) (F := MP r27 (fM fun x => if x = b then some c else f' x) * (SG iE 3 v71 U * (SG iE 3 v8 T * (SG iE 3 v7 L * (own g * B))))) elInt rfl rfl niInts rfl (by omega) (asr (by ac_rfl) hh25) rfl rfl (by simp only [List.length_singleton]; omega) fun v102 h26 hh26 => ?_
          exact hJ8' v102 (N ++ [b]) _ _ h26 (hBN.add (hT.symm.trans hsp) ((hedge b).2 ⟨hbU, hb0⟩) hle hnvb) (asr (by ac_rfl) hh26)
    · obtain rfl : q = U.length := by omega
      rw [List.take_length] at hBN
      repeat (with_reducible first | refine vP_so ?_ | refine vB_t ?_ | refine vB_f ?_ | refine vE_tt ?_ | refine vE_ff ?_ | refine vE_tf ?_ | refine vE_ft ?_ | refine vE_u ?_ | refine vP_to (by simp (disch := omega) only [gdW_true, gdW_false, gB_true, gB_false, gB_undef, pickV_true, pickV_false, Bool.not_true, Bool.not_false, Option.map_some, bin_add, bin_sub, bin_mul, bin_quo, bin_rem, lss_t, lss_f, leq_t, leq_f, gtr_t, gtr_f, geq_t, geq_f, eqi_t, eqi_f, nei_t, nei_f, rem_uw, conv_ui, conv_iu, conv_ii, not_bool, nil_ptr, fa_mk, ptrV, len_mk, cap_mk, eq_ptr_nil, ne_ptr_nil, eq_nil_nil, ne_nil_nil, eq_slice_nil, eq_nil_slice, ia_1]; exact so_so) ?_)
      refine ⟨T.length - (j + 1), by omega, j + 1, v13, N, f', P', by simp, rfl, by omega, fun c' => ?_, dropL (P := SG iE 3 v71 U) (Q := SG iE 3 v13 N * (SG iE 3 v8 T * (SG iE 3 v7 L * (MP r27 (fM f') * (own g * B))))) (asr (by ac_rfl) hh20) |> asr (by ac_rfl)⟩
      rw [htk]
      exact hBN.next fun x hx => ((hedge x).1 hx).1
  · obtain rfl : j = T.length := by omega
    repeat (with_reducible first | refine vP_so ?_ | refine vB_t ?_ | refine vB_f ?_ | refine vE_tt ?_ | refine vE_ff ?_ | refine vE_tf ?_ | refine vE_ft ?_ | refine vE_u ?_ | refine vP_to (by simp (disch := omega) only [gdW_true, gdW_false, gB_true, gB_false, gB_undef, pickV_true, pickV_false, Bool.not_true, Bool.not_false, Option.map_some, bin_add, bin_sub, bin_mul, bin_quo, bin_rem, lss_t, lss_f, leq_t, leq_f, gtr_t, gtr_f, geq_t, geq_f, eqi_t, eqi_f, nei_t, nei_f, rem_uw, conv_ui, conv_iu, conv_ii, not_bool, nil_ptr, fa_mk, ptrV, len_mk, cap_mk, eq_ptr_nil, ne_ptr_nil, eq_nil_nil, ne_nil_nil, eq_slice_nil, eq_nil_slice, ia_1]; exact so_so) ?_)
    have hBN := hBN 0
    rw [List.take_length, hT] at hBN
    refine ⟨2 * unv w f' + (if N = [] then 0 else 1), ?_, N, f', P', d + 1, v13, rfl, rfl, hBN.done, fun q => (hBN.new a).2 ⟨q, hnv⟩, dropL (P := SG iE 3 v8 T * SG iE 3 v7 L) (Q := SG iE 3 v13 N * (MP r27 (fM f') * (own g * B))) (asr (by ac_rfl) hh17) |> asr (by ac_rfl)⟩
    rw [if_neg hL0]
    by_cases hN0 : N = []
    · rw [if_pos hN0]
      have := hBN.unv_le hN0
      omega
    · rw [if_neg hN0]
      have := hBN.fewer hN0
      omega

end Go.Proofs

/-
  Find, Words, of view and of the document; law 29's own.
-/
set_option maxRecDepth 100000
set_option maxHeartbeats 4000000
namespace Go.Proofs
open Go.Sl

def findV (w : VW) (x : Int) : Int := match w.at x with | some i => (i : Int) | none => -1

theorem use_vfind {g : Hp} {w : VW} {x : Int} {F : Asrt} {K : Value → Hp → Prop} {h : Hp} (hv : VAt g w) (hh : (own g * (F * tt)) h)
    (hK : ∀ h', (own g * (F * tt)) h' → K (.int .i64 (findV w x)) h') : CallH Try.prog 22 #[w.val, .int .i64 x] K h := by
  refine C22 ?_
  unfold D22
  refine vA_new (o := .cells w.cells 26 (0, 0)) hh fun r2 h1 hh1 => ?_
  refine vA_new (o := .cells #[.int .i64 x] 3 (0, 0)) hh1 fun r3 h2 hh2 => ?_
  have l5 := (vw_ld (r := r2) (w := w) (E := 26) (F := pt r3 (.cells #[.int .i64 x] 3 (0, 0)) * (own g * (F * tt))) (asr (by ac_rfl) hh2)).2.2.2.2.2.1
  repeat (with_reducible first | refine vP_so ?_ | refine vB_t ?_ | refine vB_f ?_ | refine vE_tt ?_ | refine vE_ff ?_ | refine vE_tf ?_ | refine vE_ft ?_ | refine vE_u ?_ | refine vP_to (by simp (disch := omega) only [gdW_true, gdW_false, gB_true, gB_false, gB_undef, pickV_true, pickV_false, Bool.not_true, Bool.not_false, Option.map_some, bin_add, bin_sub, bin_mul, bin_quo, bin_rem, lss_t, lss_f, leq_t, leq_f, gtr_t, gtr_f, geq_t, geq_f, eqi_t, eqi_f, nei_t, nei_f, rem_uw, conv_ui, conv_iu, conv_ii, not_bool, nil_ptr, fa_mk, ptrV, len_mk, cap_mk, eq_ptr_nil, ne_ptr_nil, eq_nil_nil, ne_nil_nil, eq_slice_nil, eq_nil_slice, ia_1, l5]; exact so_so) ?_)
  refine use_idxf (p := fun o => o.addr == x) (F := pt r3 (.cells #[.int .i64 x] 3 (0, 0)) * (pt r2 (.cells w.cells 26 (0, 0)) * F)) hv (asr (by ac_rfl) hh2) (fun o ho h K q k => ?_) fun h3 hh3 => ?_
  · refine cv_fn (by kernel_rfl) ?_
    show CallH Try.prog 49 #[.agg #[.int .i64 o.addr, o.sv, .bool o.marked], .pointer (some ⟨r3, 0, none⟩)] K h
    refine C49 ?_
    unfold D49
    refine vA_new (o := .cells #[.int .i64 o.addr, o.sv, .bool o.marked] 30 (0, 0)) q fun r5 h4 hh4 => ?_
    have l0 : ld1 (.pointer (some ⟨r5, 0 + 0, none⟩)) h4 = some (.int .i64 o.addr) := ld1_mk (pt_get hh4) rfl
    have hr3 : (pt r3 (.cells #[.int .i64 x] 3 (0, 0)) * (pt r5 (.cells #[.int .i64 o.addr, o.sv, .bool o.marked] 30 (0, 0)) * (own g * (pt r2 (.cells w.cells 26 (0, 0)) * F * tt)))) h4 := asr (by ac_rfl) hh4
    have l1 : ld1 (.pointer (some ⟨r3, 0, none⟩)) h4 = some (.int .i64 x) := ld1_mk (pt_get hr3) rfl
    have k := k h4 (dropL (P := pt r5 (.cells #[.int .i64 o.addr, o.sv, .bool o.marked] 30 (0, 0))) (Q := own g * (pt r3 (.cells #[.int .i64 x] 3 (0, 0)) * (pt r2 (.cells w.cells 26 (0, 0)) * F))) (asr (by ac_rfl) hh4) |> asr (by ac_rfl))
    by_cases hx : o.addr = x
    · repeat (with_reducible first | refine vP_so ?_ | refine vB_t ?_ | refine vB_f ?_ | refine vE_tt ?_ | refine vE_ff ?_ | refine vE_tf ?_ | refine vE_ft ?_ | refine vE_u ?_ | refine vP_to (by simp (disch := omega) only [gdW_true, gdW_false, gB_true, gB_false, gB_undef, pickV_true, pickV_false, Bool.not_true, Bool.not_false, Option.map_some, bin_add, bin_sub, bin_mul, bin_quo, bin_rem, lss_t, lss_f, leq_t, leq_f, gtr_t, gtr_f, geq_t, geq_f, eqi_t, eqi_f, nei_t, nei_f, rem_uw, conv_ui, conv_iu, conv_ii, not_bool, nil_ptr, fa_mk, ptrV, len_mk, cap_mk, eq_ptr_nil, ne_ptr_nil, eq_nil_nil, ne_nil_nil, eq_slice_nil, eq_nil_slice, ia_1, l0, l1]; exact so_so) ?_)
      rw [show (o.addr == x) = true by simp [hx]] at k
      exact k
    · repeat (with_reducible first | refine vP_so ?_ | refine vB_t ?_ | refine vB_f ?_ | refine vE_tt ?_ | refine vE_ff ?_ | refine vE_tf ?_ | refine vE_ft ?_ | refine vE_u ?_ | refine vP_to (by simp (disch := omega) only [gdW_true, gdW_false, gB_true, gB_false, gB_undef, pickV_true, pickV_false, Bool.not_true, Bool.not_false, Option.map_some, bin_add, bin_sub, bin_mul, bin_quo, bin_rem, lss_t, lss_f, leq_t, leq_f, gtr_t, gtr_f, geq_t, geq_f, eqi_t, eqi_f, nei_t, nei_f, rem_uw, conv_ui, conv_iu, conv_ii, not_bool, nil_ptr, fa_mk, ptrV, len_mk, cap_mk, eq_ptr_nil, ne_ptr_nil, eq_nil_nil, ne_nil_nil, eq_slice_nil, eq_nil_slice, ia_1, l0, l1]; exact so_so) ?_)
      rw [show (o.addr == x) = false by simp [hx]] at k
      exact k
  · show K (.int .i64 (findV w x)) h3
    exact hK h3 (dropL (P := pt r3 (.cells #[.int .i64 x] 3 (0, 0)) * pt r2 (.cells w.cells 26 (0, 0))) (Q := own g * F) (asr (by ac_rfl) hh3) |> asr (by ac_rfl))

theorem at_first {w : VW} {x : Int} {i : Nat} {o : Ob} (ho : w.objs[i]? = some o) (hx : o.addr = x) (hno : ∀ (j : Nat) o', j < i → w.objs[j]? = some o' → o'.addr ≠ x) : w.at x = some i := by
  unfold VW.at
  rw [List.findIdx?_eq_some_iff_getElem]
  obtain ⟨hlt, he⟩ := List.getElem?_eq_some_iff.1 ho
  refine ⟨hlt, by rw [he]; simpa using hx, fun j hj => ?_⟩
  have := hno j w.objs[j] hj (List.getElem?_eq_getElem (by omega))
  simp [this]

theorem at_no {w : VW} {x : Int} (hno : ∀ (j : Nat) o', w.objs[j]? = some o' → o'.addr ≠ x) : w.at x = none := by
  unfold VW.at
  rw [List.findIdx?_eq_none_iff]
  intro o ho
  obtain ⟨j, hj, e⟩ := List.getElem_of_mem ho
  simpa using hno j o (by rw [List.getElem?_eq_getElem hj, e])

theorem use_rfind {g : Hp} {w : VW} {x : Int} {F : Asrt} {K : Value → Hp → Prop} {h : Hp} (hv : VAt g w) (hh : (own g * (F * tt)) h)
    (hK : ∀ h', (own g * (F * tt)) h' → K (.int .i64 (findV w x)) h') : CallH Try.prog 33 #[w.val, .int .i64 x] K h := by
  refine C33 ?_
  unfold D33
  have hol := hv.objs_len
  refine vA_new (o := .cells w.cells 26 (0, 0)) hh fun r1 h1 hh1 => ?_
  have lo := (vw_ld (r := r1) (w := w) (E := 26) hh1).2.2.2.2.2.1
  have hw := own_vat (F := pt r1 (.cells w.cells 26 (0, 0)) * (F * tt)) (asr (by ac_rfl) hh1) hv
  have hd : (own g * (F * tt)) h1 := dropL (P := pt r1 (.cells w.cells 26 (0, 0))) (Q := own g * F) (asr (by ac_rfl) hh1) |> asr (by ac_rfl)
  refine ⟨fun m zs h' => ∃ i : Nat, zs = [.int .i64 i] ∧ m = w.objs.length - i ∧ i ≤ w.objs.length ∧ (∀ (j : Nat) o, j < i → w.objs[j]? = some o → o.addr ≠ x) ∧ h' = h1, ⟨_, 0, rfl, rfl, by omega, fun j r hj => by omega, rfl⟩, ?_⟩
  rintro m v3 h2 ⟨i, hzs, rfl, hi, hok, rfl⟩ _
  obtain rfl : v3 = .int .i64 i := by simpa using hzs
  have hK := hK h2 hd
  by_cases hil : i < w.objs.length
  · have hoi : w.objs[i]? = some w.objs[i] := List.getElem?_eq_getElem hil
    obtain ⟨b, q, e1, e2, _, _, _⟩ := hw.obj hoi .i64
    generalize w.objs[i] = o at *
    by_cases hx : o.addr = x
    · repeat (with_reducible first | refine vP_so ?_ | refine vB_t ?_ | refine vB_f ?_ | refine vE_tt ?_ | refine vE_ff ?_ | refine vE_tf ?_ | refine vE_ft ?_ | refine vE_u ?_ | refine vP_to (by simp (disch := omega) only [gdW_true, gdW_false, gB_true, gB_false, gB_undef, pickV_true, pickV_false, Bool.not_true, Bool.not_false, Option.map_some, bin_add, bin_sub, bin_mul, bin_quo, bin_rem, lss_t, lss_f, leq_t, leq_f, gtr_t, gtr_f, geq_t, geq_f, eqi_t, eqi_f, nei_t, nei_f, rem_uw, conv_ui, conv_iu, conv_ii, not_bool, nil_ptr, fa_mk, ptrV, len_mk, cap_mk, eq_ptr_nil, ne_ptr_nil, eq_nil_nil, ne_nil_nil, eq_slice_nil, eq_nil_slice, ia_1, lo, hol.1, e1, e2]; exact so_so) ?_)
      have : findV w x = i := by unfold findV; rw [at_first hoi hx hok]
      rw [this] at hK
      exact hK
    · repeat (with_reducible first | refine vP_so ?_ | refine vB_t ?_ | refine vB_f ?_ | refine vE_tt ?_ | refine vE_ff ?_ | refine vE_tf ?_ | refine vE_ft ?_ | refine vE_u ?_ | refine vP_to (by simp (disch := omega) only [gdW_true, gdW_false, gB_true, gB_false, gB_undef, pickV_true, pickV_false, Bool.not_true, Bool.not_false, Option.map_some, bin_add, bin_sub, bin_mul, bin_quo, bin_rem, lss_t, lss_f, leq_t, leq_f, gtr_t, gtr_f, geq_t, geq_f, eqi_t, eqi_f, nei_t, nei_f, rem_uw, conv_ui, conv_iu, conv_ii, not_bool, nil_ptr, fa_mk, ptrV, len_mk, cap_mk, eq_ptr_nil, ne_ptr_nil, eq_nil_nil, ne_nil_nil, eq_slice_nil, eq_nil_slice, ia_1, lo, hol.1, e1, e2]; exact so_so) ?_)
      refine ⟨w.objs.length - (i + 1), by omega, i + 1, by simp, rfl, by omega, fun j o' hj ho' => ?_, rfl⟩
      by_cases hji : j = i
      · subst hji
        obtain rfl : o = o' := Option.some.inj (hoi.symm.trans ho')
        exact hx
      · exact hok j o' (by omega) ho'
  · obtain rfl : i = w.objs.length := by omega
    have : findV w x = -1 := by
      unfold findV
      rw [at_no fun j o' ho' => hok j o' (List.getElem?_eq_some_iff.1 ho').1 ho']
    rw [this] at hK
    repeat (with_reducible first | refine vP_so ?_ | refine vB_t ?_ | refine vB_f ?_ | refine vE_tt ?_ | refine vE_ff ?_ | refine vE_tf ?_ | refine vE_ft ?_ | refine vE_u ?_ | refine vP_to (by simp (disch := omega) only [gdW_true, gdW_false, gB_true, gB_false, gB_undef, pickV_true, pickV_false, Bool.not_true, Bool.not_false, Option.map_some, bin_add, bin_sub, bin_mul, bin_quo, bin_rem, lss_t, lss_f, leq_t, leq_f, gtr_t, gtr_f, geq_t, geq_f, eqi_t, eqi_f, nei_t, nei_f, rem_uw, conv_ui, conv_iu, conv_ii, not_bool, nil_ptr, fa_mk, ptrV, len_mk, cap_mk, eq_ptr_nil, ne_ptr_nil, eq_nil_nil, ne_nil_nil, eq_slice_nil, eq_nil_slice, ia_1, lo, hol.1]; exact so_so) ?_)
    exact hK

def sumO : List Ob → Int
  | [] => 0
  | o :: l => szO o + sumO l

theorem sumO_app (l m : List Ob) : sumO (l ++ m) = sumO l + sumO m := by
  induction l with
  | nil => simp [sumO]
  | cons a l ih => simp only [List.cons_append, sumO, ih]; omega

theorem szO_le (o : Ob) : 0 ≤ szO o ∧ szO o ≤ 256 := by
  unfold szO
  by_cases h : 0 ≤ ofS (o.slots.length : Int) ∧ ofS (o.slots.length : Int) < 16
  · have := szS_pos h
    omega
  · rw [szS_out h]
    omega

theorem sumO_le : ∀ l : List Ob, 0 ≤ sumO l ∧ sumO l ≤ 256 * l.length
  | [] => by simp [sumO]
  | o :: l => by
    have h1 := szO_le o
    have h2 := sumO_le l
    simp only [sumO, List.length_cons]
    omega

theorem use_words {g : Hp} {w : VW} {F : Asrt} {K : Value → Hp → Prop} {h : Hp} (hv : VAt g w) (hO : w.objs.length ≤ 1000000) (hh : (own g * (F * tt)) h)
    (hK : ∀ h', (own g * (F * tt)) h' → K (.int .i64 (sumO w.objs)) h') : CallH Try.prog 25 #[w.val] K h := by
  refine C25 ?_
  unfold D25
  have hol := hv.objs_len
  refine vA_new (o := .cells w.cells 26 (0, 0)) hh fun r1 h1 hh1 => ?_
  have lo := (vw_ld (r := r1) (w := w) (E := 26) hh1).2.2.2.2.2.1
  have hd : (own g * (F * tt)) h1 := dropL (P := pt r1 (.cells w.cells 26 (0, 0))) (Q := own g * F) (asr (by ac_rfl) hh1) |> asr (by ac_rfl)
  repeat (with_reducible first | refine vP_so ?_ | refine vB_t ?_ | refine vB_f ?_ | refine vE_tt ?_ | refine vE_ff ?_ | refine vE_tf ?_ | refine vE_ft ?_ | refine vE_u ?_ | refine vP_to (by simp (disch := omega) only [gdW_true, gdW_false, gB_true, gB_false, gB_undef, pickV_true, pickV_false, Bool.not_true, Bool.not_false, Option.map_some, bin_add, bin_sub, bin_mul, bin_quo, bin_rem, lss_t, lss_f, leq_t, leq_f, gtr_t, gtr_f, geq_t, geq_f, eqi_t, eqi_f, nei_t, nei_f, rem_uw, conv_ui, conv_iu, conv_ii, not_bool, nil_ptr, fa_mk, ptrV, len_mk, cap_mk, eq_ptr_nil, ne_ptr_nil, eq_nil_nil, ne_nil_nil, eq_slice_nil, eq_nil_slice, ia_1, lo, hol.1]; exact so_so) ?_)
  refine ⟨fun m zs h' => ∃ i : Nat, zs = [.int .i64 i, .int .i64 (sumO (w.objs.take i))] ∧ m = w.objs.length - i ∧ i ≤ w.objs.length ∧ (own g * (F * tt)) h', ⟨_, 0, by simp [sumO], rfl, by omega, hd⟩, ?_⟩
  clear hh1 lo
  rintro m v10 v3 h2 ⟨i, hzs, rfl, hi, hh2⟩ _
  obtain ⟨rfl, rfl⟩ : v10 = .int .i64 i ∧ v3 = .int .i64 (sumO (w.objs.take i)) := by simpa using hzs
  by_cases hil : i < w.objs.length
  · have hw := own_vat hh2 hv
    have hoi : w.objs[i]? = some w.objs[i] := List.getElem?_eq_getElem hil
    obtain ⟨b, q, e1, _, _, _, e5⟩ := hw.obj hoi .i64
    have htk := List.take_succ_eq_append_getElem hil
    have hsl := hv.slots w.objs[i] (List.getElem_mem hil)
    have hsu := sumO_le (w.objs.take i)
    rw [List.length_take] at hsu
    generalize w.objs[i] = o at *
    have hso := szO_le o
    repeat (with_reducible first | refine vP_so ?_ | refine vB_t ?_ | refine vB_f ?_ | refine vE_tt ?_ | refine vE_ff ?_ | refine vE_tf ?_ | refine vE_ft ?_ | refine vE_u ?_ | refine vP_to (by simp (disch := omega) only [gdW_true, gdW_false, gB_true, gB_false, gB_undef, pickV_true, pickV_false, Bool.not_true, Bool.not_false, Option.map_some, bin_add, bin_sub, bin_mul, bin_quo, bin_rem, lss_t, lss_f, leq_t, leq_f, gtr_t, gtr_f, geq_t, geq_f, eqi_t, eqi_f, nei_t, nei_f, rem_uw, conv_ui, conv_iu, conv_ii, not_bool, nil_ptr, fa_mk, ptrV, len_mk, cap_mk, eq_ptr_nil, ne_ptr_nil, eq_nil_nil, ne_nil_nil, eq_slice_nil, eq_nil_slice, ia_1]; exact so_so) ?_)
    intro J2 hJ2
    have hJ : ∀ h', (own g * (F * tt)) h' → J2 [.int .i64 (sumO (w.objs.take i) + szO o)] h' := fun h' hq => by
      refine hJ2 _ _ fun _ => ?_
      repeat (with_reducible first | refine vP_so ?_ | refine vB_t ?_ | refine vB_f ?_ | refine vE_tt ?_ | refine vE_ff ?_ | refine vE_tf ?_ | refine vE_ft ?_ | refine vE_u ?_ | refine vP_to (by simp (disch := omega) only [gdW_true, gdW_false, gB_true, gB_false, gB_undef, pickV_true, pickV_false, Bool.not_true, Bool.not_false, Option.map_some, bin_add, bin_sub, bin_mul, bin_quo, bin_rem, lss_t, lss_f, leq_t, leq_f, gtr_t, gtr_f, geq_t, geq_f, eqi_t, eqi_f, nei_t, nei_f, rem_uw, conv_ui, conv_iu, conv_ii, not_bool, nil_ptr, fa_mk, ptrV, len_mk, cap_mk, eq_ptr_nil, ne_ptr_nil, eq_nil_nil, ne_nil_nil, eq_slice_nil, eq_nil_slice, ia_1]; exact so_so) ?_)
      exact ⟨w.objs.length - (i + 1), by omega, i + 1, by rw [htk, sumO_app]; simp [sumO], rfl, by omega, hq⟩
    repeat (with_reducible first | refine vP_so ?_ | refine vB_t ?_ | refine vB_f ?_ | refine vE_tt ?_ | refine vE_ff ?_ | refine vE_tf ?_ | refine vE_ft ?_ | refine vE_u ?_ | refine vP_to (by simp (disch := omega) only [gdW_true, gdW_false, gB_true, gB_false, gB_undef, pickV_true, pickV_false, Bool.not_true, Bool.not_false, Option.map_some, bin_add, bin_sub, bin_mul, bin_quo, bin_rem, lss_t, lss_f, leq_t, leq_f, gtr_t, gtr_f, geq_t, geq_f, eqi_t, eqi_f, nei_t, nei_f, rem_uw, conv_ui, conv_iu, conv_ii, not_bool, nil_ptr, fa_mk, ptrV, len_mk, cap_mk, eq_ptr_nil, ne_ptr_nil, eq_nil_nil, ne_nil_nil, eq_slice_nil, eq_nil_slice, ia_1, e1, e5]; exact so_so) ?_)
    refine vA_new hh2 fun r6 h3 hh3 => ?_
    refine stN_mk (cs := #[.int .i64 o.addr, o.sv, .bool o.marked]) hh3 (one_ob hsl) rfl (by simp) fun h4 hh4 => ?_
    have hh4 : (pt r6 (.cells #[.int .i64 o.addr, o.sv, .bool o.marked] 30 (0, 0)) * (own g * (F * tt))) h4 := hh4
    have l1 : ld1 (.pointer (some ⟨r6, 0 + 1, none⟩)) h4 = some o.sv := ld1_mk (pt_get hh4) rfl
    have hh4 : (own g * (F * tt)) h4 := dropL (P := pt r6 (.cells #[.int .i64 o.addr, o.sv, .bool o.marked] 30 (0, 0))) (Q := own g * F) (asr (by ac_rfl) hh4) |> asr (by ac_rfl)
    repeat (with_reducible first | refine vP_so ?_ | refine vB_t ?_ | refine vB_f ?_ | refine vE_tt ?_ | refine vE_ff ?_ | refine vE_tf ?_ | refine vE_ft ?_ | refine vE_u ?_ | refine vP_to (by simp (disch := omega) only [gdW_true, gdW_false, gB_true, gB_false, gB_undef, pickV_true, pickV_false, Bool.not_true, Bool.not_false, Option.map_some, bin_add, bin_sub, bin_mul, bin_quo, bin_rem, lss_t, lss_f, leq_t, leq_f, gtr_t, gtr_f, geq_t, geq_f, eqi_t, eqi_f, nei_t, nei_f, rem_uw, conv_ui, conv_iu, conv_ii, not_bool, nil_ptr, fa_mk, ptrV, len_mk, cap_mk, eq_ptr_nil, ne_ptr_nil, eq_nil_nil, ne_nil_nil, eq_slice_nil, eq_nil_slice, ia_1, l1, hsl.len]; exact so_so) ?_)
    refine use_of (F := own g * F) (asr (by ac_rfl) hh4) fun h5 hh5 => ?_
    by_cases hk : 0 ≤ ofS (o.slots.length : Int)
    · repeat (with_reducible first | refine vP_so ?_ | refine vB_t ?_ | refine vB_f ?_ | refine vE_tt ?_ | refine vE_ff ?_ | refine vE_tf ?_ | refine vE_ft ?_ | refine vE_u ?_ | refine vP_to (by simp (disch := omega) only [gdW_true, gdW_false, gB_true, gB_false, gB_undef, pickV_true, pickV_false, Bool.not_true, Bool.not_false, Option.map_some, bin_add, bin_sub, bin_mul, bin_quo, bin_rem, lss_t, lss_f, leq_t, leq_f, gtr_t, gtr_f, geq_t, geq_f, eqi_t, eqi_f, nei_t, nei_f, rem_uw, conv_ui, conv_iu, conv_ii, not_bool, nil_ptr, fa_mk, ptrV, len_mk, cap_mk, eq_ptr_nil, ne_ptr_nil, eq_nil_nil, ne_nil_nil, eq_slice_nil, eq_nil_slice, ia_1]; exact so_so) ?_)
      refine use_size (F := own g * F) hh5 fun h6 hh6 => ?_
      have hso : 0 ≤ szS (ofS (o.slots.length : Int)) ∧ szS (ofS (o.slots.length : Int)) ≤ 256 := hso
      repeat (with_reducible first | refine vP_so ?_ | refine vB_t ?_ | refine vB_f ?_ | refine vE_tt ?_ | refine vE_ff ?_ | refine vE_tf ?_ | refine vE_ft ?_ | refine vE_u ?_ | refine vP_to (by simp (disch := omega) only [gdW_true, gdW_false, gB_true, gB_false, gB_undef, pickV_true, pickV_false, Bool.not_true, Bool.not_false, Option.map_some, bin_add, bin_sub, bin_mul, bin_quo, bin_rem, lss_t, lss_f, leq_t, leq_f, gtr_t, gtr_f, geq_t, geq_f, eqi_t, eqi_f, nei_t, nei_f, rem_uw, conv_ui, conv_iu, conv_ii, not_bool, nil_ptr, fa_mk, ptrV, len_mk, cap_mk, eq_ptr_nil, ne_ptr_nil, eq_nil_nil, ne_nil_nil, eq_slice_nil, eq_nil_slice, ia_1]; exact so_so) ?_)
      exact hJ h6 (asr (by ac_rfl) hh6)
    · have e : szO o = 0 := by unfold szO; exact szS_out (by omega)
      rw [e, Int.add_zero] at hJ
      repeat (with_reducible first | refine vP_so ?_ | refine vB_t ?_ | refine vB_f ?_ | refine vE_tt ?_ | refine vE_ff ?_ | refine vE_tf ?_ | refine vE_ft ?_ | refine vE_u ?_ | refine vP_to (by simp (disch := omega) only [gdW_true, gdW_false, gB_true, gB_false, gB_undef, pickV_true, pickV_false, Bool.not_true, Bool.not_false, Option.map_some, bin_add, bin_sub, bin_mul, bin_quo, bin_rem, lss_t, lss_f, leq_t, leq_f, gtr_t, gtr_f, geq_t, geq_f, eqi_t, eqi_f, nei_t, nei_f, rem_uw, conv_ui, conv_iu, conv_ii, not_bool, nil_ptr, fa_mk, ptrV, len_mk, cap_mk, eq_ptr_nil, ne_ptr_nil, eq_nil_nil, ne_nil_nil, eq_slice_nil, eq_nil_slice, ia_1]; exact so_so) ?_)
      exact hJ h5 (asr (by ac_rfl) hh5)
  · obtain rfl : i = w.objs.length := by omega
    rw [List.take_length]
    repeat (with_reducible first | refine vP_so ?_ | refine vB_t ?_ | refine vB_f ?_ | refine vE_tt ?_ | refine vE_ff ?_ | refine vE_tf ?_ | refine vE_ft ?_ | refine vE_u ?_ | refine vP_to (by simp (disch := omega) only [gdW_true, gdW_false, gB_true, gB_false, gB_undef, pickV_true, pickV_false, Bool.not_true, Bool.not_false, Option.map_some, bin_add, bin_sub, bin_mul, bin_quo, bin_rem, lss_t, lss_f, leq_t, leq_f, gtr_t, gtr_f, geq_t, geq_f, eqi_t, eqi_f, nei_t, nei_f, rem_uw, conv_ui, conv_iu, conv_ii, not_bool, nil_ptr, fa_mk, ptrV, len_mk, cap_mk, eq_ptr_nil, ne_ptr_nil, eq_nil_nil, ne_nil_nil, eq_slice_nil, eq_nil_slice, ia_1]; exact so_so) ?_)
    exact hK h2 hh2

/-- Each object has an address of its own, not 0. -/
def OwnP (w : VW) : Prop := ∀ (i : Nat) o, w.objs[i]? = some o → o.addr ≠ 0 ∧ w.at o.addr = some i

theorem use_own {g : Hp} {w : VW} {F : Asrt} {K : Value → Hp → Prop} {h : Hp} (hv : VAt g w) (hh : (own g * (F * tt)) h)
    (hK : ∀ b h', (b = true → OwnP w) → (own g * (F * tt)) h' → K (.bool b) h') : CallH Try.prog 12 #[w.val] K h := by
  refine C12 ?_
  unfold D12
  have hol := hv.objs_len
  refine vA_new (o := .cells w.cells 26 (0, 0)) hh fun r1 h1 hh1 => ?_
  have hd : ∀ {h}, (pt r1 (.cells w.cells 26 (0, 0)) * (own g * (F * tt))) h → (own g * (F * tt)) h := fun q => dropL (P := pt r1 (.cells w.cells 26 (0, 0))) (Q := own g * F) (asr (by ac_rfl) q) |> asr (by ac_rfl)
  refine ⟨fun m zs h' => ∃ i : Nat, zs = [.int .i64 i] ∧ m = w.objs.length - i ∧ i ≤ w.objs.length ∧ (∀ (j : Nat) o, j < i → w.objs[j]? = some o → o.addr ≠ 0 ∧ w.at o.addr = some j) ∧ (pt r1 (.cells w.cells 26 (0, 0)) * (own g * (F * tt))) h', ⟨_, 0, rfl, rfl, by omega, fun j r hj => by omega, hh1⟩, ?_⟩
  clear hh1
  rintro m v3 h2 ⟨i, hzs, rfl, hi, hok, hh2⟩ _
  obtain rfl : v3 = .int .i64 i := by simpa using hzs
  have lw := vw_ld (r := r1) (w := w) (E := 26) hh2
  have lo := lw.2.2.2.2.2.1
  have lv := lw.2.2.2.2.2.2.2.2.2
  have hw := own_vat (F := pt r1 (.cells w.cells 26 (0, 0)) * (F * tt)) (asr (by ac_rfl) hh2) hv
  by_cases hil : i < w.objs.length
  · have hoi : w.objs[i]? = some w.objs[i] := List.getElem?_eq_getElem hil
    obtain ⟨b, q, e1, e2, _, _, _⟩ := hw.obj hoi .i64
    generalize w.objs[i] = o at *
    by_cases h0 : o.addr = 0
    · repeat (with_reducible first | refine vP_so ?_ | refine vB_t ?_ | refine vB_f ?_ | refine vE_tt ?_ | refine vE_ff ?_ | refine vE_tf ?_ | refine vE_ft ?_ | refine vE_u ?_ | refine vP_to (by simp (disch := omega) only [gdW_true, gdW_false, gB_true, gB_false, gB_undef, pickV_true, pickV_false, Bool.not_true, Bool.not_false, Option.map_some, bin_add, bin_sub, bin_mul, bin_quo, bin_rem, lss_t, lss_f, leq_t, leq_f, gtr_t, gtr_f, geq_t, geq_f, eqi_t, eqi_f, nei_t, nei_f, rem_uw, conv_ui, conv_iu, conv_ii, not_bool, nil_ptr, fa_mk, ptrV, len_mk, cap_mk, eq_ptr_nil, ne_ptr_nil, eq_nil_nil, ne_nil_nil, eq_slice_nil, eq_nil_slice, ia_1, lo, hol.1, e1, e2]; exact so_so) ?_)
      exact hK false h2 (fun q => by cases q) (hd hh2)
    · repeat (with_reducible first | refine vP_so ?_ | refine vB_t ?_ | refine vB_f ?_ | refine vE_tt ?_ | refine vE_ff ?_ | refine vE_tf ?_ | refine vE_ft ?_ | refine vE_u ?_ | refine vP_to (by simp (disch := omega) only [gdW_true, gdW_false, gB_true, gB_false, gB_undef, pickV_true, pickV_false, Bool.not_true, Bool.not_false, Option.map_some, bin_add, bin_sub, bin_mul, bin_quo, bin_rem, lss_t, lss_f, leq_t, leq_f, gtr_t, gtr_f, geq_t, geq_f, eqi_t, eqi_f, nei_t, nei_f, rem_uw, conv_ui, conv_iu, conv_ii, not_bool, nil_ptr, fa_mk, ptrV, len_mk, cap_mk, eq_ptr_nil, ne_ptr_nil, eq_nil_nil, ne_nil_nil, eq_slice_nil, eq_nil_slice, ia_1, lo, hol.1, e1, e2, lv]; exact so_so) ?_)
      refine use_rfind (F := pt r1 (.cells w.cells 26 (0, 0)) * F) hv (asr (by ac_rfl) hh2) fun h3 hh3 => ?_
      have hh3 : (pt r1 (.cells w.cells 26 (0, 0)) * (own g * (F * tt))) h3 := asr (by ac_rfl) hh3
      by_cases hx : findV w o.addr = i
      · repeat (with_reducible first | refine vP_so ?_ | refine vB_t ?_ | refine vB_f ?_ | refine vE_tt ?_ | refine vE_ff ?_ | refine vE_tf ?_ | refine vE_ft ?_ | refine vE_u ?_ | refine vP_to (by simp (disch := omega) only [gdW_true, gdW_false, gB_true, gB_false, gB_undef, pickV_true, pickV_false, Bool.not_true, Bool.not_false, Option.map_some, bin_add, bin_sub, bin_mul, bin_quo, bin_rem, lss_t, lss_f, leq_t, leq_f, gtr_t, gtr_f, geq_t, geq_f, eqi_t, eqi_f, nei_t, nei_f, rem_uw, conv_ui, conv_iu, conv_ii, not_bool, nil_ptr, fa_mk, ptrV, len_mk, cap_mk, eq_ptr_nil, ne_ptr_nil, eq_nil_nil, ne_nil_nil, eq_slice_nil, eq_nil_slice, ia_1]; exact so_so) ?_)
        refine ⟨w.objs.length - (i + 1), by omega, i + 1, by simp, rfl, by omega, fun j o' hj ho' => ?_, hh3⟩
        by_cases hji : j = i
        · subst hji
          obtain rfl : o = o' := Option.some.inj (hoi.symm.trans ho')
          refine ⟨h0, ?_⟩
          unfold findV at hx
          cases hat : w.at o.addr with
          | none => rw [hat] at hx; simp only at hx; omega
          | some k => rw [hat] at hx; simp only at hx; congr 1; omega
        · exact hok j o' (by omega) ho'
      · repeat (with_reducible first | refine vP_so ?_ | refine vB_t ?_ | refine vB_f ?_ | refine vE_tt ?_ | refine vE_ff ?_ | refine vE_tf ?_ | refine vE_ft ?_ | refine vE_u ?_ | refine vP_to (by simp (disch := omega) only [gdW_true, gdW_false, gB_true, gB_false, gB_undef, pickV_true, pickV_false, Bool.not_true, Bool.not_false, Option.map_some, bin_add, bin_sub, bin_mul, bin_quo, bin_rem, lss_t, lss_f, leq_t, leq_f, gtr_t, gtr_f, geq_t, geq_f, eqi_t, eqi_f, nei_t, nei_f, rem_uw, conv_ui, conv_iu, conv_ii, not_bool, nil_ptr, fa_mk, ptrV, len_mk, cap_mk, eq_ptr_nil, ne_ptr_nil, eq_nil_nil, ne_nil_nil, eq_slice_nil, eq_nil_slice, ia_1]; exact so_so) ?_)
        exact hK false h3 (fun q => by cases q) (hd hh3)
  · obtain rfl : i = w.objs.length := by omega
    repeat (with_reducible first | refine vP_so ?_ | refine vB_t ?_ | refine vB_f ?_ | refine vE_tt ?_ | refine vE_ff ?_ | refine vE_tf ?_ | refine vE_ft ?_ | refine vE_u ?_ | refine vP_to (by simp (disch := omega) only [gdW_true, gdW_false, gB_true, gB_false, gB_undef, pickV_true, pickV_false, Bool.not_true, Bool.not_false, Option.map_some, bin_add, bin_sub, bin_mul, bin_quo, bin_rem, lss_t, lss_f, leq_t, leq_f, gtr_t, gtr_f, geq_t, geq_f, eqi_t, eqi_f, nei_t, nei_f, rem_uw, conv_ui, conv_iu, conv_ii, not_bool, nil_ptr, fa_mk, ptrV, len_mk, cap_mk, eq_ptr_nil, ne_ptr_nil, eq_nil_nil, ne_nil_nil, eq_slice_nil, eq_nil_slice, ia_1, lo, hol.1]; exact so_so) ?_)
    exact hK true h2 (fun _ j o ho => hok j o (List.getElem?_eq_some_iff.1 ho).1 ho) (hd hh2)

end Go.Proofs

/-
  Views that are made; law 29's told.
-/
set_option maxRecDepth 100000
set_option maxHeartbeats 400000
namespace Go.Proofs
open Go.Sl

abbrev SlV := Option Addr × Nat × Nat
def slv (s : SlV) : Value := .slice s.1 s.2.1 s.2.2
def obE : Enc (Int × SlV × Bool) := ⟨fun o => [.int .i64 o.1, slv o.2.1, .bool o.2.2], 3, fun _ => rfl, fun _ => rfl, by omega⟩
def grE : Enc (Int × Int × SlV) := ⟨fun o => [.int .i64 o.1, .int .i64 o.2.1, slv o.2.2], 3, fun _ => rfl, fun _ => rfl, by omega⟩

theorem SG_rows {α : Type} (e : Enc α) {E : Nat} {sv : Value} {l : List α} {F : Asrt} {h : Hp} (hh : (SG e E sv l * F) h) : RowsAt h e.sz sv (l.map e.enc) := by
  refine ⟨by rw [List.length_map]; exact SG_len e hh, by rw [List.length_map]; exact SG_lt e hh, fun j r k hj => ?_⟩
  rw [List.getElem?_map] at hj
  obtain ⟨x, hx, rfl⟩ := Option.map_eq_some_iff.1 hj
  obtain ⟨b, o, e1, e2, e3, _⟩ := elG e hh hx k
  exact ⟨e.len x, b, o, e1, e2, e3⟩

theorem star_emp {A : Asrt} {g : Hp} (h : A g) : (A * emp) g := ⟨g, Hp.emp, Disj.emp g, by rw [Hp.add_emp], h, rfl⟩

def w29 (gv ov s0 s1 s2 : Value) : VW := ⟨0, 0, 0, gv, [64], .slice none 0 0, [], ov, [⟨64, s0, [128, 0], false⟩, ⟨128, s1, [256], true⟩, ⟨192, s2, [0], false⟩], 0, 0, 0⟩

section
variable {gv ov s0 s1 s2 : Value}

theorem w29_names {x : Int} : x ∈ (w29 gv ov s0 s1 s2).names ↔ x = 64 := by simp [VW.names, w29]
theorem w29_64 : (w29 gv ov s0 s1 s2).at 64 = some 0 := rfl
theorem w29_128 : (w29 gv ov s0 s1 s2).at 128 = some 1 := rfl
theorem w29_192 : (w29 gv ov s0 s1 s2).at 192 = some 2 := rfl
theorem w29_256 : (w29 gv ov s0 s1 s2).at 256 = none := rfl

theorem w29_e1 : (w29 gv ov s0 s1 s2).edge 64 128 := ⟨0, _, w29_64, rfl, by simp, by decide⟩
theorem w29_e2 : (w29 gv ov s0 s1 s2).edge 128 256 := ⟨1, _, w29_128, rfl, by simp, by decide⟩
theorem w29_r : (w29 gv ov s0 s1 s2).root 64 := ⟨w29_names.2 rfl, by decide⟩

theorem w29_rch {x : Int} : Rch (w29 gv ov s0 s1 s2) x ↔ x = 64 ∨ x = 128 ∨ x = 256 := by
  constructor
  · intro h
    refine rch_one (P := fun x => x = 64 ∨ x = 128 ∨ x = 256) (fun x hx _ => .inl (w29_names.1 hx)) (fun x k o y hx hk ho hy hn => ?_) h
    rcases hx with rfl | rfl | rfl
    · rw [w29_64] at hk; cases hk
      cases (ho : some _ = some o)
      have hy : y = 128 ∨ y = 0 := by simpa using hy
      rcases hy with hy | hy
      · exact .inr (.inl hy)
      · exact (hn hy).elim
    · rw [w29_128] at hk; cases hk
      cases (ho : some _ = some o)
      have hy : y = 256 := by simpa using hy
      exact .inr (.inr hy)
    · rw [w29_256] at hk; cases hk
  · have w1 : Go.Sl.Way (w29 gv ov s0 s1 s2) [64] 64 := .root w29_r
    have w2 := w1.step w29_e1
    have w3 := w2.step w29_e2
    rintro (rfl | rfl | rfl)
    · exact w1.rch
    · exact w2.rch
    · exact w3.rch

theorem w29_reach {l : List Int} (h : ReachL (w29 gv ov s0 s1 s2) l) : l = [64, 128] := by
  refine Rise_ext h.1 (by simp [Rise]) fun x => ?_
  rw [h.2, w29_rch]
  constructor
  · rintro ⟨rfl | rfl | rfl, h2⟩
    · simp
    · simp
    · rw [w29_256] at h2; cases h2
  · intro hx
    have hx : x = 64 ∨ x = 128 := by simpa using hx
    rcases hx with rfl | rfl
    · exact ⟨.inl rfl, by rw [w29_64]; rfl⟩
    · exact ⟨.inr (.inl rfl), by rw [w29_128]; rfl⟩

theorem w29_lost {l : List Int} (h : LostL (w29 gv ov s0 s1 s2) l) : l = [256] := by
  refine Rise_ext h.1 (by simp [Rise]) fun x => ?_
  rw [h.2, w29_rch]
  constructor
  · rintro ⟨rfl | rfl | rfl, h2⟩
    · rw [w29_64] at h2; cases h2
    · rw [w29_128] at h2; cases h2
    · simp
  · intro hx
    have hx : x = 256 := by simpa using hx
    subst hx
    exact ⟨.inr (.inr rfl), w29_256⟩

theorem w29_white {l : List Int} (h : WhiteL (w29 gv ov s0 s1 s2) l) : l = [64] := by
  refine Rise_ext h.1 (by simp [Rise]) fun x => ?_
  rw [h.2, w29_rch]
  constructor
  · rintro ⟨rfl | rfl | rfl, k, o, h1, h2, h3⟩
    · simp
    · rw [w29_128] at h1; cases h1
      cases (h2 : some _ = some o)
      cases h3
    · rw [w29_256] at h1; cases h1
  · intro hx
    have hx : x = 64 := by simpa using hx
    subst hx
    exact ⟨.inl rfl, 0, _, w29_64, rfl, rfl⟩

theorem w29_path {l : List Int} (h : PathL (w29 gv ov s0 s1 s2) 128 l) : l = [64, 128] := by
  have hw : Go.Sl.Way (w29 gv ov s0 s1 s2) [64, 128] 128 := (Go.Sl.Way.root w29_r).step w29_e1
  rcases h with ⟨_, hb⟩ | ⟨_, hn | hn⟩
  · refine hb.uniq ⟨hw, fun q hq => ?_⟩
    cases hq with
    | root hr => exact absurd (w29_names.1 hr.1) (by decide)
    | @step q0 e _ hq0 he =>
      cases hq0 with
      | root hr =>
        have := w29_names.1 hr.1
        subst this
        exact ⟨by simp, fun _ => .inl rfl⟩
      | step h1 h2 =>
        obtain ⟨i, rfl⟩ := h1.last
        simp
  · rw [w29_128] at hn; cases hn
  · exact (hn _ hw).elim

theorem w29_small : Small (w29 gv ov s0 s1 s2) := by
  refine ⟨by simp [VW.all, VW.names, w29], by simp [w29], by simp [w29], fun o ho => ?_⟩
  have : o = ⟨64, s0, [128, 0], false⟩ ∨ o = ⟨128, s1, [256], true⟩ ∨ o = ⟨192, s2, [0], false⟩ := by simpa [w29] using ho
  rcases this with rfl | rfl | rfl <;> simp

end

theorem w29_vat {g : Hp} {a0 a1 a2 : SlV} {gv ov : Value} (h : (SG iE 3 gv [64] * (SG iE 3 (slv a0) [128, 0] * (SG iE 3 (slv a1) [256] * (SG iE 3 (slv a2) [0] * SG obE 30 ov [(64, a0, false), (128, a1, true), (192, a2, false)])))) g) : VAt g (w29 gv ov (slv a0) (slv a1) (slv a2)) := by
  obtain ⟨A, hA⟩ : ∃ A, A = SG iE 3 gv [64] := ⟨_, rfl⟩
  obtain ⟨B, hB⟩ : ∃ A, A = SG iE 3 (slv a0) [128, 0] := ⟨_, rfl⟩
  obtain ⟨C, hC⟩ : ∃ A, A = SG iE 3 (slv a1) [256] := ⟨_, rfl⟩
  obtain ⟨D, hD⟩ : ∃ A, A = SG iE 3 (slv a2) [0] := ⟨_, rfl⟩
  obtain ⟨E, hE⟩ : ∃ A, A = SG obE 30 ov [(64, a0, false), (128, a1, true), (192, a2, false)] := ⟨_, rfl⟩
  rw [← hA, ← hB, ← hC, ← hD, ← hE] at h
  have h2 : (B * (A * (C * (D * E)))) g := asr (by ac_rfl) h
  have h3 : (C * (A * (B * (D * E)))) g := asr (by ac_rfl) h
  have h4 : (D * (A * (B * (C * E)))) g := asr (by ac_rfl) h
  have h5 : (E * (A * (B * (C * D)))) g := asr (by ac_rfl) h
  rw [hA] at h; rw [hB] at h2; rw [hC] at h3; rw [hD] at h4; rw [hE] at h5
  refine ⟨SG_ints h, rows_nil _, SG_rows obE h5, fun o ho => ?_, by simp [w29]⟩
  have : o = ⟨64, slv a0, [128, 0], false⟩ ∨ o = ⟨128, slv a1, [256], true⟩ ∨ o = ⟨192, slv a2, [0], false⟩ := by simpa [w29] using ho
  rcases this with rfl | rfl | rfl
  · exact SG_ints h2
  · exact SG_ints h3
  · exact SG_ints h4

/-- A slice of numbers, just made. -/
theorem new_ints {r : Nat} {cs : Array Value} {l : List Int} {F : Asrt} {h : Hp} (hh : (pt r (.cells cs 3 (0, 0)) * F) h) (hl : cs = (l.map fun n => Value.int .i64 n).toArray) (hb : l.length < 9223372036854775808) : (SG iE 3 (.slice (some ⟨r, 0, none⟩) l.length l.length) l * F) h := by
  refine SG_intro iE (pre := []) (post := []) rfl rfl (Nat.le_refl _) hb (by simp) ?_
  rw [List.append_nil, List.nil_append, iE_cs, ← hl]
  exact hh

theorem putL_all {c d : Array Value} (h : d.size = c.size) : putL c 0 d.toList = d := by
  have h' : d.toList.length = c.toList.length := by simpa using h
  have e := putL_toArray d.toList c.toList 0 (by omega)
  have hd : c.toList.drop (0 + d.toList.length) = [] := List.drop_eq_nil_iff.2 (by omega)
  rw [hd] at e
  simpa using e

theorem use_told29 {F : Asrt} {K : Value → Hp → Prop} {h : Hp} (hh : (F * tt) h) (hK : ∀ h', (F * tt) h' → K (.bool true) h') : CallH Try.prog 13 #[] K h := by
  refine C13 ?_
  unfold D13
  have b1 : ∀ x : Int, bldV #[.int .i64 0] [(0, 1, .int .i64 x)] = some #[.int .i64 x] := fun _ => rfl
  have b2 : ∀ x y : Int, bldV #[.int .i64 0, .int .i64 0] [(0, 1, .int .i64 x), (1, 1, .int .i64 y)] = some #[.int .i64 x, .int .i64 y] := fun _ _ => rfl
  try rw [b1]
  refine vA_new (f := fun r => .slice (some ⟨r, 0, none⟩) 1 1) hh fun ra h1 hh1 => ?_
  have hh1 : (SG iE 3 (.slice (some ⟨ra, 0, none⟩) 1 1) [64] * (F * tt)) h1 := new_ints (l := [64]) hh1 rfl (by simp)
  try rw [b2]
  refine vA_new (f := fun r => .slice (some ⟨r, 0, none⟩) 2 2) hh1 fun rb h2 hh2 => ?_
  have hh2 : (SG iE 3 (.slice (some ⟨rb, 0, none⟩) 2 2) [128, 0] * (SG iE 3 (.slice (some ⟨ra, 0, none⟩) 1 1) [64] * (F * tt))) h2 := new_ints (l := [128, 0]) hh2 rfl (by simp)
  refine vP_to (x := .agg #[.int .i64 64, .slice (some ⟨rb, 0, none⟩) 2 2, .bool false]) rfl ?_
  try rw [b1]
  refine vA_new (f := fun r => .slice (some ⟨r, 0, none⟩) 1 1) hh2 fun rc h3 hh3 => ?_
  have hh3 : (SG iE 3 (.slice (some ⟨rc, 0, none⟩) 1 1) [256] * (SG iE 3 (.slice (some ⟨rb, 0, none⟩) 2 2) [128, 0] * (SG iE 3 (.slice (some ⟨ra, 0, none⟩) 1 1) [64] * (F * tt)))) h3 := new_ints (l := [256]) hh3 rfl (by simp)
  refine vP_to (x := .agg #[.int .i64 128, .slice (some ⟨rc, 0, none⟩) 1 1, .bool true]) rfl ?_
  try rw [b1]
  refine vA_new (f := fun r => .slice (some ⟨r, 0, none⟩) 1 1) hh3 fun rd h4 hh4 => ?_
  have hh4 : (SG iE 3 (.slice (some ⟨rd, 0, none⟩) 1 1) [0] * (SG iE 3 (.slice (some ⟨rc, 0, none⟩) 1 1) [256] * (SG iE 3 (.slice (some ⟨rb, 0, none⟩) 2 2) [128, 0] * (SG iE 3 (.slice (some ⟨ra, 0, none⟩) 1 1) [64] * (F * tt))))) h4 := new_ints (l := [0]) hh4 rfl (by simp)
  refine vP_to (x := .agg #[.int .i64 192, .slice (some ⟨rd, 0, none⟩) 1 1, .bool false]) rfl ?_
  obtain ⟨a0, ha0⟩ : ∃ a : SlV, a = (some ⟨rb, 0, none⟩, 2, 2) := ⟨_, rfl⟩
  obtain ⟨a1, ha1⟩ : ∃ a : SlV, a = (some ⟨rc, 0, none⟩, 1, 1) := ⟨_, rfl⟩
  obtain ⟨a2, ha2⟩ : ∃ a : SlV, a = (some ⟨rd, 0, none⟩, 1, 1) := ⟨_, rfl⟩
  have bO : bldV #[(Value.int .i64 0), (Value.slice none 0 0), (Value.bool false), (Value.int .i64 0), (Value.slice none 0 0), (Value.bool false), (Value.int .i64 0), (Value.slice none 0 0), (Value.bool false)] [(0, 3, .agg #[.int .i64 64, .slice (some ⟨rb, 0, none⟩) 2 2, .bool false]), (3, 3, .agg #[.int .i64 128, .slice (some ⟨rc, 0, none⟩) 1 1, .bool true]), (6, 3, .agg #[.int .i64 192, .slice (some ⟨rd, 0, none⟩) 1 1, .bool false])] =
      some #[.int .i64 64, slv a0, .bool false, .int .i64 128, slv a1, .bool true, .int .i64 192, slv a2, .bool false] := by subst ha0; subst ha1; subst ha2; rfl
  rw [bO]
  refine vA_new (f := fun r => .slice (some ⟨r, 0, none⟩) 3 3) hh4 fun re h5 hh5 => ?_
  have hh5 : (SG obE 30 (.slice (some ⟨re, 0, none⟩) 3 3) [(64, a0, false), (128, a1, true), (192, a2, false)] * (SG iE 3 (slv a2) [0] * (SG iE 3 (slv a1) [256] * (SG iE 3 (slv a0) [128, 0] * (SG iE 3 (.slice (some ⟨ra, 0, none⟩) 1 1) [64] * (F * tt)))))) h5 := by
    have hc : #[.int .i64 64, slv a0, .bool false, .int .i64 128, slv a1, .bool true, .int .i64 192, slv a2, .bool false] = ([] ++ (obE.cs [(64, a0, false), (128, a1, true), (192, a2, false)] ++ [])).toArray := rfl
    have s0 : Value.slice (some ⟨rb, 0, none⟩) 2 2 = slv a0 := by subst ha0; rfl
    have s1 : Value.slice (some ⟨rc, 0, none⟩) 1 1 = slv a1 := by subst ha1; rfl
    have s2 : Value.slice (some ⟨rd, 0, none⟩) 1 1 = slv a2 := by subst ha2; rfl
    rw [hc, s0, s1, s2] at hh5
    exact SG_intro obE (pre := []) (post := []) (n := 3) (cap := 3) rfl rfl (Nat.le_refl _) (by omega) (Nat.le_refl _) hh5
  obtain ⟨g, hg, hh5⟩ := own_pick (A := SG iE 3 (.slice (some ⟨ra, 0, none⟩) 1 1) [64] * (SG iE 3 (slv a0) [128, 0] * (SG iE 3 (slv a1) [256] * (SG iE 3 (slv a2) [0] * SG obE 30 (.slice (some ⟨re, 0, none⟩) 3 3) [(64, a0, false), (128, a1, true), (192, a2, false)])))) (F := F * tt) (asr (by ac_rfl) hh5)
  have hv := w29_vat hg
  obtain ⟨w, hw⟩ : ∃ w, w = w29 (.slice (some ⟨ra, 0, none⟩) 1 1) (.slice (some ⟨re, 0, none⟩) 3 3) (slv a0) (slv a1) (slv a2) := ⟨_, rfl⟩
  rw [← hw] at hv
  have hN : w.all.length ≤ 1000000 := by rw [hw]; exact w29_small.all
  have p1 : ∀ l, ReachL w l → l = [64, 128] := fun l q => w29_reach (hw ▸ q)
  have p2 : ∀ l, LostL w l → l = [256] := fun l q => w29_lost (hw ▸ q)
  have p3 : ∀ l, WhiteL w l → l = [64] := fun l q => w29_white (hw ▸ q)
  have p4 : ∀ l, PathL w 128 l → l = [64, 128] := fun l q => w29_path (hw ▸ q)
  have p5 : findV w 192 = 2 := by subst hw; rfl
  have p6 : sumO w.objs = 4 := by subst hw; rfl
  have p7 : w.objs.length ≤ 1000000 := by rw [hw]; simp [w29]
  have bV : (bldV #[(Value.int .i64 0), (Value.int .i64 0), (Value.int .i64 0), (Value.slice none 0 0), (Value.slice none 0 0), (Value.slice none 0 0), (Value.int .i64 0), (Value.int .i64 0), (Value.int .i64 0)] [(3, 1, .slice (some ⟨ra, 0, none⟩) 1 1), (5, 1, .slice (some ⟨re, 0, none⟩) 3 3)]).map Value.agg = some w.val := by rw [hw]; rfl
  have hone : w.cells.toList.all Go.Sl.one = true := VW.cells_one hv
  have hput : putL #[(Value.int .i64 0), (Value.int .i64 0), (Value.int .i64 0), (Value.slice none 0 0), (Value.slice none 0 0), (Value.slice none 0 0), (Value.int .i64 0), (Value.int .i64 0), (Value.int .i64 0)] 0 w.cells.toList = w.cells := putL_all rfl
  clear hg hw
  refine vP_to bV ?_
  refine vA_new (f := ptrV) hh5 fun r1 h6 hh6 => ?_
  refine stN_mk (cs := w.cells) hh6 hone rfl (by simp) fun h7 hh7 => ?_
  rw [hput] at hh7
  have lv : ∀ {h} {G : Asrt}, (G * (own g * (pt r1 (.cells w.cells 26 (0, 0)) * F * tt))) h → ldN 9 (.pointer (some ⟨r1, 0, none⟩)) h = some w.val := fun {h G} q =>
    (vw_ld (r := r1) (w := w) (E := 26) (F := G * (own g * (F * tt))) (asr (by ac_rfl) q)).2.2.2.2.2.2.2.2.2
  have lv0 : ∀ {h}, (own g * (pt r1 (.cells w.cells 26 (0, 0)) * F * tt)) h → ldN 9 (.pointer (some ⟨r1, 0, none⟩)) h = some w.val := fun {h} q =>
    (vw_ld (r := r1) (w := w) (E := 26) (F := own g * (F * tt)) (asr (by ac_rfl) q)).2.2.2.2.2.2.2.2.2
  have hh7 : (own g * (pt r1 (.cells w.cells 26 (0, 0)) * F * tt)) h7 := asr (by ac_rfl) hh7
  -- a list out of a call, against a list that is made here
  have cmp : ∀ {v : Value} {l : List Int} (m : List Int) (n : Nat) {h : Hp} {r : Nat} {K : Value → Hp → Prop}, l = m → n = m.length → m.length ≤ 2 → (pt r (.cells (m.map fun n => Value.int .i64 n).toArray 3 (0, 0)) * (SG iE 3 v l * (own g * (pt r1 (.cells w.cells 26 (0, 0)) * F * tt)))) h →
      ((own g * (pt r1 (.cells w.cells 26 (0, 0)) * F * tt)) h → K (.bool true) h) → CallH Try.prog 14 #[v, .slice (some ⟨r, 0, none⟩) n n] K h := by
    intro v l m n h r K e1 e2 e3 q k
    subst e2
    have q := new_ints (l := m) q rfl (by omega)
    have i2 : IntsAt h (.slice (some ⟨r, 0, none⟩) m.length m.length) m := SG_ints q
    have q2 : (SG iE 3 v l * (SG iE 3 (.slice (some ⟨r, 0, none⟩) m.length m.length) m * (own g * (pt r1 (.cells w.cells 26 (0, 0)) * F * tt)))) h := asr (by ac_rfl) q
    refine use_ints (SG_ints q2) i2 ?_
    rw [decide_eq_true e1]
    exact k (dropL (P := SG iE 3 v l * SG iE 3 (.slice (some ⟨r, 0, none⟩) m.length m.length) m) (Q := own g * (pt r1 (.cells w.cells 26 (0, 0)) * F)) (asr (by ac_rfl) q) |> asr (by ac_rfl))
  repeat (with_reducible first | refine vP_so ?_ | refine vB_t ?_ | refine vB_f ?_ | refine vE_tt ?_ | refine vE_ff ?_ | refine vE_tf ?_ | refine vE_ft ?_ | refine vE_u ?_ | refine vP_to (by simp (disch := omega) only [gdW_true, gdW_false, gB_true, gB_false, gB_undef, pickV_true, pickV_false, Bool.not_true, Bool.not_false, Option.map_some, bin_add, bin_sub, bin_mul, bin_quo, bin_rem, lss_t, lss_f, leq_t, leq_f, gtr_t, gtr_f, geq_t, geq_f, eqi_t, eqi_f, nei_t, nei_f, rem_uw, conv_ui, conv_iu, conv_ii, not_bool, nil_ptr, fa_mk, ptrV, len_mk, cap_mk, eq_ptr_nil, ne_ptr_nil, eq_nil_nil, ne_nil_nil, eq_slice_nil, eq_nil_slice, ia_1, lv0 hh7]; exact so_so) ?_)
  refine use_reach hv hN hh7 fun v12 l h8 hl _ hh8 => ?_
  try rw [b2]
  refine vA_new (f := fun r => .slice (some ⟨r, 0, none⟩) 2 2) hh8 fun r13 h9 hh9 => ?_
  refine cmp [64, 128] 2 (p1 l hl) rfl (by simp) hh9 fun hh10 => ?_
  repeat (with_reducible first | refine vP_so ?_ | refine vB_t ?_ | refine vB_f ?_ | refine vE_tt ?_ | refine vE_ff ?_ | refine vE_tf ?_ | refine vE_ft ?_ | refine vE_u ?_ | refine vP_to (by simp (disch := omega) only [gdW_true, gdW_false, gB_true, gB_false, gB_undef, pickV_true, pickV_false, Bool.not_true, Bool.not_false, Option.map_some, bin_add, bin_sub, bin_mul, bin_quo, bin_rem, lss_t, lss_f, leq_t, leq_f, gtr_t, gtr_f, geq_t, geq_f, eqi_t, eqi_f, nei_t, nei_f, rem_uw, conv_ui, conv_iu, conv_ii, not_bool, nil_ptr, fa_mk, ptrV, len_mk, cap_mk, eq_ptr_nil, ne_ptr_nil, eq_nil_nil, ne_nil_nil, eq_slice_nil, eq_nil_slice, ia_1, lv0 hh10]; exact so_so) ?_)
  refine use_white hv hN hh10 fun v17 l h11 hl _ hh11 => ?_
  repeat (with_reducible first | refine vP_so ?_ | refine vB_t ?_ | refine vB_f ?_ | refine vE_tt ?_ | refine vE_ff ?_ | refine vE_tf ?_ | refine vE_ft ?_ | refine vE_u ?_ | refine vP_to (by simp (disch := omega) only [gdW_true, gdW_false, gB_true, gB_false, gB_undef, pickV_true, pickV_false, Bool.not_true, Bool.not_false, Option.map_some, bin_add, bin_sub, bin_mul, bin_quo, bin_rem, lss_t, lss_f, leq_t, leq_f, gtr_t, gtr_f, geq_t, geq_f, eqi_t, eqi_f, nei_t, nei_f, rem_uw, conv_ui, conv_iu, conv_ii, not_bool, nil_ptr, fa_mk, ptrV, len_mk, cap_mk, eq_ptr_nil, ne_ptr_nil, eq_nil_nil, ne_nil_nil, eq_slice_nil, eq_nil_slice, ia_1]; exact so_so) ?_)
  try rw [b1]
  refine vA_new (f := fun r => .slice (some ⟨r, 0, none⟩) 1 1) hh11 fun r18 h12 hh12 => ?_
  repeat (with_reducible first | refine vP_so ?_ | refine vB_t ?_ | refine vB_f ?_ | refine vE_tt ?_ | refine vE_ff ?_ | refine vE_tf ?_ | refine vE_ft ?_ | refine vE_u ?_ | refine vP_to (by simp (disch := omega) only [gdW_true, gdW_false, gB_true, gB_false, gB_undef, pickV_true, pickV_false, Bool.not_true, Bool.not_false, Option.map_some, bin_add, bin_sub, bin_mul, bin_quo, bin_rem, lss_t, lss_f, leq_t, leq_f, gtr_t, gtr_f, geq_t, geq_f, eqi_t, eqi_f, nei_t, nei_f, rem_uw, conv_ui, conv_iu, conv_ii, not_bool, nil_ptr, fa_mk, ptrV, len_mk, cap_mk, eq_ptr_nil, ne_ptr_nil, eq_nil_nil, ne_nil_nil, eq_slice_nil, eq_nil_slice, ia_1]; exact so_so) ?_)
  refine cmp [64] 1 (p3 l hl) rfl (by simp) hh12 fun hh13 => ?_
  repeat (with_reducible first | refine vP_so ?_ | refine vB_t ?_ | refine vB_f ?_ | refine vE_tt ?_ | refine vE_ff ?_ | refine vE_tf ?_ | refine vE_ft ?_ | refine vE_u ?_ | refine vP_to (by simp (disch := omega) only [gdW_true, gdW_false, gB_true, gB_false, gB_undef, pickV_true, pickV_false, Bool.not_true, Bool.not_false, Option.map_some, bin_add, bin_sub, bin_mul, bin_quo, bin_rem, lss_t, lss_f, leq_t, leq_f, gtr_t, gtr_f, geq_t, geq_f, eqi_t, eqi_f, nei_t, nei_f, rem_uw, conv_ui, conv_iu, conv_ii, not_bool, nil_ptr, fa_mk, ptrV, len_mk, cap_mk, eq_ptr_nil, ne_ptr_nil, eq_nil_nil, ne_nil_nil, eq_slice_nil, eq_nil_slice, ia_1, lv0 hh13]; exact so_so) ?_)
  refine use_lost hv hN hh13 fun v23 l h14 hl _ hh14 => ?_
  repeat (with_reducible first | refine vP_so ?_ | refine vB_t ?_ | refine vB_f ?_ | refine vE_tt ?_ | refine vE_ff ?_ | refine vE_tf ?_ | refine vE_ft ?_ | refine vE_u ?_ | refine vP_to (by simp (disch := omega) only [gdW_true, gdW_false, gB_true, gB_false, gB_undef, pickV_true, pickV_false, Bool.not_true, Bool.not_false, Option.map_some, bin_add, bin_sub, bin_mul, bin_quo, bin_rem, lss_t, lss_f, leq_t, leq_f, gtr_t, gtr_f, geq_t, geq_f, eqi_t, eqi_f, nei_t, nei_f, rem_uw, conv_ui, conv_iu, conv_ii, not_bool, nil_ptr, fa_mk, ptrV, len_mk, cap_mk, eq_ptr_nil, ne_ptr_nil, eq_nil_nil, ne_nil_nil, eq_slice_nil, eq_nil_slice, ia_1]; exact so_so) ?_)
  try rw [b1]
  refine vA_new (f := fun r => .slice (some ⟨r, 0, none⟩) 1 1) hh14 fun r24 h15 hh15 => ?_
  repeat (with_reducible first | refine vP_so ?_ | refine vB_t ?_ | refine vB_f ?_ | refine vE_tt ?_ | refine vE_ff ?_ | refine vE_tf ?_ | refine vE_ft ?_ | refine vE_u ?_ | refine vP_to (by simp (disch := omega) only [gdW_true, gdW_false, gB_true, gB_false, gB_undef, pickV_true, pickV_false, Bool.not_true, Bool.not_false, Option.map_some, bin_add, bin_sub, bin_mul, bin_quo, bin_rem, lss_t, lss_f, leq_t, leq_f, gtr_t, gtr_f, geq_t, geq_f, eqi_t, eqi_f, nei_t, nei_f, rem_uw, conv_ui, conv_iu, conv_ii, not_bool, nil_ptr, fa_mk, ptrV, len_mk, cap_mk, eq_ptr_nil, ne_ptr_nil, eq_nil_nil, ne_nil_nil, eq_slice_nil, eq_nil_slice, ia_1]; exact so_so) ?_)
  refine cmp [256] 1 (p2 l hl) rfl (by simp) hh15 fun hh16 => ?_
  repeat (with_reducible first | refine vP_so ?_ | refine vB_t ?_ | refine vB_f ?_ | refine vE_tt ?_ | refine vE_ff ?_ | refine vE_tf ?_ | refine vE_ft ?_ | refine vE_u ?_ | refine vP_to (by simp (disch := omega) only [gdW_true, gdW_false, gB_true, gB_false, gB_undef, pickV_true, pickV_false, Bool.not_true, Bool.not_false, Option.map_some, bin_add, bin_sub, bin_mul, bin_quo, bin_rem, lss_t, lss_f, leq_t, leq_f, gtr_t, gtr_f, geq_t, geq_f, eqi_t, eqi_f, nei_t, nei_f, rem_uw, conv_ui, conv_iu, conv_ii, not_bool, nil_ptr, fa_mk, ptrV, len_mk, cap_mk, eq_ptr_nil, ne_ptr_nil, eq_nil_nil, ne_nil_nil, eq_slice_nil, eq_nil_slice, ia_1, lv0 hh16]; exact so_so) ?_)
  refine use_vfind hv hh16 fun h17 hh17 => ?_
  rw [p5]
  repeat (with_reducible first | refine vP_so ?_ | refine vB_t ?_ | refine vB_f ?_ | refine vE_tt ?_ | refine vE_ff ?_ | refine vE_tf ?_ | refine vE_ft ?_ | refine vE_u ?_ | refine vP_to (by simp (disch := omega) only [gdW_true, gdW_false, gB_true, gB_false, gB_undef, pickV_true, pickV_false, Bool.not_true, Bool.not_false, Option.map_some, bin_add, bin_sub, bin_mul, bin_quo, bin_rem, lss_t, lss_f, leq_t, leq_f, gtr_t, gtr_f, geq_t, geq_f, eqi_t, eqi_f, nei_t, nei_f, rem_uw, conv_ui, conv_iu, conv_ii, not_bool, nil_ptr, fa_mk, ptrV, len_mk, cap_mk, eq_ptr_nil, ne_ptr_nil, eq_nil_nil, ne_nil_nil, eq_slice_nil, eq_nil_slice, ia_1, lv0 hh17]; exact so_so) ?_)
  refine use_words hv p7 hh17 fun h18 hh18 => ?_
  rw [p6]
  repeat (with_reducible first | refine vP_so ?_ | refine vB_t ?_ | refine vB_f ?_ | refine vE_tt ?_ | refine vE_ff ?_ | refine vE_tf ?_ | refine vE_ft ?_ | refine vE_u ?_ | refine vP_to (by simp (disch := omega) only [gdW_true, gdW_false, gB_true, gB_false, gB_undef, pickV_true, pickV_false, Bool.not_true, Bool.not_false, Option.map_some, bin_add, bin_sub, bin_mul, bin_quo, bin_rem, lss_t, lss_f, leq_t, leq_f, gtr_t, gtr_f, geq_t, geq_f, eqi_t, eqi_f, nei_t, nei_f, rem_uw, conv_ui, conv_iu, conv_ii, not_bool, nil_ptr, fa_mk, ptrV, len_mk, cap_mk, eq_ptr_nil, ne_ptr_nil, eq_nil_nil, ne_nil_nil, eq_slice_nil, eq_nil_slice, ia_1, lv0 hh18]; exact so_so) ?_)
  refine use_path hv hN hh18 fun v39 l h19 hl _ hh19 => ?_
  repeat (with_reducible first | refine vP_so ?_ | refine vB_t ?_ | refine vB_f ?_ | refine vE_tt ?_ | refine vE_ff ?_ | refine vE_tf ?_ | refine vE_ft ?_ | refine vE_u ?_ | refine vP_to (by simp (disch := omega) only [gdW_true, gdW_false, gB_true, gB_false, gB_undef, pickV_true, pickV_false, Bool.not_true, Bool.not_false, Option.map_some, bin_add, bin_sub, bin_mul, bin_quo, bin_rem, lss_t, lss_f, leq_t, leq_f, gtr_t, gtr_f, geq_t, geq_f, eqi_t, eqi_f, nei_t, nei_f, rem_uw, conv_ui, conv_iu, conv_ii, not_bool, nil_ptr, fa_mk, ptrV, len_mk, cap_mk, eq_ptr_nil, ne_ptr_nil, eq_nil_nil, ne_nil_nil, eq_slice_nil, eq_nil_slice, ia_1]; exact so_so) ?_)
  try rw [b2]
  refine vA_new (f := fun r => .slice (some ⟨r, 0, none⟩) 2 2) hh19 fun r40 h20 hh20 => ?_
  repeat (with_reducible first | refine vP_so ?_ | refine vB_t ?_ | refine vB_f ?_ | refine vE_tt ?_ | refine vE_ff ?_ | refine vE_tf ?_ | refine vE_ft ?_ | refine vE_u ?_ | refine vP_to (by simp (disch := omega) only [gdW_true, gdW_false, gB_true, gB_false, gB_undef, pickV_true, pickV_false, Bool.not_true, Bool.not_false, Option.map_some, bin_add, bin_sub, bin_mul, bin_quo, bin_rem, lss_t, lss_f, leq_t, leq_f, gtr_t, gtr_f, geq_t, geq_f, eqi_t, eqi_f, nei_t, nei_f, rem_uw, conv_ui, conv_iu, conv_ii, not_bool, nil_ptr, fa_mk, ptrV, len_mk, cap_mk, eq_ptr_nil, ne_ptr_nil, eq_nil_nil, ne_nil_nil, eq_slice_nil, eq_nil_slice, ia_1]; exact so_so) ?_)
  refine cmp [64, 128] 2 (p4 l hl) rfl (by simp) hh20 fun hh21 => ?_
  repeat (with_reducible first | refine vP_so ?_ | refine vB_t ?_ | refine vB_f ?_ | refine vE_tt ?_ | refine vE_ff ?_ | refine vE_tf ?_ | refine vE_ft ?_ | refine vE_u ?_ | refine vP_to (by simp (disch := omega) only [gdW_true, gdW_false, gB_true, gB_false, gB_undef, pickV_true, pickV_false, Bool.not_true, Bool.not_false, Option.map_some, bin_add, bin_sub, bin_mul, bin_quo, bin_rem, lss_t, lss_f, leq_t, leq_f, gtr_t, gtr_f, geq_t, geq_f, eqi_t, eqi_f, nei_t, nei_f, rem_uw, conv_ui, conv_iu, conv_ii, not_bool, nil_ptr, fa_mk, ptrV, len_mk, cap_mk, eq_ptr_nil, ne_ptr_nil, eq_nil_nil, ne_nil_nil, eq_slice_nil, eq_nil_slice, ia_1]; exact so_so) ?_)
  exact hK _ (dropL (P := own g * pt r1 (.cells w.cells 26 (0, 0))) (Q := F) (asr (by ac_rfl) hh21))

end Go.Proofs

/-
  Contracts of treadmillref29: Reach.
-/
set_option maxRecDepth 100000
set_option maxHeartbeats 1000000
namespace Go.Proofs
open Go.Sl

theorem use_rreach {g : Hp} {w : VW} {F : Asrt} {K : Value → Hp → Prop} {h : Hp} (hv : VAt g w) (hs : Small w) (hh : (own g * (F * tt)) h)
    (hK : ∀ v l h', ReachL w l → l.length ≤ 1000000 → (SG iE 3 v l * (own g * (F * tt))) h' → K v h') : CallH Try.prog 35 #[w.val] K h := by
  refine C35 ?_
  unfold D35
  have hol := hv.objs_len
  have hsO := hs.objs
  refine vA_new (o := .cells w.cells 26 (0, 0)) hh fun r1 h1 hh1 => ?_
  have l9 := (vw_ld (r := r1) (w := w) (E := 26) hh1).2.2.2.2.2.2.2.2.2
  repeat (with_reducible first | refine vP_so ?_ | refine vB_t ?_ | refine vB_f ?_ | refine vE_tt ?_ | refine vE_ff ?_ | refine vE_tf ?_ | refine vE_ft ?_ | refine vE_u ?_ | refine vP_to (by simp (disch := omega) only [gdW_true, gdW_false, gB_true, gB_false, gB_undef, pickV_true, pickV_false, Bool.not_true, Bool.not_false, Option.map_some, bin_add, bin_sub, bin_mul, bin_quo, bin_rem, lss_t, lss_f, leq_t, leq_f, gtr_t, gtr_f, geq_t, geq_f, eqi_t, eqi_f, nei_t, nei_f, rem_uw, conv_ui, conv_iu, conv_ii, not_bool, nil_ptr, fa_mk, ptrV, len_mk, cap_mk, eq_ptr_nil, ne_ptr_nil, eq_nil_nil, ne_nil_nil, eq_slice_nil, eq_nil_slice, ia_1, l9]; exact so_so) ?_)
  refine use_rwalk (F := pt r1 (.cells w.cells 26 (0, 0)) * F) hv hs.all hs.objs (asr (by ac_rfl) hh1) fun v10 v11 l lost h2 a1 a2 a3 a4 a5 hh2 => ?_
  have hh2 : (SG iE 3 v10 (natL l) * (pt r1 (.cells w.cells 26 (0, 0)) * (own g * (F * tt)))) h2 := dropL (P := SG iE 3 v11 lost) (Q := SG iE 3 v10 (natL l) * (pt r1 (.cells w.cells 26 (0, 0)) * (own g * F))) (asr (by ac_rfl) hh2) |> asr (by ac_rfl)
  have lo : ∀ {h} {G : Asrt}, (G * (pt r1 (.cells w.cells 26 (0, 0)) * (own g * (F * tt)))) h → ld1 (.pointer (some ⟨r1, 0 + 5, none⟩)) h = some w.ov := fun {h G} q =>
    (vw_ld (r := r1) (w := w) (E := 26) (F := G * (own g * (F * tt))) (asr (by ac_rfl) q)).2.2.2.2.2.1
  have lo2 := lo hh2
  have hin : ∀ n, n ∈ l → n < w.objs.length := fun n hn => by
    obtain ⟨x, _, hat⟩ := (a2 n).1 hn
    obtain ⟨o, ho, _⟩ := at_some hat
    exact (List.getElem?_eq_some_iff.1 ho).1
  repeat (with_reducible first | refine vP_so ?_ | refine vB_t ?_ | refine vB_f ?_ | refine vE_tt ?_ | refine vE_ff ?_ | refine vE_tf ?_ | refine vE_ft ?_ | refine vE_u ?_ | refine vP_to (by simp (disch := omega) only [gdW_true, gdW_false, gB_true, gB_false, gB_undef, pickV_true, pickV_false, Bool.not_true, Bool.not_false, Option.map_some, bin_add, bin_sub, bin_mul, bin_quo, bin_rem, lss_t, lss_f, leq_t, leq_f, gtr_t, gtr_f, geq_t, geq_f, eqi_t, eqi_f, nei_t, nei_f, rem_uw, conv_ui, conv_iu, conv_ii, not_bool, nil_ptr, fa_mk, ptrV, len_mk, cap_mk, eq_ptr_nil, ne_ptr_nil, eq_nil_nil, ne_nil_nil, eq_slice_nil, eq_nil_slice, ia_1, tx0, tx1, lo2, hol.1]; exact so_so) ?_)
  refine ms_SG bE (E := 4) (z := false) (n := w.objs.length) hh2 rfl rfl (by omega) (by omega) fun v17 h3 hh3 => ?_
  refine ⟨fun m zs h' => ∃ (i : Nat) (hb : List Bool), zs = [.int .i64 i] ∧ m = l.length - i ∧ i ≤ l.length ∧ hb.length = w.objs.length ∧ (∀ n, hb[n]? = some true ↔ n ∈ l.take i) ∧
      (SG bE 4 v17 hb * (SG iE 3 v10 (natL l) * (pt r1 (.cells w.cells 26 (0, 0)) * (own g * (F * tt))))) h',
    ⟨_, 0, _, rfl, rfl, by omega, by simp, fun n => by simp [List.getElem?_replicate], hh3⟩, ?_⟩
  clear hh3 hh2 lo2 hh1 l9 hh
  rintro m v6 h4 ⟨i, hb, hzs, rfl, hi, hbl, hbm, hh4⟩ _
  obtain rfl : v6 = .int .i64 i := by simpa using hzs
  have hS : (SG iE 3 v10 (natL l) * (SG bE 4 v17 hb * (pt r1 (.cells w.cells 26 (0, 0)) * (own g * (F * tt))))) h4 := asr (by ac_rfl) hh4
  have hlen := SG_len iE hS
  rw [show (natL l).length = l.length by simp [natL]] at hlen
  by_cases hil : i < l.length
  · have hkg : l[i]? = some l[i] := List.getElem?_eq_getElem hil
    have hnl := hin l[i] (List.getElem_mem hil)
    have htk := List.take_succ_eq_append_getElem hil
    generalize l[i] = n at *
    obtain ⟨p7, c1, c2, _⟩ := el1 (i := i) (a := (n : Int)) hS (by simp [natL, hkg]) .i64
    obtain ⟨p8, d1, _, d3⟩ := el1 (i := n) hh4 (List.getElem?_eq_getElem (show n < hb.length by omega)) .i64
    repeat (with_reducible first | refine vP_so ?_ | refine vB_t ?_ | refine vB_f ?_ | refine vE_tt ?_ | refine vE_ff ?_ | refine vE_tf ?_ | refine vE_ft ?_ | refine vE_u ?_ | refine vP_to (by simp (disch := omega) only [gdW_true, gdW_false, gB_true, gB_false, gB_undef, pickV_true, pickV_false, Bool.not_true, Bool.not_false, Option.map_some, bin_add, bin_sub, bin_mul, bin_quo, bin_rem, lss_t, lss_f, leq_t, leq_f, gtr_t, gtr_f, geq_t, geq_f, eqi_t, eqi_f, nei_t, nei_f, rem_uw, conv_ui, conv_iu, conv_ii, not_bool, nil_ptr, fa_mk, ptrV, len_mk, cap_mk, eq_ptr_nil, ne_ptr_nil, eq_nil_nil, ne_nil_nil, eq_slice_nil, eq_nil_slice, ia_1, hlen, c1, c2, d1]; exact so_so) ?_)
    refine d3 true _ fun h5 hh5 => ?_
    repeat (with_reducible first | refine vP_so ?_ | refine vB_t ?_ | refine vB_f ?_ | refine vE_tt ?_ | refine vE_ff ?_ | refine vE_tf ?_ | refine vE_ft ?_ | refine vE_u ?_ | refine vP_to (by simp (disch := omega) only [gdW_true, gdW_false, gB_true, gB_false, gB_undef, pickV_true, pickV_false, Bool.not_true, Bool.not_false, Option.map_some, bin_add, bin_sub, bin_mul, bin_quo, bin_rem, lss_t, lss_f, leq_t, leq_f, gtr_t, gtr_f, geq_t, geq_f, eqi_t, eqi_f, nei_t, nei_f, rem_uw, conv_ui, conv_iu, conv_ii, not_bool, nil_ptr, fa_mk, ptrV, len_mk, cap_mk, eq_ptr_nil, ne_ptr_nil, eq_nil_nil, ne_nil_nil, eq_slice_nil, eq_nil_slice, ia_1]; exact so_so) ?_)
    refine ⟨l.length - (i + 1), by omega, i + 1, hb.set n true, by simp, rfl, by omega, by rw [List.length_set]; exact hbl, fun q => ?_, hh5⟩
    rw [htk, List.mem_append, List.mem_singleton]
    by_cases hq : n = q
    · subst hq
      rw [List.getElem?_set_self (by omega)]
      simp
    · rw [List.getElem?_set_ne hq, hbm]
      exact ⟨.inl, fun h => h.resolve_right fun e => hq e.symm⟩
  obtain rfl : i = l.length := by omega
  rw [List.take_length] at hbm
  repeat (with_reducible first | refine vP_so ?_ | refine vB_t ?_ | refine vB_f ?_ | refine vE_tt ?_ | refine vE_ff ?_ | refine vE_tf ?_ | refine vE_ft ?_ | refine vE_u ?_ | refine vP_to (by simp (disch := omega) only [gdW_true, gdW_false, gB_true, gB_false, gB_undef, pickV_true, pickV_false, Bool.not_true, Bool.not_false, Option.map_some, bin_add, bin_sub, bin_mul, bin_quo, bin_rem, lss_t, lss_f, leq_t, leq_f, gtr_t, gtr_f, geq_t, geq_f, eqi_t, eqi_f, nei_t, nei_f, rem_uw, conv_ui, conv_iu, conv_ii, not_bool, nil_ptr, fa_mk, ptrV, len_mk, cap_mk, eq_ptr_nil, ne_ptr_nil, eq_nil_nil, ne_nil_nil, eq_slice_nil, eq_nil_slice, ia_1, hlen]; exact so_so) ?_)
  refine ⟨fun m zs h' => ∃ (i : Nat) (v5 : Value) (out : List Int), zs = [.int .i64 i, v5] ∧ m = w.objs.length - i ∧ i ≤ w.objs.length ∧ Rise out ∧ out.length ≤ i ∧ (∀ x, x ∈ out ↔ ∃ n o, n < i ∧ n ∈ l ∧ w.objs[n]? = some o ∧ o.addr = x) ∧
      (SG iE 3 v5 out * (SG bE 4 v17 hb * (SG iE 3 v10 (natL l) * (pt r1 (.cells w.cells 26 (0, 0)) * (own g * (F * tt)))))) h',
    ⟨_, 0, .slice none 0 0, [], rfl, rfl, by omega, by simp [Rise], by simp, by simp, SG_nil iE hh4⟩, ?_⟩
  clear hh4 hS hi hzs hlen
  rintro m v8 v7 h6 ⟨i, v7', out, hzs, rfl, hi, hri, hol2, hmem, hh6⟩ _
  obtain ⟨rfl, rfl⟩ : v8 = .int .i64 i ∧ v7 = v7' := by simpa using hzs
  have hB : (SG bE 4 v17 hb * (SG iE 3 v7 out * (SG iE 3 v10 (natL l) * (pt r1 (.cells w.cells 26 (0, 0)) * (own g * (F * tt)))))) h6 := asr (by ac_rfl) hh6
  have hlenB := SG_len bE hB
  rw [hbl] at hlenB
  by_cases hil : i < w.objs.length
  · have hoi : w.objs[i]? = some w.objs[i] := List.getElem?_eq_getElem hil
    have hbi := hbm i
    obtain ⟨p8, d1, d2, _⟩ := el1 (i := i) hB (List.getElem?_eq_getElem (show i < hb.length by omega)) .i64
    rw [List.getElem?_eq_getElem (show i < hb.length by omega)] at hbi
    generalize hb[i]'(by omega) = b at *
    generalize w.objs[i] = o at *
    have l5 := lo (G := SG iE 3 v7 out * (SG bE 4 v17 hb * SG iE 3 v10 (natL l))) (asr (by ac_rfl) hh6)
    have hw := own_vat (F := SG iE 3 v7 out * (SG bE 4 v17 hb * (SG iE 3 v10 (natL l) * (pt r1 (.cells w.cells 26 (0, 0)) * (F * tt))))) (asr (by ac_rfl) hh6) hv
    obtain ⟨bb, q, e1, e2, _, _, _⟩ := hw.obj hoi .i64
    repeat (with_reducible first | refine vP_so ?_ | refine vB_t ?_ | refine vB_f ?_ | refine vE_tt ?_ | refine vE_ff ?_ | refine vE_tf ?_ | refine vE_ft ?_ | refine vE_u ?_ | refine vP_to (by simp (disch := omega) only [gdW_true, gdW_false, gB_true, gB_false, gB_undef, pickV_true, pickV_false, Bool.not_true, Bool.not_false, Option.map_some, bin_add, bin_sub, bin_mul, bin_quo, bin_rem, lss_t, lss_f, leq_t, leq_f, gtr_t, gtr_f, geq_t, geq_f, eqi_t, eqi_f, nei_t, nei_f, rem_uw, conv_ui, conv_iu, conv_ii, not_bool, nil_ptr, fa_mk, ptrV, len_mk, cap_mk, eq_ptr_nil, ne_ptr_nil, eq_nil_nil, ne_nil_nil, eq_slice_nil, eq_nil_slice, ia_1, hlenB]; exact so_so) ?_)
    intro J3 hJ3
    have hJ : ∀ v' out' h', Rise out' → out'.length ≤ i + 1 → (∀ x, x ∈ out' ↔ x ∈ out ∨ (i ∈ l ∧ o.addr = x)) → (SG iE 3 v' out' * (SG bE 4 v17 hb * (SG iE 3 v10 (natL l) * (pt r1 (.cells w.cells 26 (0, 0)) * (own g * (F * tt)))))) h' → J3 [v'] h' := fun v' out' h' b1 b2 b3 b4 => by
      refine hJ3 _ _ fun _ => ?_
      repeat (with_reducible first | refine vP_so ?_ | refine vB_t ?_ | refine vB_f ?_ | refine vE_tt ?_ | refine vE_ff ?_ | refine vE_tf ?_ | refine vE_ft ?_ | refine vE_u ?_ | refine vP_to (by simp (disch := omega) only [gdW_true, gdW_false, gB_true, gB_false, gB_undef, pickV_true, pickV_false, Bool.not_true, Bool.not_false, Option.map_some, bin_add, bin_sub, bin_mul, bin_quo, bin_rem, lss_t, lss_f, leq_t, leq_f, gtr_t, gtr_f, geq_t, geq_f, eqi_t, eqi_f, nei_t, nei_f, rem_uw, conv_ui, conv_iu, conv_ii, not_bool, nil_ptr, fa_mk, ptrV, len_mk, cap_mk, eq_ptr_nil, ne_ptr_nil, eq_nil_nil, ne_nil_nil, eq_slice_nil, eq_nil_slice, ia_1]; exact so_so) ?_)
      refine ⟨w.objs.length - (i + 1), by omega, i + 1, v', out', rfl, rfl, by omega, b1, b2, fun x => ?_, b4⟩
      rw [b3, hmem]
      constructor
      · rintro (⟨n, o', c1, c2, c3, c4⟩ | ⟨c2, c4⟩)
        · exact ⟨n, o', by omega, c2, c3, c4⟩
        · exact ⟨i, o, by omega, c2, hoi, c4⟩
      · rintro ⟨n, o', c1, c2, c3, c4⟩
        by_cases hn : n = i
        · subst hn
          obtain rfl : o = o' := Option.some.inj (hoi.symm.trans c3)
          exact .inr ⟨c2, c4⟩
        · exact .inl ⟨n, o', by omega, c2, c3, c4⟩
    cases b with
    | true =>
      have hil2 := hbi.1 rfl
      repeat (with_reducible first | refine vP_so ?_ | refine vB_t ?_ | refine vB_f ?_ | refine vE_tt ?_ | refine vE_ff ?_ | refine vE_tf ?_ | refine vE_ft ?_ | refine vE_u ?_ | refine vP_to (by simp (disch := omega) only [gdW_true, gdW_false, gB_true, gB_false, gB_undef, pickV_true, pickV_false, Bool.not_true, Bool.not_false, Option.map_some, bin_add, bin_sub, bin_mul, bin_quo, bin_rem, lss_t, lss_f, leq_t, leq_f, gtr_t, gtr_f, geq_t, geq_f, eqi_t, eqi_f, nei_t, nei_f, rem_uw, conv_ui, conv_iu, conv_ii, not_bool, nil_ptr, fa_mk, ptrV, len_mk, cap_mk, eq_ptr_nil, ne_ptr_nil, eq_nil_nil, ne_nil_nil, eq_slice_nil, eq_nil_slice, ia_1, d1, d2, l5, e1, e2]; exact so_so) ?_)
      refine use_put (l := out) (F := SG bE 4 v17 hb * (SG iE 3 v10 (natL l) * (pt r1 (.cells w.cells 26 (0, 0)) * (own g * F)))) (by omega) hri (asr (by ac_rfl) hh6) fun v47 out' h8 b1 b2 b3 hh8 => ?_
      refine hJ v47 out' h8 b1 (by omega) (fun x => ?_) (asr (by ac_rfl) hh8)
      rw [b2]
      simp [hil2, eq_comm]
    | false =>
      have hil2 : ¬ i ∈ l := fun q => by have := hbi.2 q; cases this
      repeat (with_reducible first | refine vP_so ?_ | refine vB_t ?_ | refine vB_f ?_ | refine vE_tt ?_ | refine vE_ff ?_ | refine vE_tf ?_ | refine vE_ft ?_ | refine vE_u ?_ | refine vP_to (by simp (disch := omega) only [gdW_true, gdW_false, gB_true, gB_false, gB_undef, pickV_true, pickV_false, Bool.not_true, Bool.not_false, Option.map_some, bin_add, bin_sub, bin_mul, bin_quo, bin_rem, lss_t, lss_f, leq_t, leq_f, gtr_t, gtr_f, geq_t, geq_f, eqi_t, eqi_f, nei_t, nei_f, rem_uw, conv_ui, conv_iu, conv_ii, not_bool, nil_ptr, fa_mk, ptrV, len_mk, cap_mk, eq_ptr_nil, ne_ptr_nil, eq_nil_nil, ne_nil_nil, eq_slice_nil, eq_nil_slice, ia_1, d1, d2]; exact so_so) ?_)
      refine hJ v7 out h6 hri (by omega) (fun x => ?_) hh6
      simp [hil2]
  · obtain rfl : i = w.objs.length := by omega
    repeat (with_reducible first | refine vP_so ?_ | refine vB_t ?_ | refine vB_f ?_ | refine vE_tt ?_ | refine vE_ff ?_ | refine vE_tf ?_ | refine vE_ft ?_ | refine vE_u ?_ | refine vP_to (by simp (disch := omega) only [gdW_true, gdW_false, gB_true, gB_false, gB_undef, pickV_true, pickV_false, Bool.not_true, Bool.not_false, Option.map_some, bin_add, bin_sub, bin_mul, bin_quo, bin_rem, lss_t, lss_f, leq_t, leq_f, gtr_t, gtr_f, geq_t, geq_f, eqi_t, eqi_f, nei_t, nei_f, rem_uw, conv_ui, conv_iu, conv_ii, not_bool, nil_ptr, fa_mk, ptrV, len_mk, cap_mk, eq_ptr_nil, ne_ptr_nil, eq_nil_nil, ne_nil_nil, eq_slice_nil, eq_nil_slice, ia_1, hlenB]; exact so_so) ?_)
    refine hK v7 out h6 ⟨hri, fun x => ?_⟩ (by omega) (dropL (P := SG bE 4 v17 hb * (SG iE 3 v10 (natL l) * pt r1 (.cells w.cells 26 (0, 0)))) (Q := SG iE 3 v7 out * (own g * F)) (asr (by ac_rfl) hh6) |> asr (by ac_rfl))
    rw [hmem]
    constructor
    · rintro ⟨n, o, _, c2, c3, rfl⟩
      obtain ⟨x, hx, hat⟩ := (a2 n).1 c2
      obtain ⟨o', ho', hoa⟩ := at_some hat
      obtain rfl : o = o' := Option.some.inj (c3.symm.trans ho')
      rw [hoa]
      exact ⟨hx, by rw [hat]; rfl⟩
    · rintro ⟨hx, hat⟩
      cases hq : w.at x with
      | none => rw [hq] at hat; cases hat
      | some n =>
        obtain ⟨o, ho, hoa⟩ := at_some hq
        exact ⟨n, o, (List.getElem?_eq_some_iff.1 ho).1, (a2 n).2 ⟨x, hx, hq⟩, ho, hoa⟩

end Go.Proofs

/-
  Same, of view and of the document; ViewAsks.
-/
set_option maxRecDepth 100000
set_option maxHeartbeats 4000000
namespace Go.Proofs
open Go.Sl

def okey (o : Ob) : Int × Bool × List Int := (o.addr, o.marked, o.slots)
def gkey (o : Gr) : Int × Int × List Int := (o.st, o.p, o.stack)

theorem use_equal {sv sw : Value} {xs ys : List Int} {K : Value → Hp → Prop} {h : Hp} (hx : IntsAt h sv xs) (hy : IntsAt h sw ys) (hK : K (.bool (decide (xs = ys))) h) : CallH Try.prog 63 #[sv, sw] K h := by
  refine C63 ?_
  unfold D63
  have h1 := hx.lt
  have h2 := hy.lt
  by_cases hl : xs.length = ys.length
  · repeat (with_reducible first | refine vP_so ?_ | refine vB_t ?_ | refine vB_f ?_ | refine vE_tt ?_ | refine vE_ff ?_ | refine vE_tf ?_ | refine vE_ft ?_ | refine vE_u ?_ | refine vP_to (by simp (disch := omega) only [gdW_true, gdW_false, gB_true, gB_false, gB_undef, pickV_true, pickV_false, Bool.not_true, Bool.not_false, Option.map_some, bin_add, bin_sub, bin_mul, bin_quo, bin_rem, lss_t, lss_f, leq_t, leq_f, gtr_t, gtr_f, geq_t, geq_f, eqi_t, eqi_f, nei_t, nei_f, rem_uw, conv_ui, conv_iu, conv_ii, not_bool, nil_ptr, fa_mk, ptrV, len_mk, cap_mk, eq_ptr_nil, ne_ptr_nil, eq_nil_nil, ne_nil_nil, eq_slice_nil, eq_nil_slice, ia_1, hx.len, hy.len]; exact so_so) ?_)
    refine ⟨fun m zs h' => ∃ i : Nat, zs = [.int .i64 i] ∧ m = xs.length - i ∧ i ≤ xs.length ∧ xs.take i = ys.take i ∧ h' = h, ⟨_, 0, rfl, rfl, by omega, by simp, rfl⟩, ?_⟩
    rintro m v5 h3 ⟨i, hzs, rfl, hi, ht, rfl⟩ _
    obtain rfl : v5 = .int .i64 i := by simpa using hzs
    by_cases hil : i < xs.length
    · obtain ⟨p, f1, f2⟩ := hx.get i xs[i] .i64 (List.getElem?_eq_getElem hil)
      obtain ⟨q, g1, g2⟩ := hy.get i ys[i] .i64 (List.getElem?_eq_getElem (by omega))
      have h4 : xs.take (i + 1) = ys.take (i + 1) ↔ xs[i] = ys[i] := by
        have e1 := List.take_succ_eq_append_getElem hil
        have e2 := List.take_succ_eq_append_getElem (show i < ys.length by omega)
        rw [e1, e2, ht]
        exact ⟨fun q => by simpa using List.append_cancel_left q, fun q => by rw [q]⟩
      have h5 : xs[i] ≠ ys[i] → xs ≠ ys := fun q e => by subst e; exact q rfl
      generalize xs[i] = x at *
      generalize ys[i] = y at *
      by_cases hxy : x = y
      · repeat (with_reducible first | refine vP_so ?_ | refine vB_t ?_ | refine vB_f ?_ | refine vE_tt ?_ | refine vE_ff ?_ | refine vE_tf ?_ | refine vE_ft ?_ | refine vE_u ?_ | refine vP_to (by simp (disch := omega) only [gdW_true, gdW_false, gB_true, gB_false, gB_undef, pickV_true, pickV_false, Bool.not_true, Bool.not_false, Option.map_some, bin_add, bin_sub, bin_mul, bin_quo, bin_rem, lss_t, lss_f, leq_t, leq_f, gtr_t, gtr_f, geq_t, geq_f, eqi_t, eqi_f, nei_t, nei_f, rem_uw, conv_ui, conv_iu, conv_ii, not_bool, nil_ptr, fa_mk, ptrV, len_mk, cap_mk, eq_ptr_nil, ne_ptr_nil, eq_nil_nil, ne_nil_nil, eq_slice_nil, eq_nil_slice, ia_1, hx.len, hy.len, f1, f2, g1, g2]; exact so_so) ?_)
        exact ⟨xs.length - (i + 1), by omega, i + 1, by simp, rfl, by omega, h4.2 hxy, rfl⟩
      · repeat (with_reducible first | refine vP_so ?_ | refine vB_t ?_ | refine vB_f ?_ | refine vE_tt ?_ | refine vE_ff ?_ | refine vE_tf ?_ | refine vE_ft ?_ | refine vE_u ?_ | refine vP_to (by simp (disch := omega) only [gdW_true, gdW_false, gB_true, gB_false, gB_undef, pickV_true, pickV_false, Bool.not_true, Bool.not_false, Option.map_some, bin_add, bin_sub, bin_mul, bin_quo, bin_rem, lss_t, lss_f, leq_t, leq_f, gtr_t, gtr_f, geq_t, geq_f, eqi_t, eqi_f, nei_t, nei_f, rem_uw, conv_ui, conv_iu, conv_ii, not_bool, nil_ptr, fa_mk, ptrV, len_mk, cap_mk, eq_ptr_nil, ne_ptr_nil, eq_nil_nil, ne_nil_nil, eq_slice_nil, eq_nil_slice, ia_1, hx.len, hy.len, f1, f2, g1, g2]; exact so_so) ?_)
        rw [decide_eq_false (h5 hxy)] at hK
        exact hK
    · repeat (with_reducible first | refine vP_so ?_ | refine vB_t ?_ | refine vB_f ?_ | refine vE_tt ?_ | refine vE_ff ?_ | refine vE_tf ?_ | refine vE_ft ?_ | refine vE_u ?_ | refine vP_to (by simp (disch := omega) only [gdW_true, gdW_false, gB_true, gB_false, gB_undef, pickV_true, pickV_false, Bool.not_true, Bool.not_false, Option.map_some, bin_add, bin_sub, bin_mul, bin_quo, bin_rem, lss_t, lss_f, leq_t, leq_f, gtr_t, gtr_f, geq_t, geq_f, eqi_t, eqi_f, nei_t, nei_f, rem_uw, conv_ui, conv_iu, conv_ii, not_bool, nil_ptr, fa_mk, ptrV, len_mk, cap_mk, eq_ptr_nil, ne_ptr_nil, eq_nil_nil, ne_nil_nil, eq_slice_nil, eq_nil_slice, ia_1, hx.len, hy.len]; exact so_so) ?_)
      obtain rfl : i = xs.length := by omega
      rw [List.take_length, hl, List.take_length] at ht
      rw [decide_eq_true ht] at hK
      exact hK
  · repeat (with_reducible first | refine vP_so ?_ | refine vB_t ?_ | refine vB_f ?_ | refine vE_tt ?_ | refine vE_ff ?_ | refine vE_tf ?_ | refine vE_ft ?_ | refine vE_u ?_ | refine vP_to (by simp (disch := omega) only [gdW_true, gdW_false, gB_true, gB_false, gB_undef, pickV_true, pickV_false, Bool.not_true, Bool.not_false, Option.map_some, bin_add, bin_sub, bin_mul, bin_quo, bin_rem, lss_t, lss_f, leq_t, leq_f, gtr_t, gtr_f, geq_t, geq_f, eqi_t, eqi_f, nei_t, nei_f, rem_uw, conv_ui, conv_iu, conv_ii, not_bool, nil_ptr, fa_mk, ptrV, len_mk, cap_mk, eq_ptr_nil, ne_ptr_nil, eq_nil_nil, ne_nil_nil, eq_slice_nil, eq_nil_slice, ia_1, hx.len, hy.len]; exact so_so) ?_)
    rw [decide_eq_false (fun e => hl (by rw [e]))] at hK
    exact hK

theorem use_rwords {g : Hp} {w : VW} {F : Asrt} {K : Value → Hp → Prop} {h : Hp} (hv : VAt g w) (hO : w.objs.length ≤ 1000000) (hh : (own g * (F * tt)) h)
    (hK : ∀ h', (own g * (F * tt)) h' → K (.int .i64 (sumO w.objs)) h') : CallH Try.prog 38 #[w.val] K h := by
  refine C38 ?_
  unfold D38
  have hol := hv.objs_len
  refine vA_new (o := .cells w.cells 26 (0, 0)) hh fun r1 h1 hh1 => ?_
  refine ⟨fun m zs h' => ∃ i : Nat, zs = [.int .i64 i, .int .i64 (sumO (w.objs.take i))] ∧ m = w.objs.length - i ∧ i ≤ w.objs.length ∧ (pt r1 (.cells w.cells 26 (0, 0)) * (own g * (F * tt))) h', ⟨_, 0, by simp [sumO], rfl, by omega, hh1⟩, ?_⟩
  clear hh1
  rintro m v4 v3 h2 ⟨i, hzs, rfl, hi, hh2⟩ _
  obtain ⟨rfl, rfl⟩ : v4 = .int .i64 i ∧ v3 = .int .i64 (sumO (w.objs.take i)) := by simpa using hzs
  have lo := (vw_ld (r := r1) (w := w) (E := 26) hh2).2.2.2.2.2.1
  by_cases hil : i < w.objs.length
  · have hw := own_vat (F := pt r1 (.cells w.cells 26 (0, 0)) * (F * tt)) (asr (by ac_rfl) hh2) hv
    have hoi : w.objs[i]? = some w.objs[i] := List.getElem?_eq_getElem hil
    obtain ⟨b, q, e1, _, _, _, e5⟩ := hw.obj hoi .i64
    have htk := List.take_succ_eq_append_getElem hil
    have hsl := hv.slots w.objs[i] (List.getElem_mem hil)
    have hsu := sumO_le (w.objs.take i)
    rw [List.length_take] at hsu
    generalize w.objs[i] = o at *
    have hso := szO_le o
    repeat (with_reducible first | refine vP_so ?_ | refine vB_t ?_ | refine vB_f ?_ | refine vE_tt ?_ | refine vE_ff ?_ | refine vE_tf ?_ | refine vE_ft ?_ | refine vE_u ?_ | refine vP_to (by simp (disch := omega) only [gdW_true, gdW_false, gB_true, gB_false, gB_undef, pickV_true, pickV_false, Bool.not_true, Bool.not_false, Option.map_some, bin_add, bin_sub, bin_mul, bin_quo, bin_rem, lss_t, lss_f, leq_t, leq_f, gtr_t, gtr_f, geq_t, geq_f, eqi_t, eqi_f, nei_t, nei_f, rem_uw, conv_ui, conv_iu, conv_ii, not_bool, nil_ptr, fa_mk, ptrV, len_mk, cap_mk, eq_ptr_nil, ne_ptr_nil, eq_nil_nil, ne_nil_nil, eq_slice_nil, eq_nil_slice, ia_1, lo, hol.1, e1, e5]; exact so_so) ?_)
    refine use_rsizeO (g := g) (F := pt r1 (.cells w.cells 26 (0, 0)) * (own g * F)) hsl (asr (by ac_rfl) hh2) fun h3 hh3 => ?_
    repeat (with_reducible first | refine vP_so ?_ | refine vB_t ?_ | refine vB_f ?_ | refine vE_tt ?_ | refine vE_ff ?_ | refine vE_tf ?_ | refine vE_ft ?_ | refine vE_u ?_ | refine vP_to (by simp (disch := omega) only [gdW_true, gdW_false, gB_true, gB_false, gB_undef, pickV_true, pickV_false, Bool.not_true, Bool.not_false, Option.map_some, bin_add, bin_sub, bin_mul, bin_quo, bin_rem, lss_t, lss_f, leq_t, leq_f, gtr_t, gtr_f, geq_t, geq_f, eqi_t, eqi_f, nei_t, nei_f, rem_uw, conv_ui, conv_iu, conv_ii, not_bool, nil_ptr, fa_mk, ptrV, len_mk, cap_mk, eq_ptr_nil, ne_ptr_nil, eq_nil_nil, ne_nil_nil, eq_slice_nil, eq_nil_slice, ia_1]; exact so_so) ?_)
    refine ⟨w.objs.length - (i + 1), by omega, i + 1, ?_, rfl, by omega, asr (by ac_rfl) hh3⟩
    rw [htk, sumO_app]
    simp [sumO]
  · obtain rfl : i = w.objs.length := by omega
    rw [List.take_length]
    repeat (with_reducible first | refine vP_so ?_ | refine vB_t ?_ | refine vB_f ?_ | refine vE_tt ?_ | refine vE_ff ?_ | refine vE_tf ?_ | refine vE_ft ?_ | refine vE_u ?_ | refine vP_to (by simp (disch := omega) only [gdW_true, gdW_false, gB_true, gB_false, gB_undef, pickV_true, pickV_false, Bool.not_true, Bool.not_false, Option.map_some, bin_add, bin_sub, bin_mul, bin_quo, bin_rem, lss_t, lss_f, leq_t, leq_f, gtr_t, gtr_f, geq_t, geq_f, eqi_t, eqi_f, nei_t, nei_f, rem_uw, conv_ui, conv_iu, conv_ii, not_bool, nil_ptr, fa_mk, ptrV, len_mk, cap_mk, eq_ptr_nil, ne_ptr_nil, eq_nil_nil, ne_nil_nil, eq_slice_nil, eq_nil_slice, ia_1, lo, hol.1]; exact so_so) ?_)
    exact hK h2 (dropL (P := pt r1 (.cells w.cells 26 (0, 0))) (Q := own g * F) (asr (by ac_rfl) hh2) |> asr (by ac_rfl))

/-! ### The program's Same -/

theorem use_sameO {g : Hp} {a b : Ob} {F : Asrt} {K : Value → Hp → Prop} {h : Hp} (ha : IntsAt g a.sv a.slots) (hb : IntsAt g b.sv b.slots) (hh : (own g * (F * tt)) h)
    (hK : ∀ h', (own g * (F * tt)) h' → K (.bool (decide (okey a = okey b))) h') : CallH Try.prog 62 #[.agg #[.int .i64 a.addr, a.sv, .bool a.marked], .agg #[.int .i64 b.addr, b.sv, .bool b.marked]] K h := by
  refine C62 ?_
  unfold D62
  refine vA_new (o := .cells #[.int .i64 a.addr, a.sv, .bool a.marked] 30 (0, 0)) hh fun r1 h1 hh1 => ?_
  refine vA_new (o := .cells #[.int .i64 b.addr, b.sv, .bool b.marked] 30 (0, 0)) hh1 fun r2 h2 hh2 => ?_
  have hh3 : (pt r1 (.cells #[.int .i64 a.addr, a.sv, .bool a.marked] 30 (0, 0)) * (pt r2 (.cells #[.int .i64 b.addr, b.sv, .bool b.marked] 30 (0, 0)) * (own g * (F * tt)))) h2 := asr (by ac_rfl) hh2
  have hd : (own g * (F * tt)) h2 := dropL (P := pt r1 (.cells #[.int .i64 a.addr, a.sv, .bool a.marked] 30 (0, 0)) * pt r2 (.cells #[.int .i64 b.addr, b.sv, .bool b.marked] 30 (0, 0))) (Q := own g * F) (asr (by ac_rfl) hh3) |> asr (by ac_rfl)
  have hK := hK h2 hd
  have b2 := pt_get hh2
  have b1 := pt_get hh3
  have a0 : ld1 (.pointer (some ⟨r1, 0 + 0, none⟩)) h2 = some (.int .i64 a.addr) := ld1_mk b1 rfl
  have a1 : ld1 (.pointer (some ⟨r1, 0 + 1, none⟩)) h2 = some a.sv := ld1_mk b1 rfl
  have a2 : ld1 (.pointer (some ⟨r1, 0 + 2, none⟩)) h2 = some (.bool a.marked) := ld1_mk b1 rfl
  have c0 : ld1 (.pointer (some ⟨r2, 0 + 0, none⟩)) h2 = some (.int .i64 b.addr) := ld1_mk b2 rfl
  have c1 : ld1 (.pointer (some ⟨r2, 0 + 1, none⟩)) h2 = some b.sv := ld1_mk b2 rfl
  have c2 : ld1 (.pointer (some ⟨r2, 0 + 2, none⟩)) h2 = some (.bool b.marked) := ld1_mk b2 rfl
  by_cases e1 : a.addr = b.addr
  · by_cases e2 : a.marked = b.marked
    · have q : eqV 2 false (.bool a.marked) (.bool b.marked) = some (.bool true) := by rw [eq_bool, decide_eq_true e2]
      repeat (with_reducible first | refine vP_so ?_ | refine vB_t ?_ | refine vB_f ?_ | refine vE_tt ?_ | refine vE_ff ?_ | refine vE_tf ?_ | refine vE_ft ?_ | refine vE_u ?_ | refine vP_to (by simp (disch := omega) only [gdW_true, gdW_false, gB_true, gB_false, gB_undef, pickV_true, pickV_false, Bool.not_true, Bool.not_false, Option.map_some, bin_add, bin_sub, bin_mul, bin_quo, bin_rem, lss_t, lss_f, leq_t, leq_f, gtr_t, gtr_f, geq_t, geq_f, eqi_t, eqi_f, nei_t, nei_f, rem_uw, conv_ui, conv_iu, conv_ii, not_bool, nil_ptr, fa_mk, ptrV, len_mk, cap_mk, eq_ptr_nil, ne_ptr_nil, eq_nil_nil, ne_nil_nil, eq_slice_nil, eq_nil_slice, ia_1, a0, a1, a2, c0, c1, c2, q]; exact so_so) ?_)
      refine use_equal (own_ints hd ha) (own_ints hd hb) ?_
      have e : decide (okey a = okey b) = decide (a.slots = b.slots) := decide_eq_decide.2 (by simp [okey, e1, e2])
      rw [e] at hK
      repeat (with_reducible first | refine vP_so ?_ | refine vB_t ?_ | refine vB_f ?_ | refine vE_tt ?_ | refine vE_ff ?_ | refine vE_tf ?_ | refine vE_ft ?_ | refine vE_u ?_ | refine vP_to (by simp (disch := omega) only [gdW_true, gdW_false, gB_true, gB_false, gB_undef, pickV_true, pickV_false, Bool.not_true, Bool.not_false, Option.map_some, bin_add, bin_sub, bin_mul, bin_quo, bin_rem, lss_t, lss_f, leq_t, leq_f, gtr_t, gtr_f, geq_t, geq_f, eqi_t, eqi_f, nei_t, nei_f, rem_uw, conv_ui, conv_iu, conv_ii, not_bool, nil_ptr, fa_mk, ptrV, len_mk, cap_mk, eq_ptr_nil, ne_ptr_nil, eq_nil_nil, ne_nil_nil, eq_slice_nil, eq_nil_slice, ia_1]; exact so_so) ?_)
      exact hK
    · have q : eqV 2 false (.bool a.marked) (.bool b.marked) = some (.bool false) := by rw [eq_bool, decide_eq_false e2]
      repeat (with_reducible first | refine vP_so ?_ | refine vB_t ?_ | refine vB_f ?_ | refine vE_tt ?_ | refine vE_ff ?_ | refine vE_tf ?_ | refine vE_ft ?_ | refine vE_u ?_ | refine vP_to (by simp (disch := omega) only [gdW_true, gdW_false, gB_true, gB_false, gB_undef, pickV_true, pickV_false, Bool.not_true, Bool.not_false, Option.map_some, bin_add, bin_sub, bin_mul, bin_quo, bin_rem, lss_t, lss_f, leq_t, leq_f, gtr_t, gtr_f, geq_t, geq_f, eqi_t, eqi_f, nei_t, nei_f, rem_uw, conv_ui, conv_iu, conv_ii, not_bool, nil_ptr, fa_mk, ptrV, len_mk, cap_mk, eq_ptr_nil, ne_ptr_nil, eq_nil_nil, ne_nil_nil, eq_slice_nil, eq_nil_slice, ia_1, a0, a1, a2, c0, c1, c2, q]; exact so_so) ?_)
      rw [decide_eq_false (by simp [okey, e2])] at hK
      exact hK
  · repeat (with_reducible first | refine vP_so ?_ | refine vB_t ?_ | refine vB_f ?_ | refine vE_tt ?_ | refine vE_ff ?_ | refine vE_tf ?_ | refine vE_ft ?_ | refine vE_u ?_ | refine vP_to (by simp (disch := omega) only [gdW_true, gdW_false, gB_true, gB_false, gB_undef, pickV_true, pickV_false, Bool.not_true, Bool.not_false, Option.map_some, bin_add, bin_sub, bin_mul, bin_quo, bin_rem, lss_t, lss_f, leq_t, leq_f, gtr_t, gtr_f, geq_t, geq_f, eqi_t, eqi_f, nei_t, nei_f, rem_uw, conv_ui, conv_iu, conv_ii, not_bool, nil_ptr, fa_mk, ptrV, len_mk, cap_mk, eq_ptr_nil, ne_ptr_nil, eq_nil_nil, ne_nil_nil, eq_slice_nil, eq_nil_slice, ia_1, a0, a1, a2, c0, c1, c2]; exact so_so) ?_)
    rw [decide_eq_false (by simp [okey, e1])] at hK
    exact hK

theorem use_sameG {g : Hp} {a b : Gr} {F : Asrt} {K : Value → Hp → Prop} {h : Hp} (ha : IntsAt g a.sv a.stack) (hb : IntsAt g b.sv b.stack) (hh : (own g * (F * tt)) h)
    (hK : ∀ h', (own g * (F * tt)) h' → K (.bool (decide (gkey a = gkey b))) h') : CallH Try.prog 64 #[.agg #[.int .i64 a.st, .int .i64 a.p, a.sv], .agg #[.int .i64 b.st, .int .i64 b.p, b.sv]] K h := by
  refine C64 ?_
  unfold D64
  refine vA_new (o := .cells #[.int .i64 a.st, .int .i64 a.p, a.sv] 41 (0, 0)) hh fun r1 h1 hh1 => ?_
  refine vA_new (o := .cells #[.int .i64 b.st, .int .i64 b.p, b.sv] 41 (0, 0)) hh1 fun r2 h2 hh2 => ?_
  have hh3 : (pt r1 (.cells #[.int .i64 a.st, .int .i64 a.p, a.sv] 41 (0, 0)) * (pt r2 (.cells #[.int .i64 b.st, .int .i64 b.p, b.sv] 41 (0, 0)) * (own g * (F * tt)))) h2 := asr (by ac_rfl) hh2
  have hd : (own g * (F * tt)) h2 := dropL (P := pt r1 (.cells #[.int .i64 a.st, .int .i64 a.p, a.sv] 41 (0, 0)) * pt r2 (.cells #[.int .i64 b.st, .int .i64 b.p, b.sv] 41 (0, 0))) (Q := own g * F) (asr (by ac_rfl) hh3) |> asr (by ac_rfl)
  have hK := hK h2 hd
  have b2 := pt_get hh2
  have b1 := pt_get hh3
  have a0 : ld1 (.pointer (some ⟨r1, 0 + 0, none⟩)) h2 = some (.int .i64 a.st) := ld1_mk b1 rfl
  have a1 : ld1 (.pointer (some ⟨r1, 0 + 1, none⟩)) h2 = some (.int .i64 a.p) := ld1_mk b1 rfl
  have a2 : ld1 (.pointer (some ⟨r1, 0 + 2, none⟩)) h2 = some a.sv := ld1_mk b1 rfl
  have c0 : ld1 (.pointer (some ⟨r2, 0 + 0, none⟩)) h2 = some (.int .i64 b.st) := ld1_mk b2 rfl
  have c1 : ld1 (.pointer (some ⟨r2, 0 + 1, none⟩)) h2 = some (.int .i64 b.p) := ld1_mk b2 rfl
  have c2 : ld1 (.pointer (some ⟨r2, 0 + 2, none⟩)) h2 = some b.sv := ld1_mk b2 rfl
  by_cases e1 : a.st = b.st
  · by_cases e2 : a.p = b.p
    · repeat (with_reducible first | refine vP_so ?_ | refine vB_t ?_ | refine vB_f ?_ | refine vE_tt ?_ | refine vE_ff ?_ | refine vE_tf ?_ | refine vE_ft ?_ | refine vE_u ?_ | refine vP_to (by simp (disch := omega) only [gdW_true, gdW_false, gB_true, gB_false, gB_undef, pickV_true, pickV_false, Bool.not_true, Bool.not_false, Option.map_some, bin_add, bin_sub, bin_mul, bin_quo, bin_rem, lss_t, lss_f, leq_t, leq_f, gtr_t, gtr_f, geq_t, geq_f, eqi_t, eqi_f, nei_t, nei_f, rem_uw, conv_ui, conv_iu, conv_ii, not_bool, nil_ptr, fa_mk, ptrV, len_mk, cap_mk, eq_ptr_nil, ne_ptr_nil, eq_nil_nil, ne_nil_nil, eq_slice_nil, eq_nil_slice, ia_1, a0, a1, a2, c0, c1, c2]; exact so_so) ?_)
      refine use_equal (own_ints hd ha) (own_ints hd hb) ?_
      have e : decide (gkey a = gkey b) = decide (a.stack = b.stack) := decide_eq_decide.2 (by simp [gkey, e1, e2])
      rw [e] at hK
      repeat (with_reducible first | refine vP_so ?_ | refine vB_t ?_ | refine vB_f ?_ | refine vE_tt ?_ | refine vE_ff ?_ | refine vE_tf ?_ | refine vE_ft ?_ | refine vE_u ?_ | refine vP_to (by simp (disch := omega) only [gdW_true, gdW_false, gB_true, gB_false, gB_undef, pickV_true, pickV_false, Bool.not_true, Bool.not_false, Option.map_some, bin_add, bin_sub, bin_mul, bin_quo, bin_rem, lss_t, lss_f, leq_t, leq_f, gtr_t, gtr_f, geq_t, geq_f, eqi_t, eqi_f, nei_t, nei_f, rem_uw, conv_ui, conv_iu, conv_ii, not_bool, nil_ptr, fa_mk, ptrV, len_mk, cap_mk, eq_ptr_nil, ne_ptr_nil, eq_nil_nil, ne_nil_nil, eq_slice_nil, eq_nil_slice, ia_1]; exact so_so) ?_)
      exact hK
    · repeat (with_reducible first | refine vP_so ?_ | refine vB_t ?_ | refine vB_f ?_ | refine vE_tt ?_ | refine vE_ff ?_ | refine vE_tf ?_ | refine vE_ft ?_ | refine vE_u ?_ | refine vP_to (by simp (disch := omega) only [gdW_true, gdW_false, gB_true, gB_false, gB_undef, pickV_true, pickV_false, Bool.not_true, Bool.not_false, Option.map_some, bin_add, bin_sub, bin_mul, bin_quo, bin_rem, lss_t, lss_f, leq_t, leq_f, gtr_t, gtr_f, geq_t, geq_f, eqi_t, eqi_f, nei_t, nei_f, rem_uw, conv_ui, conv_iu, conv_ii, not_bool, nil_ptr, fa_mk, ptrV, len_mk, cap_mk, eq_ptr_nil, ne_ptr_nil, eq_nil_nil, ne_nil_nil, eq_slice_nil, eq_nil_slice, ia_1, a0, a1, a2, c0, c1, c2]; exact so_so) ?_)
      rw [decide_eq_false (by simp [gkey, e2])] at hK
      exact hK
  · repeat (with_reducible first | refine vP_so ?_ | refine vB_t ?_ | refine vB_f ?_ | refine vE_tt ?_ | refine vE_ff ?_ | refine vE_tf ?_ | refine vE_ft ?_ | refine vE_u ?_ | refine vP_to (by simp (disch := omega) only [gdW_true, gdW_false, gB_true, gB_false, gB_undef, pickV_true, pickV_false, Bool.not_true, Bool.not_false, Option.map_some, bin_add, bin_sub, bin_mul, bin_quo, bin_rem, lss_t, lss_f, leq_t, leq_f, gtr_t, gtr_f, geq_t, geq_f, eqi_t, eqi_f, nei_t, nei_f, rem_uw, conv_ui, conv_iu, conv_ii, not_bool, nil_ptr, fa_mk, ptrV, len_mk, cap_mk, eq_ptr_nil, ne_ptr_nil, eq_nil_nil, ne_nil_nil, eq_slice_nil, eq_nil_slice, ia_1, a0, a1, a2, c0, c1, c2]; exact so_so) ?_)
    rw [decide_eq_false (by simp [gkey, e1])] at hK
    exact hK

/-- Two lists, by their keys, one place after the other. -/
theorem map_step {α β : Type} {f : α → β} {l m : List α} {i : Nat} {a b : α} (ha : l[i]? = some a) (hb : m[i]? = some b) (h : (l.take i).map f = (m.take i).map f) :
    ((l.take (i + 1)).map f = (m.take (i + 1)).map f ↔ f a = f b) ∧ (f a ≠ f b → l.map f ≠ m.map f) := by
  obtain ⟨h1, rfl⟩ := List.getElem?_eq_some_iff.1 ha
  obtain ⟨h2, rfl⟩ := List.getElem?_eq_some_iff.1 hb
  refine ⟨?_, fun hn e => hn ?_⟩
  · rw [List.take_succ_eq_append_getElem h1, List.take_succ_eq_append_getElem h2, List.map_append, List.map_append, h]
    exact ⟨fun q => by simpa using List.append_cancel_left q, fun q => by simp [q]⟩
  · have := congrArg (fun l : List β => l[i]?) e
    simp only [List.getElem?_map, List.getElem?_eq_getElem h1, List.getElem?_eq_getElem h2, Option.map_some, Option.some.injEq] at this
    exact this

theorem use_eqO {g : Hp} {v w : VW} {F : Asrt} {K : Value → Hp → Prop} {h : Hp} (hv : VAt g v) (hw : VAt g w) (hh : (own g * (F * tt)) h)
    (hK : ∀ h', (own g * (F * tt)) h' → K (.bool (decide (v.objs.map okey = w.objs.map okey))) h') : CallH Try.prog 66 #[v.ov, w.ov, .func (.func 62) #[] #[]] K h := by
  refine C66 ?_
  unfold D66
  have l1 := hv.objs_len
  have l2 := hw.objs_len
  by_cases hl : v.objs.length = w.objs.length
  · repeat (with_reducible first | refine vP_so ?_ | refine vB_t ?_ | refine vB_f ?_ | refine vE_tt ?_ | refine vE_ff ?_ | refine vE_tf ?_ | refine vE_ft ?_ | refine vE_u ?_ | refine vP_to (by simp (disch := omega) only [gdW_true, gdW_false, gB_true, gB_false, gB_undef, pickV_true, pickV_false, Bool.not_true, Bool.not_false, Option.map_some, bin_add, bin_sub, bin_mul, bin_quo, bin_rem, lss_t, lss_f, leq_t, leq_f, gtr_t, gtr_f, geq_t, geq_f, eqi_t, eqi_f, nei_t, nei_f, rem_uw, conv_ui, conv_iu, conv_ii, not_bool, nil_ptr, fa_mk, ptrV, len_mk, cap_mk, eq_ptr_nil, ne_ptr_nil, eq_nil_nil, ne_nil_nil, eq_slice_nil, eq_nil_slice, ia_1, l1.1, l2.1]; exact so_so) ?_)
    refine ⟨fun m zs h' => ∃ i : Nat, zs = [.int .i64 i] ∧ m = v.objs.length - i ∧ i ≤ v.objs.length ∧ (v.objs.take i).map okey = (w.objs.take i).map okey ∧ (own g * (F * tt)) h', ⟨_, 0, rfl, rfl, by omega, by simp, hh⟩, ?_⟩
    rintro m v17 h3 ⟨i, hzs, rfl, hi, ht, hh3⟩ _
    obtain rfl : v17 = .int .i64 i := by simpa using hzs
    by_cases hil : i < v.objs.length
    · have hoi : v.objs[i]? = some v.objs[i] := List.getElem?_eq_getElem hil
      have hoj : w.objs[i]? = some w.objs[i] := List.getElem?_eq_getElem (by omega)
      obtain ⟨h4, h5⟩ := map_step (f := okey) hoi hoj ht
      obtain ⟨b, q, e1, _, _, _, e5⟩ := (own_vat hh3 hv).obj hoi .i64
      have s1 := hv.slots v.objs[i] (List.getElem_mem hil)
      have s2 := hw.slots w.objs[i] (List.getElem_mem (by omega))
      generalize v.objs[i] = x at *
      repeat (with_reducible first | refine vP_so ?_ | refine vB_t ?_ | refine vB_f ?_ | refine vE_tt ?_ | refine vE_ff ?_ | refine vE_tf ?_ | refine vE_ft ?_ | refine vE_u ?_ | refine vP_to (by simp (disch := omega) only [gdW_true, gdW_false, gB_true, gB_false, gB_undef, pickV_true, pickV_false, Bool.not_true, Bool.not_false, Option.map_some, bin_add, bin_sub, bin_mul, bin_quo, bin_rem, lss_t, lss_f, leq_t, leq_f, gtr_t, gtr_f, geq_t, geq_f, eqi_t, eqi_f, nei_t, nei_f, rem_uw, conv_ui, conv_iu, conv_ii, not_bool, nil_ptr, fa_mk, ptrV, len_mk, cap_mk, eq_ptr_nil, ne_ptr_nil, eq_nil_nil, ne_nil_nil, eq_slice_nil, eq_nil_slice, ia_1, e1, e5]; exact so_so) ?_)
      refine vA_new hh3 fun r8 h6 hh6 => ?_
      refine stN_mk (cs := #[.int .i64 x.addr, x.sv, .bool x.marked]) hh6 (one_ob s1) rfl (by simp) fun h7 hh7 => ?_
      have hh7 : (pt r8 (.cells #[.int .i64 x.addr, x.sv, .bool x.marked] 30 (0, 0)) * (own g * (F * tt))) h7 := hh7
      obtain ⟨b', q', f1, _, _, _, f5⟩ := (own_vat (F := pt r8 (.cells #[.int .i64 x.addr, x.sv, .bool x.marked] 30 (0, 0)) * (F * tt)) (asr (by ac_rfl) hh7) hw).obj hoj .i64
      generalize w.objs[i] = y at *
      repeat (with_reducible first | refine vP_so ?_ | refine vB_t ?_ | refine vB_f ?_ | refine vE_tt ?_ | refine vE_ff ?_ | refine vE_tf ?_ | refine vE_ft ?_ | refine vE_u ?_ | refine vP_to (by simp (disch := omega) only [gdW_true, gdW_false, gB_true, gB_false, gB_undef, pickV_true, pickV_false, Bool.not_true, Bool.not_false, Option.map_some, bin_add, bin_sub, bin_mul, bin_quo, bin_rem, lss_t, lss_f, leq_t, leq_f, gtr_t, gtr_f, geq_t, geq_f, eqi_t, eqi_f, nei_t, nei_f, rem_uw, conv_ui, conv_iu, conv_ii, not_bool, nil_ptr, fa_mk, ptrV, len_mk, cap_mk, eq_ptr_nil, ne_ptr_nil, eq_nil_nil, ne_nil_nil, eq_slice_nil, eq_nil_slice, ia_1, f1, f5]; exact so_so) ?_)
      refine vA_new hh7 fun r9 h8 hh8 => ?_
      refine stN_mk (cs := #[.int .i64 y.addr, y.sv, .bool y.marked]) hh8 (one_ob s2) rfl (by simp) fun h9 hh9 => ?_
      have hh9 : (pt r9 (.cells #[.int .i64 y.addr, y.sv, .bool y.marked] 30 (0, 0)) * (pt r8 (.cells #[.int .i64 x.addr, x.sv, .bool x.marked] 30 (0, 0)) * (own g * (F * tt)))) h9 := hh9
      have hh9' : (pt r8 (.cells #[.int .i64 x.addr, x.sv, .bool x.marked] 30 (0, 0)) * (pt r9 (.cells #[.int .i64 y.addr, y.sv, .bool y.marked] 30 (0, 0)) * (own g * (F * tt)))) h9 := asr (by ac_rfl) hh9
      have d1 : ldN 3 (.pointer (some ⟨r9, 0, none⟩)) h9 = some (.agg #[.int .i64 y.addr, y.sv, .bool y.marked]) := by rw [ldN_mk (pt_get hh9) (by simp)]; rfl
      have d2 : ldN 3 (.pointer (some ⟨r8, 0, none⟩)) h9 = some (.agg #[.int .i64 x.addr, x.sv, .bool x.marked]) := by rw [ldN_mk (pt_get hh9') (by simp)]; rfl
      repeat (with_reducible first | refine vP_so ?_ | refine vB_t ?_ | refine vB_f ?_ | refine vE_tt ?_ | refine vE_ff ?_ | refine vE_tf ?_ | refine vE_ft ?_ | refine vE_u ?_ | refine vP_to (by simp (disch := omega) only [gdW_true, gdW_false, gB_true, gB_false, gB_undef, pickV_true, pickV_false, Bool.not_true, Bool.not_false, Option.map_some, bin_add, bin_sub, bin_mul, bin_quo, bin_rem, lss_t, lss_f, leq_t, leq_f, gtr_t, gtr_f, geq_t, geq_f, eqi_t, eqi_f, nei_t, nei_f, rem_uw, conv_ui, conv_iu, conv_ii, not_bool, nil_ptr, fa_mk, ptrV, len_mk, cap_mk, eq_ptr_nil, ne_ptr_nil, eq_nil_nil, ne_nil_nil, eq_slice_nil, eq_nil_slice, ia_1, d1, d2]; exact so_so) ?_)
      refine cv_fn (by kernel_rfl) ?_
      refine use_sameO (F := F) s1 s2 (dropL (P := pt r9 (.cells #[.int .i64 y.addr, y.sv, .bool y.marked] 30 (0, 0)) * pt r8 (.cells #[.int .i64 x.addr, x.sv, .bool x.marked] 30 (0, 0))) (Q := own g * F) (asr (by ac_rfl) hh9) |> asr (by ac_rfl)) fun h10 hh10 => ?_
      by_cases he : okey x = okey y
      · rw [decide_eq_true he]
        repeat (with_reducible first | refine vP_so ?_ | refine vB_t ?_ | refine vB_f ?_ | refine vE_tt ?_ | refine vE_ff ?_ | refine vE_tf ?_ | refine vE_ft ?_ | refine vE_u ?_ | refine vP_to (by simp (disch := omega) only [gdW_true, gdW_false, gB_true, gB_false, gB_undef, pickV_true, pickV_false, Bool.not_true, Bool.not_false, Option.map_some, bin_add, bin_sub, bin_mul, bin_quo, bin_rem, lss_t, lss_f, leq_t, leq_f, gtr_t, gtr_f, geq_t, geq_f, eqi_t, eqi_f, nei_t, nei_f, rem_uw, conv_ui, conv_iu, conv_ii, not_bool, nil_ptr, fa_mk, ptrV, len_mk, cap_mk, eq_ptr_nil, ne_ptr_nil, eq_nil_nil, ne_nil_nil, eq_slice_nil, eq_nil_slice, ia_1]; exact so_so) ?_)
        exact ⟨v.objs.length - (i + 1), by omega, i + 1, by simp, rfl, by omega, h4.2 he, hh10⟩
      · rw [decide_eq_false he]
        repeat (with_reducible first | refine vP_so ?_ | refine vB_t ?_ | refine vB_f ?_ | refine vE_tt ?_ | refine vE_ff ?_ | refine vE_tf ?_ | refine vE_ft ?_ | refine vE_u ?_ | refine vP_to (by simp (disch := omega) only [gdW_true, gdW_false, gB_true, gB_false, gB_undef, pickV_true, pickV_false, Bool.not_true, Bool.not_false, Option.map_some, bin_add, bin_sub, bin_mul, bin_quo, bin_rem, lss_t, lss_f, leq_t, leq_f, gtr_t, gtr_f, geq_t, geq_f, eqi_t, eqi_f, nei_t, nei_f, rem_uw, conv_ui, conv_iu, conv_ii, not_bool, nil_ptr, fa_mk, ptrV, len_mk, cap_mk, eq_ptr_nil, ne_ptr_nil, eq_nil_nil, ne_nil_nil, eq_slice_nil, eq_nil_slice, ia_1]; exact so_so) ?_)
        have := hK h10 hh10
        rw [decide_eq_false (h5 he)] at this
        exact this
    · repeat (with_reducible first | refine vP_so ?_ | refine vB_t ?_ | refine vB_f ?_ | refine vE_tt ?_ | refine vE_ff ?_ | refine vE_tf ?_ | refine vE_ft ?_ | refine vE_u ?_ | refine vP_to (by simp (disch := omega) only [gdW_true, gdW_false, gB_true, gB_false, gB_undef, pickV_true, pickV_false, Bool.not_true, Bool.not_false, Option.map_some, bin_add, bin_sub, bin_mul, bin_quo, bin_rem, lss_t, lss_f, leq_t, leq_f, gtr_t, gtr_f, geq_t, geq_f, eqi_t, eqi_f, nei_t, nei_f, rem_uw, conv_ui, conv_iu, conv_ii, not_bool, nil_ptr, fa_mk, ptrV, len_mk, cap_mk, eq_ptr_nil, ne_ptr_nil, eq_nil_nil, ne_nil_nil, eq_slice_nil, eq_nil_slice, ia_1]; exact so_so) ?_)
      obtain rfl : i = v.objs.length := by omega
      rw [List.take_length, hl, List.take_length] at ht
      have := hK h3 hh3
      rw [decide_eq_true ht] at this
      exact this
  · repeat (with_reducible first | refine vP_so ?_ | refine vB_t ?_ | refine vB_f ?_ | refine vE_tt ?_ | refine vE_ff ?_ | refine vE_tf ?_ | refine vE_ft ?_ | refine vE_u ?_ | refine vP_to (by simp (disch := omega) only [gdW_true, gdW_false, gB_true, gB_false, gB_undef, pickV_true, pickV_false, Bool.not_true, Bool.not_false, Option.map_some, bin_add, bin_sub, bin_mul, bin_quo, bin_rem, lss_t, lss_f, leq_t, leq_f, gtr_t, gtr_f, geq_t, geq_f, eqi_t, eqi_f, nei_t, nei_f, rem_uw, conv_ui, conv_iu, conv_ii, not_bool, nil_ptr, fa_mk, ptrV, len_mk, cap_mk, eq_ptr_nil, ne_ptr_nil, eq_nil_nil, ne_nil_nil, eq_slice_nil, eq_nil_slice, ia_1, l1.1, l2.1]; exact so_so) ?_)
    have := hK h hh
    rw [decide_eq_false (fun e => hl (by simpa using congrArg List.length e))] at this
    exact this

theorem use_eqG {g : Hp} {v w : VW} {F : Asrt} {K : Value → Hp → Prop} {h : Hp} (hv : VAt g v) (hw : VAt g w) (hh : (own g * (F * tt)) h)
    (hK : ∀ h', (own g * (F * tt)) h' → K (.bool (decide (v.gs.map gkey = w.gs.map gkey))) h') : CallH Try.prog 65 #[v.sv, w.sv, .func (.func 64) #[] #[]] K h := by
  refine C65 ?_
  unfold D65
  have l1 := hv.gs_len
  have l2 := hw.gs_len
  by_cases hl : v.gs.length = w.gs.length
  · repeat (with_reducible first | refine vP_so ?_ | refine vB_t ?_ | refine vB_f ?_ | refine vE_tt ?_ | refine vE_ff ?_ | refine vE_tf ?_ | refine vE_ft ?_ | refine vE_u ?_ | refine vP_to (by simp (disch := omega) only [gdW_true, gdW_false, gB_true, gB_false, gB_undef, pickV_true, pickV_false, Bool.not_true, Bool.not_false, Option.map_some, bin_add, bin_sub, bin_mul, bin_quo, bin_rem, lss_t, lss_f, leq_t, leq_f, gtr_t, gtr_f, geq_t, geq_f, eqi_t, eqi_f, nei_t, nei_f, rem_uw, conv_ui, conv_iu, conv_ii, not_bool, nil_ptr, fa_mk, ptrV, len_mk, cap_mk, eq_ptr_nil, ne_ptr_nil, eq_nil_nil, ne_nil_nil, eq_slice_nil, eq_nil_slice, ia_1, l1.1, l2.1]; exact so_so) ?_)
    refine ⟨fun m zs h' => ∃ i : Nat, zs = [.int .i64 i] ∧ m = v.gs.length - i ∧ i ≤ v.gs.length ∧ (v.gs.take i).map gkey = (w.gs.take i).map gkey ∧ (own g * (F * tt)) h', ⟨_, 0, rfl, rfl, by omega, by simp, hh⟩, ?_⟩
    rintro m v17 h3 ⟨i, hzs, rfl, hi, ht, hh3⟩ _
    obtain rfl : v17 = .int .i64 i := by simpa using hzs
    by_cases hil : i < v.gs.length
    · have hoi : v.gs[i]? = some v.gs[i] := List.getElem?_eq_getElem hil
      have hoj : w.gs[i]? = some w.gs[i] := List.getElem?_eq_getElem (by omega)
      obtain ⟨h4, h5⟩ := map_step (f := gkey) hoi hoj ht
      obtain ⟨b, q, e1, _, _, _, e5⟩ := (own_vat hh3 hv).gor hoi .i64
      have s1 := hv.stacks v.gs[i] (List.getElem_mem hil)
      have s2 := hw.stacks w.gs[i] (List.getElem_mem (by omega))
      generalize v.gs[i] = x at *
      repeat (with_reducible first | refine vP_so ?_ | refine vB_t ?_ | refine vB_f ?_ | refine vE_tt ?_ | refine vE_ff ?_ | refine vE_tf ?_ | refine vE_ft ?_ | refine vE_u ?_ | refine vP_to (by simp (disch := omega) only [gdW_true, gdW_false, gB_true, gB_false, gB_undef, pickV_true, pickV_false, Bool.not_true, Bool.not_false, Option.map_some, bin_add, bin_sub, bin_mul, bin_quo, bin_rem, lss_t, lss_f, leq_t, leq_f, gtr_t, gtr_f, geq_t, geq_f, eqi_t, eqi_f, nei_t, nei_f, rem_uw, conv_ui, conv_iu, conv_ii, not_bool, nil_ptr, fa_mk, ptrV, len_mk, cap_mk, eq_ptr_nil, ne_ptr_nil, eq_nil_nil, ne_nil_nil, eq_slice_nil, eq_nil_slice, ia_1, e1, e5]; exact so_so) ?_)
      refine vA_new hh3 fun r8 h6 hh6 => ?_
      refine stN_mk (cs := #[.int .i64 x.st, .int .i64 x.p, x.sv]) hh6 (one_gr s1) rfl (by simp) fun h7 hh7 => ?_
      have hh7 : (pt r8 (.cells #[.int .i64 x.st, .int .i64 x.p, x.sv] 41 (0, 0)) * (own g * (F * tt))) h7 := hh7
      obtain ⟨b', q', f1, _, _, _, f5⟩ := (own_vat (F := pt r8 (.cells #[.int .i64 x.st, .int .i64 x.p, x.sv] 41 (0, 0)) * (F * tt)) (asr (by ac_rfl) hh7) hw).gor hoj .i64
      generalize w.gs[i] = y at *
      repeat (with_reducible first | refine vP_so ?_ | refine vB_t ?_ | refine vB_f ?_ | refine vE_tt ?_ | refine vE_ff ?_ | refine vE_tf ?_ | refine vE_ft ?_ | refine vE_u ?_ | refine vP_to (by simp (disch := omega) only [gdW_true, gdW_false, gB_true, gB_false, gB_undef, pickV_true, pickV_false, Bool.not_true, Bool.not_false, Option.map_some, bin_add, bin_sub, bin_mul, bin_quo, bin_rem, lss_t, lss_f, leq_t, leq_f, gtr_t, gtr_f, geq_t, geq_f, eqi_t, eqi_f, nei_t, nei_f, rem_uw, conv_ui, conv_iu, conv_ii, not_bool, nil_ptr, fa_mk, ptrV, len_mk, cap_mk, eq_ptr_nil, ne_ptr_nil, eq_nil_nil, ne_nil_nil, eq_slice_nil, eq_nil_slice, ia_1, f1, f5]; exact so_so) ?_)
      refine vA_new hh7 fun r9 h8 hh8 => ?_
      refine stN_mk (cs := #[.int .i64 y.st, .int .i64 y.p, y.sv]) hh8 (one_gr s2) rfl (by simp) fun h9 hh9 => ?_
      have hh9 : (pt r9 (.cells #[.int .i64 y.st, .int .i64 y.p, y.sv] 41 (0, 0)) * (pt r8 (.cells #[.int .i64 x.st, .int .i64 x.p, x.sv] 41 (0, 0)) * (own g * (F * tt)))) h9 := hh9
      have hh9' : (pt r8 (.cells #[.int .i64 x.st, .int .i64 x.p, x.sv] 41 (0, 0)) * (pt r9 (.cells #[.int .i64 y.st, .int .i64 y.p, y.sv] 41 (0, 0)) * (own g * (F * tt)))) h9 := asr (by ac_rfl) hh9
      have d1 : ldN 3 (.pointer (some ⟨r9, 0, none⟩)) h9 = some (.agg #[.int .i64 y.st, .int .i64 y.p, y.sv]) := by rw [ldN_mk (pt_get hh9) (by simp)]; rfl
      have d2 : ldN 3 (.pointer (some ⟨r8, 0, none⟩)) h9 = some (.agg #[.int .i64 x.st, .int .i64 x.p, x.sv]) := by rw [ldN_mk (pt_get hh9') (by simp)]; rfl
      repeat (with_reducible first | refine vP_so ?_ | refine vB_t ?_ | refine vB_f ?_ | refine vE_tt ?_ | refine vE_ff ?_ | refine vE_tf ?_ | refine vE_ft ?_ | refine vE_u ?_ | refine vP_to (by simp (disch := omega) only [gdW_true, gdW_false, gB_true, gB_false, gB_undef, pickV_true, pickV_false, Bool.not_true, Bool.not_false, Option.map_some, bin_add, bin_sub, bin_mul, bin_quo, bin_rem, lss_t, lss_f, leq_t, leq_f, gtr_t, gtr_f, geq_t, geq_f, eqi_t, eqi_f, nei_t, nei_f, rem_uw, conv_ui, conv_iu, conv_ii, not_bool, nil_ptr, fa_mk, ptrV, len_mk, cap_mk, eq_ptr_nil, ne_ptr_nil, eq_nil_nil, ne_nil_nil, eq_slice_nil, eq_nil_slice, ia_1, d1, d2]; exact so_so) ?_)
      refine cv_fn (by kernel_rfl) ?_
      refine use_sameG (F := F) s1 s2 (dropL (P := pt r9 (.cells #[.int .i64 y.st, .int .i64 y.p, y.sv] 41 (0, 0)) * pt r8 (.cells #[.int .i64 x.st, .int .i64 x.p, x.sv] 41 (0, 0))) (Q := own g * F) (asr (by ac_rfl) hh9) |> asr (by ac_rfl)) fun h10 hh10 => ?_
      by_cases he : gkey x = gkey y
      · rw [decide_eq_true he]
        repeat (with_reducible first | refine vP_so ?_ | refine vB_t ?_ | refine vB_f ?_ | refine vE_tt ?_ | refine vE_ff ?_ | refine vE_tf ?_ | refine vE_ft ?_ | refine vE_u ?_ | refine vP_to (by simp (disch := omega) only [gdW_true, gdW_false, gB_true, gB_false, gB_undef, pickV_true, pickV_false, Bool.not_true, Bool.not_false, Option.map_some, bin_add, bin_sub, bin_mul, bin_quo, bin_rem, lss_t, lss_f, leq_t, leq_f, gtr_t, gtr_f, geq_t, geq_f, eqi_t, eqi_f, nei_t, nei_f, rem_uw, conv_ui, conv_iu, conv_ii, not_bool, nil_ptr, fa_mk, ptrV, len_mk, cap_mk, eq_ptr_nil, ne_ptr_nil, eq_nil_nil, ne_nil_nil, eq_slice_nil, eq_nil_slice, ia_1]; exact so_so) ?_)
        exact ⟨v.gs.length - (i + 1), by omega, i + 1, by simp, rfl, by omega, h4.2 he, hh10⟩
      · rw [decide_eq_false he]
        repeat (with_reducible first | refine vP_so ?_ | refine vB_t ?_ | refine vB_f ?_ | refine vE_tt ?_ | refine vE_ff ?_ | refine vE_tf ?_ | refine vE_ft ?_ | refine vE_u ?_ | refine vP_to (by simp (disch := omega) only [gdW_true, gdW_false, gB_true, gB_false, gB_undef, pickV_true, pickV_false, Bool.not_true, Bool.not_false, Option.map_some, bin_add, bin_sub, bin_mul, bin_quo, bin_rem, lss_t, lss_f, leq_t, leq_f, gtr_t, gtr_f, geq_t, geq_f, eqi_t, eqi_f, nei_t, nei_f, rem_uw, conv_ui, conv_iu, conv_ii, not_bool, nil_ptr, fa_mk, ptrV, len_mk, cap_mk, eq_ptr_nil, ne_ptr_nil, eq_nil_nil, ne_nil_nil, eq_slice_nil, eq_nil_slice, ia_1]; exact so_so) ?_)
        have := hK h10 hh10
        rw [decide_eq_false (h5 he)] at this
        exact this
    · repeat (with_reducible first | refine vP_so ?_ | refine vB_t ?_ | refine vB_f ?_ | refine vE_tt ?_ | refine vE_ff ?_ | refine vE_tf ?_ | refine vE_ft ?_ | refine vE_u ?_ | refine vP_to (by simp (disch := omega) only [gdW_true, gdW_false, gB_true, gB_false, gB_undef, pickV_true, pickV_false, Bool.not_true, Bool.not_false, Option.map_some, bin_add, bin_sub, bin_mul, bin_quo, bin_rem, lss_t, lss_f, leq_t, leq_f, gtr_t, gtr_f, geq_t, geq_f, eqi_t, eqi_f, nei_t, nei_f, rem_uw, conv_ui, conv_iu, conv_ii, not_bool, nil_ptr, fa_mk, ptrV, len_mk, cap_mk, eq_ptr_nil, ne_ptr_nil, eq_nil_nil, ne_nil_nil, eq_slice_nil, eq_nil_slice, ia_1]; exact so_so) ?_)
      obtain rfl : i = v.gs.length := by omega
      rw [List.take_length, hl, List.take_length] at ht
      have := hK h3 hh3
      rw [decide_eq_true ht] at this
      exact this
  · repeat (with_reducible first | refine vP_so ?_ | refine vB_t ?_ | refine vB_f ?_ | refine vE_tt ?_ | refine vE_ff ?_ | refine vE_tf ?_ | refine vE_ft ?_ | refine vE_u ?_ | refine vP_to (by simp (disch := omega) only [gdW_true, gdW_false, gB_true, gB_false, gB_undef, pickV_true, pickV_false, Bool.not_true, Bool.not_false, Option.map_some, bin_add, bin_sub, bin_mul, bin_quo, bin_rem, lss_t, lss_f, leq_t, leq_f, gtr_t, gtr_f, geq_t, geq_f, eqi_t, eqi_f, nei_t, nei_f, rem_uw, conv_ui, conv_iu, conv_ii, not_bool, nil_ptr, fa_mk, ptrV, len_mk, cap_mk, eq_ptr_nil, ne_ptr_nil, eq_nil_nil, ne_nil_nil, eq_slice_nil, eq_nil_slice, ia_1, l1.1, l2.1]; exact so_so) ?_)
    have := hK h hh
    rw [decide_eq_false (fun e => hl (by simpa using congrArg List.length e))] at this
    exact this

/-- What a view is, as far as Same looks. -/
def nums (v : VW) : List Int := [v.phase, v.cycle, v.clock, v.grey, v.notes, v.roots]
def SameP (v w : VW) : Prop := nums v = nums w ∧ v.globals = w.globals ∧ v.gs.map gkey = w.gs.map gkey ∧ v.objs.map okey = w.objs.map okey
instance (v w : VW) : Decidable (SameP v w) := by unfold SameP; infer_instance

theorem use_same {g : Hp} {v w : VW} {F : Asrt} {K : Value → Hp → Prop} {h : Hp} (hv : VAt g v) (hw : VAt g w) (hh : (own g * (F * tt)) h)
    (hK : ∀ h', (own g * (F * tt)) h' → K (.bool (decide (SameP v w))) h') : CallH Try.prog 39 #[v.val, w.val] K h := by
  refine C39 ?_
  unfold D39
  refine vA_new (o := .cells v.cells 26 (0, 0)) hh fun r2 h1 hh1 => ?_
  refine vA_new (o := .cells w.cells 26 (0, 0)) hh1 fun r3 h2 hh2 => ?_
  have lw := vw_ld (r := r3) (w := w) (E := 26) hh2
  have lv := vw_ld (r := r2) (w := v) (E := 26) (F := pt r3 (.cells w.cells 26 (0, 0)) * (own g * (F * tt))) (asr (by ac_rfl) hh2)
  have b6 : ∀ a b c d e f : Int, bldV #[.int .i64 0, .int .i64 0, .int .i64 0, .int .i64 0, .int .i64 0, .int .i64 0] [(0, 1, .int .i64 a), (1, 1, .int .i64 b), (2, 1, .int .i64 c), (3, 1, .int .i64 d), (4, 1, .int .i64 e), (5, 1, .int .i64 f)] = some #[.int .i64 a, .int .i64 b, .int .i64 c, .int .i64 d, .int .i64 e, .int .i64 f] := fun _ _ _ _ _ _ => rfl
  repeat (with_reducible first | refine vP_so ?_ | refine vB_t ?_ | refine vB_f ?_ | refine vE_tt ?_ | refine vE_ff ?_ | refine vE_tf ?_ | refine vE_ft ?_ | refine vE_u ?_ | refine vP_to (by simp (disch := omega) only [gdW_true, gdW_false, gB_true, gB_false, gB_undef, pickV_true, pickV_false, Bool.not_true, Bool.not_false, Option.map_some, bin_add, bin_sub, bin_mul, bin_quo, bin_rem, lss_t, lss_f, leq_t, leq_f, gtr_t, gtr_f, geq_t, geq_f, eqi_t, eqi_f, nei_t, nei_f, rem_uw, conv_ui, conv_iu, conv_ii, not_bool, nil_ptr, fa_mk, ptrV, len_mk, cap_mk, eq_ptr_nil, ne_ptr_nil, eq_nil_nil, ne_nil_nil, eq_slice_nil, eq_nil_slice, ia_1, lv.1, lv.2.1, lv.2.2.1, lv.2.2.2.2.2.2.1, lv.2.2.2.2.2.2.2.1, lv.2.2.2.2.2.2.2.2.1, lw.1, lw.2.1, lw.2.2.1, lw.2.2.2.2.2.2.1, lw.2.2.2.2.2.2.2.1, lw.2.2.2.2.2.2.2.2.1, b6]; exact so_so) ?_)
  refine vA_new hh2 fun r7 h3 hh3 => ?_
  refine vA_new hh3 fun r8 h4 hh4 => ?_
  have hh4 : (pt r7 (.cells #[.int .i64 0, .int .i64 0, .int .i64 0, .int .i64 0, .int .i64 0, .int .i64 0] 74 (0, 0)) * (pt r8 (.cells #[.int .i64 0, .int .i64 0, .int .i64 0, .int .i64 0, .int .i64 0, .int .i64 0] 74 (0, 0)) * (pt r3 (.cells w.cells 26 (0, 0)) * (pt r2 (.cells v.cells 26 (0, 0)) * (own g * (F * tt)))))) h4 := asr (by ac_rfl) hh4
  refine stN_mk (cs := #[.int .i64 v.phase, .int .i64 v.cycle, .int .i64 v.clock, .int .i64 v.grey, .int .i64 v.notes, .int .i64 v.roots]) hh4 rfl rfl (by simp) fun h5 hh5 => ?_
  have hh5 : (pt r7 (.cells #[.int .i64 v.phase, .int .i64 v.cycle, .int .i64 v.clock, .int .i64 v.grey, .int .i64 v.notes, .int .i64 v.roots] 74 (0, 0)) * (pt r8 (.cells #[.int .i64 0, .int .i64 0, .int .i64 0, .int .i64 0, .int .i64 0, .int .i64 0] 74 (0, 0)) * (pt r3 (.cells w.cells 26 (0, 0)) * (pt r2 (.cells v.cells 26 (0, 0)) * (own g * (F * tt)))))) h5 := hh5
  have lw5 := vw_ld (r := r3) (w := w) (E := 26) (F := pt r7 (.cells #[.int .i64 v.phase, .int .i64 v.cycle, .int .i64 v.clock, .int .i64 v.grey, .int .i64 v.notes, .int .i64 v.roots] 74 (0, 0)) * (pt r8 (.cells #[.int .i64 0, .int .i64 0, .int .i64 0, .int .i64 0, .int .i64 0, .int .i64 0] 74 (0, 0)) * (pt r2 (.cells v.cells 26 (0, 0)) * (own g * (F * tt))))) (asr (by ac_rfl) hh5)
  refine ⟨lw5.2.2.2.2.2.2.2.2.1, lw5.2.2.2.2.2.2.2.1, lw5.2.2.2.2.2.2.1, lw5.2.2.1, lw5.2.1, lw5.1, ?_⟩
  have hh6 : (pt r8 (.cells #[.int .i64 0, .int .i64 0, .int .i64 0, .int .i64 0, .int .i64 0, .int .i64 0] 74 (0, 0)) * (pt r7 (.cells #[.int .i64 v.phase, .int .i64 v.cycle, .int .i64 v.clock, .int .i64 v.grey, .int .i64 v.notes, .int .i64 v.roots] 74 (0, 0)) * (pt r3 (.cells w.cells 26 (0, 0)) * (pt r2 (.cells v.cells 26 (0, 0)) * (own g * (F * tt)))))) h5 := asr (by ac_rfl) hh5
  refine stN_mk (cs := #[.int .i64 w.phase, .int .i64 w.cycle, .int .i64 w.clock, .int .i64 w.grey, .int .i64 w.notes, .int .i64 w.roots]) hh6 rfl rfl (by simp) fun h6 hh7 => ?_
  have hh7 : (pt r8 (.cells #[.int .i64 w.phase, .int .i64 w.cycle, .int .i64 w.clock, .int .i64 w.grey, .int .i64 w.notes, .int .i64 w.roots] 74 (0, 0)) * (pt r7 (.cells #[.int .i64 v.phase, .int .i64 v.cycle, .int .i64 v.clock, .int .i64 v.grey, .int .i64 v.notes, .int .i64 v.roots] 74 (0, 0)) * (pt r3 (.cells w.cells 26 (0, 0)) * (pt r2 (.cells v.cells 26 (0, 0)) * (own g * (F * tt)))))) h6 := hh7
  have d8 : ldN 6 (.pointer (some ⟨r8, 0, none⟩)) h6 = some (.agg #[.int .i64 w.phase, .int .i64 w.cycle, .int .i64 w.clock, .int .i64 w.grey, .int .i64 w.notes, .int .i64 w.roots]) := by rw [ldN_mk (pt_get hh7) (by simp)]; rfl
  have d7 : ldN 6 (.pointer (some ⟨r7, 0, none⟩)) h6 = some (.agg #[.int .i64 v.phase, .int .i64 v.cycle, .int .i64 v.clock, .int .i64 v.grey, .int .i64 v.notes, .int .i64 v.roots]) := by
    rw [ldN_mk (pt_get (show (pt r7 (.cells #[.int .i64 v.phase, .int .i64 v.cycle, .int .i64 v.clock, .int .i64 v.grey, .int .i64 v.notes, .int .i64 v.roots] 74 (0, 0)) * (pt r8 (.cells #[.int .i64 w.phase, .int .i64 w.cycle, .int .i64 w.clock, .int .i64 w.grey, .int .i64 w.notes, .int .i64 w.roots] 74 (0, 0)) * (pt r3 (.cells w.cells 26 (0, 0)) * (pt r2 (.cells v.cells 26 (0, 0)) * (own g * (F * tt)))))) h6 from asr (by ac_rfl) hh7)) (by simp)]; rfl
  have he : eqA [1, 1, 1, 1, 1, 1] false (.agg #[.int .i64 v.phase, .int .i64 v.cycle, .int .i64 v.clock, .int .i64 v.grey, .int .i64 v.notes, .int .i64 v.roots]) (.agg #[.int .i64 w.phase, .int .i64 w.cycle, .int .i64 w.clock, .int .i64 w.grey, .int .i64 w.notes, .int .i64 w.roots]) = some (.bool (decide (nums v = nums w))) := by
    have s1 : ∀ a b : Int, eqS 1 (.int .i64 a) (.int .i64 b) = some (a == b) := fun _ _ => rfl
    unfold eqA
    simp only [eqL, s1, Option.map_some, cond_false]
    congr 2
    rw [Bool.eq_iff_iff]
    simp [nums]
  have dr : ∀ {h}, (own g * (pt r8 (.cells #[.int .i64 w.phase, .int .i64 w.cycle, .int .i64 w.clock, .int .i64 w.grey, .int .i64 w.notes, .int .i64 w.roots] 74 (0, 0)) * pt r7 (.cells #[.int .i64 v.phase, .int .i64 v.cycle, .int .i64 v.clock, .int .i64 v.grey, .int .i64 v.notes, .int .i64 v.roots] 74 (0, 0)) * pt r3 (.cells w.cells 26 (0, 0)) * pt r2 (.cells v.cells 26 (0, 0)) * F * tt)) h → (own g * (F * tt)) h := fun q =>
    dropL (P := pt r8 (.cells #[.int .i64 w.phase, .int .i64 w.cycle, .int .i64 w.clock, .int .i64 w.grey, .int .i64 w.notes, .int .i64 w.roots] 74 (0, 0)) * pt r7 (.cells #[.int .i64 v.phase, .int .i64 v.cycle, .int .i64 v.clock, .int .i64 v.grey, .int .i64 v.notes, .int .i64 v.roots] 74 (0, 0)) * pt r3 (.cells w.cells 26 (0, 0)) * pt r2 (.cells v.cells 26 (0, 0))) (Q := own g * F) (asr (by ac_rfl) q) |> asr (by ac_rfl)
  have hh8 : (own g * (pt r8 (.cells #[.int .i64 w.phase, .int .i64 w.cycle, .int .i64 w.clock, .int .i64 w.grey, .int .i64 w.notes, .int .i64 w.roots] 74 (0, 0)) * pt r7 (.cells #[.int .i64 v.phase, .int .i64 v.cycle, .int .i64 v.clock, .int .i64 v.grey, .int .i64 v.notes, .int .i64 v.roots] 74 (0, 0)) * pt r3 (.cells w.cells 26 (0, 0)) * pt r2 (.cells v.cells 26 (0, 0)) * F * tt)) h6 := asr (by ac_rfl) hh7
  have fin : ∀ h' (b : Bool), b = decide (SameP v w) → (own g * (pt r8 (.cells #[.int .i64 w.phase, .int .i64 w.cycle, .int .i64 w.clock, .int .i64 w.grey, .int .i64 w.notes, .int .i64 w.roots] 74 (0, 0)) * pt r7 (.cells #[.int .i64 v.phase, .int .i64 v.cycle, .int .i64 v.clock, .int .i64 v.grey, .int .i64 v.notes, .int .i64 v.roots] 74 (0, 0)) * pt r3 (.cells w.cells 26 (0, 0)) * pt r2 (.cells v.cells 26 (0, 0)) * F * tt)) h' → K (.bool b) h' := fun h' b e q => e ▸ hK h' (dr q)
  clear hK
  by_cases e1 : nums v = nums w
  · rw [decide_eq_true e1] at he
    have fw := fun {h : Hp} (q : (own g * (pt r8 (.cells #[.int .i64 w.phase, .int .i64 w.cycle, .int .i64 w.clock, .int .i64 w.grey, .int .i64 w.notes, .int .i64 w.roots] 74 (0, 0)) * pt r7 (.cells #[.int .i64 v.phase, .int .i64 v.cycle, .int .i64 v.clock, .int .i64 v.grey, .int .i64 v.notes, .int .i64 v.roots] 74 (0, 0)) * pt r3 (.cells w.cells 26 (0, 0)) * pt r2 (.cells v.cells 26 (0, 0)) * F * tt)) h) => vw_ld (r := r3) (w := w) (E := 26) (F := pt r8 (.cells #[.int .i64 w.phase, .int .i64 w.cycle, .int .i64 w.clock, .int .i64 w.grey, .int .i64 w.notes, .int .i64 w.roots] 74 (0, 0)) * (pt r7 (.cells #[.int .i64 v.phase, .int .i64 v.cycle, .int .i64 v.clock, .int .i64 v.grey, .int .i64 v.notes, .int .i64 v.roots] 74 (0, 0)) * (pt r2 (.cells v.cells 26 (0, 0)) * (own g * (F * tt))))) (asr (by ac_rfl) q)
    have fv := fun {h : Hp} (q : (own g * (pt r8 (.cells #[.int .i64 w.phase, .int .i64 w.cycle, .int .i64 w.clock, .int .i64 w.grey, .int .i64 w.notes, .int .i64 w.roots] 74 (0, 0)) * pt r7 (.cells #[.int .i64 v.phase, .int .i64 v.cycle, .int .i64 v.clock, .int .i64 v.grey, .int .i64 v.notes, .int .i64 v.roots] 74 (0, 0)) * pt r3 (.cells w.cells 26 (0, 0)) * pt r2 (.cells v.cells 26 (0, 0)) * F * tt)) h) => vw_ld (r := r2) (w := v) (E := 26) (F := pt r8 (.cells #[.int .i64 w.phase, .int .i64 w.cycle, .int .i64 w.clock, .int .i64 w.grey, .int .i64 w.notes, .int .i64 w.roots] 74 (0, 0)) * (pt r7 (.cells #[.int .i64 v.phase, .int .i64 v.cycle, .int .i64 v.clock, .int .i64 v.grey, .int .i64 v.notes, .int .i64 v.roots] 74 (0, 0)) * (pt r3 (.cells w.cells 26 (0, 0)) * (own g * (F * tt))))) (asr (by ac_rfl) q)
    repeat (with_reducible first | refine vP_so ?_ | refine vB_t ?_ | refine vB_f ?_ | refine vE_tt ?_ | refine vE_ff ?_ | refine vE_tf ?_ | refine vE_ft ?_ | refine vE_u ?_ | refine vP_to (by simp (disch := omega) only [gdW_true, gdW_false, gB_true, gB_false, gB_undef, pickV_true, pickV_false, Bool.not_true, Bool.not_false, Option.map_some, bin_add, bin_sub, bin_mul, bin_quo, bin_rem, lss_t, lss_f, leq_t, leq_f, gtr_t, gtr_f, geq_t, geq_f, eqi_t, eqi_f, nei_t, nei_f, rem_uw, conv_ui, conv_iu, conv_ii, not_bool, nil_ptr, fa_mk, ptrV, len_mk, cap_mk, eq_ptr_nil, ne_ptr_nil, eq_nil_nil, ne_nil_nil, eq_slice_nil, eq_nil_slice, ia_1, d7, d8, he, (fv hh8).2.2.2.1, (fw hh8).2.2.2.1]; exact so_so) ?_)
    refine use_equal (own_ints hh8 hv.glob) (own_ints hh8 hw.glob) ?_
    by_cases e2 : v.globals = w.globals
    · rw [decide_eq_true e2]
      repeat (with_reducible first | refine vP_so ?_ | refine vB_t ?_ | refine vB_f ?_ | refine vE_tt ?_ | refine vE_ff ?_ | refine vE_tf ?_ | refine vE_ft ?_ | refine vE_u ?_ | refine vP_to (by simp (disch := omega) only [gdW_true, gdW_false, gB_true, gB_false, gB_undef, pickV_true, pickV_false, Bool.not_true, Bool.not_false, Option.map_some, bin_add, bin_sub, bin_mul, bin_quo, bin_rem, lss_t, lss_f, leq_t, leq_f, gtr_t, gtr_f, geq_t, geq_f, eqi_t, eqi_f, nei_t, nei_f, rem_uw, conv_ui, conv_iu, conv_ii, not_bool, nil_ptr, fa_mk, ptrV, len_mk, cap_mk, eq_ptr_nil, ne_ptr_nil, eq_nil_nil, ne_nil_nil, eq_slice_nil, eq_nil_slice, ia_1, (fv hh8).2.2.2.2.1, (fw hh8).2.2.2.2.1]; exact so_so) ?_)
      refine use_eqG hv hw hh8 fun h9 hh9 => ?_
      by_cases e3 : v.gs.map gkey = w.gs.map gkey
      · rw [decide_eq_true e3]
        repeat (with_reducible first | refine vP_so ?_ | refine vB_t ?_ | refine vB_f ?_ | refine vE_tt ?_ | refine vE_ff ?_ | refine vE_tf ?_ | refine vE_ft ?_ | refine vE_u ?_ | refine vP_to (by simp (disch := omega) only [gdW_true, gdW_false, gB_true, gB_false, gB_undef, pickV_true, pickV_false, Bool.not_true, Bool.not_false, Option.map_some, bin_add, bin_sub, bin_mul, bin_quo, bin_rem, lss_t, lss_f, leq_t, leq_f, gtr_t, gtr_f, geq_t, geq_f, eqi_t, eqi_f, nei_t, nei_f, rem_uw, conv_ui, conv_iu, conv_ii, not_bool, nil_ptr, fa_mk, ptrV, len_mk, cap_mk, eq_ptr_nil, ne_ptr_nil, eq_nil_nil, ne_nil_nil, eq_slice_nil, eq_nil_slice, ia_1, (fv hh9).2.2.2.2.2.1, (fw hh9).2.2.2.2.2.1]; exact so_so) ?_)
        refine use_eqO hv hw hh9 fun h10 hh10 => ?_
        repeat (with_reducible first | refine vP_so ?_ | refine vB_t ?_ | refine vB_f ?_ | refine vE_tt ?_ | refine vE_ff ?_ | refine vE_tf ?_ | refine vE_ft ?_ | refine vE_u ?_ | refine vP_to (by simp (disch := omega) only [gdW_true, gdW_false, gB_true, gB_false, gB_undef, pickV_true, pickV_false, Bool.not_true, Bool.not_false, Option.map_some, bin_add, bin_sub, bin_mul, bin_quo, bin_rem, lss_t, lss_f, leq_t, leq_f, gtr_t, gtr_f, geq_t, geq_f, eqi_t, eqi_f, nei_t, nei_f, rem_uw, conv_ui, conv_iu, conv_ii, not_bool, nil_ptr, fa_mk, ptrV, len_mk, cap_mk, eq_ptr_nil, ne_ptr_nil, eq_nil_nil, ne_nil_nil, eq_slice_nil, eq_nil_slice, ia_1]; exact so_so) ?_)
        refine fin h10 _ (decide_eq_decide.2 ?_) hh10
        simp [SameP, e1, e2, e3]
      · rw [decide_eq_false e3]
        repeat (with_reducible first | refine vP_so ?_ | refine vB_t ?_ | refine vB_f ?_ | refine vE_tt ?_ | refine vE_ff ?_ | refine vE_tf ?_ | refine vE_ft ?_ | refine vE_u ?_ | refine vP_to (by simp (disch := omega) only [gdW_true, gdW_false, gB_true, gB_false, gB_undef, pickV_true, pickV_false, Bool.not_true, Bool.not_false, Option.map_some, bin_add, bin_sub, bin_mul, bin_quo, bin_rem, lss_t, lss_f, leq_t, leq_f, gtr_t, gtr_f, geq_t, geq_f, eqi_t, eqi_f, nei_t, nei_f, rem_uw, conv_ui, conv_iu, conv_ii, not_bool, nil_ptr, fa_mk, ptrV, len_mk, cap_mk, eq_ptr_nil, ne_ptr_nil, eq_nil_nil, ne_nil_nil, eq_slice_nil, eq_nil_slice, ia_1]; exact so_so) ?_)
        exact fin h9 false (by rw [decide_eq_false]; rintro ⟨_, _, q, _⟩; exact e3 q) hh9
    · rw [decide_eq_false e2]
      repeat (with_reducible first | refine vP_so ?_ | refine vB_t ?_ | refine vB_f ?_ | refine vE_tt ?_ | refine vE_ff ?_ | refine vE_tf ?_ | refine vE_ft ?_ | refine vE_u ?_ | refine vP_to (by simp (disch := omega) only [gdW_true, gdW_false, gB_true, gB_false, gB_undef, pickV_true, pickV_false, Bool.not_true, Bool.not_false, Option.map_some, bin_add, bin_sub, bin_mul, bin_quo, bin_rem, lss_t, lss_f, leq_t, leq_f, gtr_t, gtr_f, geq_t, geq_f, eqi_t, eqi_f, nei_t, nei_f, rem_uw, conv_ui, conv_iu, conv_ii, not_bool, nil_ptr, fa_mk, ptrV, len_mk, cap_mk, eq_ptr_nil, ne_ptr_nil, eq_nil_nil, ne_nil_nil, eq_slice_nil, eq_nil_slice, ia_1]; exact so_so) ?_)
      exact fin h6 false (by rw [decide_eq_false]; rintro ⟨_, q, _⟩; exact e2 q) hh8
  · rw [decide_eq_false e1] at he
    repeat (with_reducible first | refine vP_so ?_ | refine vB_t ?_ | refine vB_f ?_ | refine vE_tt ?_ | refine vE_ff ?_ | refine vE_tf ?_ | refine vE_ft ?_ | refine vE_u ?_ | refine vP_to (by simp (disch := omega) only [gdW_true, gdW_false, gB_true, gB_false, gB_undef, pickV_true, pickV_false, Bool.not_true, Bool.not_false, Option.map_some, bin_add, bin_sub, bin_mul, bin_quo, bin_rem, lss_t, lss_f, leq_t, leq_f, gtr_t, gtr_f, geq_t, geq_f, eqi_t, eqi_f, nei_t, nei_f, rem_uw, conv_ui, conv_iu, conv_ii, not_bool, nil_ptr, fa_mk, ptrV, len_mk, cap_mk, eq_ptr_nil, ne_ptr_nil, eq_nil_nil, ne_nil_nil, eq_slice_nil, eq_nil_slice, ia_1, d7, d8, he]; exact so_so) ?_)
    exact fin h6 false (by rw [decide_eq_false]; rintro ⟨q, _⟩; exact e1 q) hh8

end Go.Proofs

/-
  The document's Same; ViewAsks returns true.
-/
set_option maxRecDepth 100000
set_option maxHeartbeats 4000000
namespace Go.Proofs
open Go.Sl

theorem notSame {v w : VW} (h : ¬ SameP v w) : decide (SameP v w) = false := decide_eq_false h

theorem use_rsame {g : Hp} {v w : VW} {F : Asrt} {K : Value → Hp → Prop} {h : Hp} (hv : VAt g v) (hw : VAt g w) (hh : (own g * (F * tt)) h)
    (hK : ∀ h', (own g * (F * tt)) h' → K (.bool (decide (SameP v w))) h') : CallH Try.prog 40 #[v.val, w.val] K h := by
  refine C40 ?_
  unfold D40
  refine vA_new (o := .cells v.cells 26 (0, 0)) hh fun r2 h1 hh1 => ?_
  refine vA_new (o := .cells w.cells 26 (0, 0)) hh1 fun r3 h2 hh2 => ?_
  have hh2 : (own g * ((pt r2 (.cells v.cells 26 (0, 0)) * pt r3 (.cells w.cells 26 (0, 0)) * F) * tt)) h2 := asr (by ac_rfl) hh2
  have fw := fun {h : Hp} (q : (own g * ((pt r2 (.cells v.cells 26 (0, 0)) * pt r3 (.cells w.cells 26 (0, 0)) * F) * tt)) h) => vw_ld (r := r3) (w := w) (E := 26) (F := pt r2 (.cells v.cells 26 (0, 0)) * (own g * (F * tt))) (asr (by ac_rfl) q)
  have fv := fun {h : Hp} (q : (own g * ((pt r2 (.cells v.cells 26 (0, 0)) * pt r3 (.cells w.cells 26 (0, 0)) * F) * tt)) h) => vw_ld (r := r2) (w := v) (E := 26) (F := pt r3 (.cells w.cells 26 (0, 0)) * (own g * (F * tt))) (asr (by ac_rfl) q)
  have no : ∀ h', ¬ SameP v w → (own g * ((pt r2 (.cells v.cells 26 (0, 0)) * pt r3 (.cells w.cells 26 (0, 0)) * F) * tt)) h' → K (.bool false) h' := fun h' e q => by
    rw [← notSame e]
    exact hK h' (dropL (P := pt r2 (.cells v.cells 26 (0, 0)) * pt r3 (.cells w.cells 26 (0, 0))) (Q := own g * F) (asr (by ac_rfl) q) |> asr (by ac_rfl))
  have yes : ∀ h', SameP v w → (own g * ((pt r2 (.cells v.cells 26 (0, 0)) * pt r3 (.cells w.cells 26 (0, 0)) * F) * tt)) h' → K (.bool true) h' := fun h' e q => by
    rw [← decide_eq_true e]
    exact hK h' (dropL (P := pt r2 (.cells v.cells 26 (0, 0)) * pt r3 (.cells w.cells 26 (0, 0))) (Q := own g * F) (asr (by ac_rfl) q) |> asr (by ac_rfl))
  clear hK
  generalize hG : pt r2 (.cells v.cells 26 (0, 0)) * pt r3 (.cells w.cells 26 (0, 0)) * F = G at *
  have v0 := (fv hh2).1
  have v1 := (fv hh2).2.1
  have v2 := (fv hh2).2.2.1
  have v3 := (fv hh2).2.2.2.1
  have v4 := (fv hh2).2.2.2.2.1
  have v5 := (fv hh2).2.2.2.2.2.1
  have v6 := (fv hh2).2.2.2.2.2.2.1
  have v7 := (fv hh2).2.2.2.2.2.2.2.1
  have v8 := (fv hh2).2.2.2.2.2.2.2.2.1
  have w0 := (fw hh2).1
  have w1 := (fw hh2).2.1
  have w2 := (fw hh2).2.2.1
  have w3 := (fw hh2).2.2.2.1
  have w4 := (fw hh2).2.2.2.2.1
  have w5 := (fw hh2).2.2.2.2.2.1
  have w6 := (fw hh2).2.2.2.2.2.2.1
  have w7 := (fw hh2).2.2.2.2.2.2.2.1
  have w8 := (fw hh2).2.2.2.2.2.2.2.2.1
  have gl := hv.gs_len
  have gl' := hw.gs_len
  have ol := hv.objs_len
  have ol' := hw.objs_len
  have nn : ∀ {p : Prop}, p → (¬ p → SameP v w) → SameP v w → True := fun _ _ _ => trivial
  by_cases e0 : v.phase = w.phase
  rotate_left
  · repeat (with_reducible first | refine vP_so ?_ | refine vB_t ?_ | refine vB_f ?_ | refine vE_tt ?_ | refine vE_ff ?_ | refine vE_tf ?_ | refine vE_ft ?_ | refine vE_u ?_ | refine vP_to (by simp (disch := omega) only [gdW_true, gdW_false, gB_true, gB_false, gB_undef, pickV_true, pickV_false, Bool.not_true, Bool.not_false, Option.map_some, bin_add, bin_sub, bin_mul, bin_quo, bin_rem, lss_t, lss_f, leq_t, leq_f, gtr_t, gtr_f, geq_t, geq_f, eqi_t, eqi_f, nei_t, nei_f, rem_uw, conv_ui, conv_iu, conv_ii, not_bool, nil_ptr, fa_mk, ptrV, len_mk, cap_mk, eq_ptr_nil, ne_ptr_nil, eq_nil_nil, ne_nil_nil, eq_slice_nil, eq_nil_slice, ia_1, v0, w0]; exact so_so) ?_)
    exact no h2 (by rintro ⟨q, _⟩; simp [nums, e0] at q) hh2
  by_cases e1 : v.cycle = w.cycle
  rotate_left
  · repeat (with_reducible first | refine vP_so ?_ | refine vB_t ?_ | refine vB_f ?_ | refine vE_tt ?_ | refine vE_ff ?_ | refine vE_tf ?_ | refine vE_ft ?_ | refine vE_u ?_ | refine vP_to (by simp (disch := omega) only [gdW_true, gdW_false, gB_true, gB_false, gB_undef, pickV_true, pickV_false, Bool.not_true, Bool.not_false, Option.map_some, bin_add, bin_sub, bin_mul, bin_quo, bin_rem, lss_t, lss_f, leq_t, leq_f, gtr_t, gtr_f, geq_t, geq_f, eqi_t, eqi_f, nei_t, nei_f, rem_uw, conv_ui, conv_iu, conv_ii, not_bool, nil_ptr, fa_mk, ptrV, len_mk, cap_mk, eq_ptr_nil, ne_ptr_nil, eq_nil_nil, ne_nil_nil, eq_slice_nil, eq_nil_slice, ia_1, v0, w0, v1, w1]; exact so_so) ?_)
    exact no h2 (by rintro ⟨q, _⟩; simp [nums, e1] at q) hh2
  by_cases e2 : v.clock = w.clock
  rotate_left
  · repeat (with_reducible first | refine vP_so ?_ | refine vB_t ?_ | refine vB_f ?_ | refine vE_tt ?_ | refine vE_ff ?_ | refine vE_tf ?_ | refine vE_ft ?_ | refine vE_u ?_ | refine vP_to (by simp (disch := omega) only [gdW_true, gdW_false, gB_true, gB_false, gB_undef, pickV_true, pickV_false, Bool.not_true, Bool.not_false, Option.map_some, bin_add, bin_sub, bin_mul, bin_quo, bin_rem, lss_t, lss_f, leq_t, leq_f, gtr_t, gtr_f, geq_t, geq_f, eqi_t, eqi_f, nei_t, nei_f, rem_uw, conv_ui, conv_iu, conv_ii, not_bool, nil_ptr, fa_mk, ptrV, len_mk, cap_mk, eq_ptr_nil, ne_ptr_nil, eq_nil_nil, ne_nil_nil, eq_slice_nil, eq_nil_slice, ia_1, v0, w0, v1, w1, v2, w2]; exact so_so) ?_)
    exact no h2 (by rintro ⟨q, _⟩; simp [nums, e2] at q) hh2
  by_cases e6 : v.grey = w.grey
  rotate_left
  · repeat (with_reducible first | refine vP_so ?_ | refine vB_t ?_ | refine vB_f ?_ | refine vE_tt ?_ | refine vE_ff ?_ | refine vE_tf ?_ | refine vE_ft ?_ | refine vE_u ?_ | refine vP_to (by simp (disch := omega) only [gdW_true, gdW_false, gB_true, gB_false, gB_undef, pickV_true, pickV_false, Bool.not_true, Bool.not_false, Option.map_some, bin_add, bin_sub, bin_mul, bin_quo, bin_rem, lss_t, lss_f, leq_t, leq_f, gtr_t, gtr_f, geq_t, geq_f, eqi_t, eqi_f, nei_t, nei_f, rem_uw, conv_ui, conv_iu, conv_ii, not_bool, nil_ptr, fa_mk, ptrV, len_mk, cap_mk, eq_ptr_nil, ne_ptr_nil, eq_nil_nil, ne_nil_nil, eq_slice_nil, eq_nil_slice, ia_1, v0, w0, v1, w1, v2, w2, v6, w6]; exact so_so) ?_)
    exact no h2 (by rintro ⟨q, _⟩; simp [nums, e6] at q) hh2
  by_cases e7 : v.notes = w.notes
  rotate_left
  · repeat (with_reducible first | refine vP_so ?_ | refine vB_t ?_ | refine vB_f ?_ | refine vE_tt ?_ | refine vE_ff ?_ | refine vE_tf ?_ | refine vE_ft ?_ | refine vE_u ?_ | refine vP_to (by simp (disch := omega) only [gdW_true, gdW_false, gB_true, gB_false, gB_undef, pickV_true, pickV_false, Bool.not_true, Bool.not_false, Option.map_some, bin_add, bin_sub, bin_mul, bin_quo, bin_rem, lss_t, lss_f, leq_t, leq_f, gtr_t, gtr_f, geq_t, geq_f, eqi_t, eqi_f, nei_t, nei_f, rem_uw, conv_ui, conv_iu, conv_ii, not_bool, nil_ptr, fa_mk, ptrV, len_mk, cap_mk, eq_ptr_nil, ne_ptr_nil, eq_nil_nil, ne_nil_nil, eq_slice_nil, eq_nil_slice, ia_1, v0, w0, v1, w1, v2, w2, v6, w6, v7, w7]; exact so_so) ?_)
    exact no h2 (by rintro ⟨q, _⟩; simp [nums, e7] at q) hh2
  by_cases e8 : v.roots = w.roots
  rotate_left
  · repeat (with_reducible first | refine vP_so ?_ | refine vB_t ?_ | refine vB_f ?_ | refine vE_tt ?_ | refine vE_ff ?_ | refine vE_tf ?_ | refine vE_ft ?_ | refine vE_u ?_ | refine vP_to (by simp (disch := omega) only [gdW_true, gdW_false, gB_true, gB_false, gB_undef, pickV_true, pickV_false, Bool.not_true, Bool.not_false, Option.map_some, bin_add, bin_sub, bin_mul, bin_quo, bin_rem, lss_t, lss_f, leq_t, leq_f, gtr_t, gtr_f, geq_t, geq_f, eqi_t, eqi_f, nei_t, nei_f, rem_uw, conv_ui, conv_iu, conv_ii, not_bool, nil_ptr, fa_mk, ptrV, len_mk, cap_mk, eq_ptr_nil, ne_ptr_nil, eq_nil_nil, ne_nil_nil, eq_slice_nil, eq_nil_slice, ia_1, v0, w0, v1, w1, v2, w2, v6, w6, v7, w7, v8, w8]; exact so_so) ?_)
    exact no h2 (by rintro ⟨q, _⟩; simp [nums, e8] at q) hh2
  have hn : nums v = nums w := by simp [nums, e0, e1, e2, e6, e7, e8]
  repeat (with_reducible first | refine vP_so ?_ | refine vB_t ?_ | refine vB_f ?_ | refine vE_tt ?_ | refine vE_ff ?_ | refine vE_tf ?_ | refine vE_ft ?_ | refine vE_u ?_ | refine vP_to (by simp (disch := omega) only [gdW_true, gdW_false, gB_true, gB_false, gB_undef, pickV_true, pickV_false, Bool.not_true, Bool.not_false, Option.map_some, bin_add, bin_sub, bin_mul, bin_quo, bin_rem, lss_t, lss_f, leq_t, leq_f, gtr_t, gtr_f, geq_t, geq_f, eqi_t, eqi_f, nei_t, nei_f, rem_uw, conv_ui, conv_iu, conv_ii, not_bool, nil_ptr, fa_mk, ptrV, len_mk, cap_mk, eq_ptr_nil, ne_ptr_nil, eq_nil_nil, ne_nil_nil, eq_slice_nil, eq_nil_slice, ia_1, v0, w0, v1, w1, v2, w2, v6, w6, v7, w7, v8, w8, v3, w3]; exact so_so) ?_)
  refine use_ints (own_ints hh2 hv.glob) (own_ints hh2 hw.glob) ?_
  by_cases e3 : v.globals = w.globals
  rotate_left
  · rw [decide_eq_false e3]
    repeat (with_reducible first | refine vP_so ?_ | refine vB_t ?_ | refine vB_f ?_ | refine vE_tt ?_ | refine vE_ff ?_ | refine vE_tf ?_ | refine vE_ft ?_ | refine vE_u ?_ | refine vP_to (by simp (disch := omega) only [gdW_true, gdW_false, gB_true, gB_false, gB_undef, pickV_true, pickV_false, Bool.not_true, Bool.not_false, Option.map_some, bin_add, bin_sub, bin_mul, bin_quo, bin_rem, lss_t, lss_f, leq_t, leq_f, gtr_t, gtr_f, geq_t, geq_f, eqi_t, eqi_f, nei_t, nei_f, rem_uw, conv_ui, conv_iu, conv_ii, not_bool, nil_ptr, fa_mk, ptrV, len_mk, cap_mk, eq_ptr_nil, ne_ptr_nil, eq_nil_nil, ne_nil_nil, eq_slice_nil, eq_nil_slice, ia_1]; exact so_so) ?_)
    exact no h2 (by rintro ⟨_, q, _⟩; exact e3 q) hh2
  rw [decide_eq_true e3]
  by_cases e4 : v.gs.length = w.gs.length
  rotate_left
  · repeat (with_reducible first | refine vP_so ?_ | refine vB_t ?_ | refine vB_f ?_ | refine vE_tt ?_ | refine vE_ff ?_ | refine vE_tf ?_ | refine vE_ft ?_ | refine vE_u ?_ | refine vP_to (by simp (disch := omega) only [gdW_true, gdW_false, gB_true, gB_false, gB_undef, pickV_true, pickV_false, Bool.not_true, Bool.not_false, Option.map_some, bin_add, bin_sub, bin_mul, bin_quo, bin_rem, lss_t, lss_f, leq_t, leq_f, gtr_t, gtr_f, geq_t, geq_f, eqi_t, eqi_f, nei_t, nei_f, rem_uw, conv_ui, conv_iu, conv_ii, not_bool, nil_ptr, fa_mk, ptrV, len_mk, cap_mk, eq_ptr_nil, ne_ptr_nil, eq_nil_nil, ne_nil_nil, eq_slice_nil, eq_nil_slice, ia_1, v4, w4, gl.1, gl'.1]; exact so_so) ?_)
    exact no h2 (by rintro ⟨_, _, q, _⟩; exact e4 (by simpa using congrArg List.length q)) hh2
  by_cases e5 : v.objs.length = w.objs.length
  rotate_left
  · repeat (with_reducible first | refine vP_so ?_ | refine vB_t ?_ | refine vB_f ?_ | refine vE_tt ?_ | refine vE_ff ?_ | refine vE_tf ?_ | refine vE_ft ?_ | refine vE_u ?_ | refine vP_to (by simp (disch := omega) only [gdW_true, gdW_false, gB_true, gB_false, gB_undef, pickV_true, pickV_false, Bool.not_true, Bool.not_false, Option.map_some, bin_add, bin_sub, bin_mul, bin_quo, bin_rem, lss_t, lss_f, leq_t, leq_f, gtr_t, gtr_f, geq_t, geq_f, eqi_t, eqi_f, nei_t, nei_f, rem_uw, conv_ui, conv_iu, conv_ii, not_bool, nil_ptr, fa_mk, ptrV, len_mk, cap_mk, eq_ptr_nil, ne_ptr_nil, eq_nil_nil, ne_nil_nil, eq_slice_nil, eq_nil_slice, ia_1, v4, w4, gl.1, gl'.1, v5, w5, ol.1, ol'.1]; exact so_so) ?_)
    exact no h2 (by rintro ⟨_, _, _, q⟩; exact e5 (by simpa using congrArg List.length q)) hh2
  repeat (with_reducible first | refine vP_so ?_ | refine vB_t ?_ | refine vB_f ?_ | refine vE_tt ?_ | refine vE_ff ?_ | refine vE_tf ?_ | refine vE_ft ?_ | refine vE_u ?_ | refine vP_to (by simp (disch := omega) only [gdW_true, gdW_false, gB_true, gB_false, gB_undef, pickV_true, pickV_false, Bool.not_true, Bool.not_false, Option.map_some, bin_add, bin_sub, bin_mul, bin_quo, bin_rem, lss_t, lss_f, leq_t, leq_f, gtr_t, gtr_f, geq_t, geq_f, eqi_t, eqi_f, nei_t, nei_f, rem_uw, conv_ui, conv_iu, conv_ii, not_bool, nil_ptr, fa_mk, ptrV, len_mk, cap_mk, eq_ptr_nil, ne_ptr_nil, eq_nil_nil, ne_nil_nil, eq_slice_nil, eq_nil_slice, ia_1, v4, w4, gl.1, gl'.1, v5, w5, ol.1, ol'.1]; exact so_so) ?_)
  refine ⟨fun m zs h' => ∃ i : Nat, zs = [.int .i64 i] ∧ m = v.gs.length - i ∧ i ≤ v.gs.length ∧ (v.gs.take i).map gkey = (w.gs.take i).map gkey ∧ h' = h2, ⟨_, 0, rfl, rfl, by omega, by simp, rfl⟩, ?_⟩
  rintro m v5' h3 ⟨i, hzs, rfl, hi, ht, rfl⟩ _
  obtain rfl : v5' = .int .i64 i := by simpa using hzs
  by_cases hil : i < v.gs.length
  · have hoi : v.gs[i]? = some v.gs[i] := List.getElem?_eq_getElem hil
    have hoj : w.gs[i]? = some w.gs[i] := List.getElem?_eq_getElem (by omega)
    obtain ⟨h4, h5⟩ := map_step (f := gkey) hoi hoj ht
    obtain ⟨b, q, a1, a2, a3, a4, _⟩ := (own_vat hh2 hv).gor hoi .i64
    obtain ⟨b', q', c1, c2, c3, c4, _⟩ := (own_vat hh2 hw).gor hoj .i64
    have s1 := own_ints hh2 (hv.stacks v.gs[i] (List.getElem_mem hil))
    have s2 := own_ints hh2 (hw.stacks w.gs[i] (List.getElem_mem (by omega)))
    generalize v.gs[i] = x at *
    generalize w.gs[i] = y at *
    have bad : gkey x ≠ gkey y → K (.bool false) h3 := fun e => no h3 (by rintro ⟨_, _, q, _⟩; exact h5 e q) hh2
    by_cases f1 : x.st = y.st
    · by_cases f2 : x.p = y.p
      · repeat (with_reducible first | refine vP_so ?_ | refine vB_t ?_ | refine vB_f ?_ | refine vE_tt ?_ | refine vE_ff ?_ | refine vE_tf ?_ | refine vE_ft ?_ | refine vE_u ?_ | refine vP_to (by simp (disch := omega) only [gdW_true, gdW_false, gB_true, gB_false, gB_undef, pickV_true, pickV_false, Bool.not_true, Bool.not_false, Option.map_some, bin_add, bin_sub, bin_mul, bin_quo, bin_rem, lss_t, lss_f, leq_t, leq_f, gtr_t, gtr_f, geq_t, geq_f, eqi_t, eqi_f, nei_t, nei_f, rem_uw, conv_ui, conv_iu, conv_ii, not_bool, nil_ptr, fa_mk, ptrV, len_mk, cap_mk, eq_ptr_nil, ne_ptr_nil, eq_nil_nil, ne_nil_nil, eq_slice_nil, eq_nil_slice, ia_1, v4, w4, gl.1, gl'.1, a1, a2, a3, a4, c1, c2, c3, c4]; exact so_so) ?_)
        refine use_ints s1 s2 ?_
        by_cases f3 : x.stack = y.stack
        · rw [decide_eq_true f3]
          repeat (with_reducible first | refine vP_so ?_ | refine vB_t ?_ | refine vB_f ?_ | refine vE_tt ?_ | refine vE_ff ?_ | refine vE_tf ?_ | refine vE_ft ?_ | refine vE_u ?_ | refine vP_to (by simp (disch := omega) only [gdW_true, gdW_false, gB_true, gB_false, gB_undef, pickV_true, pickV_false, Bool.not_true, Bool.not_false, Option.map_some, bin_add, bin_sub, bin_mul, bin_quo, bin_rem, lss_t, lss_f, leq_t, leq_f, gtr_t, gtr_f, geq_t, geq_f, eqi_t, eqi_f, nei_t, nei_f, rem_uw, conv_ui, conv_iu, conv_ii, not_bool, nil_ptr, fa_mk, ptrV, len_mk, cap_mk, eq_ptr_nil, ne_ptr_nil, eq_nil_nil, ne_nil_nil, eq_slice_nil, eq_nil_slice, ia_1]; exact so_so) ?_)
          exact ⟨v.gs.length - (i + 1), by omega, i + 1, by simp, rfl, by omega, h4.2 (by simp [gkey, f1, f2, f3]), rfl⟩
        · rw [decide_eq_false f3]
          repeat (with_reducible first | refine vP_so ?_ | refine vB_t ?_ | refine vB_f ?_ | refine vE_tt ?_ | refine vE_ff ?_ | refine vE_tf ?_ | refine vE_ft ?_ | refine vE_u ?_ | refine vP_to (by simp (disch := omega) only [gdW_true, gdW_false, gB_true, gB_false, gB_undef, pickV_true, pickV_false, Bool.not_true, Bool.not_false, Option.map_some, bin_add, bin_sub, bin_mul, bin_quo, bin_rem, lss_t, lss_f, leq_t, leq_f, gtr_t, gtr_f, geq_t, geq_f, eqi_t, eqi_f, nei_t, nei_f, rem_uw, conv_ui, conv_iu, conv_ii, not_bool, nil_ptr, fa_mk, ptrV, len_mk, cap_mk, eq_ptr_nil, ne_ptr_nil, eq_nil_nil, ne_nil_nil, eq_slice_nil, eq_nil_slice, ia_1]; exact so_so) ?_)
          exact bad (by simp [gkey, f3])
      · repeat (with_reducible first | refine vP_so ?_ | refine vB_t ?_ | refine vB_f ?_ | refine vE_tt ?_ | refine vE_ff ?_ | refine vE_tf ?_ | refine vE_ft ?_ | refine vE_u ?_ | refine vP_to (by simp (disch := omega) only [gdW_true, gdW_false, gB_true, gB_false, gB_undef, pickV_true, pickV_false, Bool.not_true, Bool.not_false, Option.map_some, bin_add, bin_sub, bin_mul, bin_quo, bin_rem, lss_t, lss_f, leq_t, leq_f, gtr_t, gtr_f, geq_t, geq_f, eqi_t, eqi_f, nei_t, nei_f, rem_uw, conv_ui, conv_iu, conv_ii, not_bool, nil_ptr, fa_mk, ptrV, len_mk, cap_mk, eq_ptr_nil, ne_ptr_nil, eq_nil_nil, ne_nil_nil, eq_slice_nil, eq_nil_slice, ia_1, v4, w4, gl.1, gl'.1, a1, a2, a3, a4, c1, c2, c3, c4]; exact so_so) ?_)
        exact bad (by simp [gkey, f2])
    · repeat (with_reducible first | refine vP_so ?_ | refine vB_t ?_ | refine vB_f ?_ | refine vE_tt ?_ | refine vE_ff ?_ | refine vE_tf ?_ | refine vE_ft ?_ | refine vE_u ?_ | refine vP_to (by simp (disch := omega) only [gdW_true, gdW_false, gB_true, gB_false, gB_undef, pickV_true, pickV_false, Bool.not_true, Bool.not_false, Option.map_some, bin_add, bin_sub, bin_mul, bin_quo, bin_rem, lss_t, lss_f, leq_t, leq_f, gtr_t, gtr_f, geq_t, geq_f, eqi_t, eqi_f, nei_t, nei_f, rem_uw, conv_ui, conv_iu, conv_ii, not_bool, nil_ptr, fa_mk, ptrV, len_mk, cap_mk, eq_ptr_nil, ne_ptr_nil, eq_nil_nil, ne_nil_nil, eq_slice_nil, eq_nil_slice, ia_1, v4, w4, gl.1, gl'.1, a1, a2, a3, a4, c1, c2, c3, c4]; exact so_so) ?_)
      exact bad (by simp [gkey, f1])
  obtain rfl : i = v.gs.length := by omega
  rw [List.take_length, e4, List.take_length] at ht
  repeat (with_reducible first | refine vP_so ?_ | refine vB_t ?_ | refine vB_f ?_ | refine vE_tt ?_ | refine vE_ff ?_ | refine vE_tf ?_ | refine vE_ft ?_ | refine vE_u ?_ | refine vP_to (by simp (disch := omega) only [gdW_true, gdW_false, gB_true, gB_false, gB_undef, pickV_true, pickV_false, Bool.not_true, Bool.not_false, Option.map_some, bin_add, bin_sub, bin_mul, bin_quo, bin_rem, lss_t, lss_f, leq_t, leq_f, gtr_t, gtr_f, geq_t, geq_f, eqi_t, eqi_f, nei_t, nei_f, rem_uw, conv_ui, conv_iu, conv_ii, not_bool, nil_ptr, fa_mk, ptrV, len_mk, cap_mk, eq_ptr_nil, ne_ptr_nil, eq_nil_nil, ne_nil_nil, eq_slice_nil, eq_nil_slice, ia_1, v4, w4, gl.1, gl'.1]; exact so_so) ?_)
  refine ⟨fun m zs h' => ∃ i : Nat, zs = [.int .i64 i] ∧ m = v.objs.length - i ∧ i ≤ v.objs.length ∧ (v.objs.take i).map okey = (w.objs.take i).map okey ∧ (own g * (G * tt)) h', ⟨_, 0, rfl, rfl, by omega, by simp, hh2⟩, ?_⟩
  clear v0 v1 v2 v3 v4 v5 v6 v7 v8 w0 w1 w2 w3 w4 w5 w6 w7 w8 hh2
  rintro m v6' h4 ⟨i, hzs, rfl, hi, hto, hh2⟩ _
  obtain rfl : v6' = .int .i64 i := by simpa using hzs
  have v5 := (fv hh2).2.2.2.2.2.1
  have w5 := (fw hh2).2.2.2.2.2.1
  by_cases hil : i < v.objs.length
  · have hoi : v.objs[i]? = some v.objs[i] := List.getElem?_eq_getElem hil
    have hoj : w.objs[i]? = some w.objs[i] := List.getElem?_eq_getElem (by omega)
    obtain ⟨h4', h5⟩ := map_step (f := okey) hoi hoj hto
    obtain ⟨b, q, a1, _, _, _, a5⟩ := (own_vat hh2 hv).obj hoi .i64
    obtain ⟨b', q', c1, _, _, _, c5⟩ := (own_vat hh2 hw).obj hoj .i64
    have z1 := hv.slots v.objs[i] (List.getElem_mem hil)
    have z2 := hw.slots w.objs[i] (List.getElem_mem (by omega))
    generalize v.objs[i] = x at *
    generalize hy : w.objs[i] = y at *
    repeat (with_reducible first | refine vP_so ?_ | refine vB_t ?_ | refine vB_f ?_ | refine vE_tt ?_ | refine vE_ff ?_ | refine vE_tf ?_ | refine vE_ft ?_ | refine vE_u ?_ | refine vP_to (by simp (disch := omega) only [gdW_true, gdW_false, gB_true, gB_false, gB_undef, pickV_true, pickV_false, Bool.not_true, Bool.not_false, Option.map_some, bin_add, bin_sub, bin_mul, bin_quo, bin_rem, lss_t, lss_f, leq_t, leq_f, gtr_t, gtr_f, geq_t, geq_f, eqi_t, eqi_f, nei_t, nei_f, rem_uw, conv_ui, conv_iu, conv_ii, not_bool, nil_ptr, fa_mk, ptrV, len_mk, cap_mk, eq_ptr_nil, ne_ptr_nil, eq_nil_nil, ne_nil_nil, eq_slice_nil, eq_nil_slice, ia_1, v5, w5, ol.1, ol'.1, a1, a5, c1, c5]; exact so_so) ?_)
    refine vA_new hh2 fun r7 h5' hh5 => ?_
    refine vA_new hh5 fun r8 h6 hh6 => ?_
    have hh6 : (pt r7 (.cells #[.int .i64 0, .slice none 0 0, .bool false] 30 (0, 0)) * (pt r8 (.cells #[.int .i64 0, .slice none 0 0, .bool false] 30 (0, 0)) * (own g * (G * tt)))) h6 := asr (by ac_rfl) hh6
    refine stN_mk (cs := #[.int .i64 x.addr, x.sv, .bool x.marked]) hh6 (one_ob z1) rfl (by simp) fun h7 hh7 => ?_
    have hh7 : (pt r7 (.cells #[.int .i64 x.addr, x.sv, .bool x.marked] 30 (0, 0)) * (pt r8 (.cells #[.int .i64 0, .slice none 0 0, .bool false] 30 (0, 0)) * (own g * (G * tt)))) h7 := hh7
    have hh7o : (own g * ((pt r7 (.cells #[.int .i64 x.addr, x.sv, .bool x.marked] 30 (0, 0)) * pt r8 (.cells #[.int .i64 0, .slice none 0 0, .bool false] 30 (0, 0)) * G) * tt)) h7 := asr (by ac_rfl) hh7
    obtain ⟨b2, q2, d1, _, _, _, d5⟩ := (own_vat hh7o hw).obj hoj .i64
    rw [d1] at c1
    simp only [Option.some.injEq, Value.pointer.injEq, Addr.mk.injEq] at c1
    obtain ⟨rfl, rfl, _⟩ := c1
    have w5b := (vw_ld (r := r3) (w := w) (E := 26) (F := pt r7 (.cells #[.int .i64 x.addr, x.sv, .bool x.marked] 30 (0, 0)) * (pt r8 (.cells #[.int .i64 0, .slice none 0 0, .bool false] 30 (0, 0)) * (pt r2 (.cells v.cells 26 (0, 0)) * (own g * (F * tt))))) (asr (by rw [← hG]; ac_rfl) hh7)).2.2.2.2.2.1
    refine ⟨d5, w5b, ?_⟩
    have hh8 : (pt r8 (.cells #[.int .i64 0, .slice none 0 0, .bool false] 30 (0, 0)) * (pt r7 (.cells #[.int .i64 x.addr, x.sv, .bool x.marked] 30 (0, 0)) * (own g * (G * tt)))) h7 := asr (by ac_rfl) hh7
    refine stN_mk (cs := #[.int .i64 y.addr, y.sv, .bool y.marked]) hh8 (one_ob z2) rfl (by simp) fun h8 hh9 => ?_
    have hh9 : (pt r8 (.cells #[.int .i64 y.addr, y.sv, .bool y.marked] 30 (0, 0)) * (pt r7 (.cells #[.int .i64 x.addr, x.sv, .bool x.marked] 30 (0, 0)) * (own g * (G * tt)))) h8 := hh9
    have hh9' : (pt r7 (.cells #[.int .i64 x.addr, x.sv, .bool x.marked] 30 (0, 0)) * (pt r8 (.cells #[.int .i64 y.addr, y.sv, .bool y.marked] 30 (0, 0)) * (own g * (G * tt)))) h8 := asr (by ac_rfl) hh9
    have y0 : ld1 (.pointer (some ⟨r8, 0 + 0, none⟩)) h8 = some (.int .i64 y.addr) := ld1_mk (pt_get hh9) rfl
    have y1 : ld1 (.pointer (some ⟨r8, 0 + 1, none⟩)) h8 = some y.sv := ld1_mk (pt_get hh9) rfl
    have y2 : ld1 (.pointer (some ⟨r8, 0 + 2, none⟩)) h8 = some (.bool y.marked) := ld1_mk (pt_get hh9) rfl
    have x0 : ld1 (.pointer (some ⟨r7, 0 + 0, none⟩)) h8 = some (.int .i64 x.addr) := ld1_mk (pt_get hh9') rfl
    have x1 : ld1 (.pointer (some ⟨r7, 0 + 1, none⟩)) h8 = some x.sv := ld1_mk (pt_get hh9') rfl
    have x2 : ld1 (.pointer (some ⟨r7, 0 + 2, none⟩)) h8 = some (.bool x.marked) := ld1_mk (pt_get hh9') rfl
    have hd : (own g * (G * tt)) h8 := dropL (P := pt r8 (.cells #[.int .i64 y.addr, y.sv, .bool y.marked] 30 (0, 0)) * pt r7 (.cells #[.int .i64 x.addr, x.sv, .bool x.marked] 30 (0, 0))) (Q := own g * G) (asr (by ac_rfl) hh9) |> asr (by ac_rfl)
    have bad : okey x ≠ okey y → K (.bool false) h8 := fun e => no h8 (by rintro ⟨_, _, _, q⟩; exact h5 e q) hd
    by_cases f1 : x.addr = y.addr
    · by_cases f2 : x.marked = y.marked
      · have qq : eqV 2 true (.bool x.marked) (.bool y.marked) = some (.bool false) := by rw [ne_bool]; simp [f2]
        repeat (with_reducible first | refine vP_so ?_ | refine vB_t ?_ | refine vB_f ?_ | refine vE_tt ?_ | refine vE_ff ?_ | refine vE_tf ?_ | refine vE_ft ?_ | refine vE_u ?_ | refine vP_to (by simp (disch := omega) only [gdW_true, gdW_false, gB_true, gB_false, gB_undef, pickV_true, pickV_false, Bool.not_true, Bool.not_false, Option.map_some, bin_add, bin_sub, bin_mul, bin_quo, bin_rem, lss_t, lss_f, leq_t, leq_f, gtr_t, gtr_f, geq_t, geq_f, eqi_t, eqi_f, nei_t, nei_f, rem_uw, conv_ui, conv_iu, conv_ii, not_bool, nil_ptr, fa_mk, ptrV, len_mk, cap_mk, eq_ptr_nil, ne_ptr_nil, eq_nil_nil, ne_nil_nil, eq_slice_nil, eq_nil_slice, ia_1, x0, x1, x2, y0, y1, y2, qq]; exact so_so) ?_)
        refine use_ints (own_ints hd z1) (own_ints hd z2) ?_
        by_cases f3 : x.slots = y.slots
        · rw [decide_eq_true f3]
          repeat (with_reducible first | refine vP_so ?_ | refine vB_t ?_ | refine vB_f ?_ | refine vE_tt ?_ | refine vE_ff ?_ | refine vE_tf ?_ | refine vE_ft ?_ | refine vE_u ?_ | refine vP_to (by simp (disch := omega) only [gdW_true, gdW_false, gB_true, gB_false, gB_undef, pickV_true, pickV_false, Bool.not_true, Bool.not_false, Option.map_some, bin_add, bin_sub, bin_mul, bin_quo, bin_rem, lss_t, lss_f, leq_t, leq_f, gtr_t, gtr_f, geq_t, geq_f, eqi_t, eqi_f, nei_t, nei_f, rem_uw, conv_ui, conv_iu, conv_ii, not_bool, nil_ptr, fa_mk, ptrV, len_mk, cap_mk, eq_ptr_nil, ne_ptr_nil, eq_nil_nil, ne_nil_nil, eq_slice_nil, eq_nil_slice, ia_1]; exact so_so) ?_)
          exact ⟨v.objs.length - (i + 1), by omega, i + 1, by simp, rfl, by omega, h4'.2 (by simp [okey, f1, f2, f3]), hd⟩
        · rw [decide_eq_false f3]
          repeat (with_reducible first | refine vP_so ?_ | refine vB_t ?_ | refine vB_f ?_ | refine vE_tt ?_ | refine vE_ff ?_ | refine vE_tf ?_ | refine vE_ft ?_ | refine vE_u ?_ | refine vP_to (by simp (disch := omega) only [gdW_true, gdW_false, gB_true, gB_false, gB_undef, pickV_true, pickV_false, Bool.not_true, Bool.not_false, Option.map_some, bin_add, bin_sub, bin_mul, bin_quo, bin_rem, lss_t, lss_f, leq_t, leq_f, gtr_t, gtr_f, geq_t, geq_f, eqi_t, eqi_f, nei_t, nei_f, rem_uw, conv_ui, conv_iu, conv_ii, not_bool, nil_ptr, fa_mk, ptrV, len_mk, cap_mk, eq_ptr_nil, ne_ptr_nil, eq_nil_nil, ne_nil_nil, eq_slice_nil, eq_nil_slice, ia_1]; exact so_so) ?_)
          exact bad (by simp [okey, f3])
      · have qq : eqV 2 true (.bool x.marked) (.bool y.marked) = some (.bool true) := by rw [ne_bool]; simp [f2]
        repeat (with_reducible first | refine vP_so ?_ | refine vB_t ?_ | refine vB_f ?_ | refine vE_tt ?_ | refine vE_ff ?_ | refine vE_tf ?_ | refine vE_ft ?_ | refine vE_u ?_ | refine vP_to (by simp (disch := omega) only [gdW_true, gdW_false, gB_true, gB_false, gB_undef, pickV_true, pickV_false, Bool.not_true, Bool.not_false, Option.map_some, bin_add, bin_sub, bin_mul, bin_quo, bin_rem, lss_t, lss_f, leq_t, leq_f, gtr_t, gtr_f, geq_t, geq_f, eqi_t, eqi_f, nei_t, nei_f, rem_uw, conv_ui, conv_iu, conv_ii, not_bool, nil_ptr, fa_mk, ptrV, len_mk, cap_mk, eq_ptr_nil, ne_ptr_nil, eq_nil_nil, ne_nil_nil, eq_slice_nil, eq_nil_slice, ia_1, x0, x1, x2, y0, y1, y2, qq]; exact so_so) ?_)
        exact bad (by simp [okey, f2])
    · repeat (with_reducible first | refine vP_so ?_ | refine vB_t ?_ | refine vB_f ?_ | refine vE_tt ?_ | refine vE_ff ?_ | refine vE_tf ?_ | refine vE_ft ?_ | refine vE_u ?_ | refine vP_to (by simp (disch := omega) only [gdW_true, gdW_false, gB_true, gB_false, gB_undef, pickV_true, pickV_false, Bool.not_true, Bool.not_false, Option.map_some, bin_add, bin_sub, bin_mul, bin_quo, bin_rem, lss_t, lss_f, leq_t, leq_f, gtr_t, gtr_f, geq_t, geq_f, eqi_t, eqi_f, nei_t, nei_f, rem_uw, conv_ui, conv_iu, conv_ii, not_bool, nil_ptr, fa_mk, ptrV, len_mk, cap_mk, eq_ptr_nil, ne_ptr_nil, eq_nil_nil, ne_nil_nil, eq_slice_nil, eq_nil_slice, ia_1, x0, x1, x2, y0, y1, y2]; exact so_so) ?_)
      exact bad (by simp [okey, f1])
  obtain rfl : i = v.objs.length := by omega
  rw [List.take_length, e5, List.take_length] at hto
  repeat (with_reducible first | refine vP_so ?_ | refine vB_t ?_ | refine vB_f ?_ | refine vE_tt ?_ | refine vE_ff ?_ | refine vE_tf ?_ | refine vE_ft ?_ | refine vE_u ?_ | refine vP_to (by simp (disch := omega) only [gdW_true, gdW_false, gB_true, gB_false, gB_undef, pickV_true, pickV_false, Bool.not_true, Bool.not_false, Option.map_some, bin_add, bin_sub, bin_mul, bin_quo, bin_rem, lss_t, lss_f, leq_t, leq_f, gtr_t, gtr_f, geq_t, geq_f, eqi_t, eqi_f, nei_t, nei_f, rem_uw, conv_ui, conv_iu, conv_ii, not_bool, nil_ptr, fa_mk, ptrV, len_mk, cap_mk, eq_ptr_nil, ne_ptr_nil, eq_nil_nil, ne_nil_nil, eq_slice_nil, eq_nil_slice, ia_1, v5, w5, ol.1, ol'.1]; exact so_so) ?_)
  exact yes h4 ⟨hn, e3, ht, hto⟩ hh2

theorem asks_tr (g : Hp) (v w : VW) (addr : Int) (hv : VAt g v) (hav : ∀ o ∈ v.objs, o.addr ≤ 9223372036854775807) (hw : VAt g w) (haw : ∀ o ∈ w.objs, o.addr ≤ 9223372036854775807) :
    Tr Try.prog 10 #[v.val, w.val, .int .i64 addr] (own g) (fun v => pr (v = .bool true) * own g) := by
  refine Tr.of fun h hh => C10 ?_
  unfold D10
  have hh : (own g * (emp * tt)) h := asr (by rw [emp_star]) hh
  refine vA_new (o := .cells v.cells 26 (0, 0)) hh fun r1 h1 hh1 => ?_
  refine vA_new (o := .cells w.cells 26 (0, 0)) hh1 fun r2 h2 hh2 => ?_
  have hh2 : (own g * ((pt r1 (.cells v.cells 26 (0, 0)) * pt r2 (.cells w.cells 26 (0, 0))) * tt)) h2 := asr (by rw [emp_star]; ac_rfl) hh2
  have lv : ∀ {h} {X : Asrt}, (X * (own g * ((pt r1 (.cells v.cells 26 (0, 0)) * pt r2 (.cells w.cells 26 (0, 0))) * tt))) h → ldN 9 (.pointer (some ⟨r1, 0, none⟩)) h = some v.val := fun {h X} q => (vw_ld (r := r1) (w := v) (E := 26) (F := X * (own g * (pt r2 (.cells w.cells 26 (0, 0)) * tt))) (asr (by ac_rfl) q)).2.2.2.2.2.2.2.2.2
  have lw : ∀ {h} {X : Asrt}, (X * (own g * ((pt r1 (.cells v.cells 26 (0, 0)) * pt r2 (.cells w.cells 26 (0, 0))) * tt))) h → ldN 9 (.pointer (some ⟨r2, 0, none⟩)) h = some w.val := fun {h X} q => (vw_ld (r := r2) (w := w) (E := 26) (F := X * (own g * (pt r1 (.cells v.cells 26 (0, 0)) * tt))) (asr (by ac_rfl) q)).2.2.2.2.2.2.2.2.2
  have e0 : ∀ {h}, (own g * ((pt r1 (.cells v.cells 26 (0, 0)) * pt r2 (.cells w.cells 26 (0, 0))) * tt)) h → (emp * (own g * ((pt r1 (.cells v.cells 26 (0, 0)) * pt r2 (.cells w.cells 26 (0, 0))) * tt))) h := fun q => asr (by rw [emp_star]) q
  have fin : ∀ h', (own g * ((pt r1 (.cells v.cells 26 (0, 0)) * pt r2 (.cells w.cells 26 (0, 0))) * tt)) h' → ((pr (Value.bool true = Value.bool true) * own g) * tt) h' := fun h' q => ret rfl (dropL (P := pt r1 (.cells v.cells 26 (0, 0)) * pt r2 (.cells w.cells 26 (0, 0))) (Q := own g) (asr (by ac_rfl) q))
  generalize hG : pt r1 (.cells v.cells 26 (0, 0)) * pt r2 (.cells w.cells 26 (0, 0)) = G at *
  have told : ∀ {h : Hp} {K : Value → Hp → Prop}, (own g * (G * tt)) h → (∀ h', (own g * (G * tt)) h' → K (.bool true) h') → CallH Try.prog 13 #[] K h := fun q k => use_told29 (F := own g * G) (asr (by ac_rfl) q) fun h' q' => k h' (asr (by ac_rfl) q')
  repeat (with_reducible first | refine vP_so ?_ | refine vB_t ?_ | refine vB_f ?_ | refine vE_tt ?_ | refine vE_ff ?_ | refine vE_tf ?_ | refine vE_ft ?_ | refine vE_u ?_ | refine vP_to (by simp (disch := omega) only [gdW_true, gdW_false, gB_true, gB_false, gB_undef, pickV_true, pickV_false, Bool.not_true, Bool.not_false, Option.map_some, bin_add, bin_sub, bin_mul, bin_quo, bin_rem, lss_t, lss_f, leq_t, leq_f, gtr_t, gtr_f, geq_t, geq_f, eqi_t, eqi_f, nei_t, nei_f, rem_uw, conv_ui, conv_iu, conv_ii, not_bool, nil_ptr, fa_mk, ptrV, len_mk, cap_mk, eq_ptr_nil, ne_ptr_nil, eq_nil_nil, ne_nil_nil, eq_slice_nil, eq_nil_slice, ia_1, lv (e0 hh2)]; exact so_so) ?_)
  refine use_few hv hh2 fun b h3 hb hh3 => ?_
  cases b with
  | false =>
    repeat (with_reducible first | refine vP_so ?_ | refine vB_t ?_ | refine vB_f ?_ | refine vE_tt ?_ | refine vE_ff ?_ | refine vE_tf ?_ | refine vE_ft ?_ | refine vE_u ?_ | refine vP_to (by simp (disch := omega) only [gdW_true, gdW_false, gB_true, gB_false, gB_undef, pickV_true, pickV_false, Bool.not_true, Bool.not_false, Option.map_some, bin_add, bin_sub, bin_mul, bin_quo, bin_rem, lss_t, lss_f, leq_t, leq_f, gtr_t, gtr_f, geq_t, geq_f, eqi_t, eqi_f, nei_t, nei_f, rem_uw, conv_ui, conv_iu, conv_ii, not_bool, nil_ptr, fa_mk, ptrV, len_mk, cap_mk, eq_ptr_nil, ne_ptr_nil, eq_nil_nil, ne_nil_nil, eq_slice_nil, eq_nil_slice, ia_1]; exact so_so) ?_)
    exact told hh3 fun h4 hh4 => fin h4 hh4
  | true =>
  have hs := (hb rfl).small hav
  repeat (with_reducible first | refine vP_so ?_ | refine vB_t ?_ | refine vB_f ?_ | refine vE_tt ?_ | refine vE_ff ?_ | refine vE_tf ?_ | refine vE_ft ?_ | refine vE_u ?_ | refine vP_to (by simp (disch := omega) only [gdW_true, gdW_false, gB_true, gB_false, gB_undef, pickV_true, pickV_false, Bool.not_true, Bool.not_false, Option.map_some, bin_add, bin_sub, bin_mul, bin_quo, bin_rem, lss_t, lss_f, leq_t, leq_f, gtr_t, gtr_f, geq_t, geq_f, eqi_t, eqi_f, nei_t, nei_f, rem_uw, conv_ui, conv_iu, conv_ii, not_bool, nil_ptr, fa_mk, ptrV, len_mk, cap_mk, eq_ptr_nil, ne_ptr_nil, eq_nil_nil, ne_nil_nil, eq_slice_nil, eq_nil_slice, ia_1, lw (e0 hh3)]; exact so_so) ?_)
  refine use_few hw hh3 fun b2 h4 hb2 hh4 => ?_
  cases b2 with
  | false =>
    repeat (with_reducible first | refine vP_so ?_ | refine vB_t ?_ | refine vB_f ?_ | refine vE_tt ?_ | refine vE_ff ?_ | refine vE_tf ?_ | refine vE_ft ?_ | refine vE_u ?_ | refine vP_to (by simp (disch := omega) only [gdW_true, gdW_false, gB_true, gB_false, gB_undef, pickV_true, pickV_false, Bool.not_true, Bool.not_false, Option.map_some, bin_add, bin_sub, bin_mul, bin_quo, bin_rem, lss_t, lss_f, leq_t, leq_f, gtr_t, gtr_f, geq_t, geq_f, eqi_t, eqi_f, nei_t, nei_f, rem_uw, conv_ui, conv_iu, conv_ii, not_bool, nil_ptr, fa_mk, ptrV, len_mk, cap_mk, eq_ptr_nil, ne_ptr_nil, eq_nil_nil, ne_nil_nil, eq_slice_nil, eq_nil_slice, ia_1]; exact so_so) ?_)
    exact told hh4 fun h5 hh5 => fin h5 hh5
  | true =>
  have hs2 := (hb2 rfl).small haw
  repeat (with_reducible first | refine vP_so ?_ | refine vB_t ?_ | refine vB_f ?_ | refine vE_tt ?_ | refine vE_ff ?_ | refine vE_tf ?_ | refine vE_ft ?_ | refine vE_u ?_ | refine vP_to (by simp (disch := omega) only [gdW_true, gdW_false, gB_true, gB_false, gB_undef, pickV_true, pickV_false, Bool.not_true, Bool.not_false, Option.map_some, bin_add, bin_sub, bin_mul, bin_quo, bin_rem, lss_t, lss_f, leq_t, leq_f, gtr_t, gtr_f, geq_t, geq_f, eqi_t, eqi_f, nei_t, nei_f, rem_uw, conv_ui, conv_iu, conv_ii, not_bool, nil_ptr, fa_mk, ptrV, len_mk, cap_mk, eq_ptr_nil, ne_ptr_nil, eq_nil_nil, ne_nil_nil, eq_slice_nil, eq_nil_slice, ia_1]; exact so_so) ?_)
  refine told hh4 fun h5 hh5 => ?_
  repeat (with_reducible first | refine vP_so ?_ | refine vB_t ?_ | refine vB_f ?_ | refine vE_tt ?_ | refine vE_ff ?_ | refine vE_tf ?_ | refine vE_ft ?_ | refine vE_u ?_ | refine vP_to (by simp (disch := omega) only [gdW_true, gdW_false, gB_true, gB_false, gB_undef, pickV_true, pickV_false, Bool.not_true, Bool.not_false, Option.map_some, bin_add, bin_sub, bin_mul, bin_quo, bin_rem, lss_t, lss_f, leq_t, leq_f, gtr_t, gtr_f, geq_t, geq_f, eqi_t, eqi_f, nei_t, nei_f, rem_uw, conv_ui, conv_iu, conv_ii, not_bool, nil_ptr, fa_mk, ptrV, len_mk, cap_mk, eq_ptr_nil, ne_ptr_nil, eq_nil_nil, ne_nil_nil, eq_slice_nil, eq_nil_slice, ia_1, lv (e0 hh5)]; exact so_so) ?_)
  refine use_vfind hv hh5 fun h6 hh6 => ?_
  refine ⟨by rw [← lv (e0 hh6)]; rfl, ?_⟩
  repeat (with_reducible first | refine vP_so ?_ | refine vB_t ?_ | refine vB_f ?_ | refine vE_tt ?_ | refine vE_ff ?_ | refine vE_tf ?_ | refine vE_ft ?_ | refine vE_u ?_ | refine vP_to (by simp (disch := omega) only [gdW_true, gdW_false, gB_true, gB_false, gB_undef, pickV_true, pickV_false, Bool.not_true, Bool.not_false, Option.map_some, bin_add, bin_sub, bin_mul, bin_quo, bin_rem, lss_t, lss_f, leq_t, leq_f, gtr_t, gtr_f, geq_t, geq_f, eqi_t, eqi_f, nei_t, nei_f, rem_uw, conv_ui, conv_iu, conv_ii, not_bool, nil_ptr, fa_mk, ptrV, len_mk, cap_mk, eq_ptr_nil, ne_ptr_nil, eq_nil_nil, ne_nil_nil, eq_slice_nil, eq_nil_slice, ia_1]; exact so_so) ?_)
  refine use_rfind hv hh6 fun h7 hh7 => ?_
  have drop2 : ∀ {A B : Asrt} {h}, (A * (B * (own g * (G * tt)))) h → (own g * (G * tt)) h := fun {A B h} q => dropL (P := A * B) (Q := own g * G) (asr (by ac_rfl) q) |> asr (by ac_rfl)
  have i2 : ∀ {A l v h}, (A * (SG iE 3 v l * (own g * (G * tt)))) h → IntsAt h v l := fun {A l v h} q => SG_ints (F := A * (own g * (G * tt))) (asr (by ac_rfl) q)
  have cmp : ∀ {v1 v2 : Value} {l : List Int} {h : Hp} {K : Value → Hp → Prop}, (SG iE 3 v2 l * (SG iE 3 v1 l * (own g * (G * tt)))) h → K (.bool true) h → CallH Try.prog 14 #[v1, v2] K h := fun {v1 v2 l h K} q k => by
    refine use_ints (i2 q) (SG_ints q) ?_
    rw [decide_eq_true rfl]
    exact k
  have fr : ∀ {v1 : Value} {l : List Int} {h : Hp}, (SG iE 3 v1 l * (own g * (G * tt))) h → (own g * ((SG iE 3 v1 l * G) * tt)) h := fun q => asr (by ac_rfl) q
  have bk : ∀ {v1 v2 : Value} {l m : List Int} {h : Hp}, (SG iE 3 v2 m * (own g * ((SG iE 3 v1 l * G) * tt))) h → (SG iE 3 v2 m * (SG iE 3 v1 l * (own g * (G * tt)))) h := fun q => asr (by ac_rfl) q
  have lr := fun {v1 : Value} {l : List Int} {h : Hp} (q : (SG iE 3 v1 l * (own g * (G * tt))) h) => lv q
  have ee : eqV 1 false (.int .i64 (findV v addr)) (.int .i64 (findV v addr)) = some (.bool true) := eqi_t rfl
  repeat (with_reducible first | refine vP_so ?_ | refine vB_t ?_ | refine vB_f ?_ | refine vE_tt ?_ | refine vE_ff ?_ | refine vE_tf ?_ | refine vE_ft ?_ | refine vE_u ?_ | refine vP_to (by simp (disch := omega) only [gdW_true, gdW_false, gB_true, gB_false, gB_undef, pickV_true, pickV_false, Bool.not_true, Bool.not_false, Option.map_some, bin_add, bin_sub, bin_mul, bin_quo, bin_rem, lss_t, lss_f, leq_t, leq_f, gtr_t, gtr_f, geq_t, geq_f, eqi_t, eqi_f, nei_t, nei_f, rem_uw, conv_ui, conv_iu, conv_ii, not_bool, nil_ptr, fa_mk, ptrV, len_mk, cap_mk, eq_ptr_nil, ne_ptr_nil, eq_nil_nil, ne_nil_nil, eq_slice_nil, eq_nil_slice, ia_1, ee, lv (e0 hh7)]; exact so_so) ?_)
  refine use_roots hv hs.all hh7 fun v28 h8 hh8 => ?_
  refine ⟨by rw [← lr hh8]; rfl, ?_⟩
  repeat (with_reducible first | refine vP_so ?_ | refine vB_t ?_ | refine vB_f ?_ | refine vE_tt ?_ | refine vE_ff ?_ | refine vE_tf ?_ | refine vE_ft ?_ | refine vE_u ?_ | refine vP_to (by simp (disch := omega) only [gdW_true, gdW_false, gB_true, gB_false, gB_undef, pickV_true, pickV_false, Bool.not_true, Bool.not_false, Option.map_some, bin_add, bin_sub, bin_mul, bin_quo, bin_rem, lss_t, lss_f, leq_t, leq_f, gtr_t, gtr_f, geq_t, geq_f, eqi_t, eqi_f, nei_t, nei_f, rem_uw, conv_ui, conv_iu, conv_ii, not_bool, nil_ptr, fa_mk, ptrV, len_mk, cap_mk, eq_ptr_nil, ne_ptr_nil, eq_nil_nil, ne_nil_nil, eq_slice_nil, eq_nil_slice, ia_1]; exact so_so) ?_)
  refine use_rroots hv hs.all (fr hh8) fun v30 h9 hh9 => ?_
  repeat (with_reducible first | refine vP_so ?_ | refine vB_t ?_ | refine vB_f ?_ | refine vE_tt ?_ | refine vE_ff ?_ | refine vE_tf ?_ | refine vE_ft ?_ | refine vE_u ?_ | refine vP_to (by simp (disch := omega) only [gdW_true, gdW_false, gB_true, gB_false, gB_undef, pickV_true, pickV_false, Bool.not_true, Bool.not_false, Option.map_some, bin_add, bin_sub, bin_mul, bin_quo, bin_rem, lss_t, lss_f, leq_t, leq_f, gtr_t, gtr_f, geq_t, geq_f, eqi_t, eqi_f, nei_t, nei_f, rem_uw, conv_ui, conv_iu, conv_ii, not_bool, nil_ptr, fa_mk, ptrV, len_mk, cap_mk, eq_ptr_nil, ne_ptr_nil, eq_nil_nil, ne_nil_nil, eq_slice_nil, eq_nil_slice, ia_1]; exact so_so) ?_)
  refine cmp (bk hh9) ?_
  have hh9 := drop2 (bk hh9)
  repeat (with_reducible first | refine vP_so ?_ | refine vB_t ?_ | refine vB_f ?_ | refine vE_tt ?_ | refine vE_ff ?_ | refine vE_tf ?_ | refine vE_ft ?_ | refine vE_u ?_ | refine vP_to (by simp (disch := omega) only [gdW_true, gdW_false, gB_true, gB_false, gB_undef, pickV_true, pickV_false, Bool.not_true, Bool.not_false, Option.map_some, bin_add, bin_sub, bin_mul, bin_quo, bin_rem, lss_t, lss_f, leq_t, leq_f, gtr_t, gtr_f, geq_t, geq_f, eqi_t, eqi_f, nei_t, nei_f, rem_uw, conv_ui, conv_iu, conv_ii, not_bool, nil_ptr, fa_mk, ptrV, len_mk, cap_mk, eq_ptr_nil, ne_ptr_nil, eq_nil_nil, ne_nil_nil, eq_slice_nil, eq_nil_slice, ia_1, lv (e0 hh9)]; exact so_so) ?_)
  refine use_reach hv hs.all hh9 fun v35 l1 h10 p1 _ hh10 => ?_
  refine ⟨by rw [← lr hh10]; rfl, ?_⟩
  repeat (with_reducible first | refine vP_so ?_ | refine vB_t ?_ | refine vB_f ?_ | refine vE_tt ?_ | refine vE_ff ?_ | refine vE_tf ?_ | refine vE_ft ?_ | refine vE_u ?_ | refine vP_to (by simp (disch := omega) only [gdW_true, gdW_false, gB_true, gB_false, gB_undef, pickV_true, pickV_false, Bool.not_true, Bool.not_false, Option.map_some, bin_add, bin_sub, bin_mul, bin_quo, bin_rem, lss_t, lss_f, leq_t, leq_f, gtr_t, gtr_f, geq_t, geq_f, eqi_t, eqi_f, nei_t, nei_f, rem_uw, conv_ui, conv_iu, conv_ii, not_bool, nil_ptr, fa_mk, ptrV, len_mk, cap_mk, eq_ptr_nil, ne_ptr_nil, eq_nil_nil, ne_nil_nil, eq_slice_nil, eq_nil_slice, ia_1]; exact so_so) ?_)
  refine use_rreach hv hs (fr hh10) fun v37 l2 h11 p2 _ hh11 => ?_
  obtain rfl : l1 = l2 := Rise_ext p1.1 p2.1 fun x => by rw [p1.2, p2.2]
  repeat (with_reducible first | refine vP_so ?_ | refine vB_t ?_ | refine vB_f ?_ | refine vE_tt ?_ | refine vE_ff ?_ | refine vE_tf ?_ | refine vE_ft ?_ | refine vE_u ?_ | refine vP_to (by simp (disch := omega) only [gdW_true, gdW_false, gB_true, gB_false, gB_undef, pickV_true, pickV_false, Bool.not_true, Bool.not_false, Option.map_some, bin_add, bin_sub, bin_mul, bin_quo, bin_rem, lss_t, lss_f, leq_t, leq_f, gtr_t, gtr_f, geq_t, geq_f, eqi_t, eqi_f, nei_t, nei_f, rem_uw, conv_ui, conv_iu, conv_ii, not_bool, nil_ptr, fa_mk, ptrV, len_mk, cap_mk, eq_ptr_nil, ne_ptr_nil, eq_nil_nil, ne_nil_nil, eq_slice_nil, eq_nil_slice, ia_1]; exact so_so) ?_)
  refine cmp (bk hh11) ?_
  have hh11 := drop2 (bk hh11)
  repeat (with_reducible first | refine vP_so ?_ | refine vB_t ?_ | refine vB_f ?_ | refine vE_tt ?_ | refine vE_ff ?_ | refine vE_tf ?_ | refine vE_ft ?_ | refine vE_u ?_ | refine vP_to (by simp (disch := omega) only [gdW_true, gdW_false, gB_true, gB_false, gB_undef, pickV_true, pickV_false, Bool.not_true, Bool.not_false, Option.map_some, bin_add, bin_sub, bin_mul, bin_quo, bin_rem, lss_t, lss_f, leq_t, leq_f, gtr_t, gtr_f, geq_t, geq_f, eqi_t, eqi_f, nei_t, nei_f, rem_uw, conv_ui, conv_iu, conv_ii, not_bool, nil_ptr, fa_mk, ptrV, len_mk, cap_mk, eq_ptr_nil, ne_ptr_nil, eq_nil_nil, ne_nil_nil, eq_slice_nil, eq_nil_slice, ia_1, lv (e0 hh11)]; exact so_so) ?_)
  refine use_white hv hs.all hh11 fun v35 l3 h12 p3 _ hh12 => ?_
  refine ⟨by rw [← lr hh12]; rfl, ?_⟩
  repeat (with_reducible first | refine vP_so ?_ | refine vB_t ?_ | refine vB_f ?_ | refine vE_tt ?_ | refine vE_ff ?_ | refine vE_tf ?_ | refine vE_ft ?_ | refine vE_u ?_ | refine vP_to (by simp (disch := omega) only [gdW_true, gdW_false, gB_true, gB_false, gB_undef, pickV_true, pickV_false, Bool.not_true, Bool.not_false, Option.map_some, bin_add, bin_sub, bin_mul, bin_quo, bin_rem, lss_t, lss_f, leq_t, leq_f, gtr_t, gtr_f, geq_t, geq_f, eqi_t, eqi_f, nei_t, nei_f, rem_uw, conv_ui, conv_iu, conv_ii, not_bool, nil_ptr, fa_mk, ptrV, len_mk, cap_mk, eq_ptr_nil, ne_ptr_nil, eq_nil_nil, ne_nil_nil, eq_slice_nil, eq_nil_slice, ia_1]; exact so_so) ?_)
  refine use_rwhite hv hs (fr hh12) fun v37 l4 h13 p4 _ hh13 => ?_
  obtain rfl : l3 = l4 := Rise_ext p3.1 p4.1 fun x => by rw [p3.2, p4.2]
  repeat (with_reducible first | refine vP_so ?_ | refine vB_t ?_ | refine vB_f ?_ | refine vE_tt ?_ | refine vE_ff ?_ | refine vE_tf ?_ | refine vE_ft ?_ | refine vE_u ?_ | refine vP_to (by simp (disch := omega) only [gdW_true, gdW_false, gB_true, gB_false, gB_undef, pickV_true, pickV_false, Bool.not_true, Bool.not_false, Option.map_some, bin_add, bin_sub, bin_mul, bin_quo, bin_rem, lss_t, lss_f, leq_t, leq_f, gtr_t, gtr_f, geq_t, geq_f, eqi_t, eqi_f, nei_t, nei_f, rem_uw, conv_ui, conv_iu, conv_ii, not_bool, nil_ptr, fa_mk, ptrV, len_mk, cap_mk, eq_ptr_nil, ne_ptr_nil, eq_nil_nil, ne_nil_nil, eq_slice_nil, eq_nil_slice, ia_1]; exact so_so) ?_)
  refine cmp (bk hh13) ?_
  have hh13 := drop2 (bk hh13)
  repeat (with_reducible first | refine vP_so ?_ | refine vB_t ?_ | refine vB_f ?_ | refine vE_tt ?_ | refine vE_ff ?_ | refine vE_tf ?_ | refine vE_ft ?_ | refine vE_u ?_ | refine vP_to (by simp (disch := omega) only [gdW_true, gdW_false, gB_true, gB_false, gB_undef, pickV_true, pickV_false, Bool.not_true, Bool.not_false, Option.map_some, bin_add, bin_sub, bin_mul, bin_quo, bin_rem, lss_t, lss_f, leq_t, leq_f, gtr_t, gtr_f, geq_t, geq_f, eqi_t, eqi_f, nei_t, nei_f, rem_uw, conv_ui, conv_iu, conv_ii, not_bool, nil_ptr, fa_mk, ptrV, len_mk, cap_mk, eq_ptr_nil, ne_ptr_nil, eq_nil_nil, ne_nil_nil, eq_slice_nil, eq_nil_slice, ia_1, lv (e0 hh13)]; exact so_so) ?_)
  refine use_lost hv hs.all hh13 fun v35 l5 h14 p5 _ hh14 => ?_
  refine ⟨by rw [← lr hh14]; rfl, ?_⟩
  repeat (with_reducible first | refine vP_so ?_ | refine vB_t ?_ | refine vB_f ?_ | refine vE_tt ?_ | refine vE_ff ?_ | refine vE_tf ?_ | refine vE_ft ?_ | refine vE_u ?_ | refine vP_to (by simp (disch := omega) only [gdW_true, gdW_false, gB_true, gB_false, gB_undef, pickV_true, pickV_false, Bool.not_true, Bool.not_false, Option.map_some, bin_add, bin_sub, bin_mul, bin_quo, bin_rem, lss_t, lss_f, leq_t, leq_f, gtr_t, gtr_f, geq_t, geq_f, eqi_t, eqi_f, nei_t, nei_f, rem_uw, conv_ui, conv_iu, conv_ii, not_bool, nil_ptr, fa_mk, ptrV, len_mk, cap_mk, eq_ptr_nil, ne_ptr_nil, eq_nil_nil, ne_nil_nil, eq_slice_nil, eq_nil_slice, ia_1]; exact so_so) ?_)
  refine use_rlost hv hs (fr hh14) fun v37 l6 h15 p6 _ hh15 => ?_
  obtain rfl : l5 = l6 := Rise_ext p5.1 p6.1 fun x => by rw [p5.2, p6.2]
  repeat (with_reducible first | refine vP_so ?_ | refine vB_t ?_ | refine vB_f ?_ | refine vE_tt ?_ | refine vE_ff ?_ | refine vE_tf ?_ | refine vE_ft ?_ | refine vE_u ?_ | refine vP_to (by simp (disch := omega) only [gdW_true, gdW_false, gB_true, gB_false, gB_undef, pickV_true, pickV_false, Bool.not_true, Bool.not_false, Option.map_some, bin_add, bin_sub, bin_mul, bin_quo, bin_rem, lss_t, lss_f, leq_t, leq_f, gtr_t, gtr_f, geq_t, geq_f, eqi_t, eqi_f, nei_t, nei_f, rem_uw, conv_ui, conv_iu, conv_ii, not_bool, nil_ptr, fa_mk, ptrV, len_mk, cap_mk, eq_ptr_nil, ne_ptr_nil, eq_nil_nil, ne_nil_nil, eq_slice_nil, eq_nil_slice, ia_1]; exact so_so) ?_)
  refine cmp (bk hh15) ?_
  have hh15 := drop2 (bk hh15)
  repeat (with_reducible first | refine vP_so ?_ | refine vB_t ?_ | refine vB_f ?_ | refine vE_tt ?_ | refine vE_ff ?_ | refine vE_tf ?_ | refine vE_ft ?_ | refine vE_u ?_ | refine vP_to (by simp (disch := omega) only [gdW_true, gdW_false, gB_true, gB_false, gB_undef, pickV_true, pickV_false, Bool.not_true, Bool.not_false, Option.map_some, bin_add, bin_sub, bin_mul, bin_quo, bin_rem, lss_t, lss_f, leq_t, leq_f, gtr_t, gtr_f, geq_t, geq_f, eqi_t, eqi_f, nei_t, nei_f, rem_uw, conv_ui, conv_iu, conv_ii, not_bool, nil_ptr, fa_mk, ptrV, len_mk, cap_mk, eq_ptr_nil, ne_ptr_nil, eq_nil_nil, ne_nil_nil, eq_slice_nil, eq_nil_slice, ia_1, lv (e0 hh15)]; exact so_so) ?_)
  refine use_words hv hs.objs hh15 fun h16 hh16 => ?_
  refine ⟨by rw [← lv (e0 hh16)]; rfl, ?_⟩
  repeat (with_reducible first | refine vP_so ?_ | refine vB_t ?_ | refine vB_f ?_ | refine vE_tt ?_ | refine vE_ff ?_ | refine vE_tf ?_ | refine vE_ft ?_ | refine vE_u ?_ | refine vP_to (by simp (disch := omega) only [gdW_true, gdW_false, gB_true, gB_false, gB_undef, pickV_true, pickV_false, Bool.not_true, Bool.not_false, Option.map_some, bin_add, bin_sub, bin_mul, bin_quo, bin_rem, lss_t, lss_f, leq_t, leq_f, gtr_t, gtr_f, geq_t, geq_f, eqi_t, eqi_f, nei_t, nei_f, rem_uw, conv_ui, conv_iu, conv_ii, not_bool, nil_ptr, fa_mk, ptrV, len_mk, cap_mk, eq_ptr_nil, ne_ptr_nil, eq_nil_nil, ne_nil_nil, eq_slice_nil, eq_nil_slice, ia_1]; exact so_so) ?_)
  refine use_rwords hv hs.objs hh16 fun h17 hh17 => ?_
  have ew : eqV 1 false (.int .i64 (sumO v.objs)) (.int .i64 (sumO v.objs)) = some (.bool true) := eqi_t rfl
  repeat (with_reducible first | refine vP_so ?_ | refine vB_t ?_ | refine vB_f ?_ | refine vE_tt ?_ | refine vE_ff ?_ | refine vE_tf ?_ | refine vE_ft ?_ | refine vE_u ?_ | refine vP_to (by simp (disch := omega) only [gdW_true, gdW_false, gB_true, gB_false, gB_undef, pickV_true, pickV_false, Bool.not_true, Bool.not_false, Option.map_some, bin_add, bin_sub, bin_mul, bin_quo, bin_rem, lss_t, lss_f, leq_t, leq_f, gtr_t, gtr_f, geq_t, geq_f, eqi_t, eqi_f, nei_t, nei_f, rem_uw, conv_ui, conv_iu, conv_ii, not_bool, nil_ptr, fa_mk, ptrV, len_mk, cap_mk, eq_ptr_nil, ne_ptr_nil, eq_nil_nil, ne_nil_nil, eq_slice_nil, eq_nil_slice, ia_1, ew, lv (e0 hh17), lw (e0 hh17)]; exact so_so) ?_)
  refine use_same hv hw hh17 fun h18 hh18 => ?_
  refine ⟨by rw [← lw (e0 hh18)]; rfl, by rw [← lv (e0 hh18)]; rfl, ?_⟩
  repeat (with_reducible first | refine vP_so ?_ | refine vB_t ?_ | refine vB_f ?_ | refine vE_tt ?_ | refine vE_ff ?_ | refine vE_tf ?_ | refine vE_ft ?_ | refine vE_u ?_ | refine vP_to (by simp (disch := omega) only [gdW_true, gdW_false, gB_true, gB_false, gB_undef, pickV_true, pickV_false, Bool.not_true, Bool.not_false, Option.map_some, bin_add, bin_sub, bin_mul, bin_quo, bin_rem, lss_t, lss_f, leq_t, leq_f, gtr_t, gtr_f, geq_t, geq_f, eqi_t, eqi_f, nei_t, nei_f, rem_uw, conv_ui, conv_iu, conv_ii, not_bool, nil_ptr, fa_mk, ptrV, len_mk, cap_mk, eq_ptr_nil, ne_ptr_nil, eq_nil_nil, ne_nil_nil, eq_slice_nil, eq_nil_slice, ia_1]; exact so_so) ?_)
  refine use_rsame hv hw hh18 fun h19 hh19 => ?_
  have es : eqV 2 false (.bool (decide (SameP v w))) (.bool (decide (SameP v w))) = some (.bool true) := by rw [eq_bool, decide_eq_true rfl]
  repeat (with_reducible first | refine vP_so ?_ | refine vB_t ?_ | refine vB_f ?_ | refine vE_tt ?_ | refine vE_ff ?_ | refine vE_tf ?_ | refine vE_ft ?_ | refine vE_u ?_ | refine vP_to (by simp (disch := omega) only [gdW_true, gdW_false, gB_true, gB_false, gB_undef, pickV_true, pickV_false, Bool.not_true, Bool.not_false, Option.map_some, bin_add, bin_sub, bin_mul, bin_quo, bin_rem, lss_t, lss_f, leq_t, leq_f, gtr_t, gtr_f, geq_t, geq_f, eqi_t, eqi_f, nei_t, nei_f, rem_uw, conv_ui, conv_iu, conv_ii, not_bool, nil_ptr, fa_mk, ptrV, len_mk, cap_mk, eq_ptr_nil, ne_ptr_nil, eq_nil_nil, ne_nil_nil, eq_slice_nil, eq_nil_slice, ia_1, es, lv (e0 hh19)]; exact so_so) ?_)
  refine use_same hv hv hh19 fun h20 hh20 => ?_
  rw [decide_eq_true (show SameP v v from ⟨rfl, rfl, rfl, rfl⟩)]
  repeat (with_reducible first | refine vP_so ?_ | refine vB_t ?_ | refine vB_f ?_ | refine vE_tt ?_ | refine vE_ff ?_ | refine vE_tf ?_ | refine vE_ft ?_ | refine vE_u ?_ | refine vP_to (by simp (disch := omega) only [gdW_true, gdW_false, gB_true, gB_false, gB_undef, pickV_true, pickV_false, Bool.not_true, Bool.not_false, Option.map_some, bin_add, bin_sub, bin_mul, bin_quo, bin_rem, lss_t, lss_f, leq_t, leq_f, gtr_t, gtr_f, geq_t, geq_f, eqi_t, eqi_f, nei_t, nei_f, rem_uw, conv_ui, conv_iu, conv_ii, not_bool, nil_ptr, fa_mk, ptrV, len_mk, cap_mk, eq_ptr_nil, ne_ptr_nil, eq_nil_nil, ne_nil_nil, eq_slice_nil, eq_nil_slice, ia_1]; exact so_so) ?_)
  exact fin h20 hh20

end Go.Proofs
