/-
  slices.Sorted(slices.Values(..)), as a contract of ours; view.Find, view.Words and the document's.
-/
import Derived.Test.YtdcoflglkfbpcaaVs1
import Derived.Test.YtdcoflglkfbpcaaVr5
import Derived.Test.YtdcoflglkfbpcaaL1
import Derived.Test.YtdcoflglkfbpcaaVwD5
set_option linter.unusedVariables false
set_option linter.unusedSimpArgs false
set_option maxRecDepth 100000
namespace Go.Sl
open Go.RowKit Go.Shelf

theorem cell_spot {g : Hp} {a : Addr} {v : Value} (h : g.cell a = some v) : a.spot = none := by
  obtain ⟨o, ho, hc⟩ := Hp.block_of_cell h
  cases hs : a.spot with
  | none => rfl
  | some s => cases o <;> simp_all [Obj.cellAt]

/-- A call that makes a slice of its own and keeps all that was. -/
theorem callH_own {P : Program} {f : FuncId} {args : Array Value} {K : Value → Hp → Prop} {h : Hp} {E : Nat} {xs : List Int} {F : Asrt} (hF : F h)
    (hc : ∀ (w : World) (fr : Hp), w.hp = h.add fr → Calls P f args w fun e w' => ∃ v, e = .returned v ∧ w'.ownsRow w.heap.size E 1 v xs.length (xs.map (Value.int .i64)) ∧ Below w.heap.size w w')
    (hK : ∀ v h', (SG iE E v xs * F) h' → K v h') : CallH P f args K h := by
  intro w fr tg d ⟨e, et⟩
  refine (hc w fr e).mono ?_
  rintro e' w' ⟨v, rfl, hrow, hb⟩
  have hkeep : ∀ b o, w.hp b = some o → w'.hp b = some o := fun b o hq => by
    have hlt : b < w.heap.size := (Array.getElem?_eq_some_iff.1 hq).1
    exact (hb.block b hlt).trans hq
  have hh : ∀ b o, h b = some o → w.hp b = some o := fun b o q => by rw [e]; exact Hp.add_of_left q
  have main : ∀ h' : Hp, (∀ b o, h' b = some o → w'.hp b = some o) → (∀ b x, fr b = some x → h' b = none) → K v h' → ∃ v' h'' fr', Ending.returned v = .returned v' ∧ Disj h'' fr' ∧ w'.At tg (h''.add fr') ∧ Grows fr fr' ∧ K v' h'' := fun h' h1 h2 hk => by
    refine ⟨v, h', w'.hp.minus h', rfl, ?_, ⟨?_, ?_⟩, ?_, hk⟩
    · intro b
      rw [Hp.minus_apply]
      cases hq : h' b with
      | none => exact .inl rfl
      | some x => exact .inr (by simp)
    · apply Hp.ext'
      intro b
      rw [Hp.add_apply, Hp.minus_apply]
      cases hq : h' b with
      | none => simp
      | some x => simp [h1 b x hq]
    · rw [hb.os, hb.output, hb.tape]; exact et
    · intro b x hx
      rw [Hp.minus_apply, h2 b x hx]
      simp only [Option.isSome_none, Bool.false_eq_true, if_false]
      refine hkeep b x ?_
      rw [e, Hp.add_apply]
      have hn : h b = none := by
        rcases d b with q | q
        · exact q
        · rw [hx] at q; cases q
      rw [hn]
      simpa using hx
  have hfr : ∀ b x, fr b = some x → h b = none := fun b x hx => by
    rcases d b with q | q
    · exact q
    · rw [hx] at q; cases q
  rcases hrow.2 with ⟨rfl, hn⟩ | ⟨g, cap, cur, rfl, hg, hgb, h1, h2, h3, h4⟩
  · obtain rfl : xs = [] := List.length_eq_zero_iff.1 hn
    exact main h (fun b o q => hkeep b o (hh b o q)) hfr (hK _ _ (SG_nil iE hF))
  · have hgn : w.hp g = none := by
      show w.heap[g]? = none
      exact Array.getElem?_eq_none hg
    have hng : h g = none := by
      cases hq : h g with
      | none => rfl
      | some x => rw [hh g x hq] at hgn; cases hgn
    have hnf : fr g = none := by
      cases hq : fr g with
      | none => rfl
      | some x =>
        have : w.hp g = some x := by rw [e, Hp.add_apply, hng]; simpa using hq
        rw [this] at hgn; cases hgn
    refine main (h.upd g (.cells cur E (0, 0))) (fun b o q => ?_) (fun b x hx => ?_) (hK _ _ ?_)
    · by_cases hbg : b = g
      · subst hbg
        rw [Hp.upd_self] at q
        cases q
        exact hgb
      · rw [Hp.upd_ne hbg] at q
        exact hkeep b o (hh b o q)
    · have hbg : b ≠ g := fun q => by rw [q, hnf] at hx; cases hx
      rw [Hp.upd_ne hbg]
      exact hfr b x hx
    · have hcur : cur = ([] ++ (iE.cs xs ++ cur.toList.drop (xs.length * 1))).toArray := by
        apply Array.ext'
        rw [List.nil_append, iE_cs]
        show cur.toList = xs.map _ ++ cur.toList.drop (xs.length * 1)
        rw [← h4, List.take_append_drop]
      have hp := pt_new (o := .cells cur E (0, 0)) hF hng
      have hp : (pt g (.cells ([] ++ (iE.cs xs ++ cur.toList.drop (xs.length * 1))).toArray E (0, 0)) * F) (h.upd g (.cells cur E (0, 0))) := by rw [← hcur]; exact hp
      refine SG_intro iE (pre := []) rfl rfl h1 (by unfold maxLen at h2; omega) ?_ hp
      show (cap - xs.length) * 1 ≤ (cur.toList.drop (xs.length * 1)).length
      have hz : cur.toList.length = cap * 1 := h3
      rw [List.length_drop, hz]
      omega

end Go.Sl

namespace Go.Proofs
open Go.Sl

theorem ints_vs {w : World} {sv : Value} {xs : List Int} (h : IntsAt w.hp sv xs) : Vs.Ints w.heap.size w sv xs := by
  have hl := h.len
  unfold lenV at hl
  split at hl
  · rename_i a n c
    have hn : n = xs.length := by
      have := Value.int.inj (Option.some.inj hl)
      omega
    subst hn
    by_cases h0 : xs = []
    · subst h0
      exact .inl ⟨a, c, rfl, rfl⟩
    · have hpos : 0 < xs.length := List.length_pos_iff.2 h0
      cases a with
      | none =>
        obtain ⟨p, h1, _⟩ := h.get 0 xs[0] .i64 (List.getElem?_eq_getElem hpos)
        cases h1
      | some a =>
        have hget : ∀ j, (hj : j < xs.length) → w.hp.cell (a.add (j * 1)) = some (.int .i64 xs[j]) := fun j hj => by
          obtain ⟨p, h1, h2⟩ := h.get j xs[j] .i64 (List.getElem?_eq_getElem hj)
          rw [iaS_at hj] at h1
          cases h1
          exact h2
        obtain ⟨b, off, sp⟩ := a
        have hs : sp = none := cell_spot (hget 0 hpos)
        subst hs
        refine .inr ⟨b, off, c, rfl, ?_, fun j hj => ?_⟩
        · obtain ⟨o, ho, _⟩ := Hp.block_of_cell (hget 0 hpos)
          exact (Array.getElem?_eq_some_iff.1 ho).1
        · have := hget j hj
          rw [add_mk, Nat.mul_one] at this
          rw [cell?_hp, this, List.getElem?_eq_getElem hj]
          rfl
  · cases hl

theorem use_vals {sv : Value} {F : Asrt} {K : Value → Hp → Prop} {h : Hp} (hc : sv.cells = #[sv]) (hh : F h) (hK : ∀ r h', (pt r (.cells #[sv] 22 (0, 0)) * F) h' → K (.func (.func 69) #[] #[.pointer (some ⟨r, 0, none⟩)]) h') : CallH Try.prog 43 #[sv] K h := by
  refine C43 ?_
  unfold D43
  rw [hc]
  refine vA_new (f := ptrV) hh fun r h1 hh1 => ?_
  repeat (with_reducible first | refine vP_so ?_ | refine vB_t ?_ | refine vB_f ?_ | refine vE_tt ?_ | refine vE_ff ?_ | refine vE_tf ?_ | refine vE_ft ?_ | refine vE_u ?_ | refine vP_to (by simp (disch := omega) only [gdW_true, gdW_false, gB_true, gB_false, gB_undef, pickV_true, pickV_false, Bool.not_true, Bool.not_false, Option.map_some, bin_add, bin_sub, bin_mul, bin_quo, bin_rem, lss_t, lss_f, leq_t, leq_f, gtr_t, gtr_f, geq_t, geq_f, eqi_t, eqi_f, nei_t, nei_f, rem_uw, conv_ui, conv_iu, conv_ii, not_bool, nil_ptr, fa_mk, ptrV, len_mk, cap_mk, eq_ptr_nil, ne_ptr_nil, eq_nil_nil, ne_nil_nil, eq_slice_nil, eq_nil_slice, ia_1]; exact so_so) ?_)
  exact hK r h1 hh1

theorem ints_cells {g : Hp} {sv : Value} {xs : List Int} (h : IntsAt g sv xs) : sv.cells = #[sv] := by
  have hl := h.len
  unfold lenV at hl
  split at hl
  · rfl
  · cases hl

theorem use_app {sv : Value} {xs : List Int} {r : Nat} {F : Asrt} {K : Value → Hp → Prop} {h : Hp} (hx : IntsAt h sv xs) (hb : xs.length ≤ 1000000) (hh : (pt r (.cells #[sv] 22 (0, 0)) * F) h)
    (hK : ∀ v h', (SG iE 3 v xs * (pt r (.cells #[sv] 22 (0, 0)) * F)) h' → K v h') : CallH Try.prog 83 #[.slice none 0 0, .func (.func 69) #[] #[.pointer (some ⟨r, 0, none⟩)]] K h := by
  refine callH_own hh (fun w fr e => ?_) hK
  have hxw : IntsAt w.hp sv xs := by rw [e]; exact hx.mono
  have hr : w.hp r = some (.cells #[sv] 22 (0, 0)) := by rw [e]; exact Hp.add_of_left (pt_get hh)
  refine callsIn_wide.1 (Vs.app_in Fence.wide 3 trivial trivial rfl (by omega) r sv xs (by omega) (by unfold maxLen; omega) w ?_ ?_ (ints_vs hxw))
  · exact (Array.getElem?_eq_some_iff.1 hr).1
  · rw [cell?_hp]
    unfold Hp.cell
    simp only [hr, Option.bind_some]
    rfl

/-- slices.Sorted(slices.Values(..)). -/
theorem use_svals {g : Hp} {sv : Value} {xs : List Int} {F : Asrt} {K : Value → Hp → Prop} {h : Hp} (hx : IntsAt g sv xs) (hb : xs.length ≤ 1000000) (hh : (own g * (F * tt)) h)
    (hK : ∀ v h', (SG iE 3 v (srt xs) * (own g * (F * tt))) h' → K v h') : CallH Try.prog 43 #[sv] (fun v1 h1 => CallH Try.prog 42 #[v1] K h1) h := by
  refine use_vals (ints_cells hx) hh fun r h1 hh1 => ?_
  refine C42 ?_
  unfold D42
  refine C67 ?_
  unfold D67
  refine use_app (own_ints (F := pt r (.cells #[sv] 22 (0, 0)) * (F * tt)) (asr (by ac_rfl) hh1) hx) hb hh1 fun v h2 hh2 => ?_
  refine use_sort sortC (by omega) hh2 fun h3 hh3 => ?_
  exact hK v h3 (dropL (P := pt r (.cells #[sv] 22 (0, 0))) (Q := SG iE 3 v (srt xs) * (own g * F)) (asr (by ac_rfl) hh3) |> asr (by ac_rfl))

end Go.Proofs
