/-
  PageBest, the given statement: whatever the input, it returns true, and each argument reads as it did.
-/
import Derived.Test.YtfjgkljgfomobaaPgBest
import Derived.Test.YtfjgkljgfomobaaV14
import Derived.Test.YtfjgkljgfomobaaRows
set_option linter.unusedVariables false
set_option linter.unusedSimpArgs false
namespace Go.Proofs.Ytfjgkljgfomobaa
open Go.ChangeShapes Go.WideShapes Go.ChangeAt Go.RowKit

theorem Try.own : ownKnob Try.prog.godebug = none := by kernel_rfl
theorem Try.laidOut : laidOutB Try.prog = true := by kernel_rfl
theorem cellsInt : Try.prog.cellsOf 3 = 1 := by kernel_rfl

/-- The call, with the argument as it came in: true, and nothing old has turned. -/
theorem best_calls {W : World} {sv : Value} {xs : List Int} (k : Int) (hx : Sl.IntsAt W.hp sv xs) : Calls Try.prog 6 #[sv, .int .i64 k] W fun e W' => e = .returned (.bool true) ∧ Below W.heap.size W W' :=
  (Go.Proofs.best_tr W.hp sv xs k hx).row

set_option maxRecDepth 100000 in
theorem best_lifted (os : Os) (started : os.Started) (H : Type) (enc : TypeId × Value → H) :
    ReturnsInHanded {} Try.checked os 6 .any (Rows.pageBestSpec.pre6 enc Try.prog Try.f6 Rows.pageBestRow.domain false) (Rows.pageBestSpec.post enc Try.prog Try.f6 false true false false) := by
  refine returnsInHanded_of_change (C := Try.checked) Try.own started (by kernel_rfl) Try.func6
    (ChangeSpec.witness6 (enc := enc) (C := Try.checked) false ⟨#[], #[.slice none 0 0, .int .i64 0], []⟩ 8 (by kernel_rfl) (by kernel_rfl) (by kernel_rfl) (by kernel_rfl)) ?_
  intro W base args ds gs before hval0 hW hcnd _
  have hval : ∀ (j : Nat) t v, Try.f6.params[j]? = some t → args[j]? = some v → Value.okWide Try.prog W .any base t v := hval0
  have hW' := hW
  obtain ⟨p, q, hA0, hV, rfl, hfz, hnd⟩ := hW
  have hA : DataW.TrodAll enc Try.prog W 0 (fun _ => true) true Try.f6.params.toList args.toList ds p := hA0
  rw [Try.params6] at hA hval
  obtain ⟨v0, v1, d0, d1, p0, p1, rfl, rfl, rfl, h0, h1⟩ := trodAll_two hA
  obtain ⟨rfl, rfl⟩ := trodVars_none hV
  obtain ⟨b, rfl, rfl, rfl, wb⟩ := open_int Try.underlying3 (hval 1 3 v1 rfl rfl) h1
  clear hA0 hval0
  simp only [List.append_nil] at hW'
  have hlt : ∀ x ∈ p0, x.block < W.heap.size := fun x hx => by simpa using hW'.lt x hx
  have hargs : ∀ {W' : World}, Below W.heap.size W W' → DataW.Trod enc Try.prog W' 0 (fun b => decide (b < W.heap.size)) true 43 v0 d0 p0 := fun hb =>
    Below.trod Try.laidOut (by kernel_rfl) (of_decide_eq_true (by kernel_rfl)) h0 hb hlt
  have hxs : ∃ xs, Sl.IntsAt W.hp v0 xs := by
    obtain ⟨a0, len, cap, rfl⟩ := okWide_slice Try.underlying43 (hval 0 43 v0 rfl rfl)
    obtain ⟨fuel, hf⟩ := h0
    rcases open_ints Try.underlying43 Try.underlying3 cellsInt hf with ⟨hcs, hx⟩ | ⟨a, len', cap', zs, hcs, _, hl, hm, hz, hx, hcell, hwz⟩
    · simp [Value.cells] at hcs
      obtain ⟨rfl, rfl, rfl⟩ := hcs
      exact ⟨[], Sl.intsAt_nil _⟩
    · simp [Value.cells] at hcs
      obtain ⟨rfl, rfl, rfl⟩ := hcs
      simp only [if_true] at hz
      exact ⟨zs.take len, Sl.intsAt_some (by omega) (by omega) hcell⟩
  obtain ⟨xs, hx⟩ := hxs
  refine (best_calls b hx).mono fun e W' ⟨he, hb⟩ => ?_
  subst he
  exact ⟨_, rfl, ⟨_, _, _, [], _, [], hW', trodAll_mk1 (shut_bool Try.underlying4 _), trodAll_mk2 (hargs hb) (shut_int Try.underlying3 wb), rfl, hb.frame _, fun h => by cases h⟩⟩

theorem best_holds : Rows.PageBestSaid :=
  OpenClaim.holds_of_wide 6 Try.f6 rfl rfl rfl rfl rfl rfl rfl ⟨rfl, rfl, rfl, rfl, rfl⟩ rfl rfl rfl rfl rfl (by kernel_rfl) Try.func6 (by kernel_rfl)
    (of_decide_eq_true (by kernel_rfl)) (by unfold Func.isWrapper; first | (rw [if_pos (by decide +kernel)]; kernel_rfl) | (rw [if_neg (by decide +kernel)]; exact ⟨rfl, rfl⟩))
    (fun os started H enc _ => best_lifted os started H enc)

end Go.Proofs.Ytfjgkljgfomobaa
