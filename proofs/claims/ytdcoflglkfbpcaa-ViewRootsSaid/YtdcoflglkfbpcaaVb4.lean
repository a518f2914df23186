/-
  A view that names less.
-/
import Derived.Test.YtdcoflglkfbpcaaVb1
import Derived.Test.YtdcoflglkfbpcaaV21
set_option linter.unusedVariables false
set_option linter.unusedSimpArgs false
namespace Go.Sl

structure LessOf (w w' : VW) : Prop where
  adr : w'.objs.map Ob.addr = w.objs.map Ob.addr
  ob : ∀ (i : Nat) (o' : Ob), w'.objs[i]? = some o' → ∃ o : Ob, w.objs[i]? = some o ∧ o'.marked = true ∧ ∀ y ∈ o'.slots, y = 0 ∨ y ∈ o.slots
  gl : ∀ x ∈ w'.globals, x = 0 ∨ x ∈ w.globals
  gs : w'.gs = w.gs

theorem LessOf.at {w w' : VW} (h : LessOf w w') (x : Int) : w'.at x = w.at x := by
  have e : ∀ v : VW, v.at x = (v.objs.map Ob.addr).findIdx? fun a => a == x := fun v => by
    rw [List.findIdx?_map]
    rfl
  rw [e, e, h.adr]

theorem LessOf.rch {w w' : VW} (h : LessOf w w') {x : Int} (hx : Rch w' x) : Rch w x := by
  induction hx with
  | root h1 h2 =>
    refine .root ?_ h2
    unfold VW.names at h1 ⊢
    rw [h.gs] at h1
    rcases List.mem_append.1 h1 with q | q
    · rcases h.gl _ q with q | q
      · exact (h2 q).elim
      · exact List.mem_append.2 (.inl q)
    · exact List.mem_append.2 (.inr q)
  | step h1 h2 h3 h4 h5 ih =>
    obtain ⟨o, e1, _, e3⟩ := h.ob _ _ h3
    rw [h.at] at h2
    rcases e3 _ h4 with q | q
    · exact (h5 q).elim
    · exact .step ih h2 e1 q h5

end Go.Sl
