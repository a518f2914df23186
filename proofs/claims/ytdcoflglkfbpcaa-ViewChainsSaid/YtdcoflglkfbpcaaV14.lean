/-
  From a contract to the given row: what was in memory before is as it was.
-/
import Derived.Test.YtdcoflglkfbpcaaV13
import Derived.ProofKit
import Derived.Carry
set_option linter.unusedVariables false
set_option linter.unusedSimpArgs false
namespace Go.Sl
open Go.ChangeShapes Go.WideShapes Go.ChangeAt Go.RowKit

/-- The call returns what it should, and nothing old has turned. -/
theorem Tr.row {P : Program} {f : FuncId} {args : Array Value} {W : World} {r : Value} (t : Tr P f args (own W.hp) (fun v => pr (v = r) * own W.hp)) :
    Calls P f args W (fun e W' => e = .returned r ∧ Below W.heap.size W W') := by
  refine ((t W.hp rfl) W Hp.emp (W.os, W.output, W.tape) (Disj.emp _) ⟨by rw [Hp.add_emp], rfl⟩).mono ?_
  rintro e W' ⟨v, h', fr', rfl, d, ⟨e1, e2⟩, _, hk⟩
  have hk2 := pr_star.1 hk
  obtain ⟨rfl, hk3⟩ := hk2
  obtain rfl : h' = W.hp := hk3
  have hb : ∀ k o, W.heap[k]? = some o → W'.heap[k]? = some o := fun k o hk => by
    have h1 : W'.hp k = some o := by rw [e1]; exact Hp.add_of_left hk
    exact h1
  simp only [Prod.mk.injEq] at e2
  refine ⟨rfl, e2.1, e2.2.2, e2.2.1, ?_, fun k hk => ?_⟩
  · rcases Nat.lt_or_ge W'.heap.size W.heap.size with q | q
    · have h1 := hb W'.heap.size _ (Array.getElem?_eq_getElem q)
      simp at h1
    · exact q
  · rw [Array.getElem?_eq_getElem hk]
    exact hb k _ (Array.getElem?_eq_getElem hk)

theorem intsAt_nil (g : Hp) : IntsAt g (.slice none 0 0) [] := ⟨rfl, by simp, fun j x k h => by simp at h⟩

theorem intsAt_some {W : World} {a : Addr} {len cap : Nat} {zs : List Int} (hl : len ≤ zs.length) (hm : len ≤ maxLen) (hcell : ∀ i, i < zs.length → W.cell? (a.add i) = some (.int .i64 (zs.getD i 0))) :
    IntsAt W.hp (.slice (some a) len cap) (zs.take len) := by
  have hlen : (zs.take len).length = len := by simp; omega
  refine ⟨by rw [hlen]; rfl, by rw [hlen]; unfold maxLen at hm; omega, fun j x k h => ?_⟩
  have hj : j < len := by rw [← hlen]; exact (List.getElem?_eq_some_iff.1 h).1
  have hx : zs[j]? = some x := by rw [List.getElem?_take_of_lt hj] at h; exact h
  refine ⟨.pointer (some (a.add j)), ?_, ?_⟩
  · show (if 0 ≤ (j : Int) ∧ (j : Int) < (len : Int) then some (Value.pointer (some (a.add ((j : Int).toNat * 1)))) else none) = _
    rw [if_pos (by omega), Int.toNat_natCast, Nat.mul_one]
  · show W.hp.cell (a.add j) = _
    rw [← cell?_hp, hcell j (by omega), List.getD_eq_getElem?_getD, hx]
    rfl

end Go.Sl
