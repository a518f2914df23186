/-
  A view as it came in: through and through.
-/
import Derived.Test.YtdcoflglkfbpcaaVw0
import Derived.Test.YtdcoflglkfbpcaaV18
import Derived.Test.YtdcoflglkfbpcaaProg
set_option linter.unusedVariables false
set_option linter.unusedSimpArgs false
set_option maxRecDepth 100000
namespace Go.Sl
open Go.ChangeShapes Go.WideShapes Go.ChangeAt Go.RowKit

theorem row_in {g : Hp} {a : Addr} {n : Nat} {c : List Value} (hn : 0 < n) (hl : c.length = n) (h : ∀ j, j < n → g.cell (a.add j) = c[j]?) :
    ∃ b o, a = ⟨b, o, none⟩ ∧ (∀ q v, c[q]? = some v → ld1 (.pointer (some ⟨b, o + q, none⟩)) g = some v) ∧ ldN n (.pointer (some ⟨b, o, none⟩)) g = some (.agg c.toArray) := by
  have hr := row_of_cells hn hl h
  have hs : a.spot = none := by
    cases hs : a.spot with
    | none => rfl
    | some s =>
      have h0 := h 0 hn
      rw [show a.add 0 = a from by cases a; simp [Addr.add], List.getElem?_eq_getElem (by omega)] at h0
      obtain ⟨o, ho, hc⟩ := Hp.block_of_cell h0
      unfold Hp.row rowIn at hr
      cases o <;> simp_all [Obj.cellAt]
  obtain ⟨b, o, sp⟩ := a
  simp only at hs
  subst hs
  refine ⟨b, o, rfl, fun q v hq => ?_, ?_⟩
  · have hq' := (List.getElem?_eq_some_iff.1 hq).1
    have := h q (by omega)
    rw [add_mk, hq] at this
    exact this
  · show (g.row _ n).map Value.agg = _
    rw [hr]; rfl

theorem one_in {g : Hp} {a : Addr} {c : List Value} (hl : c.length = 1) (h : ∀ j, j < 1 → g.cell (a.add j) = c[j]?) : ∀ v, c = [v] → ld1 (.pointer (some a)) g = some v := fun v e => by
  subst e
  have := h 0 (by omega)
  rw [show a.add 0 = a from by cases a; simp [Addr.add]] at this
  exact this

theorem sl1_in {P : Program} {g : Hp} {f : Nat} {t e : TypeId} {cs : List Value} (ht : P.underlying t = some (.slice e)) (he : P.underlying e = some (.int .i64)) (hc : P.cellsOf e = 1) (h : OkF P g f t cs) : ∃ v xs, cs = [v] ∧ IntsAt g v xs := by
  rcases okF_slice ht h with rfl | ⟨a, len, cap, rfl, hl, hm, f', hel⟩
  · exact ⟨_, [], rfl, rfl, by simp, fun j x k h => by simp at h⟩
  · rw [hc] at hel
    have hex : ∀ i, i < len → ∃ x : Int, ld1 (.pointer (some (a.add (i * 1)))) g = some (.int .i64 x) := fun i hi => by
      obtain ⟨c, h1, h2, h3⟩ := hel i hi
      obtain ⟨n, e1, _⟩ := okF_int he h3
      exact ⟨n, one_in h1 h2 _ e1⟩
    obtain ⟨xs, hx1, hx2⟩ := list_of hex
    subst hx1
    exact ⟨_, xs, rfl, rfl, by unfold maxLen at hm; omega, fun j x k hj => ⟨_, iaS_at (List.getElem?_eq_some_iff.1 hj).1, hx2 j x hj⟩⟩

theorem sl3_in {α : Type} {row : α → List Value} {R : α → Prop} {P : Program} {g : Hp} {f : Nat} {t e : TypeId} {cs : List Value} (ht : P.underlying t = some (.slice e)) (hc : P.cellsOf e = 3) (hr : ∀ x, (row x).length = 3)
    (hR : ∀ f' c, c.length = 3 → OkF P g f' e c → ∃ x, c = row x ∧ R x) (h : OkF P g f t cs) : ∃ (v : Value) (l : List α), cs = [v] ∧ RowsAt g 3 v (l.map row) ∧ ∀ x ∈ l, R x := by
  rcases okF_slice ht h with rfl | ⟨a, len, cap, rfl, hl, hm, f', hel⟩
  · exact ⟨_, [], rfl, ⟨rfl, by simp, fun j x k h => by simp at h⟩, by simp⟩
  · rw [hc] at hel
    have hex : ∀ i, i < len → ∃ x : α, R x ∧ ∀ j, j < 3 → g.cell ((a.add (i * 3)).add j) = (row x)[j]? := fun i hi => by
      obtain ⟨c, h1, h2, h3⟩ := hel i hi
      obtain ⟨x, e1, hx⟩ := hR f' c h1 h3
      exact ⟨x, hx, by rw [← e1]; exact h2⟩
    obtain ⟨xs, hx1, hx2⟩ := list_of hex
    subst hx1
    refine ⟨_, xs, rfl, ⟨?_, ?_, ?_⟩, fun x hx => ?_⟩
    · rw [List.length_map]; rfl
    · rw [List.length_map]; unfold maxLen at hm; omega
    · intro j r k hj
      rw [List.getElem?_map] at hj
      obtain ⟨x, hx, rfl⟩ := Option.map_eq_some_iff.1 hj
      obtain ⟨b, o, e1, e2, e3⟩ := row_in (n := 3) (by omega) (hr x) (hx2 j x hx).2
      refine ⟨hr x, b, o, ?_, e2, e3⟩
      rw [iaS_at (List.getElem?_eq_some_iff.1 hx).1, e1]
    · obtain ⟨j, hj, e⟩ := List.getElem_of_mem hx
      exact (hx2 j x (by rw [List.getElem?_eq_getElem hj, e])).1

end Go.Sl

namespace Go.Proofs
open Go.Sl Go.ChangeShapes Go.WideShapes Go.ChangeAt Go.RowKit

theorem uInt : Try.prog.underlying 3 = some (.int .i64) := by kernel_rfl
theorem uInt64 : Try.prog.underlying 2 = some (.int .i64) := by kernel_rfl
theorem uBool : Try.prog.underlying 4 = some .bool := by kernel_rfl
theorem uInts : Try.prog.underlying 22 = some (.slice 3) := by kernel_rfl
theorem uObjs : Try.prog.underlying 24 = some (.slice 30) := by kernel_rfl
theorem uGs : Try.prog.underlying 23 = some (.slice 41) := by kernel_rfl
theorem cInt : Try.prog.cellsOf 3 = 1 := by kernel_rfl
theorem cInt64 : Try.prog.cellsOf 2 = 1 := by kernel_rfl
theorem cBool : Try.prog.cellsOf 4 = 1 := by kernel_rfl
theorem cInts : Try.prog.cellsOf 22 = 1 := by kernel_rfl
theorem cObjs : Try.prog.cellsOf 24 = 1 := by kernel_rfl
theorem cGs : Try.prog.cellsOf 23 = 1 := by kernel_rfl
theorem cObj : Try.prog.cellsOf 30 = 3 := by kernel_rfl
theorem cG : Try.prog.cellsOf 41 = 3 := by kernel_rfl
theorem cView : Try.prog.cellsOf 26 = 9 := by kernel_rfl

/-- The fields of a struct type, their types and places. -/
def flds (P : Program) (t : TypeId) : Option (List (TypeId × Nat)) :=
  match P.underlying t with
  | some (.struct fs) => some (fs.toList.map fun f => (f.type, f.offset))
  | _ => none

theorem okF_flds {P : Program} {g : Hp} {f : Nat} {t : TypeId} {fs : List (TypeId × Nat)} {cs : List Value} (ht : flds P t = some fs) (h : OkF P g f t cs) :
    cs.length = P.cellsOf t ∧ ∃ f', ∀ (i : Nat) (y : TypeId) (o : Nat), fs[i]? = some (y, o) → OkF P g f' y ((cs.drop o).take (P.cellsOf y)) := by
  unfold flds at ht
  split at ht
  · rename_i fa hu
    cases ht
    obtain ⟨h1, f', h2⟩ := okF_struct hu h
    refine ⟨h1, f', fun i y o hi => ?_⟩
    rw [List.getElem?_map] at hi
    obtain ⟨fd, hf, e⟩ := Option.map_eq_some_iff.1 hi
    cases e
    exact h2 i fd (by rw [← Array.getElem?_toList]; exact hf)
  · cases ht

theorem fObj : flds Try.prog 30 = some [(3, 0), (22, 1), (4, 2)] := by kernel_rfl
theorem fG : flds Try.prog 41 = some [(3, 0), (3, 1), (22, 2)] := by kernel_rfl
theorem fView : flds Try.prog 26 = some [(3, 0), (3, 1), (2, 2), (22, 3), (23, 4), (24, 5), (3, 6), (3, 7), (3, 8)] := by kernel_rfl

theorem obj_in {g : Hp} {f : Nat} {c : List Value} (hl : c.length = 3) (h : OkF Try.prog g f 30 c) : ∃ o : Ob, c = o.row ∧ IntsAt g o.sv o.slots ∧ o.addr ≤ 9223372036854775807 := by
  obtain ⟨_, f', hf⟩ := okF_flds fObj h
  match c, hl with
  | [c0, c1, c2], _ =>
    have g0 := hf 0 3 0 rfl
    have g1 := hf 1 22 1 rfl
    have g2 := hf 2 4 2 rfl
    rw [cInt] at g0; rw [cInts] at g1; rw [cBool] at g2
    obtain ⟨n, e0, _, b0⟩ := okF_int uInt g0
    obtain ⟨v, xs, e1, hx⟩ := sl1_in uInts uInt cInt g1
    obtain ⟨b, e2⟩ := okF_bool uBool g2
    simp at e0 e1 e2
    subst e0; subst e1; subst e2
    exact ⟨⟨n, c1, xs, b⟩, rfl, hx, b0⟩

theorem gor_in {g : Hp} {f : Nat} {c : List Value} (hl : c.length = 3) (h : OkF Try.prog g f 41 c) : ∃ o : Gr, c = o.row ∧ IntsAt g o.sv o.stack := by
  obtain ⟨_, f', hf⟩ := okF_flds fG h
  match c, hl with
  | [c0, c1, c2], _ =>
    have g0 := hf 0 3 0 rfl
    have g1 := hf 1 3 1 rfl
    have g2 := hf 2 22 2 rfl
    rw [cInt] at g0 g1; rw [cInts] at g2
    obtain ⟨n, e0, _⟩ := okF_int uInt g0
    obtain ⟨m, e1, _⟩ := okF_int uInt g1
    obtain ⟨v, xs, e2, hx⟩ := sl1_in uInts uInt cInt g2
    simp at e0 e1 e2
    subst e0; subst e1; subst e2
    exact ⟨⟨n, m, c2, xs⟩, rfl, hx⟩

theorem view_in {H : Type} {enc : TypeId × Value → H} {W : World} {held : Bool} {v : Value} {d : DataW H} {p : List MemPlace} (h : DataW.Trod enc Try.prog W 0 (fun _ => true) held 26 v d p) :
    ∃ w : VW, VAt W.hp w ∧ (∀ o ∈ w.objs, o.addr ≤ 9223372036854775807) ∧ v = w.val := by
  obtain ⟨f, hF⟩ := okF_of h
  obtain ⟨hl, f', hf⟩ := okF_flds fView hF
  rw [cView] at hl
  have hv : ∃ cs, v = .agg cs := by
    cases v <;> first | exact ⟨_, rfl⟩ | (simp [Value.cells] at hl)
  obtain ⟨⟨l⟩, rfl⟩ := hv
  have hl : l.length = 9 := hl
  match l, hl with
  | [c0, c1, c2, c3, c4, c5, c6, c7, c8], _ =>
    have g0 := hf 0 3 0 rfl
    have g1 := hf 1 3 1 rfl
    have g2 := hf 2 2 2 rfl
    have g3 := hf 3 22 3 rfl
    have g4 := hf 4 23 4 rfl
    have g5 := hf 5 24 5 rfl
    have g6 := hf 6 3 6 rfl
    have g7 := hf 7 3 7 rfl
    have g8 := hf 8 3 8 rfl
    rw [cInt] at g0 g1 g6 g7 g8
    rw [cInt64] at g2
    rw [cInts] at g3
    rw [cGs] at g4
    rw [cObjs] at g5
    obtain ⟨n0, e0, _⟩ := okF_int uInt g0
    obtain ⟨n1, e1, _⟩ := okF_int uInt g1
    obtain ⟨n2, e2, _⟩ := okF_int uInt64 g2
    obtain ⟨v3, xs, e3, hx⟩ := sl1_in uInts uInt cInt g3
    obtain ⟨v4, gs, e4, hg1, hg2⟩ := sl3_in (row := Gr.row) (R := fun o => IntsAt W.hp o.sv o.stack) uGs cG (fun _ => rfl) (fun _ _ a b => gor_in a b) g4
    obtain ⟨v5, os, e5, ho1, ho2⟩ := sl3_in (row := Ob.row) (R := fun o => IntsAt W.hp o.sv o.slots ∧ o.addr ≤ 9223372036854775807) uObjs cObj (fun _ => rfl) (fun _ _ a b => obj_in a b) g5
    obtain ⟨n6, e6, _⟩ := okF_int uInt g6
    obtain ⟨n7, e7, _⟩ := okF_int uInt g7
    obtain ⟨n8, e8, _⟩ := okF_int uInt g8
    simp [Value.cells] at e0 e1 e2 e3 e4 e5 e6 e7 e8
    subst e0; subst e1; subst e2; subst e3; subst e4; subst e5; subst e6; subst e7; subst e8
    exact ⟨⟨n0, n1, n2, c3, xs, c4, gs, c5, os, n6, n7, n8⟩, ⟨hx, hg1, ho1, fun o ho => (ho2 o ho).1, hg2⟩, fun o ho => (ho2 o ho).2, rfl⟩

end Go.Proofs
