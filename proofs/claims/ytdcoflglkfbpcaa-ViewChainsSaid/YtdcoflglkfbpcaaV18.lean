/-
  What came in: values as the row's opening reads them, whatever their types; slices of triples.
-/
import Derived.Test.YtdcoflglkfbpcaaV17
set_option linter.unusedVariables false
set_option linter.unusedSimpArgs false
namespace Go.Sl
open Go.ChangeShapes Go.WideShapes Go.ChangeAt Go.RowKit

theorem own_ldN {g : Hp} {F : Asrt} {h : Hp} {n : Nat} {p v : Value} (hh : (own g * F) h) (hg : ldN n p g = some v) : ldN n p h = some v := by
  obtain ⟨x, y, d, rfl, rfl, _⟩ := hh
  exact ldN_mono _ _ _ _ _ hg

/-- A slice of triples of numbers in memory that is only read. -/
structure TrisAt (g : Hp) (sv : Value) (os : List (Int × Int × Int)) : Prop where
  len : lenV sv = some (.int .i64 os.length)
  lt : os.length < 9223372036854775808
  get : ∀ (j : Nat) (o : Int × Int × Int) (k : IntKind), os[j]? = some o → ∃ p, iaS 3 sv (.int k (j : Int)) = some p ∧ ldN 3 p g = some (.agg #[.int .i64 o.1, .int .i64 o.2.1, .int .i64 o.2.2])
  wf : ∀ o ∈ os, (-9223372036854775808 ≤ o.1 ∧ o.1 ≤ 9223372036854775807) ∧ (-9223372036854775808 ≤ o.2.1 ∧ o.2.1 ≤ 9223372036854775807) ∧ (-9223372036854775808 ≤ o.2.2 ∧ o.2.2 ≤ 9223372036854775807)

/-- A value of a type, read through and through: numbers, slices and structs. -/
def OkF (P : Program) (g : Hp) : Nat → TypeId → List Value → Prop
  | 0, _, _ => False
  | f + 1, t, cs =>
    match P.underlying t with
    | some .bool => ∃ b, cs = [.bool b]
    | some (.int k) => ∃ n, cs = [.int k n] ∧ k.min ≤ n ∧ n ≤ k.max
    | some (.slice e) => cs = [.slice none 0 0] ∨ ∃ a len cap, cs = [.slice (some a) len cap] ∧ len ≤ cap ∧ cap ≤ maxLen ∧
        ∀ i, i < len → ∃ c : List Value, c.length = P.cellsOf e ∧ (∀ j, j < P.cellsOf e → g.cell ((a.add (i * P.cellsOf e)).add j) = c[j]?) ∧ OkF P g f e c
    | some (.struct fs) => cs.length = P.cellsOf t ∧ ∀ (i : Nat) (fd : Field), fs[i]? = some fd → OkF P g f fd.type ((cs.drop fd.offset).take (P.cellsOf fd.type))
    | _ => True

theorem trod_okF {H : Type} {enc : TypeId × Value → H} {P : Program} {W : World} {base : Nat} {sp : Nat → Bool} {held : Bool} : ∀ {fuel : Nat} {t : TypeId} {cs : List Value} {x : DataW H × List MemPlace},
    DataW.trod enc P W base sp held fuel t cs = some x → OkF P W.hp fuel t cs
  | 0, t, cs, x, h => by simp [DataW.trod] at h
  | f + 1, t, cs, x, h => by
    unfold OkF
    split
    · rename_i ht
      unfold DataW.trod at h
      rw [ht] at h
      split at h <;> simp_all
    · rename_i k ht
      unfold DataW.trod at h
      rw [ht] at h
      split at h <;> simp_all [Lit.wf]
    · rename_i e ht
      rcases DataW.trod_slice ht h with ⟨h1, _⟩ | ⟨a, len, cap, elems, rest, n, hn, h1, _, hb, hl, hc, hel, hg, _⟩
      · exact .inl h1
      · obtain rfl : f = n := by omega
        refine .inr ⟨a, len, cap, h1, hl, hc, fun i hi => ?_⟩
        have h2 := hg i hi
        rw [List.getElem?_eq_getElem (by omega)] at h2
        obtain ⟨c, h3, h4⟩ := Option.bind_eq_some_iff.1 h2
        obtain ⟨_, h5, h6⟩ := World.cells?_some h3
        exact ⟨c, h5, fun j hj => by rw [← cell?_hp]; exact h6 j hj, trod_okF h4⟩
    · rename_i fs ht
      obtain ⟨xs, n, hn, _, hl, hlen, hg⟩ := DataW.trod_struct ht h
      obtain rfl : f = n := by omega
      refine ⟨hl, fun i fd hf => ?_⟩
      have hi : i < fs.size := (Array.getElem?_eq_some_iff.1 hf).1
      have h2 := hg i fd hf
      rw [List.getElem?_eq_getElem (by omega)] at h2
      exact trod_okF h2
    · trivial

theorem okF_of {H : Type} {enc : TypeId × Value → H} {P : Program} {W : World} {base : Nat} {sp : Nat → Bool} {held : Bool} {t : TypeId} {v : Value} {d : DataW H} {p : List MemPlace} (h : DataW.Trod enc P W base sp held t v d p) : ∃ f, OkF P W.hp f t v.cells.toList :=
  let ⟨f, hf⟩ := h; ⟨f, trod_okF hf⟩

theorem okF_int {P : Program} {g : Hp} {f : Nat} {t : TypeId} {k : IntKind} {cs : List Value} (ht : P.underlying t = some (.int k)) (h : OkF P g f t cs) : ∃ n, cs = [.int k n] ∧ k.min ≤ n ∧ n ≤ k.max := by
  cases f with
  | zero => exact h.elim
  | succ f => unfold OkF at h; rw [ht] at h; exact h

theorem okF_bool {P : Program} {g : Hp} {f : Nat} {t : TypeId} {cs : List Value} (ht : P.underlying t = some .bool) (h : OkF P g f t cs) : ∃ b, cs = [.bool b] := by
  cases f with
  | zero => exact h.elim
  | succ f => unfold OkF at h; rw [ht] at h; exact h

theorem okF_struct {P : Program} {g : Hp} {f : Nat} {t : TypeId} {fs : Array Field} {cs : List Value} (ht : P.underlying t = some (.struct fs)) (h : OkF P g f t cs) :
    cs.length = P.cellsOf t ∧ ∃ f', ∀ (i : Nat) (fd : Field), fs[i]? = some fd → OkF P g f' fd.type ((cs.drop fd.offset).take (P.cellsOf fd.type)) := by
  cases f with
  | zero => exact h.elim
  | succ f => unfold OkF at h; rw [ht] at h; exact ⟨h.1, f, h.2⟩

theorem okF_slice {P : Program} {g : Hp} {f : Nat} {t e : TypeId} {cs : List Value} (ht : P.underlying t = some (.slice e)) (h : OkF P g f t cs) :
    cs = [.slice none 0 0] ∨ ∃ a len cap, cs = [.slice (some a) len cap] ∧ len ≤ cap ∧ cap ≤ maxLen ∧
      ∃ f', ∀ i, i < len → ∃ c : List Value, c.length = P.cellsOf e ∧ (∀ j, j < P.cellsOf e → g.cell ((a.add (i * P.cellsOf e)).add j) = c[j]?) ∧ OkF P g f' e c := by
  cases f with
  | zero => exact h.elim
  | succ f =>
    unfold OkF at h; rw [ht] at h
    rcases h with h | ⟨a, len, cap, h1, h2, h3, h4⟩
    · exact .inl h
    · exact .inr ⟨a, len, cap, h1, h2, h3, f, h4⟩

/-- Cells in a row, read at once. -/
theorem row_of_cells {g : Hp} {a : Addr} {n : Nat} {c : List Value} (hn : 0 < n) (hl : c.length = n) (h : ∀ j, j < n → g.cell (a.add j) = c[j]?) : g.row a n = some c.toArray := by
  have h0 := h 0 hn
  rw [show a.add 0 = a from by cases a; simp [Addr.add], List.getElem?_eq_getElem (by omega)] at h0
  obtain ⟨o, ho, hc⟩ := Hp.block_of_cell h0
  cases o with
  | cells cs e fz =>
    have hsp : a.spot = none := by
      cases hs : a.spot with
      | none => rfl
      | some s => simp [Obj.cellAt, hs] at hc
    obtain ⟨b, off, sp⟩ := a
    simp only at hsp ho
    subst hsp
    have hcell : ∀ j, j < n → cs[off + j]? = c[j]? := fun j hj => by
      have := h j hj
      rw [add_mk] at this
      unfold Hp.cell at this
      simp only [ho, Option.bind_some, Obj.cellAt, Option.isSome_none, Bool.false_eq_true, if_false] at this
      exact this
    have hsz : off + n ≤ cs.size := by
      have := hcell (n - 1) (by omega)
      rw [List.getElem?_eq_getElem (by omega)] at this
      have := (Array.getElem?_eq_some_iff.1 this).1
      omega
    unfold Hp.row rowIn
    simp only [ho, Option.bind_some, Option.isNone_none, Bool.true_and, decide_eq_true hsz, if_true]
    congr 1
    apply Array.ext'
    rw [Array.toList_extract, List.extract_eq_take_drop]
    apply List.ext_getElem?
    intro j
    by_cases hj : j < n
    · rw [List.getElem?_take_of_lt (by omega), List.getElem?_drop, Array.getElem?_toList, hcell j hj]
    · rw [List.getElem?_eq_none (by rw [List.length_take]; omega), List.getElem?_eq_none (by simp; omega)]
  | _ => simp [Obj.cellAt] at hc

/-- The list of what a slice's elements are. -/
theorem list_of {α : Type} {n : Nat} {R : Nat → α → Prop} (h : ∀ i, i < n → ∃ x, R i x) : ∃ l : List α, l.length = n ∧ ∀ (i : Nat) x, l[i]? = some x → R i x := by
  induction n with
  | zero => exact ⟨[], rfl, fun i x h => by simp at h⟩
  | succ n ih =>
    obtain ⟨l, h1, h2⟩ := ih fun i hi => h i (by omega)
    obtain ⟨x, hx⟩ := h n (by omega)
    refine ⟨l ++ [x], by simp [h1], fun i y hy => ?_⟩
    by_cases hi : i < l.length
    · rw [List.getElem?_append_left hi] at hy
      exact h2 i y hy
    · have hi2 : i = n := by
        have := (List.getElem?_eq_some_iff.1 hy).1
        simp at this; omega
      subst hi2
      rw [List.getElem?_append_right (by omega), h1, Nat.sub_self] at hy
      simp at hy
      exact hy ▸ hx

theorem iaS_at {sz : Nat} {a : Addr} {len cap : Nat} {k : IntKind} {j : Nat} (h : j < len) : iaS sz (.slice (some a) len cap) (.int k (j : Int)) = some (.pointer (some (a.add (j * sz)))) := by
  show (if 0 ≤ (j : Int) ∧ (j : Int) < (len : Int) then some (Value.pointer (some (a.add ((j : Int).toNat * sz)))) else none) = _
  rw [if_pos (by omega), Int.toNat_natCast]

/-- A slice of triples, as it came in. -/
theorem tris_in {H : Type} {enc : TypeId × Value → H} {P : Program} {W : World} {base : Nat} {held : Bool} {r : Reach} {t e ti : TypeId} {f0 f1 f2 : Field} {v : Value} {d : DataW H} {p : List MemPlace} (ht : P.underlying t = some (.slice e)) (he : P.underlying e = some (.struct #[f0, f1, f2]))
    (hi : P.underlying ti = some (.int .i64)) (hc : P.cellsOf e = 3) (hci : P.cellsOf ti = 1) (hf : f0.type = ti ∧ f1.type = ti ∧ f2.type = ti ∧ f0.offset = 0 ∧ f1.offset = 1 ∧ f2.offset = 2)
    (hv : Value.okWide P W r base t v) (h : DataW.Trod enc P W 0 (fun _ => true) held t v d p) : ∃ os, TrisAt W.hp v os := by
  obtain ⟨a0, len0, cap0, rfl⟩ := okWide_slice ht hv
  obtain ⟨f, hF⟩ := okF_of h
  rcases okF_slice ht hF with hcs | ⟨a, len, cap, hcs, hl, hm, f', hel⟩
  · simp [Value.cells] at hcs
    obtain ⟨rfl, rfl, rfl⟩ := hcs
    exact ⟨[], ⟨rfl, by simp, fun j x k h => by simp at h, by simp⟩⟩
  · simp [Value.cells] at hcs
    obtain ⟨rfl, rfl, rfl⟩ := hcs
    rw [hc] at hel
    have hex : ∀ i, i < len0 → ∃ o : Int × Int × Int, ldN 3 (.pointer (some (a.add (i * 3)))) W.hp = some (.agg #[.int .i64 o.1, .int .i64 o.2.1, .int .i64 o.2.2]) ∧
        (-9223372036854775808 ≤ o.1 ∧ o.1 ≤ 9223372036854775807) ∧ (-9223372036854775808 ≤ o.2.1 ∧ o.2.1 ≤ 9223372036854775807) ∧ (-9223372036854775808 ≤ o.2.2 ∧ o.2.2 ≤ 9223372036854775807) := fun i hi' => by
      obtain ⟨c, h1, h2, h3⟩ := hel i hi'
      obtain ⟨_, g, hg⟩ := okF_struct he h3
      have g0 := hg 0 f0 rfl
      have g1 := hg 1 f1 rfl
      have g2 := hg 2 f2 rfl
      rw [hf.1, hf.2.2.2.1, hci] at g0
      rw [hf.2.1, hf.2.2.2.2.1, hci] at g1
      rw [hf.2.2.1, hf.2.2.2.2.2, hci] at g2
      obtain ⟨x, e0, b0⟩ := okF_int hi g0
      obtain ⟨y, e1, b1⟩ := okF_int hi g1
      obtain ⟨z, e2, b2⟩ := okF_int hi g2
      match c, h1 with
      | [c0, c1, c2], _ =>
        simp at e0 e1 e2
        subst e0; subst e1; subst e2
        have hrow := row_of_cells (n := 3) (by omega) rfl h2
        refine ⟨(x, y, z), ?_, b0, b1, b2⟩
        show (W.hp.row _ 3).map Value.agg = _
        rw [hrow]
        rfl
    obtain ⟨os, ho1, ho2⟩ := list_of hex
    subst ho1
    refine ⟨os, ⟨rfl, by unfold maxLen at hm; omega, fun j o k hj => ?_, fun o ho => ?_⟩⟩
    · exact ⟨_, iaS_at (List.getElem?_eq_some_iff.1 hj).1, (ho2 j o hj).1⟩
    · obtain ⟨j, hj, e⟩ := List.getElem_of_mem ho
      exact (ho2 j o (by rw [List.getElem?_eq_getElem hj, e])).2

end Go.Sl
