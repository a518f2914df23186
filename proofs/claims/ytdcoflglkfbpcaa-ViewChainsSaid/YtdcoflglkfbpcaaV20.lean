/-
  The library's own contract on slices.Sort, at a slice that is owned.
-/
import Derived.Test.YtdcoflglkfbpcaaV19
import Derived.Sort.Grow
set_option linter.unusedVariables false
set_option linter.unusedSimpArgs false
namespace Go.Sl
open Go.Sort

abbrev iE : Enc Int := enc1 (fun n => .int .i64 n) (fun _ => rfl)

theorem iE_cs (l : List Int) : iE.cs l = l.map fun n => Value.int .i64 n := by
  induction l with
  | nil => rfl
  | cons a l ih => rw [iE.cs_cons, ih]; rfl

structure SortC (P : Program) (F : FuncId) : Prop where
  some : ∀ (blk off cap : Nat) (zs : List Int) (w : World), Holds (Value.int .i64) w blk off zs.toArray → blk < w.heap.size → zs.length < 4611686018427387904 →
    Calls P F #[.slice (some ⟨blk, off, none⟩) zs.length cap] w fun e w' => e = .returned (.tuple #[]) ∧ ∃ n os, w' = grow (putRow (Value.int .i64) (Sort.ahead w n) blk off (zs.mergeSort fun x y => decide (x ≤ y)).toArray) os
  none : ∀ (p : Option Addr) (cap : Nat) (w : World), Calls P F #[.slice p 0 cap] w fun e w' => e = .returned (.tuple #[]) ∧ w' = w

abbrev srt (l : List Int) : List Int := l.mergeSort fun x y => decide (x ≤ y)

theorem callH_same {P : Program} {f : FuncId} {args : Array Value} {v : Value} {K : Value → Hp → Prop} {h : Hp} (hc : ∀ w, Calls P f args w fun e w' => e = .returned v ∧ w' = w) (hK : K v h) : CallH P f args K h := by
  intro w fr tg d e
  refine (hc w).mono ?_
  rintro e' w' ⟨rfl, rfl⟩
  exact ⟨v, h, fr, rfl, d, e, Grows.refl fr, hK⟩

/-- A call that turns one owned block and leaves new ones behind. -/
theorem callH_block {P : Program} {f : FuncId} {args : Array Value} {v : Value} {K : Value → Hp → Prop} {h : Hp} {r : Nat} {o o' : Obj} (ho : h r = some o)
    (hc : ∀ (w : World), w.hp r = some o → Calls P f args w fun e w' => e = .returned v ∧ (w'.os, w'.output, w'.tape) = (w.os, w.output, w.tape) ∧ w'.hp r = some o' ∧ ∀ b q, b ≠ r → w.hp b = some q → w'.hp b = some q)
    (hK : K v (h.upd r o')) : CallH P f args K h := by
  intro w fr tg d ⟨e, et⟩
  have hr : w.hp r = some o := by rw [e]; exact Hp.add_of_left ho
  refine (hc w hr).mono ?_
  rintro e' w' ⟨rfl, h1, h2, h3⟩
  have hfr : fr r = none := by
    rcases d r with h | h
    · rw [ho] at h; cases h
    · exact h
  refine ⟨v, h.upd r o', w'.hp.minus (h.upd r o'), rfl, ?_, ⟨?_, h1.trans et⟩, ?_, hK⟩
  · intro b
    rw [Hp.minus_apply]
    cases hb : (h.upd r o') b with
    | none => exact .inl rfl
    | some x => exact .inr (by simp)
  · apply Hp.ext'
    intro b
    rw [Hp.add_apply, Hp.minus_apply]
    by_cases hb : b = r
    · subst hb
      rw [Hp.upd_self]
      simp [h2]
    · rw [Hp.upd_ne hb]
      cases hq : h b with
      | none => simp
      | some x =>
        have := h3 b x hb (by rw [e]; exact Hp.add_of_left hq)
        simp [this]
  · intro b x hb
    rw [Hp.minus_apply]
    have hne : b ≠ r := fun q => by rw [q, hfr] at hb; cases hb
    have hh : h b = none := by
      rcases d b with q | q
      · exact q
      · rw [hb] at q; cases q
    rw [Hp.upd_ne hne, hh]
    simp only [Option.isSome_none, Bool.false_eq_true, if_false]
    refine h3 b x hne ?_
    rw [e, Hp.add_apply, hh]
    simpa using hb

theorem use_sort {P : Program} {f : FuncId} (C : SortC P f) {E : Nat} {sv : Value} {l : List Int} {F : Asrt} {K : Value → Hp → Prop} {h : Hp} (hl : l.length < 4611686018427387904) (hh : (SG iE E sv l * F) h)
    (hK : ∀ h', (SG iE E sv (srt l) * F) h' → K (.tuple #[]) h') : CallH P f #[sv] K h := by
  have hsl : (srt l).length = l.length := List.length_mergeSort l
  rcases SG_elim iE hh with ⟨rfl, rfl, hF⟩ | ⟨r, cap, pre, post, rfl, h1, h2, h3, hp⟩
  · refine callH_same (fun w => C.none none 0 w) (hK h ?_)
    have : srt [] = [] := by simp [srt]
    rw [this]
    exact SG_nil iE hF
  · have hb := pt_get hp
    have hcell : ∀ j, j < l.length → (pre ++ (iE.cs l ++ post)).toArray[pre.length + j]? = some (.int .i64 l[j]!) := fun j hj => by
      rw [get_pre, iE_cs]
      simp only [List.getElem?_toArray]
      rw [List.getElem?_append_left (by simpa using hj), List.getElem?_map, List.getElem?_eq_getElem hj]
      simp [getElem!_pos l j hj]
    refine callH_block (o' := .cells (pre ++ (iE.cs (srt l) ++ post)).toArray E (0, 0)) hb (fun w hw => ?_) (hK _ (SG_intro iE rfl hsl.symm (by rw [hsl]; exact h1) h2 (by rw [hsl]; exact h3) (pt_upd hp)))
    have hw' : w.heap[r]? = some (.cells (pre ++ (iE.cs l ++ post)).toArray E (0, 0)) := hw
    have hrl : r < w.heap.size := (Array.getElem?_eq_some_iff.1 hw').1
    refine (C.some r pre.length cap l w (fun j hj => ?_) hrl hl).mono ?_
    · have hj : j < l.length := by simpa using hj
      constructor
      · rw [cell?_hp]
        unfold Hp.cell
        simp only [hw, Option.bind_some, Obj.cellAt, Option.isSome_none, Bool.false_eq_true, if_false]
        rw [hcell j hj]
        simp
      · rw [frozen?_hp w _ hw]
        simp [Obj.frz]
    rintro e w' ⟨rfl, n, os, rfl⟩
    refine ⟨rfl, rfl, ?_, fun b q hb hq => ?_⟩
    · show (grow _ os).heap[r]? = _
      rw [heap_grow_old _ _ (by simpa [putRow, mapBlock] using hrl)]
      simp only [putRow, mapBlock, heap_ahead, Array.getElem?_modify, hw', if_true, Option.map_some, onCells]
      congr 2
      apply Array.ext'
      apply List.ext_getElem?
      intro k
      simp only [putCells, Array.getElem?_toList, Array.getElem?_mapIdx, List.getElem?_toArray, List.size_toArray]
      have hsl' : (l.mergeSort fun x y => decide (x ≤ y)).length = l.length := hsl
      by_cases hk1 : k < pre.length
      · rw [List.getElem?_append_left hk1, List.getElem?_append_left hk1, List.getElem?_eq_getElem hk1]
        rw [Option.map_some, if_neg (by omega)]
      · obtain ⟨j, rfl⟩ : ∃ j, k = pre.length + j := ⟨k - pre.length, by omega⟩
        have hL : ∀ X : List Value, (pre ++ X)[pre.length + j]? = X[j]? := fun X => by
          rw [List.getElem?_append_right (by omega)]; congr 1; omega
        rw [hL, hL, iE_cs, iE_cs, Nat.add_sub_cancel_left]
        by_cases hj : j < l.length
        · have e1 : (l.map (fun n => Value.int .i64 n) ++ post)[j]? = some (.int .i64 l[j]) := by
            rw [List.getElem?_append_left (by simpa using hj), List.getElem?_map, List.getElem?_eq_getElem hj]; rfl
          have e2 : ((srt l).map (fun n => Value.int .i64 n) ++ post)[j]? = some (.int .i64 (srt l)[j]) := by
            rw [List.getElem?_append_left (by rw [List.length_map]; omega), List.getElem?_map, List.getElem?_eq_getElem (by omega)]; rfl
          rw [e1, e2, Option.map_some, if_pos (by omega)]
          congr 2
          rw [getElem!_pos _ _ (by simp; omega)]
          simp
        · have e1 : (l.map (fun n => Value.int .i64 n) ++ post)[j]? = post[j - l.length]? := by
            rw [List.getElem?_append_right (by rw [List.length_map]; omega), List.length_map]
          have e2 : ((srt l).map (fun n => Value.int .i64 n) ++ post)[j]? = post[j - l.length]? := by
            rw [List.getElem?_append_right (by rw [List.length_map]; omega), List.length_map, hsl]
          rw [e1, e2]
          cases post[j - l.length]? with
          | none => rfl
          | some x => rw [Option.map_some, if_neg (by omega)]
    · show (grow _ os).heap[b]? = _
      have hbl : b < w.heap.size := (Array.getElem?_eq_some_iff.1 hq).1
      rw [heap_grow_old _ _ (by simpa [putRow, mapBlock] using hbl)]
      simp only [putRow, mapBlock, heap_ahead, Array.getElem?_modify, if_neg (fun h => hb h.symm : ¬ r = b)]
      exact hq

end Go.Sl
