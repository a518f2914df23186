/-
  Whether two slices overlap: they do not, in two blocks of cells.
-/
import Derived.Test.YtdcoflglkfbpcaaV9
set_option linter.unusedVariables false
set_option linter.unusedSimpArgs false
namespace Go.Sl

def ovlOk (P : Program) (f : FuncId) (t0 e : TypeId) (sz : Nat) : Prop :=
  ∃ fn, P.funcs[f]? = some fn ∧ (fn.name == "runtime.NumGoroutine") = false ∧ fn.body.isNone = true ∧ Extern.findNext fn = none ∧
    Extern.find fn = some (Extern.SlicesOverlaps.overlaps fn.params fn.resultTypes) ∧ fn.params[0]? = some t0 ∧ P.underlying t0 = some (.slice e) ∧ (P.info? e).map (·.size) = some sz

theorem rd_frozen_cells {P : Program} {h : Hp} {a : Addr} {c : Array Value} {e : TypeId} (hb : h a.block = some (.cells c e (0, 0))) : (frozen a).rd P h = some false := by
  unfold frozen
  simp only [Sem.rd, hb]
  simp [Obj.frz]

theorem rd_shape_cells {P : Program} {h : Hp} {b : Nat} {c : Array Value} {e : TypeId} {fz : Nat × Nat} (hb : h b = some (.cells c e fz)) : (shape b).rd P h = some (some (e, c.size)) := by
  unfold shape
  simp only [Sem.rd, hb]
  rfl

theorem rd_viewAt_cells {P : Program} {h : Hp} {b : Nat} {c : Array Value} {e : TypeId} {fz : Nat × Nat} (hb : h b = some (.cells c e fz)) : (viewAt b).rd P h = some none := by
  unfold viewAt
  rw [rd_bind', rd_shape_cells hb]; rfl

theorem rd_noView_cells {P : Program} {h : Hp} {a : Addr} {c : Array Value} {e : TypeId} {fz : Nat × Nat} (hb : h a.block = some (.cells c e fz)) : (noView a).rd P h = some () := by
  unfold noView
  rw [rd_bind', rd_viewAt_cells hb]; rfl

theorem rd_stringish_cells {P : Program} {h : Hp} {a : Addr} {c : Array Value} {e : TypeId} (hb : h a.block = some (.cells c e (0, 0))) : (stringish a).rd P h = some false := by
  unfold stringish
  rw [rd_bind', rd_frozen_cells hb]
  simp only [Option.bind_some, Bool.false_eq_true, if_false]
  rw [rd_bind', rd_shape_cells hb]
  simp only [Option.bind_some]
  exact rd_frozen_cells hb

theorem rd_mayBeOne_cells {P : Program} {h : Hp} {a b : Addr} {c d : Array Value} {e e' : TypeId} (ha : h a.block = some (.cells c e (0, 0))) (hb : h b.block = some (.cells d e' (0, 0))) : (mayBeOne a b).rd P h = some false := by
  unfold mayBeOne
  simp only [rd_bind', rd_stringish_cells ha, rd_stringish_cells hb, rd_shape_cells ha, rd_shape_cells hb, Option.bind_some, rd_pure, Bool.false_and, Bool.or_self]

theorem rd_ovl {P : Program} {ps rs : Array TypeId} {t0 e : TypeId} {sz : Nat} (h0 : ps[0]? = some t0) (h1 : P.underlying t0 = some (.slice e)) (h2 : (P.info? e).map (·.size) = some sz) {h : Hp} {a b : Addr} {la ca lb cb : Nat}
    {c d : Array Value} {ea eb : TypeId} (ha : h a.block = some (.cells c ea (0, 0))) (hb : h b.block = some (.cells d eb (0, 0))) (hne : a.block ≠ b.block) :
    (Extern.SlicesOverlaps.overlaps ps rs #[.slice (some a) la ca, .slice (some b) lb cb]).rd P h = some (.bool false) := by
  delta Extern.SlicesOverlaps.overlaps
  dsimp only
  rw [h0]
  show (underlying t0 >>= _).rd P h = _
  rw [rd_bind', rd_underlying, h1]
  simp only [Option.bind_some]
  show (sizeOf e >>= _).rd P h = _
  rw [rd_bind', rd_sizeOf, h2]
  simp only [Option.bind_some]
  by_cases hz : la = 0 ∨ lb = 0 ∨ sz = 0
  · rw [if_pos hz]; rfl
  · rw [if_neg hz]
    have hq : (a.block != b.block) = true := by simpa using hne
    have hq' : (a.block == b.block) = false := by simpa using hne
    simp only [rd_bind', rd_frozen_cells ha, rd_frozen_cells hb, Option.bind_some, hq, hq', Bool.and_false, Bool.false_eq_true, if_false, if_true, rd_noView_cells ha, rd_noView_cells hb, rd_mayBeOne_cells ha hb, rd_pure, Bool.false_and]

theorem exW_ovl {P : Program} {f : FuncId} {t0 e : TypeId} {sz : Nat} (ok : ovlOk P f t0 e sz) {K : Value → Hp → Prop} {h : Hp} {a b : Addr} {la ca lb cb : Nat}
    {c d : Array Value} {ea eb : TypeId} (ha : h a.block = some (.cells c ea (0, 0))) (hb : h b.block = some (.cells d eb (0, 0))) (hne : a.block ≠ b.block) (hk : K (.bool false) h) :
    exW P f #[.slice (some a) la ca, .slice (some b) lb cb] K h := by
  obtain ⟨fn, h1, h2, h3, h4, h5, h6, h7, h8⟩ := ok
  refine ⟨?_⟩
  unfold rawWp callFunc
  show Sem.vc P (match P.funcs[f]? with | none => _ | some fn => _) _ h
  simp only [h1, h2, h3, h4, h5, Bool.false_eq_true, if_false, if_true]
  show Sem.vc P (do Pure.pure (Next.value (← Extern.SlicesOverlaps.overlaps fn.params fn.resultTypes _))) _ h
  exact vc_rd_bind (rd_ovl h6 h7 h8 ha hb hne) hk

end Go.Sl
