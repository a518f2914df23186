/-
  Append of what is only read.
-/
import Derived.Test.YtdcoflglkfbpcaaV21
set_option linter.unusedVariables false
set_option linter.unusedSimpArgs false
namespace Go.Sl

theorem rd_first0 {P : Program} {sz xc : Nat} {xa : Option Addr} {h : Hp} : (Builtin.firstCells sz 0 (.slice xa 0 xc)).rd P h = some #[] := by
  cases xa with
  | none => rfl
  | some a =>
    show (loadCells a (0 * sz)).rd P h = some #[]
    rw [Nat.zero_mul]
    rfl

/-- Append of nothing. -/
theorem apW_none0 {P : Program} {ts : Array TypeId} {t t0 t1 e : TypeId} {i : TypeInfo} {z : Value} (ok : ElemOk P ts t0 e i z) (h1 : ts[1]? = some t1) (hd : noInt P t1)
    {sb : Option Addr} {sl sc xc : Nat} {xa : Option Addr} {K : Value → Hp → Prop} {h : Hp} (hs : sl ≤ sc) (hk : K (.slice sb sl sc) h) :
    apW P ts t (.slice sb sl sc) (.slice xa 0 xc) K h := by
  obtain ⟨d, hd, hn1⟩ := hd
  unfold apW Builtin.append_
  simp only [ok.at0, h1]
  show Sem.vc P (do let d ← underlying t0; _) K h
  refine vc_rd_bind (by rw [rd_underlying]; exact ok.sl) ?_
  simp only
  refine vc_rd_bind (rd_size (by rw [ok.info]; rfl)) ?_
  rw [info_size ok.info]
  refine vc_rd_bind (by rw [rd_underlying]; exact hd) ?_
  refine vc_rd_bind (a := false) (by cases d <;> first | exact (hn1 _ rfl).elim | rfl) ?_
  simp only [Bool.false_eq_true, if_false]
  refine vc_rd_bind (a := 0) rfl ?_
  rw [if_pos (show sl + 0 ≤ sc by omega)]
  simp only [Bool.not_false, if_true]
  refine vc_rd_bind rd_first0 ?_
  cases sb with
  | none => exact hk
  | some a => exact hk

variable {α : Type} (e : Enc α)

theorem ap_zero {P : Program} {ts : Array TypeId} {t t0 t1 E sz bytes : Nat} (ok : ElOk P t0 E sz bytes) (h0 : ts[0]? = some t0) (h1 : ts[1]? = some t1) (hd : noInt P t1)
    {sv : Value} {l : List α} {F : Asrt} {K : Value → Hp → Prop} {h : Hp} {xa : Option Addr} {xc : Nat} (hh : (SG e E sv l * F) h) (hk : K sv h) : apW P ts t sv (.slice xa 0 xc) K h := by
  obtain ⟨i, z, okk, _, _, _⟩ := ok.ok
  have ok := okk ts h0
  rcases SG_elim e hh with ⟨rfl, rfl, _⟩ | ⟨r, cap, pre, post, rfl, h2, _⟩
  · exact apW_none0 ok h1 hd (Nat.le_refl _) hk
  · exact apW_none0 ok h1 hd h2 hk

theorem cell_spot' {g : Hp} {a : Addr} {v : Value} (h : g.cell a = some v) : a.spot = none := by
  obtain ⟨o, ho, hc⟩ := Hp.block_of_cell h
  cases hs : a.spot with
  | none => rfl
  | some s => cases o <;> simp_all [Obj.cellAt]

/-- Append of numbers that are only read. -/
theorem ap_ints {P : Program} {ts : Array TypeId} {t t0 t1 E bytes : Nat} (ok : ElOk P t0 E 1 bytes) (h0 : ts[0]? = some t0) (h1 : ts[1]? = some t1) (hd : noInt P t1) (hbp : 0 < bytes)
    {sv sx : Value} {l xs : List Int} {F : Asrt} {K : Value → Hp → Prop} {h : Hp} (hx : IntsAt h sx xs) (hh : (SG iE E sv l * (F * tt)) h) (hb : (2 * (l.length + xs.length) + 256) * bytes ≤ 281474976710656)
    (hk : ∀ v h', (SG iE E v (l ++ xs) * (F * tt)) h' → K v h') : apW P ts t sv sx K h := by
  have hl := hx.len
  unfold lenV at hl
  split at hl
  · rename_i a n c
    have hn : n = xs.length := by
      have := Value.int.inj (Option.some.inj hl)
      omega
    subst hn
    by_cases hx0 : xs = []
    · subst hx0
      rw [List.append_nil] at hk
      exact ap_zero iE ok h0 h1 hd hh (hk _ _ hh)
    · have hpos := List.length_pos_iff.2 hx0
      cases a with
      | none =>
        obtain ⟨p, e1, _⟩ := hx.get 0 xs[0] .i64 (List.getElem?_eq_getElem hpos)
        cases e1
      | some a =>
        refine ap_SG iE ok h0 h1 hd rfl hbp hh ?_ rfl hb hk
        show h.row a (xs.length * 1) = _
        rw [Nat.mul_one, iE_cs]
        refine row_of_cells hpos (by simp) fun j hj => ?_
        obtain ⟨p, e1, e2⟩ := hx.get j xs[j] .i64 (List.getElem?_eq_getElem hj)
        rw [iaS_at hj] at e1
        cases e1
        have e2 : h.cell (a.add (j * 1)) = some (.int .i64 xs[j]) := e2
        rw [Nat.mul_one] at e2
        rw [e2, List.getElem?_map, List.getElem?_eq_getElem hj]
        rfl
  · cases hl

end Go.Sl
