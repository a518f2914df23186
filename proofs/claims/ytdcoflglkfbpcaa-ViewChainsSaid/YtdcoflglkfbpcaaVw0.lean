/-
  Views, plainly: what is named, what can be reached; and a view as it lies in memory.
-/
import Derived.Test.YtdcoflglkfbpcaaV21
set_option linter.unusedVariables false
set_option linter.unusedSimpArgs false
namespace Go.Sl

structure Ob where
  addr : Int
  sv : Value
  slots : List Int
  marked : Bool

structure Gr where
  st : Int
  p : Int
  sv : Value
  stack : List Int

structure VW where
  phase : Int
  cycle : Int
  clock : Int
  gv : Value
  globals : List Int
  sv : Value
  gs : List Gr
  ov : Value
  objs : List Ob
  grey : Int
  notes : Int
  roots : Int

def Ob.row (o : Ob) : List Value := [.int .i64 o.addr, o.sv, .bool o.marked]
def Gr.row (o : Gr) : List Value := [.int .i64 o.st, .int .i64 o.p, o.sv]
def VW.cells (w : VW) : Array Value := #[.int .i64 w.phase, .int .i64 w.cycle, .int .i64 w.clock, w.gv, w.sv, w.ov, .int .i64 w.grey, .int .i64 w.notes, .int .i64 w.roots]
def VW.val (w : VW) : Value := .agg w.cells

/-! ### Lists without what is in them already -/

def onceL (l : List Int) (x : Int) : List Int := if x = 0 ∨ x ∈ l then l else l ++ [x]

theorem onceL_mem {l : List Int} {x y : Int} : y ∈ onceL l x ↔ y ∈ l ∨ (y = x ∧ y ≠ 0) := by
  unfold onceL
  split
  · rename_i h
    constructor
    · exact .inl
    · rintro (h1 | ⟨rfl, h2⟩)
      · exact h1
      · rcases h with h | h
        · exact (h2 h).elim
        · exact h
  · rename_i h
    rw [List.mem_append, List.mem_singleton]
    constructor
    · rintro (h1 | rfl)
      · exact .inl h1
      · exact .inr ⟨rfl, fun e => h (.inl e)⟩
    · rintro (h1 | ⟨h1, _⟩)
      · exact .inl h1
      · exact .inr h1

theorem foldl_once_mem {xs : List Int} : ∀ {l : List Int} {y : Int}, y ∈ xs.foldl onceL l ↔ y ∈ l ∨ (y ∈ xs ∧ y ≠ 0) := by
  induction xs with
  | nil => intro l y; simp
  | cons x xs ih =>
    intro l y
    rw [List.foldl_cons, ih, onceL_mem, List.mem_cons]
    constructor
    · rintro ((h | ⟨h, h'⟩) | ⟨h, h'⟩)
      · exact .inl h
      · exact .inr ⟨.inl h, h'⟩
      · exact .inr ⟨.inr h, h'⟩
    · rintro (h | ⟨h | h, h'⟩)
      · exact .inl (.inl h)
      · exact .inl (.inr ⟨h, h'⟩)
      · exact .inr ⟨h, h'⟩

theorem onceL_nodup {l : List Int} {x : Int} (h : l.Nodup) : (onceL l x).Nodup := by
  unfold onceL
  split
  · exact h
  · rename_i q
    rw [List.nodup_append]
    exact ⟨h, by simp, fun a ha b hb => by simp at hb; subst hb; exact fun e => q (.inr (e ▸ ha))⟩

theorem foldl_once_nodup {xs : List Int} : ∀ {l : List Int}, l.Nodup → (xs.foldl onceL l).Nodup := by
  induction xs with
  | nil => exact fun h => h
  | cons x xs ih => exact fun h => ih (onceL_nodup h)

theorem onceL_pre (l : List Int) (x : Int) : l <+: onceL l x := by
  unfold onceL
  split
  · exact List.prefix_rfl
  · exact ⟨[x], rfl⟩

theorem foldl_once_pre {xs : List Int} : ∀ {l : List Int}, l <+: xs.foldl onceL l := by
  induction xs with
  | nil => exact List.prefix_rfl
  | cons x xs ih => exact (onceL_pre _ x).trans ih

theorem onceL_len (l : List Int) (x : Int) : (onceL l x).length ≤ l.length + 1 := by
  unfold onceL; split <;> simp

theorem foldl_once_len {xs : List Int} : ∀ {l : List Int}, (xs.foldl onceL l).length ≤ l.length + xs.length := by
  induction xs with
  | nil => intro l; simp
  | cons x xs ih =>
    intro l
    have := onceL_len l x
    have := ih (l := onceL l x)
    simp only [List.foldl_cons, List.length_cons]; omega

theorem nodup_len : ∀ {l m : List Int}, l.Nodup → (∀ x ∈ l, x ∈ m) → l.length ≤ m.length
  | [], _, _, _ => by simp
  | a :: l, m, h, hs => by
    rw [List.nodup_cons] at h
    have ha := hs a (by simp)
    have := nodup_len (m := m.erase a) h.2 fun x hx => by
      have hne : x ≠ a := fun e => h.1 (e ▸ hx)
      exact (List.mem_erase_of_ne hne).2 (hs x (by simp [hx]))
    rw [List.length_erase_of_mem ha] at this
    have := List.length_pos_of_mem ha
    simp only [List.length_cons]
    omega

/-! ### What is named, what can be reached -/

def live (r : Gr) : Bool := r.st != 5
def VW.names (w : VW) : List Int := w.globals ++ (w.gs.filter live).flatMap (·.stack)
def VW.rootsL (w : VW) : List Int := w.names.foldl onceL []
def VW.at (w : VW) (x : Int) : Option Nat := w.objs.findIdx? fun o => o.addr == x

inductive Rch (w : VW) : Int → Prop where
  | root {x : Int} : x ∈ w.names → x ≠ 0 → Rch w x
  | step {x y : Int} {k : Nat} {o : Ob} : Rch w x → w.at x = some k → w.objs[k]? = some o → y ∈ o.slots → y ≠ 0 → Rch w y

theorem Rch.ne {w : VW} {x : Int} (h : Rch w x) : x ≠ 0 := by cases h <;> assumption

theorem at_some {w : VW} {x : Int} {k : Nat} (h : w.at x = some k) : ∃ o, w.objs[k]? = some o ∧ o.addr = x := by
  unfold VW.at at h
  obtain ⟨h1, h2, _⟩ := List.findIdx?_eq_some_iff_getElem.1 h
  exact ⟨_, List.getElem?_eq_getElem h1, by simpa using h2⟩

/-- All that is named anywhere. -/
def VW.all (w : VW) : List Int := w.names ++ w.objs.flatMap (·.slots)

theorem Rch.all {w : VW} {x : Int} (h : Rch w x) : x ∈ w.all := by
  unfold VW.all
  rw [List.mem_append]
  cases h with
  | root h _ => exact .inl h
  | step _ _ h2 h3 _ => exact .inr (List.mem_flatMap.2 ⟨_, List.mem_of_getElem? h2, h3⟩)

/-! ### In memory -/

/-- Rows of cells, read. -/
structure RowsAt (g : Hp) (sz : Nat) (sv : Value) (rows : List (List Value)) : Prop where
  len : lenV sv = some (.int .i64 rows.length)
  lt : rows.length < 9223372036854775808
  get : ∀ (j : Nat) (r : List Value) (k : IntKind), rows[j]? = some r → r.length = sz ∧ ∃ b o, iaS sz sv (.int k (j : Int)) = some (.pointer (some ⟨b, o, none⟩)) ∧
    (∀ q v, r[q]? = some v → ld1 (.pointer (some ⟨b, o + q, none⟩)) g = some v) ∧ ldN sz (.pointer (some ⟨b, o, none⟩)) g = some (.agg r.toArray)

theorem RowsAt.mono {g f : Hp} {sz : Nat} {sv : Value} {rows : List (List Value)} (h : RowsAt g sz sv rows) : RowsAt (g.add f) sz sv rows :=
  ⟨h.len, h.lt, fun j r k hj => by
    obtain ⟨h1, b, o, h2, h3, h4⟩ := h.get j r k hj
    exact ⟨h1, b, o, h2, fun q v hq => ld1_mono _ _ _ _ (h3 q v hq), ldN_mono _ _ _ _ _ h4⟩⟩

structure VAt (g : Hp) (w : VW) : Prop where
  glob : IntsAt g w.gv w.globals
  gs : RowsAt g 3 w.sv (w.gs.map Gr.row)
  objs : RowsAt g 3 w.ov (w.objs.map Ob.row)
  slots : ∀ o ∈ w.objs, IntsAt g o.sv o.slots
  stacks : ∀ r ∈ w.gs, IntsAt g r.sv r.stack

theorem VAt.mono {g f : Hp} {w : VW} (h : VAt g w) : VAt (g.add f) w :=
  ⟨h.glob.mono, h.gs.mono, h.objs.mono, fun o ho => (h.slots o ho).mono, fun r hr => (h.stacks r hr).mono⟩

theorem own_vat {g : Hp} {F : Asrt} {h : Hp} {w : VW} (hh : (own g * F) h) (hv : VAt g w) : VAt h w := by
  obtain ⟨x, y, d, rfl, rfl, _⟩ := hh
  exact hv.mono

theorem VW.cells_one {w : VW} {g : Hp} (h : VAt g w) : w.cells.toList.all one = true := by
  have i1 : ∀ {v : Value} {k : Int}, lenV v = some (.int .i64 k) → one v = true := fun {v k} h => by
    unfold lenV at h
    split at h
    · rfl
    · cases h
  have i2 : ∀ (k : IntKind) (n : Int), one (.int k n) = true := fun _ _ => rfl
  simp only [VW.cells, List.all_cons, List.all_nil, i2, i1 h.glob.len, i1 h.gs.len, i1 h.objs.len, Bool.and_true]

theorem IntsAt.one {g : Hp} {v : Value} {xs : List Int} (h : IntsAt g v xs) : one v = true := by
  have := h.len
  unfold lenV at this
  split at this
  · rfl
  · cases this

theorem one_ob {g : Hp} {o : Ob} (h : IntsAt g o.sv o.slots) : ([.int .i64 o.addr, o.sv, .bool o.marked] : List Value).all one = true := by
  have i2 : ∀ (k : IntKind) (n : Int), Sl.one (.int k n) = true := fun _ _ => rfl
  have i3 : ∀ (b : Bool), Sl.one (.bool b) = true := fun _ => rfl
  simp only [List.all_cons, List.all_nil, i2, i3, h.one, Bool.and_true]

theorem one_gr {g : Hp} {o : Gr} (h : IntsAt g o.sv o.stack) : ([.int .i64 o.st, .int .i64 o.p, o.sv] : List Value).all one = true := by
  have i2 : ∀ (k : IntKind) (n : Int), Sl.one (.int k n) = true := fun _ _ => rfl
  simp only [List.all_cons, List.all_nil, i2, h.one, Bool.and_true]

/-- An object of a view: where it lies and what it reads. -/
theorem VAt.obj {g : Hp} {w : VW} (h : VAt g w) {j : Nat} {o : Ob} (hj : w.objs[j]? = some o) (k : IntKind) :
    ∃ b q, iaS 3 w.ov (.int k (j : Int)) = some (.pointer (some ⟨b, q, none⟩)) ∧ ld1 (.pointer (some ⟨b, q + 0, none⟩)) g = some (.int .i64 o.addr) ∧ ld1 (.pointer (some ⟨b, q + 1, none⟩)) g = some o.sv ∧
      ld1 (.pointer (some ⟨b, q + 2, none⟩)) g = some (.bool o.marked) ∧ ldN 3 (.pointer (some ⟨b, q, none⟩)) g = some (.agg #[.int .i64 o.addr, o.sv, .bool o.marked]) := by
  obtain ⟨_, b, q, h2, h3, h4⟩ := h.objs.get j o.row k (by rw [List.getElem?_map, hj]; rfl)
  exact ⟨b, q, h2, h3 0 _ rfl, h3 1 _ rfl, h3 2 _ rfl, h4⟩

theorem VAt.gor {g : Hp} {w : VW} (h : VAt g w) {j : Nat} {o : Gr} (hj : w.gs[j]? = some o) (k : IntKind) :
    ∃ b q, iaS 3 w.sv (.int k (j : Int)) = some (.pointer (some ⟨b, q, none⟩)) ∧ ld1 (.pointer (some ⟨b, q + 0, none⟩)) g = some (.int .i64 o.st) ∧ ld1 (.pointer (some ⟨b, q + 1, none⟩)) g = some (.int .i64 o.p) ∧
      ld1 (.pointer (some ⟨b, q + 2, none⟩)) g = some o.sv ∧ ldN 3 (.pointer (some ⟨b, q, none⟩)) g = some (.agg #[.int .i64 o.st, .int .i64 o.p, o.sv]) := by
  obtain ⟨_, b, q, h2, h3, h4⟩ := h.gs.get j o.row k (by rw [List.getElem?_map, hj]; rfl)
  exact ⟨b, q, h2, h3 0 _ rfl, h3 1 _ rfl, h3 2 _ rfl, h4⟩

theorem VAt.objs_len {g : Hp} {w : VW} (h : VAt g w) : lenV w.ov = some (.int .i64 w.objs.length) ∧ w.objs.length < 9223372036854775808 := by
  have h1 := h.objs.len
  have h2 := h.objs.lt
  rw [List.length_map] at h1 h2
  exact ⟨h1, h2⟩
theorem VAt.gs_len {g : Hp} {w : VW} (h : VAt g w) : lenV w.sv = some (.int .i64 w.gs.length) ∧ w.gs.length < 9223372036854775808 := by
  have h1 := h.gs.len
  have h2 := h.gs.lt
  rw [List.length_map] at h1 h2
  exact ⟨h1, h2⟩

/-- A set of numbers, as a map to 1. -/
def setM (s : List Int) : Int → Option Value := fun x => if x ∈ s then some (.int .i64 1) else none

theorem setM_get (s : List Int) (x : Int) : (setM s x).getD (.int .i64 0) = .int .i64 (if x ∈ s then 1 else 0) := by
  unfold setM; split <;> rfl

theorem setM_put (s : List Int) (k : Int) : (fun x => if x = k then some (Value.int .i64 1) else setM s x) = setM (k :: s) := by
  funext x
  unfold setM
  by_cases h : x = k
  · simp [h]
  · simp [h]

theorem setM_congr {s t : List Int} (h : ∀ x, x ∈ s ↔ x ∈ t) : setM s = setM t := by
  funext x; unfold setM; simp [h x]

end Go.Sl
