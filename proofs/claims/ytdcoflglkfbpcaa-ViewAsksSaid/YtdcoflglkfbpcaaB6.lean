/-
  Texts of the proof, in one file: V20, V21, Vw0, Vb.
-/
import Derived.Test.YtdcoflglkfbpcaaB5
import Derived.Sort.Grow
set_option linter.unusedVariables false
set_option linter.unusedSimpArgs false
/-
  The library's own contract on slices.Sort, at a slice that is owned.
-/
namespace Go.Sl
open Go.Sort

abbrev iE : Enc Int := enc1 (fun n => .int .i64 n) (fun _ => rfl)

theorem iE_cs (l : List Int) : iE.cs l = l.map fun n => Value.int .i64 n := by
  induction l with
  | nil => rfl
  | cons a l ih => rw [iE.cs_cons, ih]; rfl

structure SortC (P : Program) (F : FuncId) : Prop where
  some : ∀ (blk off cap : Nat) (zs : List Int) (w : World), Holds (Value.int .i64) w blk off zs.toArray → blk < w.heap.size → zs.length < 4611686018427387904 →
    Calls P F #[.slice (some ⟨blk, off, none⟩) zs.length cap] w fun e w' => e = .returned (.tuple #[]) ∧ ∃ n os, w' = grow (putRow (Value.int .i64) (Sort.ahead w n) blk off (zs.mergeSort fun x y => decide (x ≤ y)).toArray) os
  none : ∀ (p : Option Addr) (cap : Nat) (w : World), Calls P F #[.slice p 0 cap] w fun e w' => e = .returned (.tuple #[]) ∧ w' = w

abbrev srt (l : List Int) : List Int := l.mergeSort fun x y => decide (x ≤ y)

theorem callH_same {P : Program} {f : FuncId} {args : Array Value} {v : Value} {K : Value → Hp → Prop} {h : Hp} (hc : ∀ w, Calls P f args w fun e w' => e = .returned v ∧ w' = w) (hK : K v h) : CallH P f args K h := by
  intro w fr tg d e
  refine (hc w).mono ?_
  rintro e' w' ⟨rfl, rfl⟩
  exact ⟨v, h, fr, rfl, d, e, Grows.refl fr, hK⟩

/-- A call that turns one owned block and leaves new ones behind. -/
theorem callH_block {P : Program} {f : FuncId} {args : Array Value} {v : Value} {K : Value → Hp → Prop} {h : Hp} {r : Nat} {o o' : Obj} (ho : h r = some o)
    (hc : ∀ (w : World), w.hp r = some o → Calls P f args w fun e w' => e = .returned v ∧ (w'.os, w'.output, w'.tape) = (w.os, w.output, w.tape) ∧ w'.hp r = some o' ∧ ∀ b q, b ≠ r → w.hp b = some q → w'.hp b = some q)
    (hK : K v (h.upd r o')) : CallH P f args K h := by
  intro w fr tg d ⟨e, et⟩
  have hr : w.hp r = some o := by rw [e]; exact Hp.add_of_left ho
  refine (hc w hr).mono ?_
  rintro e' w' ⟨rfl, h1, h2, h3⟩
  have hfr : fr r = none := by
    rcases d r with h | h
    · rw [ho] at h; cases h
    · exact h
  refine ⟨v, h.upd r o', w'.hp.minus (h.upd r o'), rfl, ?_, ⟨?_, h1.trans et⟩, ?_, hK⟩
  · intro b
    rw [Hp.minus_apply]
    cases hb : (h.upd r o') b with
    | none => exact .inl rfl
    | some x => exact .inr (by simp)
  · apply Hp.ext'
    intro b
    rw [Hp.add_apply, Hp.minus_apply]
    by_cases hb : b = r
    · subst hb
      rw [Hp.upd_self]
      simp [h2]
    · rw [Hp.upd_ne hb]
      cases hq : h b with
      | none => simp
      | some x =>
        have := h3 b x hb (by rw [e]; exact Hp.add_of_left hq)
        simp [this]
  · intro b x hb
    rw [Hp.minus_apply]
    have hne : b ≠ r := fun q => by rw [q, hfr] at hb; cases hb
    have hh : h b = none := by
      rcases d b with q | q
      · exact q
      · rw [hb] at q; cases q
    rw [Hp.upd_ne hne, hh]
    simp only [Option.isSome_none, Bool.false_eq_true, if_false]
    refine h3 b x hne ?_
    rw [e, Hp.add_apply, hh]
    simpa using hb

theorem use_sort {P : Program} {f : FuncId} (C : SortC P f) {E : Nat} {sv : Value} {l : List Int} {F : Asrt} {K : Value → Hp → Prop} {h : Hp} (hl : l.length < 4611686018427387904) (hh : (SG iE E sv l * F) h)
    (hK : ∀ h', (SG iE E sv (srt l) * F) h' → K (.tuple #[]) h') : CallH P f #[sv] K h := by
  have hsl : (srt l).length = l.length := List.length_mergeSort l
  rcases SG_elim iE hh with ⟨rfl, rfl, hF⟩ | ⟨r, cap, pre, post, rfl, h1, h2, h3, hp⟩
  · refine callH_same (fun w => C.none none 0 w) (hK h ?_)
    have : srt [] = [] := by simp [srt]
    rw [this]
    exact SG_nil iE hF
  · have hb := pt_get hp
    have hcell : ∀ j, j < l.length → (pre ++ (iE.cs l ++ post)).toArray[pre.length + j]? = some (.int .i64 l[j]!) := fun j hj => by
      rw [get_pre, iE_cs]
      simp only [List.getElem?_toArray]
      rw [List.getElem?_append_left (by simpa using hj), List.getElem?_map, List.getElem?_eq_getElem hj]
      simp [getElem!_pos l j hj]
    refine callH_block (o' := .cells (pre ++ (iE.cs (srt l) ++ post)).toArray E (0, 0)) hb (fun w hw => ?_) (hK _ (SG_intro iE rfl hsl.symm (by rw [hsl]; exact h1) h2 (by rw [hsl]; exact h3) (pt_upd hp)))
    have hw' : w.heap[r]? = some (.cells (pre ++ (iE.cs l ++ post)).toArray E (0, 0)) := hw
    have hrl : r < w.heap.size := (Array.getElem?_eq_some_iff.1 hw').1
    refine (C.some r pre.length cap l w (fun j hj => ?_) hrl hl).mono ?_
    · have hj : j < l.length := by simpa using hj
      constructor
      · rw [cell?_hp]
        unfold Hp.cell
        simp only [hw, Option.bind_some, Obj.cellAt, Option.isSome_none, Bool.false_eq_true, if_false]
        rw [hcell j hj]
        simp
      · rw [frozen?_hp w _ hw]
        simp [Obj.frz]
    rintro e w' ⟨rfl, n, os, rfl⟩
    refine ⟨rfl, rfl, ?_, fun b q hb hq => ?_⟩
    · show (grow _ os).heap[r]? = _
      rw [heap_grow_old _ _ (by simpa [putRow, mapBlock] using hrl)]
      simp only [putRow, mapBlock, heap_ahead, Array.getElem?_modify, hw', if_true, Option.map_some, onCells]
      congr 2
      apply Array.ext'
      apply List.ext_getElem?
      intro k
      simp only [putCells, Array.getElem?_toList, Array.getElem?_mapIdx, List.getElem?_toArray, List.size_toArray]
      have hsl' : (l.mergeSort fun x y => decide (x ≤ y)).length = l.length := hsl
      by_cases hk1 : k < pre.length
      · rw [List.getElem?_append_left hk1, List.getElem?_append_left hk1, List.getElem?_eq_getElem hk1]
        rw [Option.map_some, if_neg (by omega)]
      · obtain ⟨j, rfl⟩ : ∃ j, k = pre.length + j := ⟨k - pre.length, by omega⟩
        have hL : ∀ X : List Value, (pre ++ X)[pre.length + j]? = X[j]? := fun X => by
          rw [List.getElem?_append_right (by omega)]; congr 1; omega
        rw [hL, hL, iE_cs, iE_cs, Nat.add_sub_cancel_left]
        by_cases hj : j < l.length
        · have e1 : (l.map (fun n => Value.int .i64 n) ++ post)[j]? = some (.int .i64 l[j]) := by
            rw [List.getElem?_append_left (by simpa using hj), List.getElem?_map, List.getElem?_eq_getElem hj]; rfl
          have e2 : ((srt l).map (fun n => Value.int .i64 n) ++ post)[j]? = some (.int .i64 (srt l)[j]) := by
            rw [List.getElem?_append_left (by rw [List.length_map]; omega), List.getElem?_map, List.getElem?_eq_getElem (by omega)]; rfl
          rw [e1, e2, Option.map_some, if_pos (by omega)]
          congr 2
          rw [getElem!_pos _ _ (by simp; omega)]
          simp
        · have e1 : (l.map (fun n => Value.int .i64 n) ++ post)[j]? = post[j - l.length]? := by
            rw [List.getElem?_append_right (by rw [List.length_map]; omega), List.length_map]
          have e2 : ((srt l).map (fun n => Value.int .i64 n) ++ post)[j]? = post[j - l.length]? := by
            rw [List.getElem?_append_right (by rw [List.length_map]; omega), List.length_map, hsl]
          rw [e1, e2]
          cases post[j - l.length]? with
          | none => rfl
          | some x => rw [Option.map_some, if_neg (by omega)]
    · show (grow _ os).heap[b]? = _
      have hbl : b < w.heap.size := (Array.getElem?_eq_some_iff.1 hq).1
      rw [heap_grow_old _ _ (by simpa [putRow, mapBlock] using hbl)]
      simp only [putRow, mapBlock, heap_ahead, Array.getElem?_modify, if_neg (fun h => hb h.symm : ¬ r = b)]
      exact hq

end Go.Sl

/-
  Lists of numbers that are read, wherever they lie; sorted insertion; sizes of classes.
-/
namespace Go.Sl

theorem IntsAt.mono {g f : Hp} {sv : Value} {xs : List Int} (h : IntsAt g sv xs) : IntsAt (g.add f) sv xs :=
  ⟨h.len, h.lt, fun j x k hj => let ⟨p, h1, h2⟩ := h.get j x k hj; ⟨p, h1, ld1_mono _ _ _ _ h2⟩⟩

theorem own_ints {g : Hp} {F : Asrt} {h : Hp} {sv : Value} {xs : List Int} (hh : (own g * F) h) (hx : IntsAt g sv xs) : IntsAt h sv xs := by
  obtain ⟨x, y, d, rfl, rfl, _⟩ := hh
  exact hx.mono

theorem SG_ints {E : Nat} {sv : Value} {l : List Int} {F : Asrt} {h : Hp} (hh : (SG iE E sv l * F) h) : IntsAt h sv l :=
  ⟨SG_len iE hh, SG_lt iE hh, fun _ _ k hj => let ⟨p, h1, h2, _⟩ := el1 hh hj k; ⟨p, h1, h2⟩⟩

/-- What is owned and no longer needed goes. -/
theorem dropL {P Q : Asrt} {h : Hp} (hh : (P * (Q * tt)) h) : (Q * tt) h := drp hh

theorem new_tt {r : Nat} {o : Obj} {F : Asrt} {h : Hp} (hh : (pt r o * (F * tt)) h) : (F * tt) h := drp hh

/-! ### Rising lists -/

def Rise (l : List Int) : Prop := l.Pairwise (· < ·)

theorem Rise_ext : ∀ {l m : List Int}, Rise l → Rise m → (∀ x, x ∈ l ↔ x ∈ m) → l = m
  | [], [], _, _, _ => rfl
  | [], b :: m, _, _, h => by have := (h b).2 (by simp); simp at this
  | a :: l, [], _, _, h => by have := (h a).1 (by simp); simp at this
  | a :: l, b :: m, hl, hm, h => by
    have hl' := List.pairwise_cons.1 hl
    have hm' := List.pairwise_cons.1 hm
    have hab : a = b := by
      have h1 := (h a).1 (by simp)
      have h2 := (h b).2 (by simp)
      rw [List.mem_cons] at h1 h2
      rcases h1 with h1 | h1
      · exact h1
      · rcases h2 with h2 | h2
        · exact h2.symm
        · have := hm'.1 a h1
          have := hl'.1 b h2
          omega
    subst hab
    congr 1
    refine Rise_ext hl'.2 hm'.2 fun x => ?_
    have hx := h x
    rw [List.mem_cons, List.mem_cons] at hx
    constructor
    · intro h1
      rcases hx.1 (.inr h1) with h2 | h2
      · have := hl'.1 x h1; omega
      · exact h2
    · intro h1
      rcases hx.2 (.inr h1) with h2 | h2
      · have := hm'.1 x h1; omega
      · exact h2

theorem srt_perm (l : List Int) : (srt l).Perm l := List.mergeSort_perm l _

theorem srt_mem {l : List Int} {x : Int} : x ∈ srt l ↔ x ∈ l := (srt_perm l).mem_iff

theorem srt_sorted (l : List Int) : (srt l).Pairwise (· ≤ ·) := by
  have := List.pairwise_mergeSort (le := fun x y : Int => decide (x ≤ y)) (fun a b c h1 h2 => by simp at *; omega) (fun a b => by simp; omega) l
  exact this.imp fun h => by simpa using h

theorem srt_rise {l : List Int} (h : l.Nodup) : Rise (srt l) := by
  have h1 := srt_sorted l
  have h2 : (srt l).Nodup := (srt_perm l).nodup_iff.2 h
  unfold Rise
  rw [List.Nodup] at h2
  exact (h1.and h2).imp fun ⟨a, b⟩ => by omega

/-! ### Sizes of classes -/

def szT : List Int := [1, 2, 3, 4, 6, 8, 12, 16, 24, 32, 48, 64, 96, 128, 192, 256]

def szS (k : Int) : Int := if 0 ≤ k ∧ k < 16 then szT.getD k.toNat 0 else 0

def ofN (n : Int) : Nat := szT.findIdx fun s => decide (n ≤ s)
def ofS (n : Int) : Int := if 1 ≤ n ∧ n ≤ 256 then (ofN n : Int) else -1

theorem szT_get {k : Nat} (h : k < 16) : szT[k]? = some (szS k) := by
  have hl : szT.length = 16 := rfl
  unfold szS
  rw [if_pos (by omega), Int.toNat_natCast, List.getD_eq_getElem?_getD, List.getElem?_eq_getElem (by omega)]
  rfl

theorem szS_pos {k : Int} (h : 0 ≤ k ∧ k < 16) : 1 ≤ szS k ∧ szS k ≤ 256 := by
  obtain ⟨n, rfl⟩ : ∃ n : Nat, k = n := ⟨k.toNat, by omega⟩
  have h1 := szT_get (k := n) (by omega)
  have h2 : ∀ x ∈ szT, 1 ≤ x ∧ x ≤ 256 := by decide
  exact h2 _ (List.mem_of_getElem? h1)

theorem szS_out {k : Int} (h : ¬ (0 ≤ k ∧ k < 16)) : szS k = 0 := by unfold szS; rw [if_neg h]

theorem ofN_spec {n : Int} (h : n ≤ 256) : ofN n < 16 ∧ n ≤ szS (ofN n) ∧ ∀ j : Nat, j < ofN n → szS j < n := by
  have hl : szT.length = 16 := rfl
  have h1 : ofN n < 16 := by
    unfold ofN
    rw [← hl, List.findIdx_lt_length]
    exact ⟨256, by decide, by simpa using h⟩
  have hlt : szT.findIdx (fun s => decide (n ≤ s)) < szT.length := h1
  refine ⟨h1, ?_, fun j hj => ?_⟩
  · have h2 := List.findIdx_getElem (w := hlt)
    have h3 := szT_get h1
    rw [List.getElem?_eq_getElem (by omega)] at h3
    have h3 := Option.some.inj h3
    have h2 : n ≤ szT[szT.findIdx (fun s => decide (n ≤ s))] := by simpa using h2
    rw [← h3]
    exact h2
  · have h2 := List.not_of_lt_findIdx (p := fun s => decide (n ≤ s)) (xs := szT) hj
    have h3 := szT_get (k := j) (by omega)
    rw [List.getElem?_eq_getElem (by omega)] at h3
    have h3 := Option.some.inj h3
    rw [← h3]
    simpa using h2

theorem ofN_uniq {n : Int} {k : Nat} (h : n ≤ 256) (hk : k < 16) (h1 : n ≤ szS k) (h2 : ∀ j : Nat, j < k → szS j < n) : k = ofN n := by
  obtain ⟨a, b, c⟩ := ofN_spec h
  rcases Nat.lt_trichotomy k (ofN n) with q | q | q
  · have := c k q; omega
  · exact q
  · have := h2 _ q; omega

def szV : Array Value := #[.int .i64 1, .int .i64 2, .int .i64 3, .int .i64 4, .int .i64 6, .int .i64 8, .int .i64 12, .int .i64 16, .int .i64 24, .int .i64 32, .int .i64 48, .int .i64 64, .int .i64 96, .int .i64 128, .int .i64 192, .int .i64 256]

theorem szV_eq : szV = (szT.map fun n => Value.int .i64 n).toArray := rfl

theorem ix_szV {k : Int} (h : 0 ≤ k ∧ k < 16) : ixA false 16 1 (.agg szV) (.int .i64 k) = some (.int .i64 (szS k)) := by
  obtain ⟨n, rfl⟩ : ∃ n : Nat, k = n := ⟨k.toNat, by omega⟩
  show (if 0 ≤ (n : Int) ∧ (n : Int) < ((16 : Nat) : Int) then (bif false then _ else szV[(n : Int).toNat * 1]?) else none) = _
  rw [if_pos (by omega), cond_false, Int.toNat_natCast, Nat.mul_one, szV_eq]
  simp only [List.getElem?_toArray, List.getElem?_map, szT_get (show n < 16 by omega)]
  rfl

end Go.Sl

/-
  Views, plainly: what is named, what can be reached; and a view as it lies in memory.
-/
namespace Go.Sl

structure Ob where
  addr : Int
  sv : Value
  slots : List Int
  marked : Bool

structure Gr where
  st : Int
  p : Int
  sv : Value
  stack : List Int

structure VW where
  phase : Int
  cycle : Int
  clock : Int
  gv : Value
  globals : List Int
  sv : Value
  gs : List Gr
  ov : Value
  objs : List Ob
  grey : Int
  notes : Int
  roots : Int

def Ob.row (o : Ob) : List Value := [.int .i64 o.addr, o.sv, .bool o.marked]
def Gr.row (o : Gr) : List Value := [.int .i64 o.st, .int .i64 o.p, o.sv]
def VW.cells (w : VW) : Array Value := #[.int .i64 w.phase, .int .i64 w.cycle, .int .i64 w.clock, w.gv, w.sv, w.ov, .int .i64 w.grey, .int .i64 w.notes, .int .i64 w.roots]
def VW.val (w : VW) : Value := .agg w.cells

/-! ### Lists without what is in them already -/

def onceL (l : List Int) (x : Int) : List Int := if x = 0 ∨ x ∈ l then l else l ++ [x]

theorem onceL_mem {l : List Int} {x y : Int} : y ∈ onceL l x ↔ y ∈ l ∨ (y = x ∧ y ≠ 0) := by
  unfold onceL
  split
  · rename_i h
    constructor
    · exact .inl
    · rintro (h1 | ⟨rfl, h2⟩)
      · exact h1
      · rcases h with h | h
        · exact (h2 h).elim
        · exact h
  · rename_i h
    rw [List.mem_append, List.mem_singleton]
    constructor
    · rintro (h1 | rfl)
      · exact .inl h1
      · exact .inr ⟨rfl, fun e => h (.inl e)⟩
    · rintro (h1 | ⟨h1, _⟩)
      · exact .inl h1
      · exact .inr h1

theorem foldl_once_mem {xs : List Int} : ∀ {l : List Int} {y : Int}, y ∈ xs.foldl onceL l ↔ y ∈ l ∨ (y ∈ xs ∧ y ≠ 0) := by
  induction xs with
  | nil => intro l y; simp
  | cons x xs ih =>
    intro l y
    rw [List.foldl_cons, ih, onceL_mem, List.mem_cons]
    constructor
    · rintro ((h | ⟨h, h'⟩) | ⟨h, h'⟩)
      · exact .inl h
      · exact .inr ⟨.inl h, h'⟩
      · exact .inr ⟨.inr h, h'⟩
    · rintro (h | ⟨h | h, h'⟩)
      · exact .inl (.inl h)
      · exact .inl (.inr ⟨h, h'⟩)
      · exact .inr ⟨h, h'⟩

theorem onceL_nodup {l : List Int} {x : Int} (h : l.Nodup) : (onceL l x).Nodup := by
  unfold onceL
  split
  · exact h
  · rename_i q
    rw [List.nodup_append]
    exact ⟨h, by simp, fun a ha b hb => by simp at hb; subst hb; exact fun e => q (.inr (e ▸ ha))⟩

theorem foldl_once_nodup {xs : List Int} : ∀ {l : List Int}, l.Nodup → (xs.foldl onceL l).Nodup := by
  induction xs with
  | nil => exact fun h => h
  | cons x xs ih => exact fun h => ih (onceL_nodup h)

theorem onceL_pre (l : List Int) (x : Int) : l <+: onceL l x := by
  unfold onceL
  split
  · exact List.prefix_rfl
  · exact ⟨[x], rfl⟩

theorem foldl_once_pre {xs : List Int} : ∀ {l : List Int}, l <+: xs.foldl onceL l := by
  induction xs with
  | nil => exact List.prefix_rfl
  | cons x xs ih => exact (onceL_pre _ x).trans ih

theorem onceL_len (l : List Int) (x : Int) : (onceL l x).length ≤ l.length + 1 := by
  unfold onceL; split <;> simp

theorem foldl_once_len {xs : List Int} : ∀ {l : List Int}, (xs.foldl onceL l).length ≤ l.length + xs.length := by
  induction xs with
  | nil => intro l; simp
  | cons x xs ih =>
    intro l
    have := onceL_len l x
    have := ih (l := onceL l x)
    simp only [List.foldl_cons, List.length_cons]; omega

theorem nodup_len : ∀ {l m : List Int}, l.Nodup → (∀ x ∈ l, x ∈ m) → l.length ≤ m.length
  | [], _, _, _ => by simp
  | a :: l, m, h, hs => by
    rw [List.nodup_cons] at h
    have ha := hs a (by simp)
    have := nodup_len (m := m.erase a) h.2 fun x hx => by
      have hne : x ≠ a := fun e => h.1 (e ▸ hx)
      exact (List.mem_erase_of_ne hne).2 (hs x (by simp [hx]))
    rw [List.length_erase_of_mem ha] at this
    have := List.length_pos_of_mem ha
    simp only [List.length_cons]
    omega

/-! ### What is named, what can be reached -/

def live (r : Gr) : Bool := r.st != 5
def VW.names (w : VW) : List Int := w.globals ++ (w.gs.filter live).flatMap (·.stack)
def VW.rootsL (w : VW) : List Int := w.names.foldl onceL []
def VW.at (w : VW) (x : Int) : Option Nat := w.objs.findIdx? fun o => o.addr == x

inductive Rch (w : VW) : Int → Prop where
  | root {x : Int} : x ∈ w.names → x ≠ 0 → Rch w x
  | step {x y : Int} {k : Nat} {o : Ob} : Rch w x → w.at x = some k → w.objs[k]? = some o → y ∈ o.slots → y ≠ 0 → Rch w y

theorem Rch.ne {w : VW} {x : Int} (h : Rch w x) : x ≠ 0 := by cases h <;> assumption

theorem at_some {w : VW} {x : Int} {k : Nat} (h : w.at x = some k) : ∃ o, w.objs[k]? = some o ∧ o.addr = x := by
  unfold VW.at at h
  obtain ⟨h1, h2, _⟩ := List.findIdx?_eq_some_iff_getElem.1 h
  exact ⟨_, List.getElem?_eq_getElem h1, by simpa using h2⟩

/-- All that is named anywhere. -/
def VW.all (w : VW) : List Int := w.names ++ w.objs.flatMap (·.slots)

theorem Rch.all {w : VW} {x : Int} (h : Rch w x) : x ∈ w.all := by
  unfold VW.all
  rw [List.mem_append]
  cases h with
  | root h _ => exact .inl h
  | step _ _ h2 h3 _ => exact .inr (List.mem_flatMap.2 ⟨_, List.mem_of_getElem? h2, h3⟩)

/-! ### In memory -/

/-- Rows of cells, read. -/
structure RowsAt (g : Hp) (sz : Nat) (sv : Value) (rows : List (List Value)) : Prop where
  len : lenV sv = some (.int .i64 rows.length)
  lt : rows.length < 9223372036854775808
  get : ∀ (j : Nat) (r : List Value) (k : IntKind), rows[j]? = some r → r.length = sz ∧ ∃ b o, iaS sz sv (.int k (j : Int)) = some (.pointer (some ⟨b, o, none⟩)) ∧
    (∀ q v, r[q]? = some v → ld1 (.pointer (some ⟨b, o + q, none⟩)) g = some v) ∧ ldN sz (.pointer (some ⟨b, o, none⟩)) g = some (.agg r.toArray)

theorem RowsAt.mono {g f : Hp} {sz : Nat} {sv : Value} {rows : List (List Value)} (h : RowsAt g sz sv rows) : RowsAt (g.add f) sz sv rows :=
  ⟨h.len, h.lt, fun j r k hj => by
    obtain ⟨h1, b, o, h2, h3, h4⟩ := h.get j r k hj
    exact ⟨h1, b, o, h2, fun q v hq => ld1_mono _ _ _ _ (h3 q v hq), ldN_mono _ _ _ _ _ h4⟩⟩

structure VAt (g : Hp) (w : VW) : Prop where
  glob : IntsAt g w.gv w.globals
  gs : RowsAt g 3 w.sv (w.gs.map Gr.row)
  objs : RowsAt g 3 w.ov (w.objs.map Ob.row)
  slots : ∀ o ∈ w.objs, IntsAt g o.sv o.slots
  stacks : ∀ r ∈ w.gs, IntsAt g r.sv r.stack

theorem VAt.mono {g f : Hp} {w : VW} (h : VAt g w) : VAt (g.add f) w :=
  ⟨h.glob.mono, h.gs.mono, h.objs.mono, fun o ho => (h.slots o ho).mono, fun r hr => (h.stacks r hr).mono⟩

theorem own_vat {g : Hp} {F : Asrt} {h : Hp} {w : VW} (hh : (own g * F) h) (hv : VAt g w) : VAt h w := by
  obtain ⟨x, y, d, rfl, rfl, _⟩ := hh
  exact hv.mono

theorem VW.cells_one {w : VW} {g : Hp} (h : VAt g w) : w.cells.toList.all one = true := by
  have i1 : ∀ {v : Value} {k : Int}, lenV v = some (.int .i64 k) → one v = true := fun {v k} h => by
    unfold lenV at h
    split at h
    · rfl
    · cases h
  have i2 : ∀ (k : IntKind) (n : Int), one (.int k n) = true := fun _ _ => rfl
  simp only [VW.cells, List.all_cons, List.all_nil, i2, i1 h.glob.len, i1 h.gs.len, i1 h.objs.len, Bool.and_true]

theorem IntsAt.one {g : Hp} {v : Value} {xs : List Int} (h : IntsAt g v xs) : one v = true := by
  have := h.len
  unfold lenV at this
  split at this
  · rfl
  · cases this

theorem one_ob {g : Hp} {o : Ob} (h : IntsAt g o.sv o.slots) : ([.int .i64 o.addr, o.sv, .bool o.marked] : List Value).all one = true := by
  have i2 : ∀ (k : IntKind) (n : Int), Sl.one (.int k n) = true := fun _ _ => rfl
  have i3 : ∀ (b : Bool), Sl.one (.bool b) = true := fun _ => rfl
  simp only [List.all_cons, List.all_nil, i2, i3, h.one, Bool.and_true]

theorem one_gr {g : Hp} {o : Gr} (h : IntsAt g o.sv o.stack) : ([.int .i64 o.st, .int .i64 o.p, o.sv] : List Value).all one = true := by
  have i2 : ∀ (k : IntKind) (n : Int), Sl.one (.int k n) = true := fun _ _ => rfl
  simp only [List.all_cons, List.all_nil, i2, h.one, Bool.and_true]

/-- An object of a view: where it lies and what it reads. -/
theorem VAt.obj {g : Hp} {w : VW} (h : VAt g w) {j : Nat} {o : Ob} (hj : w.objs[j]? = some o) (k : IntKind) :
    ∃ b q, iaS 3 w.ov (.int k (j : Int)) = some (.pointer (some ⟨b, q, none⟩)) ∧ ld1 (.pointer (some ⟨b, q + 0, none⟩)) g = some (.int .i64 o.addr) ∧ ld1 (.pointer (some ⟨b, q + 1, none⟩)) g = some o.sv ∧
      ld1 (.pointer (some ⟨b, q + 2, none⟩)) g = some (.bool o.marked) ∧ ldN 3 (.pointer (some ⟨b, q, none⟩)) g = some (.agg #[.int .i64 o.addr, o.sv, .bool o.marked]) := by
  obtain ⟨_, b, q, h2, h3, h4⟩ := h.objs.get j o.row k (by rw [List.getElem?_map, hj]; rfl)
  exact ⟨b, q, h2, h3 0 _ rfl, h3 1 _ rfl, h3 2 _ rfl, h4⟩

theorem VAt.gor {g : Hp} {w : VW} (h : VAt g w) {j : Nat} {o : Gr} (hj : w.gs[j]? = some o) (k : IntKind) :
    ∃ b q, iaS 3 w.sv (.int k (j : Int)) = some (.pointer (some ⟨b, q, none⟩)) ∧ ld1 (.pointer (some ⟨b, q + 0, none⟩)) g = some (.int .i64 o.st) ∧ ld1 (.pointer (some ⟨b, q + 1, none⟩)) g = some (.int .i64 o.p) ∧
      ld1 (.pointer (some ⟨b, q + 2, none⟩)) g = some o.sv ∧ ldN 3 (.pointer (some ⟨b, q, none⟩)) g = some (.agg #[.int .i64 o.st, .int .i64 o.p, o.sv]) := by
  obtain ⟨_, b, q, h2, h3, h4⟩ := h.gs.get j o.row k (by rw [List.getElem?_map, hj]; rfl)
  exact ⟨b, q, h2, h3 0 _ rfl, h3 1 _ rfl, h3 2 _ rfl, h4⟩

theorem VAt.objs_len {g : Hp} {w : VW} (h : VAt g w) : lenV w.ov = some (.int .i64 w.objs.length) ∧ w.objs.length < 9223372036854775808 := by
  have h1 := h.objs.len
  have h2 := h.objs.lt
  rw [List.length_map] at h1 h2
  exact ⟨h1, h2⟩
theorem VAt.gs_len {g : Hp} {w : VW} (h : VAt g w) : lenV w.sv = some (.int .i64 w.gs.length) ∧ w.gs.length < 9223372036854775808 := by
  have h1 := h.gs.len
  have h2 := h.gs.lt
  rw [List.length_map] at h1 h2
  exact ⟨h1, h2⟩

/-- A set of numbers, as a map to 1. -/
def setM (s : List Int) : Int → Option Value := fun x => if x ∈ s then some (.int .i64 1) else none

theorem setM_get (s : List Int) (x : Int) : (setM s x).getD (.int .i64 0) = .int .i64 (if x ∈ s then 1 else 0) := by
  unfold setM; split <;> rfl

theorem setM_put (s : List Int) (k : Int) : (fun x => if x = k then some (Value.int .i64 1) else setM s x) = setM (k :: s) := by
  funext x
  unfold setM
  by_cases h : x = k
  · simp [h]
  · simp [h]

theorem setM_congr {s t : List Int} (h : ∀ x, x ∈ s ↔ x ∈ t) : setM s = setM t := by
  funext x; unfold setM; simp [h x]

end Go.Sl

/-
  Ways, plainly: shortest, the least of them, search by levels; backward distances; views that name less; chains.
-/
namespace Go.Sl
section

def lt2 : List Int → List Int → Prop
  | a :: as, b :: bs => a < b ∨ (a = b ∧ lt2 as bs)
  | _, _ => False

theorem lt2_trans : ∀ {p q r : List Int}, lt2 p q → lt2 q r → lt2 p r
  | [], _, _, h, _ => h.elim
  | _ :: _, [], _, h, _ => h.elim
  | _ :: _, _ :: _, [], _, h => h.elim
  | a :: as, b :: bs, c :: cs, h, k => by
    rcases h with h | ⟨h, h'⟩ <;> rcases k with k | ⟨k, k'⟩
    · exact .inl (by omega)
    · exact .inl (by omega)
    · exact .inl (by omega)
    · exact .inr ⟨by omega, lt2_trans h' k'⟩

theorem lt2_irrefl : ∀ {p : List Int}, ¬ lt2 p p
  | [], h => h
  | a :: as, h => by
    rcases h with h | ⟨_, h⟩
    · omega
    · exact lt2_irrefl h

theorem lt2_app {s t : List Int} : ∀ {p q : List Int}, lt2 p q → lt2 (p ++ s) (q ++ t)
  | [], _, h => h.elim
  | _ :: _, [], h => h.elim
  | a :: as, b :: bs, h => by
    rcases h with h | ⟨h, h'⟩
    · exact .inl h
    · exact .inr ⟨h, lt2_app h'⟩

theorem lt2_last {x y : Int} (h : x < y) : ∀ {p : List Int}, lt2 (p ++ [x]) (p ++ [y])
  | [] => .inl h
  | _ :: _ => .inr ⟨rfl, lt2_last h⟩

def VW.root (w : VW) (x : Int) : Prop := x ∈ w.names ∧ x ≠ 0
def VW.edge (w : VW) (a b : Int) : Prop := ∃ k o, w.at a = some k ∧ w.objs[k]? = some o ∧ b ∈ o.slots ∧ b ≠ 0

inductive Way (w : VW) : List Int → Int → Prop where
  | root {x : Int} : w.root x → Way w [x] x
  | step {p : List Int} {a b : Int} : Way w p a → w.edge a b → Way w (p ++ [b]) b

theorem Way.last {w : VW} {p : List Int} {a : Int} (h : Way w p a) : ∃ i, p = i ++ [a] := by
  cases h with
  | root _ => exact ⟨[], rfl⟩
  | step _ _ => exact ⟨_, rfl⟩

theorem Way.rch {w : VW} {p : List Int} {a : Int} (h : Way w p a) : Rch w a := by
  induction h with
  | root h => exact .root h.1 h.2
  | step _ e ih =>
    obtain ⟨k, o, h1, h2, h3, h4⟩ := e
    exact .step ih h1 h2 h3 h4

theorem Rch.way {w : VW} {a : Int} (h : Rch w a) : ∃ p, Way w p a := by
  induction h with
  | root h1 h2 => exact ⟨_, .root ⟨h1, h2⟩⟩
  | step _ h1 h2 h3 h4 ih =>
    obtain ⟨p, hp⟩ := ih
    exact ⟨_, .step hp ⟨_, _, h1, h2, h3, h4⟩⟩

structure Best (w : VW) (p : List Int) (a : Int) : Prop where
  way : Way w p a
  min : ∀ q, Way w q a → p.length ≤ q.length ∧ (q.length = p.length → q = p ∨ lt2 p q)

theorem Best.uniq {w : VW} {p q : List Int} {a : Int} (h : Best w p a) (k : Best w q a) : p = q := by
  have h1 := h.min q k.way
  have k1 := k.min p h.way
  have e : q.length = p.length := by omega
  rcases h1.2 e with r | r
  · exact r.symm
  · rcases k1.2 e.symm with s | s
    · exact s
    · exact (lt2_irrefl (lt2_trans r s)).elim

/-- What has been seen. -/
def Vis (w : VW) (f : Int → Option Int) (x : Int) : Prop := w.root x ∨ f x ≠ none

/-- At the head of a level. -/
structure BF (w : VW) (f : Int → Option Int) (P : Int → List Int) (d : Nat) (L : List Int) : Prop where
  best : ∀ x, Vis w f x → Best w (P x) x
  len : ∀ x, Vis w f x → (P x).length ≤ d + 1
  lev : ∀ x, x ∈ L ↔ Vis w f x ∧ (P x).length = d + 1
  ord : L.Pairwise fun x y => lt2 (P x) (P y)
  all : ∀ q x, Way w q x → q.length ≤ d + 1 → Vis w f x
  rt : ∀ x, w.root x → f x = none ∧ P x = [x]
  par : ∀ x y, f x = some y → Vis w f y ∧ P x = P y ++ [x]

theorem BF.start {w : VW} {L : List Int} (h1 : ∀ x, x ∈ L ↔ w.root x) (h2 : L.Pairwise (· < ·)) : BF w (fun _ => none) (fun x => [x]) 0 L := by
  have hv : ∀ x, Vis w (fun _ => none) x ↔ w.root x := fun x => by simp [Vis]
  refine ⟨fun x hx => ?_, fun x _ => by simp, fun x => by rw [h1, hv]; simp, h2.imp fun h => .inl h, fun q x hq hl => ?_, fun x _ => ⟨rfl, rfl⟩, fun x y h => by cases h⟩
  · refine ⟨.root ((hv x).1 hx), fun q hq => ?_⟩
    cases hq with
    | root _ => exact ⟨Nat.le_refl _, fun _ => .inl rfl⟩
    | step hp _ =>
      obtain ⟨i, rfl⟩ := hp.last
      simp
  · cases hq with
    | root h => exact (hv _).2 h
    | step hp _ =>
      obtain ⟨i, rfl⟩ := hp.last
      simp at hl

variable {w : VW} {f f' : Int → Option Int} {P P' : Int → List Int} {d : Nat} {L T N U R U2 : List Int} {c b : Int}

/-- Who leads to what is new at a level's end. -/
theorem BF.pre (h : BF w f P d L) {q : List Int} {e x : Int} (hq : Way w q e) (he : w.edge e x) (hl : q.length = d + 1) (hx : ¬ Vis w f x) : e ∈ L := by
  have hv := h.all q e hq (by omega)
  refine (h.lev e).2 ⟨hv, ?_⟩
  have h1 := h.len e hv
  by_cases h2 : (P e).length = d + 1
  · exact h2
  · exact (hx (h.all _ _ (.step (h.best e hv).way he) (by simp; omega))).elim

/-- Within a level: these (T) are done, of c's names these (U). -/
structure BN (w : VW) (f : Int → Option Int) (P : Int → List Int) (d : Nat) (L T : List Int) (c : Int) (U N : List Int) (f' : Int → Option Int) (P' : Int → List Int) : Prop where
  bf : BF w f P d L
  sub : ∀ x, Vis w f x → f' x = f x ∧ P' x = P x
  new : ∀ x, x ∈ N ↔ Vis w f' x ∧ ¬ Vis w f x
  nb : ∀ x ∈ N, ∃ e, f' x = some e ∧ e ∈ L ∧ P' x = P e ++ [x] ∧ Best w (P' x) x ∧ (e ∈ T ∨ (e = c ∧ x ∈ U))
  ord : N.Pairwise fun x y => lt2 (P' x) (P' y)
  don : ∀ e ∈ T, ∀ x, w.edge e x → Vis w f' x
  cur : ∀ x ∈ U, x ≠ 0 → Vis w f' x

theorem BF.begin (h : BF w f P d L) : BN w f P d L [] c [] [] f P :=
  ⟨h, fun _ _ => ⟨rfl, rfl⟩, fun x => by simp, by simp, by simp, by simp, by simp⟩

theorem BN.mono (h : BN w f P d L T c U N f' P') {x : Int} (hx : Vis w f x) : Vis w f' x := by
  rcases hx with hx | hx
  · exact .inl hx
  · exact .inr (by rw [(h.sub x (.inr hx)).1]; exact hx)

theorem BN.skip (h : BN w f P d L T c U N f' P') (hb : b = 0 ∨ Vis w f' b) : BN w f P d L T c (U ++ [b]) N f' P' := by
  refine ⟨h.bf, h.sub, h.new, fun x hx => ?_, h.ord, h.don, fun x hx hn => ?_⟩
  · obtain ⟨e, h1, h2, h3, h4, h5⟩ := h.nb x hx
    refine ⟨e, h1, h2, h3, h4, ?_⟩
    rcases h5 with h5 | ⟨h5, h6⟩
    · exact .inl h5
    · exact .inr ⟨h5, by simp [h6]⟩
  · rcases List.mem_append.1 hx with hx | hx
    · exact h.cur x hx hn
    · obtain rfl : x = b := by simpa using hx
      rcases hb with hb | hb
      · exact (hn hb).elim
      · exact hb

theorem BN.add (h : BN w f P d L T c U N f' P') (hT : L.filter (fun x => (w.at x).isSome) = T ++ c :: R) (he : w.edge c b) (hs : ∀ x ∈ U, x ≤ b) (hb : ¬ Vis w f' b) :
    BN w f P d L T c (U ++ [b]) (N ++ [b]) (fun x => if x = b then some c else f' x) (fun x => if x = b then P c ++ [b] else P' x) := by
  have hF := h.bf
  have hbf : ¬ Vis w f b := fun q => hb (h.mono q)
  have hfb : f' b = none := by
    cases hq : f' b with
    | none => rfl
    | some y => exact (hb (.inr (by rw [hq]; simp))).elim
  have hrb : ¬ w.root b := fun q => hb (.inl q)
  have hmem : ∀ x, x ∈ T ++ c :: R ↔ x ∈ L ∧ (w.at x).isSome := fun x => by rw [← hT, List.mem_filter]
  have hcL : c ∈ L := ((hmem c).1 (by simp)).1
  have hcV := ((hF.lev c).1 hcL)
  have hpw : (T ++ c :: R).Pairwise fun x y => lt2 (P x) (P y) := by rw [← hT]; exact hF.ord.filter _
  have hTc : ∀ t ∈ T, lt2 (P t) (P c) := fun t ht => (List.pairwise_append.1 hpw).2.2 t ht c (by simp)
  have hcR : ∀ t ∈ R, lt2 (P c) (P t) := fun t ht => (List.pairwise_cons.1 (List.pairwise_append.1 hpw).2.1).1 t ht
  have hv : ∀ x, Vis w (fun x => if x = b then some c else f' x) x ↔ Vis w f' x ∨ x = b := fun x => by
    unfold Vis
    by_cases hx : x = b
    · simp [hx]
    · simp [hx]
  have hne : ∀ x, Vis w f' x → x ≠ b := fun x hx e => hb (e ▸ hx)
  have hbest : Best w (P c ++ [b]) b := by
    refine ⟨.step (hF.best c hcV.1).way he, fun q hq => ?_⟩
    cases hq with
    | root hr => exact (hrb hr).elim
    | @step q0 e _ hq0 heb =>
      have hge : d + 1 ≤ q0.length := by
        rcases Nat.lt_or_ge q0.length (d + 1) with hlt | hge
        · exact (hbf (hF.all _ _ (.step hq0 heb) (by simp; omega))).elim
        · exact hge
      have hlc := hcV.2
      refine ⟨by simp; omega, fun hl => ?_⟩
      have hl : q0.length = d + 1 := by simp at hl; omega
      have heL := hF.pre hq0 heb hl hbf
      have hem : e ∈ T ++ c :: R := (hmem e).2 ⟨heL, by obtain ⟨k, _, h1, _⟩ := heb; rw [h1]; rfl⟩
      have heV := (hF.lev e).1 heL
      have hmin := ((hF.best e heV.1).min q0 hq0).2 (by omega)
      rcases List.mem_append.1 hem with ht | ht
      · exact (hb (h.don e ht b heb)).elim
      · rcases List.mem_cons.1 ht with rfl | ht
        · rcases hmin with rfl | hm
          · exact .inl rfl
          · exact .inr (lt2_app hm)
        · rcases hmin with rfl | hm
          · exact .inr (lt2_app (hcR e ht))
          · exact .inr (lt2_app (lt2_trans (hcR e ht) hm))
  refine ⟨hF, fun x hx => ?_, fun x => ?_, fun x hx => ?_, ?_, fun e he' x hx => (hv x).2 (.inl (h.don e he' x hx)), fun x hx hn => ?_⟩
  · have hxb : x ≠ b := hne x (h.mono hx)
    simp only [hxb, if_false]
    exact h.sub x hx
  · rw [List.mem_append, hv, h.new, List.mem_singleton]
    constructor
    · rintro (⟨h1, h2⟩ | rfl)
      · exact ⟨.inl h1, h2⟩
      · exact ⟨.inr rfl, hbf⟩
    · rintro ⟨h1 | h1, h2⟩
      · exact .inl ⟨h1, h2⟩
      · exact .inr h1
  · rcases List.mem_append.1 hx with hx | hx
    · have hxb : x ≠ b := hne x ((h.new x).1 hx).1
      obtain ⟨e, h1, h2, h3, h4, h5⟩ := h.nb x hx
      simp only [hxb, if_false]
      refine ⟨e, h1, h2, h3, h4, ?_⟩
      rcases h5 with h5 | ⟨h5, h6⟩
      · exact .inl h5
      · exact .inr ⟨h5, by simp [h6]⟩
    · obtain rfl : x = b := by simpa using hx
      simp only [if_true]
      exact ⟨c, rfl, hcL, rfl, hbest, .inr ⟨rfl, by simp⟩⟩
  · rw [List.pairwise_append]
    refine ⟨?_, by simp, fun x hx y hy => ?_⟩
    · refine (List.Pairwise.and_mem.1 h.ord).imp fun {x y} hxy => ?_
      have h1 : x ≠ b := hne x ((h.new x).1 hxy.1).1
      have h2 : y ≠ b := hne y ((h.new y).1 hxy.2.1).1
      simp only [h1, h2, if_false]
      exact hxy.2.2
    · obtain rfl : y = b := by simpa using hy
      have hxb : x ≠ y := hne x ((h.new x).1 hx).1
      obtain ⟨e, h1, h2, h3, h4, h5⟩ := h.nb x hx
      simp only [hxb, if_false, if_true]
      rw [h3]
      rcases h5 with h5 | ⟨rfl, h6⟩
      · exact lt2_app (hTc e h5)
      · have := hs x h6
        exact lt2_last (by omega)
  · rcases List.mem_append.1 hx with hx | hx
    · exact (hv x).2 (.inl (h.cur x hx hn))
    · exact (hv x).2 (.inr (by simpa using hx))

/-- One of a level is done. -/
theorem BN.next (h : BN w f P d L T c U N f' P') (hc : ∀ x, w.edge c x → x ∈ U) {c' : Int} : BN w f P d L (T ++ [c]) c' [] N f' P' := by
  refine ⟨h.bf, h.sub, h.new, fun x hx => ?_, h.ord, fun e he x hx => ?_, by simp⟩
  · obtain ⟨e, h1, h2, h3, h4, h5⟩ := h.nb x hx
    refine ⟨e, h1, h2, h3, h4, .inl ?_⟩
    rcases h5 with h5 | ⟨h5, _⟩
    · simp [h5]
    · simp [h5]
  · rcases List.mem_append.1 he with he | he
    · exact h.don e he x hx
    · obtain rfl : e = c := by simpa using he
      obtain ⟨_, _, _, _, _, hn⟩ := id hx
      exact h.cur x (hc x hx) hn

/-- The level is over. -/
theorem BN.done (h : BN w f P d L (L.filter fun x => (w.at x).isSome) c U N f' P') : BF w f' P' (d + 1) N := by
  have hF := h.bf
  have hold : ∀ x, Vis w f' x → Vis w f x ∨ x ∈ N := fun x hx => by
    by_cases q : Vis w f x
    · exact .inl q
    · exact .inr ((h.new x).2 ⟨hx, q⟩)
  have hlen : ∀ x ∈ N, (P' x).length = d + 2 := fun x hx => by
    obtain ⟨e, _, h2, h3, _⟩ := h.nb x hx
    rw [h3, List.length_append, ((hF.lev e).1 h2).2]
    rfl
  refine ⟨fun x hx => ?_, fun x hx => ?_, fun x => ⟨fun hx => ⟨((h.new x).1 hx).1, hlen x hx⟩, fun ⟨h1, h2⟩ => ?_⟩, h.ord, fun q x hq hl => ?_, fun x hx => ?_, fun x y hxy => ?_⟩
  · rcases hold x hx with q | q
    · rw [(h.sub x q).2]; exact hF.best x q
    · obtain ⟨e, _, _, _, h4, _⟩ := h.nb x q
      exact h4
  · rcases hold x hx with q | q
    · rw [(h.sub x q).2]
      have := hF.len x q
      omega
    · rw [hlen x q]
      omega
  · rcases hold x h1 with q | q
    · rw [(h.sub x q).2] at h2
      have := hF.len x q
      omega
    · exact q
  · by_cases hv : Vis w f x
    · exact h.mono hv
    · cases hq with
      | root hr => exact .inl hr
      | @step q0 e _ hq0 he =>
        have hge : q0.length = d + 1 := by
          rcases Nat.lt_or_ge q0.length (d + 1) with hlt | hge
          · exact (hv (hF.all _ _ (.step hq0 he) (by simp; omega))).elim
          · simp at hl; omega
        have heL := hF.pre hq0 he hge hv
        exact h.don e (List.mem_filter.2 ⟨heL, by obtain ⟨k, _, h1, _⟩ := he; rw [h1]; rfl⟩) x he
  · have hv : Vis w f x := .inl hx
    obtain ⟨h1, h2⟩ := h.sub x hv
    obtain ⟨h3, h4⟩ := hF.rt x hx
    exact ⟨h1.trans h3, h2.trans h4⟩
  · rcases hold x (.inr (by rw [hxy]; simp)) with q | q
    · obtain ⟨h1, h2⟩ := h.sub x q
      rw [h1] at hxy
      obtain ⟨h3, h4⟩ := hF.par x y hxy
      exact ⟨h.mono h3, by rw [h2, (h.sub y h3).2]; exact h4⟩
    · obtain ⟨e, h1, h2, h3, _⟩ := h.nb x q
      rw [hxy] at h1
      cases h1
      have hv := ((hF.lev y).1 h2).1
      exact ⟨h.mono hv, by rw [h3, (h.sub y hv).2]⟩

/-- No level is left: what can be reached has been seen. -/
theorem BF.over (h : BF w f P d []) {q : List Int} {x : Int} (hq : Way w q x) : Vis w f x := by
  induction hq with
  | root hr => exact .inl hr
  | @step p e x hp he ih =>
    have h1 := h.len e ih
    have h2 : (P e).length ≠ d + 1 := fun q => by have := (h.lev e).2 ⟨ih, q⟩; simp at this
    exact h.all _ _ (.step (h.best e ih).way he) (by simp; omega)

theorem BF.nodup (h : BF w f P d L) : L.Nodup := h.ord.imp fun {x y} hxy e => by subst e; exact lt2_irrefl hxy
theorem BN.nodup (h : BN w f P d L T c U N f' P') : N.Nodup := h.ord.imp fun {x y} hxy e => by subst e; exact lt2_irrefl hxy
theorem BF.in_all (h : BF w f P d L) {x : Int} (hx : x ∈ L) : x ∈ w.all := (h.best x ((h.lev x).1 hx).1).way.rch.all
theorem BN.in_all (h : BN w f P d L T c U N f' P') {x : Int} (hx : x ∈ N) : x ∈ w.all := by
  obtain ⟨_, _, _, _, h4, _⟩ := h.nb x hx
  exact h4.way.rch.all
theorem BF.small (h : BF w f P d L) : L.length ≤ w.all.length := nodup_len h.nodup fun x hx => h.in_all hx
theorem BN.small (h : BN w f P d L T c U N f' P') : N.length ≤ w.all.length := nodup_len h.nodup fun x hx => h.in_all hx

/-- How many have not been seen. -/
noncomputable def unv (w : VW) (f : Int → Option Int) : Nat := (w.all.filter fun x => @decide (¬ Vis w f x) (Classical.propDecidable _)).length

theorem filter_lt {α : Type} {p q : α → Bool} : ∀ {l : List α}, (∀ x ∈ l, q x = true → p x = true) → (∃ x ∈ l, p x = true ∧ q x = false) → (l.filter q).length < (l.filter p).length
  | [], _, ⟨x, hx, _⟩ => by simp at hx
  | a :: l, h, ⟨x, hx, h1, h2⟩ => by
    have hle : ∀ {l : List α}, (∀ x ∈ l, q x = true → p x = true) → (l.filter q).length ≤ (l.filter p).length := fun {l} h => by
      induction l with
      | nil => simp
      | cons a l ih =>
        have ih := ih fun x hx => h x (by simp [hx])
        have ha := h a (by simp)
        rw [List.filter_cons, List.filter_cons]
        split <;> split <;> simp_all <;> omega
    have hl : ∀ y ∈ l, q y = true → p y = true := fun y hy => h y (by simp [hy])
    rw [List.filter_cons, List.filter_cons]
    rcases List.mem_cons.1 hx with rfl | hx
    · rw [h1, h2]
      have := hle hl
      simp
      omega
    · have := filter_lt hl ⟨x, hx, h1, h2⟩
      have ha := h a (by simp)
      split <;> split <;> simp_all <;> omega

theorem BN.fewer (h : BN w f P d L T c U N f' P') (hN : N ≠ []) : unv w f' < unv w f := by
  unfold unv
  refine filter_lt (fun x _ hx => ?_) ?_
  · rw [@decide_eq_true_eq _ (Classical.propDecidable _)] at hx ⊢
    exact fun q => hx (h.mono q)
  · obtain ⟨x, hx⟩ := List.exists_mem_of_ne_nil N hN
    have hq := (h.new x).1 hx
    refine ⟨x, h.in_all hx, ?_, ?_⟩
    · rw [@decide_eq_true_eq _ (Classical.propDecidable _)]; exact hq.2
    · rw [@decide_eq_false_iff_not _ (Classical.propDecidable _)]; exact fun q => q hq.1
theorem BN.unv_le (h : BN w f P d L T c U N f' P') (hN : N = []) : unv w f' ≤ unv w f := by
  unfold unv
  have hle : ∀ {l : List Int} {p q : Int → Bool}, (∀ x ∈ l, q x = true → p x = true) → (l.filter q).length ≤ (l.filter p).length := fun {l p q} h => by
    induction l with
    | nil => simp
    | cons a l ih =>
      have ih := ih fun x hx => h x (by simp [hx])
      have ha := h a (by simp)
      rw [List.filter_cons, List.filter_cons]
      split <;> split <;> simp_all <;> omega
  refine hle fun x _ hx => ?_
  rw [@decide_eq_true_eq _ (Classical.propDecidable _)] at hx ⊢
  exact fun q => hx (h.mono q)

/-- What a way is asked for answers. -/
def PathL (w : VW) (a : Int) (out : List Int) : Prop := (w.at a ≠ none ∧ Best w out a) ∨ (out = [] ∧ (w.at a = none ∨ ∀ q, ¬ Way w q a))

end
end Go.Sl
namespace Go.Sl
section

variable {w : VW}

theorem Way.splice {p : List Int} {a : Int} (h : Way w p a) : ∀ {q r : List Int}, p = q ++ r → q ≠ [] → ∃ x, Way w q x ∧ ∀ q', Way w q' x → Way w (q' ++ r) a := by
  induction h with
  | @root x hr =>
    intro q r e hq
    cases q with
    | nil => exact (hq rfl).elim
    | cons y q =>
      rw [List.cons_append, List.cons.injEq] at e
      obtain ⟨rfl, e⟩ := e
      have e' := e.symm
      rw [List.append_eq_nil_iff] at e'
      obtain ⟨rfl, rfl⟩ := e'
      exact ⟨x, .root hr, fun q' h => by rw [List.append_nil]; exact h⟩
  | @step p c b hp he ih =>
    intro q r e hq
    rcases List.eq_nil_or_concat r with rfl | ⟨r', z, rfl⟩
    · rw [List.append_nil] at e
      subst e
      exact ⟨b, .step hp he, fun q' h => by rw [List.append_nil]; exact h⟩
    · simp only [List.concat_eq_append] at e ⊢
      rw [← List.append_assoc] at e
      obtain ⟨e1, e2⟩ := List.append_inj' e rfl
      obtain rfl : b = z := by simpa using e2
      obtain ⟨x, h1, h2⟩ := ih e1 hq
      exact ⟨x, h1, fun q' h => by rw [← List.append_assoc]; exact .step (h2 q' h) he⟩

theorem Way.pos {p : List Int} {a : Int} (h : Way w p a) : 0 < p.length := by
  obtain ⟨i, rfl⟩ := h.last
  simp

theorem Way.head {p : List Int} {a : Int} (h : Way w p a) : ∃ x, p[0]? = some x ∧ w.root x := by
  induction h with
  | root hr => exact ⟨_, rfl, hr⟩
  | step hp _ ih =>
    obtain ⟨x, h1, h2⟩ := ih
    exact ⟨x, by rw [List.getElem?_append_left hp.pos]; exact h1, h2⟩

theorem Way.steps {p : List Int} {a : Int} (h : Way w p a) : ∀ {j : Nat} {x y : Int}, p[j]? = some x → p[j + 1]? = some y → w.edge x y := by
  induction h with
  | root hr => intro j x y h1 h2; simp at h2
  | @step p c b hp he ih =>
    intro j x y h1 h2
    by_cases hj : j + 1 < p.length
    · rw [List.getElem?_append_left (by omega)] at h1
      rw [List.getElem?_append_left hj] at h2
      exact ih h1 h2
    · have hl : j + 1 < p.length + 1 := by
        have := (List.getElem?_eq_some_iff.1 h2).1
        simpa using this
      obtain ⟨i, rfl⟩ := hp.last
      have hj : j = i.length := by simp at hj hl; omega
      subst hj
      simp at h1 h2
      subst h1; subst h2
      exact he

theorem Way.rchs {p : List Int} {a : Int} (h : Way w p a) : ∀ x ∈ p, Rch w x := by
  induction h with
  | root hr => intro x hx; obtain rfl := List.mem_singleton.1 hx; exact .root hr.1 hr.2
  | step hp he ih =>
    intro x hx
    rcases List.mem_append.1 hx with hx | hx
    · exact ih x hx
    · obtain rfl := List.mem_singleton.1 hx
      exact (Way.step hp he).rch

theorem Best.nodup {p : List Int} {a : Int} (h : Best w p a) : p.Nodup := by
  rw [List.nodup_iff_pairwise_ne, List.pairwise_iff_getElem]
  intro i j hi hj hij e
  -- the part to the first and the part to the second lead to the same
  have s1 : p = p.take (i + 1) ++ p.drop (i + 1) := (List.take_append_drop _ _).symm
  have s2 : p = p.take (j + 1) ++ p.drop (j + 1) := (List.take_append_drop _ _).symm
  have n1 : p.take (i + 1) ≠ [] := by intro q; have := congrArg List.length q; rw [List.length_take, List.length_nil] at this; omega
  have n2 : p.take (j + 1) ≠ [] := by intro q; have := congrArg List.length q; rw [List.length_take, List.length_nil] at this; omega
  obtain ⟨x, w1, _⟩ := h.way.splice s1 n1
  obtain ⟨y, w2, k2⟩ := h.way.splice s2 n2
  have l1 : p.take (i + 1) = p.take i ++ [p[i]] := List.take_succ_eq_append_getElem hi
  have l2 : p.take (j + 1) = p.take j ++ [p[j]] := List.take_succ_eq_append_getElem hj
  obtain ⟨u1, e1⟩ := w1.last
  obtain ⟨u2, e2⟩ := w2.last
  have hx : x = p[i] := by
    have := (List.append_inj' (e1.symm.trans l1) rfl).2
    simpa using this
  have hy : y = p[j] := by
    have := (List.append_inj' (e2.symm.trans l2) rfl).2
    simpa using this
  have hxy : x = y := by rw [hx, hy, e]
  subst hxy
  have := (h.min _ (k2 _ w1)).1
  rw [List.length_append, List.length_take, List.length_drop] at this
  omega

theorem Best.objs {p : List Int} {a : Int} (h : Best w p a) (ha : (w.at a).isSome) : ∀ x ∈ p, (w.at x).isSome := by
  intro x hx
  obtain ⟨j, hj, rfl⟩ := List.getElem_of_mem hx
  by_cases hl : j + 1 < p.length
  · obtain ⟨k, _, h1, _⟩ := h.way.steps (List.getElem?_eq_getElem hj) (List.getElem?_eq_getElem hl)
    rw [h1]; rfl
  · obtain ⟨i, rfl⟩ := h.way.last
    have : j = i.length := by simp at hj hl; omega
    subst this
    simpa using ha

theorem Best.few {p R : List Int} {a : Int} (h : Best w p a) (ha : (w.at a).isSome) (hR : ∀ x, x ∈ R ↔ Rch w x ∧ (w.at x).isSome = true) : p.length ≤ R.length :=
  nodup_len h.nodup fun x hx => (hR x).2 ⟨h.way.rchs x hx, h.objs ha x hx⟩

end
end Go.Sl
namespace Go.Sl
section

variable {w : VW} {a : Int}

inductive Stp (w : VW) (a : Int) : Nat → Int → Prop where
  | zero : Stp w a 0 a
  | succ {n : Nat} {x y : Int} : w.edge x y → Stp w a n y → Stp w a (n + 1) x

theorem Stp.way {n : Nat} {x : Int} (h : Stp w a n x) : ∀ {q : List Int}, Way w q x → ∃ r, r.length = n ∧ Way w (q ++ r) a := by
  induction h with
  | zero => intro q hq; exact ⟨[], rfl, by rw [List.append_nil]; exact hq⟩
  | @succ n x y he _ ih =>
    intro q hq
    obtain ⟨r, h1, h2⟩ := ih (.step hq he)
    exact ⟨y :: r, by simp [h1], by rw [List.append_assoc] at h2; exact h2⟩

theorem Stp.way1 {n : Nat} {x y : Int} (he : w.edge x y) (h : Stp w a n y) {q : List Int} (hq : Way w q x) : ∃ r, r.length = n ∧ Way w (q ++ y :: r) a := by
  obtain ⟨r, h1, h2⟩ := h.way (.step hq he)
  exact ⟨r, h1, by rw [List.append_assoc] at h2; exact h2⟩

def fv (far : Int → Option Int) (x : Int) : Int := (far x).getD 0

/-- What is reached, as objects; a is one. -/
structure RA (w : VW) (a : Int) (R : List Int) : Prop where
  mem : ∀ x, x ∈ R ↔ Rch w x ∧ (w.at x).isSome = true
  rise : Rise R
  ina : a ∈ R

/-- All that are less than d steps away are known. -/
structure FarI (w : VW) (a : Int) (R : List Int) (d : Nat) (far : Int → Option Int) : Prop where
  iff : ∀ x, fv far x ≠ 0 → x ∈ R ∧ ∃ n : Nat, n < d ∧ fv far x = n + 1 ∧ Stp w a n x ∧ ∀ m, Stp w a m x → n ≤ m
  all : ∀ x ∈ R, ∀ n, n < d → Stp w a n x → fv far x ≠ 0

theorem FarI.start {R : List Int} (hR : RA w a R) : FarI w a R 1 (fun x => if x = a then some 1 else none) := by
  refine ⟨fun x hx => ?_, fun x hx n hn hs => ?_⟩
  · by_cases h : x = a
    · subst h
      exact ⟨hR.ina, 0, by omega, by simp [fv], .zero, fun m _ => by omega⟩
    · simp [fv, h] at hx
  · obtain rfl : n = 0 := by omega
    cases hs
    simp [fv]

/-- Within a round: those in T are done. -/
structure FarR (w : VW) (a : Int) (R : List Int) (d : Nat) (far : Int → Option Int) (T : List Int) (far' : Int → Option Int) : Prop where
  old : ∀ x, fv far x ≠ 0 → fv far' x = fv far x
  new : ∀ x, fv far' x ≠ 0 → fv far x = 0 → x ∈ R ∧ fv far' x = d + 1 ∧ ∃ y, w.edge x y ∧ fv far y = d
  don : ∀ x ∈ T, (∃ y, w.edge x y ∧ fv far y = d) → fv far' x ≠ 0

variable {R T : List Int} {d : Nat} {far far' : Int → Option Int}

theorem FarR.begin : FarR w a R d far [] far := ⟨fun _ _ => rfl, fun x h1 h2 => (h1 h2).elim, by simp⟩

theorem FarR.eqd (h : FarR w a R d far T far') (hd : 1 ≤ d) (y : Int) : fv far' y = d ↔ fv far y = d := by
  by_cases h0 : fv far y = 0
  · constructor
    · intro e
      have := (h.new y (by omega) h0).2.1
      omega
    · intro e; omega
  · rw [h.old y h0]

/-- One that is known already, or that nothing leads on from. -/
theorem FarR.skip (h : FarR w a R d far T far') {x : Int} (hx : fv far' x ≠ 0 ∨ ∀ y, w.edge x y → fv far y ≠ d) : FarR w a R d far (T ++ [x]) far' := by
  refine ⟨h.old, h.new, fun z hz hy => ?_⟩
  rcases List.mem_append.1 hz with hz | hz
  · exact h.don z hz hy
  · obtain rfl := List.mem_singleton.1 hz
    rcases hx with hx | hx
    · exact hx
    · obtain ⟨y, h1, h2⟩ := hy
      exact (hx y h1 h2).elim

theorem FarR.put (h : FarR w a R d far T far') {x y : Int} (hxR : x ∈ R) (h0 : fv far x = 0) (he : w.edge x y) (hy : fv far y = d) : FarR w a R d far T (fun z => if z = x then some ((d : Int) + 1) else far' z) := by
  have hv : ∀ z, fv (fun z => if z = x then some ((d : Int) + 1) else far' z) z = if z = x then (d : Int) + 1 else fv far' z := fun z => by
    unfold fv
    by_cases h : z = x <;> simp [h]
  refine ⟨fun z hz => ?_, fun z hz h1 => ?_, fun z hz hq => ?_⟩
  · have : z ≠ x := fun e => hz (e ▸ h0)
    rw [hv, if_neg this]
    exact h.old z hz
  · by_cases e : z = x
    · subst e
      rw [hv, if_pos rfl]
      exact ⟨hxR, rfl, y, he, hy⟩
    · rw [hv, if_neg e] at hz ⊢
      exact h.new z hz h1
  · rw [hv]
    split
    · omega
    · exact h.don z hz hq

theorem FarR.done (hI : FarI w a R d far) (hR : RA w a R) (hd : 1 ≤ d) (h : FarR w a R d far R far') : FarI w a R (d + 1) far' := by
  refine ⟨fun x hx => ?_, fun x hx n hn hs => ?_⟩
  · by_cases h0 : fv far x = 0
    · obtain ⟨h1, h2, y, h3, h4⟩ := h.new x hx h0
      obtain ⟨_, n, n1, n2, n3, _⟩ := hI.iff y (by omega)
      have hnd : n + 1 = d := by omega
      refine ⟨h1, d, by omega, h2, hnd ▸ .succ h3 n3, fun m hm => ?_⟩
      rcases Nat.lt_or_ge m d with hlt | hge
      · exact (hI.all x h1 m hlt hm h0).elim
      · exact hge
    · obtain ⟨h1, n, n1, n2, n3, n4⟩ := hI.iff x h0
      exact ⟨h1, n, by omega, by rw [h.old x h0]; exact n2, n3, n4⟩
  · by_cases h0 : fv far x = 0
    · cases hs with
      | zero => exact (hI.all a hx 0 (by omega) .zero h0).elim
      | @succ n _ y he hs =>
        have hyR : y ∈ R := by
          rw [hR.mem]
          obtain ⟨k, o, e1, e2, e3, e4⟩ := id he
          refine ⟨.step ((hR.mem x).1 hx).1 e1 e2 e3 e4, ?_⟩
          cases hs with
          | zero => exact ((hR.mem a).1 hR.ina).2
          | succ he2 _ => obtain ⟨k2, _, f1, _⟩ := he2; rw [f1]; rfl
        have hy0 := hI.all y hyR n (by omega) hs
        obtain ⟨_, n', n1, n2, n3, n4⟩ := hI.iff y hy0
        have := n4 n hs
        by_cases hq : n' + 1 = d
        · exact h.don x hx ⟨y, he, by omega⟩
        · exact (hI.all x hx (n' + 1) (by omega) (.succ he n3) h0).elim
    · rw [h.old x h0]; exact h0

theorem lt2_head {b s : Int} {t r : List Int} : ∀ {q : List Int}, lt2 (q ++ b :: t) (q ++ s :: r) → b ≤ s
  | [], h => by rcases h with h | ⟨h, _⟩ <;> omega
  | _ :: q, h => by
    rcases h with h | ⟨_, h⟩
    · omega
    · exact lt2_head h

/-- The least way, seen from these distances. -/
structure LW (w : VW) (a : Int) (R : List Int) (far : Int → Option Int) (l : List Int) : Prop where
  pos : 0 < l.length
  val : ∀ (i : Nat) x, l[i]? = some x → x ∈ R ∧ fv far x = l.length - i
  root : ∀ x, l[0]? = some x → w.root x
  rmin : ∀ x y, l[0]? = some x → w.root y → fv far y ≠ 0 → fv far x ≤ fv far y ∧ (fv far y = fv far x → x ≤ y)
  nxt : ∀ (i : Nat) x y, l[i]? = some x → l[i + 1]? = some y → w.edge x y
  nmin : ∀ (i : Nat) x y z, l[i]? = some x → l[i + 1]? = some y → w.edge x z → fv far z = fv far x - 1 → y ≤ z
  lst : l[l.length - 1]? = some a

theorem LW.of {l : List Int} (hb : Best w l a) (hR : RA w a R) (hI : FarI w a R (R.length + 1) far) : LW w a R far l := by
  have hobj := hb.objs ((hR.mem a).1 hR.ina).2
  have hfew := hb.few ((hR.mem a).1 hR.ina).2 hR.mem
  have hpos := hb.way.pos
  have hin : ∀ x ∈ l, x ∈ R := fun x hx => (hR.mem x).2 ⟨hb.way.rchs x hx, hobj x hx⟩
  have hlast : l[l.length - 1]? = some a := by
    obtain ⟨u, rfl⟩ := hb.way.last
    simp
  have hA : ∀ (n i : Nat) x, i + n + 1 = l.length → l[i]? = some x → Stp w a n x := by
    intro n
    induction n with
    | zero =>
      intro i x hi hx
      have : i = l.length - 1 := by omega
      subst this
      rw [hlast] at hx
      cases hx
      exact .zero
    | succ n ih =>
      intro i x hi hx
      have hy : l[i + 1]? = some (l[i + 1]'(by omega)) := List.getElem?_eq_getElem (by omega)
      exact .succ (hb.way.steps hx hy) (ih (i + 1) _ (by omega) hy)
  -- the part of the way up to a place
  have hpart : ∀ (i : Nat) x, l[i]? = some x → Way w (l.take (i + 1)) x := fun i x hx => by
    have hi := (List.getElem?_eq_some_iff.1 hx).1
    have hne : l.take (i + 1) ≠ [] := by intro q; have := congrArg List.length q; rw [List.length_take, List.length_nil] at this; omega
    obtain ⟨z, h1, _⟩ := hb.way.splice (List.take_append_drop (i + 1) l).symm hne
    obtain ⟨u, e1⟩ := h1.last
    have l1 : l.take (i + 1) = l.take i ++ [l[i]] := List.take_succ_eq_append_getElem hi
    have hz : z = l[i] := by
      have := (List.append_inj' (e1.symm.trans l1) rfl).2
      simpa using this
    have hxi : x = l[i] := by
      rw [List.getElem?_eq_getElem hi] at hx
      exact (Option.some.inj hx).symm
    rw [hxi, ← hz]
    exact h1
  have hBm : ∀ (i : Nat) x m, l[i]? = some x → Stp w a m x → l.length ≤ i + 1 + m := fun i x m hx hs => by
    have hi := (List.getElem?_eq_some_iff.1 hx).1
    obtain ⟨r, h1, h2⟩ := hs.way (hpart i x hx)
    have := (hb.min _ h2).1
    rw [List.length_append, List.length_take, h1] at this
    omega
  have hval : ∀ (i : Nat) x, l[i]? = some x → x ∈ R ∧ fv far x = l.length - i := fun i x hx => by
    have hi := (List.getElem?_eq_some_iff.1 hx).1
    have hxR := hin x (List.mem_of_getElem? hx)
    have hs := hA (l.length - 1 - i) i x (by omega) hx
    have h0 := hI.all x hxR _ (by omega) hs
    obtain ⟨_, n, n1, n2, n3, n4⟩ := hI.iff x h0
    have h1 := n4 _ hs
    have h2 := hBm i x n hx n3
    exact ⟨hxR, by omega⟩
  refine ⟨hpos, hval, fun x hx => ?_, fun x y hx hy h0 => ?_, fun i x y h1 h2 => hb.way.steps h1 h2, fun i x y z h1 h2 he hz => ?_, hlast⟩
  · obtain ⟨x', h1, h2⟩ := hb.way.head
    rw [hx] at h1
    cases h1
    exact h2
  · obtain ⟨_, n, n1, n2, n3, n4⟩ := hI.iff y h0
    obtain ⟨r, h1, h2⟩ := n3.way (.root hy)
    have hm := hb.min _ h2
    have hv := (hval 0 x hx).2
    have hlen : ([y] ++ r).length = n + 1 := by simp [h1]
    rw [hlen] at hm
    refine ⟨by omega, fun e => ?_⟩
    have hl : n + 1 = l.length := by omega
    have hc : l = x :: l.drop 1 := by
      cases l with
      | nil => simp at hpos
      | cons b t => simp at hx; subst hx; rfl
    rcases hm.2 hl with hq | hq
    · rw [hc] at hq
      have := (List.cons.inj hq).1
      omega
    · rw [hc] at hq
      exact lt2_head (q := []) hq
  · have hv1 := (hval i x h1).2
    have hi := (List.getElem?_eq_some_iff.1 h1).1
    have hi2 := (List.getElem?_eq_some_iff.1 h2).1
    obtain ⟨_, n, n1, n2, n3, n4⟩ := hI.iff z (by omega)
    obtain ⟨r, e1, e2⟩ := n3.way1 he (hpart i x h1)
    have hm := hb.min _ e2
    have hlen : (l.take (i + 1) ++ z :: r).length = l.length := by
      rw [List.length_append, List.length_take, List.length_cons, e1]
      omega
    have hc : l = l.take (i + 1) ++ y :: l.drop (i + 2) := by
      have hy : y = l[i + 1] := by
        rw [List.getElem?_eq_getElem hi2] at h2
        exact (Option.some.inj h2).symm
      rw [hy, ← List.drop_eq_getElem_cons hi2, List.take_append_drop]
    rcases hm.2 hlen with hq | hq
    · rw [hc] at hq
      have hq2 : l.take (i + 1) ++ z :: r = l.take (i + 1) ++ y :: l.drop (i + 2) := by
        rw [List.take_append_of_le_length (by rw [List.length_take]; omega), List.take_take, Nat.min_self] at hq
        exact hq
      have := (List.cons.inj (List.append_cancel_left hq2)).1
      omega
    · have hq2 : lt2 (l.take (i + 1) ++ y :: l.drop (i + 2)) (l.take (i + 1) ++ z :: r) := by
        rw [← hc]; exact hq
      exact lt2_head hq2

end
end Go.Sl
namespace Go.Sl
section

structure LessOf (w w' : VW) : Prop where
  adr : w'.objs.map Ob.addr = w.objs.map Ob.addr
  ob : ∀ (i : Nat) (o' : Ob), w'.objs[i]? = some o' → ∃ o : Ob, w.objs[i]? = some o ∧ o'.marked = true ∧ ∀ y ∈ o'.slots, y = 0 ∨ y ∈ o.slots
  gl : ∀ x ∈ w'.globals, x = 0 ∨ x ∈ w.globals
  gs : w'.gs = w.gs

theorem LessOf.at {w w' : VW} (h : LessOf w w') (x : Int) : w'.at x = w.at x := by
  have e : ∀ v : VW, v.at x = (v.objs.map Ob.addr).findIdx? fun a => a == x := fun v => by
    rw [List.findIdx?_map]
    rfl
  rw [e, e, h.adr]

theorem LessOf.rch {w w' : VW} (h : LessOf w w') {x : Int} (hx : Rch w' x) : Rch w x := by
  induction hx with
  | root h1 h2 =>
    refine .root ?_ h2
    unfold VW.names at h1 ⊢
    rw [h.gs] at h1
    rcases List.mem_append.1 h1 with q | q
    · rcases h.gl _ q with q | q
      · exact (h2 q).elim
      · exact List.mem_append.2 (.inl q)
    · exact List.mem_append.2 (.inr q)
  | step h1 h2 h3 h4 h5 ih =>
    obtain ⟨o, e1, _, e3⟩ := h.ob _ _ h3
    rw [h.at] at h2
    rcases e3 _ h4 with q | q
    · exact (h5 q).elim
    · exact .step ih h2 e1 q h5

end
end Go.Sl
namespace Go.Sl
section

def nxt (k c i : Nat) : Int := if i + 1 < k ∧ i + 1 ≠ c then 65 + (i : Int) else 0

/-- The view is a chain of k, cut at c; from its last one, too, where 'b'. -/
structure ChainW (w : VW) (k c : Nat) (b : Bool) : Prop where
  k2 : 2 ≤ k
  c1 : 1 ≤ c
  len : w.objs.length = k
  ob : ∀ (i : Nat) (o : Ob), w.objs[i]? = some o → o.addr = 64 + (i : Int) ∧ o.slots = [nxt k c i] ∧ o.marked = false
  nm : ∀ x, x ∈ w.names ↔ x = 64 ∨ (b = true ∧ x = 64 + (k : Int) - 1)

variable {w : VW} {k c : Nat} {b : Bool}

theorem ChainW.at (h : ChainW w k c b) {i : Nat} (hi : i < k) : w.at (64 + (i : Int)) = some i := by
  have hl := h.len
  have ho : w.objs[i]? = some (w.objs[i]'(by omega)) := List.getElem?_eq_getElem _
  unfold VW.at
  rw [List.findIdx?_eq_some_iff_getElem]
  have h1 := (h.ob i _ ho).1
  refine ⟨by omega, by simpa using h1, fun j hj => ?_⟩
  have h2 := (h.ob j _ (List.getElem?_eq_getElem (show j < w.objs.length by omega))).1
  show ¬ ((w.objs[j]'(by omega)).addr == 64 + (i : Int)) = true
  rw [h2, beq_iff_eq]
  omega

theorem ChainW.edge (h : ChainW w k c b) {i : Nat} (hi : i < k) {y : Int} : w.edge (64 + (i : Int)) y ↔ (i + 1 < k ∧ i + 1 ≠ c ∧ y = 65 + (i : Int)) := by
  constructor
  · rintro ⟨q, o, h1, h2, h3, h4⟩
    rw [h.at hi] at h1
    cases h1
    rw [(h.ob i o h2).2.1, List.mem_singleton] at h3
    unfold nxt at h3
    split at h3
    · rename_i hq
      exact ⟨hq.1, hq.2, h3⟩
    · exact (h4 h3).elim
  · rintro ⟨h1, h2, rfl⟩
    have ho : w.objs[i]? = some (w.objs[i]'(by have := h.len; omega)) := List.getElem?_eq_getElem _
    refine ⟨i, _, h.at hi, ho, ?_, by omega⟩
    rw [(h.ob i _ ho).2.1, List.mem_singleton]
    unfold nxt
    rw [if_pos ⟨h1, h2⟩]

def fromTo (n : Nat) : List Int := (List.range n).map fun (i : Nat) => 64 + (i : Int)

theorem fromTo_succ (n : Nat) : fromTo (n + 1) = fromTo n ++ [64 + (n : Int)] := by simp [fromTo, List.range_succ]
theorem fromTo_len (n : Nat) : (fromTo n).length = n := by simp [fromTo]

/-- The ways there are. -/
theorem ChainW.ways (h : ChainW w k c b) {q : List Int} {x : Int} (hq : Way w q x) : ∃ i : Nat, x = 64 + (i : Int) ∧ i < k ∧ ((i < c ∧ q = fromTo (i + 1)) ∨ (b = true ∧ i + 1 = k ∧ q = [x])) := by
  have hk := h.k2
  have hc := h.c1
  induction hq with
  | @root x hr =>
    rcases (h.nm x).1 hr.1 with rfl | ⟨hb, rfl⟩
    · exact ⟨0, by simp, by omega, .inl ⟨by omega, by simp [fromTo]⟩⟩
    · exact ⟨k - 1, by omega, by omega, .inr ⟨hb, by omega, rfl⟩⟩
  | @step p a y hp he ih =>
    obtain ⟨i, rfl, hi, hh⟩ := ih
    obtain ⟨e1, e2, rfl⟩ := (h.edge hi).1 he
    rcases hh with ⟨h1, rfl⟩ | ⟨_, h2, _⟩
    · refine ⟨i + 1, by simp; omega, e1, .inl ⟨by omega, ?_⟩⟩
      rw [fromTo_succ (i + 1)]
      simp
      omega
    · omega

theorem ChainW.way (h : ChainW w k c b) {i : Nat} (hi : i < k) (hc : i < c) : Way w (fromTo (i + 1)) (64 + (i : Int)) := by
  induction i with
  | zero =>
    have : Way w [64] 64 := .root ⟨(h.nm 64).2 (.inl rfl), by decide⟩
    simpa [fromTo] using this
  | succ i ih =>
    have h1 := ih (by omega) (by omega)
    have h2 := h1.step ((h.edge (i := i) (by omega) (y := 65 + (i : Int))).2 ⟨by omega, by omega, rfl⟩)
    rw [fromTo_succ (i + 1)]
    have e : (64 : Int) + ((i + 1 : Nat) : Int) = 65 + (i : Int) := by omega
    rw [e]
    exact h2

theorem ChainW.way1 (h : ChainW w k c b) (hb : b = true) : Way w [64 + (k : Int) - 1] (64 + (k : Int) - 1) := by
  have := h.k2
  exact .root ⟨(h.nm _).2 (.inr ⟨hb, rfl⟩), by omega⟩

/-- What is reached. -/
def chainR (k c : Nat) (b : Bool) : List Int := fromTo (min c k) ++ (if b = true ∧ min c k < k then [64 + (k : Int) - 1] else [])

theorem chainR_len : ((chainR k c b).length : Int) = (min c k : Nat) + (if b = true ∧ min c k < k then 1 else 0) := by
  unfold chainR
  rw [List.length_append, fromTo_len]
  split <;> simp

theorem fromTo_mem {n : Nat} {x : Int} : x ∈ fromTo n ↔ ∃ i : Nat, i < n ∧ x = 64 + (i : Int) := by
  unfold fromTo
  rw [List.mem_map]
  constructor
  · rintro ⟨i, h1, h2⟩
    exact ⟨i, List.mem_range.1 h1, h2.symm⟩
  · rintro ⟨i, h1, h2⟩
    exact ⟨i, List.mem_range.2 h1, h2.symm⟩

theorem fromTo_rise (n : Nat) : Rise (fromTo n) := by
  unfold Rise
  induction n with
  | zero => simp [fromTo]
  | succ n ih =>
    rw [fromTo_succ, List.pairwise_append]
    refine ⟨ih, by simp, fun x hx y hy => ?_⟩
    obtain ⟨i, h1, rfl⟩ := fromTo_mem.1 hx
    obtain rfl := List.mem_singleton.1 hy
    omega

theorem chainR_rise : Rise (chainR k c b) := by
  unfold chainR
  split
  · rename_i hq
    unfold Rise
    rw [List.pairwise_append]
    refine ⟨fromTo_rise _, by simp, fun x hx y hy => ?_⟩
    obtain ⟨i, h1, rfl⟩ := fromTo_mem.1 hx
    obtain rfl := List.mem_singleton.1 hy
    omega
  · rw [List.append_nil]
    exact fromTo_rise _

theorem ChainW.rch (h : ChainW w k c b) {x : Int} : Rch w x ↔ x ∈ chainR k c b := by
  have hk := h.k2
  constructor
  · intro hx
    obtain ⟨q, hq⟩ := hx.way
    obtain ⟨i, rfl, hi, hh⟩ := h.ways hq
    unfold chainR
    by_cases hic : i < c
    · exact List.mem_append.2 (.inl (fromTo_mem.2 ⟨i, by omega, rfl⟩))
    · rcases hh with ⟨h1, _⟩ | ⟨h1, h2, _⟩
      · omega
      · refine List.mem_append.2 (.inr ?_)
        rw [if_pos ⟨h1, by omega⟩]
        simp
        omega
  · intro hx
    unfold chainR at hx
    rcases List.mem_append.1 hx with hx | hx
    · obtain ⟨i, h1, rfl⟩ := fromTo_mem.1 hx
      exact (h.way (by omega) (by omega)).rch
    · split at hx
      · rename_i hq
        obtain rfl := List.mem_singleton.1 hx
        exact (h.way1 hq.1).rch
      · simp at hx

theorem ChainW.atR (h : ChainW w k c b) {x : Int} (hx : x ∈ chainR k c b) : ∃ i, i < k ∧ x = 64 + (i : Int) := by
  obtain ⟨q, hq⟩ := (h.rch.2 hx).way
  obtain ⟨i, h1, h2, _⟩ := h.ways hq
  exact ⟨i, h2, h1⟩

/-- How long the way is that is told of the i-th. -/
def chainL (k c : Nat) (b : Bool) (i : Nat) : Nat := if b = true ∧ i + 1 = k then 1 else if i < min c k then i + 1 else 0

theorem ChainW.path (h : ChainW w k c b) {i : Nat} (hi : i < k) {l : List Int} (hl : PathL w (64 + (i : Int)) l) : l.length = chainL k c b i ∧ (0 < l.length → l[l.length - 1]? = some (64 + (i : Int))) := by
  have hk := h.k2
  rcases hl with ⟨_, hb⟩ | ⟨rfl, hn⟩
  · refine ⟨?_, fun _ => ?_⟩
    · obtain ⟨j, h1, h2, h3⟩ := h.ways hb.way
      obtain rfl : i = j := by omega
      unfold chainL
      by_cases hq : b = true ∧ i + 1 = k
      · rw [if_pos hq]
        have hw := h.way1 hq.1
        rw [show (64 + (k : Int) - 1) = 64 + (i : Int) by omega] at hw
        have := (hb.min _ hw).1
        have := hb.way.pos
        simp at *
        omega
      · rw [if_neg hq]
        rcases h3 with ⟨h3, rfl⟩ | ⟨h3, h4, _⟩
        · rw [if_pos (by omega), fromTo_len]
        · exact (hq ⟨h3, h4⟩).elim
    · obtain ⟨u, rfl⟩ := hb.way.last
      simp
  · refine ⟨?_, by simp⟩
    have hno : ∀ q, ¬ Way w q (64 + (i : Int)) := by
      rcases hn with hn | hn
      · rw [h.at hi] at hn; cases hn
      · exact hn
    unfold chainL
    by_cases hq : b = true ∧ i + 1 = k
    · have hw := h.way1 hq.1
      rw [show (64 + (k : Int) - 1) = 64 + (i : Int) by omega] at hw
      exact (hno _ hw).elim
    · rw [if_neg hq]
      by_cases h3 : i < min c k
      · exact (hno _ (h.way hi (by omega))).elim
      · rw [if_neg h3]; rfl

end
end Go.Sl
