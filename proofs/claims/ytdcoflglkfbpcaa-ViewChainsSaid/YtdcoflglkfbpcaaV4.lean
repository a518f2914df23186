/-
  What each operation comes to, in plain words (the nice forms), and that the model's own operation does so.
-/
import Derived.Test.YtdcoflglkfbpcaaV3
set_option linter.unusedVariables false
set_option linter.unusedSimpArgs false
namespace Go.Sl

/-! ### The model's small words, read -/

theorem rd_bind' {α β : Type} {P : Program} {s : Sem α} {k : α → Sem β} {h : Hp} : (s >>= k).rd P h = (s.rd P h).bind fun a => (k a).rd P h := rd_bind
theorem rd_pure {α : Type} {P : Program} {a : α} {h : Hp} : (Pure.pure a : Sem α).rd P h = some a := rfl
theorem rd_map {α β : Type} {P : Program} {s : Sem α} {f : α → β} {h : Hp} : (f <$> s).rd P h = (s.rd P h).map f := by
  show (s.bind fun a => Sem.pure (f a)).rd P h = _
  rw [rd_bind]
  cases s.rd P h <;> rfl
theorem rd_underlying {P : Program} {t : TypeId} {h : Hp} : (underlying t).rd P h = P.underlying t := by
  show ((program.bind _).rd P h) = _
  rw [rd_bind]
  show ((match P.underlying t with | some d => (Pure.pure d : Sem TypeDesc) | none => stuck "no such type").rd P h) = _
  cases P.underlying t <;> rfl
theorem rd_typeInfo {P : Program} {t : TypeId} {h : Hp} : (typeInfo t).rd P h = P.info? t := by
  show ((program.bind _).rd P h) = _
  rw [rd_bind]
  show ((match P.info? t with | some d => (Pure.pure d : Sem TypeInfo) | none => stuck "no such type").rd P h) = _
  cases P.info? t <;> rfl
theorem rd_sizeOf {P : Program} {t : TypeId} {h : Hp} : (sizeOf t).rd P h = (P.info? t).map (·.size) := by
  unfold sizeOf; rw [rd_bind', rd_typeInfo]; cases P.info? t <;> rfl
theorem rd_zeroValue {P : Program} {t : TypeId} {h : Hp} : (zeroValue t).rd P h = (P.info? t).bind (·.zero) := by
  unfold zeroValue; rw [rd_bind', rd_typeInfo]
  cases P.info? t with
  | none => rfl
  | some i => simp only [Option.bind_some]; cases i.zero <;> rfl

def aggD : TypeDesc → Bool
  | .struct _ | .array _ _ => true
  | _ => false

theorem rd_isAgg {P : Program} {t : TypeId} {h : Hp} : (isAgg t).rd P h = (P.underlying t).map aggD := by
  unfold isAgg; rw [rd_bind', rd_underlying]
  cases P.underlying t with
  | none => rfl
  | some d => cases d <;> rfl
theorem rd_load {P : Program} {a : Addr} {h : Hp} : (load a).rd P h = h.cell a := by
  unfold load; simp only [Sem.rd]; cases h.cell a <;> rfl

/-! ### Rows of cells -/

def rowIn (o : Obj) (a : Addr) (n : Nat) : Option (Array Value) :=
  match o with
  | .cells c _ _ => if a.spot.isNone && decide (a.off + n ≤ c.size) then some (c.extract a.off (a.off + n)) else none
  | _ => none

def Hp.row (h : Hp) (a : Addr) (n : Nat) : Option (Array Value) := (h a.block).bind fun o => rowIn o a n

theorem Hp.row_add {h f : Hp} {a : Addr} {n : Nat} {r : Array Value} (hr : h.row a n = some r) : (h.add f).row a n = some r := by
  unfold Hp.row at *
  cases hb : h a.block with
  | none => rw [hb] at hr; cases hr
  | some o => rw [Hp.add_of_left hb]; rw [hb] at hr; exact hr

theorem add_block (a : Addr) (n : Nat) : (a.add n).block = a.block := by unfold Addr.add; split <;> rfl
theorem add_off (a : Addr) (n : Nat) : (a.add n).off = a.off + n := by unfold Addr.add; split <;> simp_all
theorem add_spot (a : Addr) (n : Nat) (h : a.spot = none) : (a.add n).spot = none := by unfold Addr.add; split <;> simp_all

theorem rd_loadCellsFrom {P : Program} {h : Hp} {a : Addr} {c : Array Value} {e : TypeId} {fz : Nat × Nat} (hb : h a.block = some (.cells c e fz)) (hs : a.spot = none) :
    ∀ (n i : Nat) (acc : Array Value), a.off + i + n ≤ c.size → (loadCellsFrom a i n acc).rd P h = some (acc ++ c.extract (a.off + i) (a.off + i + n))
  | 0, i, acc, _ => by
    simp only [loadCellsFrom, Nat.add_zero]
    rw [rd_pure]
    simp [Nat.min_le_left]
  | n + 1, i, acc, hn => by
    simp only [loadCellsFrom]
    have hc : h.cell (a.add i) = some c[a.off + i] := by
      unfold Hp.cell
      rw [add_block, hb]
      simp only [Option.bind_some, Obj.cellAt, add_spot a i hs, add_off, Option.isSome_none, Bool.false_eq_true, if_false]
      exact Array.getElem?_eq_getElem (by omega)
    rw [rd_bind', rd_load, hc]
    simp only [Option.bind_some]
    rw [rd_loadCellsFrom hb hs n (i + 1) _ (by omega)]
    congr 1
    apply Array.ext'
    simp only [Array.toList_append, Array.toList_push, Array.toList_extract]
    rw [List.append_assoc]
    congr 1
    rw [show a.off + (i + 1) + n = a.off + i + (n + 1) by omega, List.extract_eq_take_drop, List.extract_eq_take_drop]
    rw [show a.off + i + (n + 1) - (a.off + (i + 1)) = n by omega, show a.off + i + (n + 1) - (a.off + i) = n + 1 by omega]
    rw [List.drop_eq_getElem_cons (i := a.off + i) (by simp; omega)]
    simp [Nat.add_assoc]

theorem rd_loadCells {P : Program} {h : Hp} {a : Addr} {n : Nat} {r : Array Value} (hr : h.row a n = some r) : (loadCells a n).rd P h = some r := by
  unfold Hp.row at hr
  cases hb : h a.block with
  | none => rw [hb] at hr; cases hr
  | some o =>
    rw [hb] at hr
    cases o with
    | cells c e fz =>
      simp only [Option.bind_some, rowIn] at hr
      split at hr
      · rename_i hc
        simp only [Bool.and_eq_true, decide_eq_true_eq, Option.isNone_iff_eq_none] at hc
        unfold loadCells
        rw [rd_loadCellsFrom hb hc.1 n 0 #[] (by omega)]
        cases hr
        simp
      · cases hr
    | _ => simp [rowIn] at hr

/-- Load of a variable of one cell. -/
def ld1 (x : Value) (h : Hp) : Option Value :=
  match x with
  | .pointer (some a) => h.cell a
  | _ => none

/-- Load of a struct or an array. -/
def ldN (n : Nat) (x : Value) (h : Hp) : Option Value :=
  match x with
  | .pointer (some a) => (h.row a n).map .agg
  | _ => none

theorem ld1_mono (x : Value) (h f : Hp) (v : Value) (hv : ld1 x h = some v) : ld1 x (h.add f) = some v := by
  unfold ld1 at *
  split at hv
  · exact Hp.cell_add hv
  · cases hv

theorem ldN_mono (n : Nat) (x : Value) (h f : Hp) (v : Value) (hv : ldN n x h = some v) : ldN n x (h.add f) = some v := by
  unfold ldN at *
  split at hv
  · rename_i a
    cases hr : h.row a n with
    | none => rw [hr] at hv; cases hv
    | some r => rw [Hp.row_add hr]; rw [hr] at hv; exact hv
  · cases hv

/-! ### A store -/

def putL (c : Array Value) (off : Nat) : List Value → Array Value
  | [] => c
  | v :: vs => putL (c.setIfInBounds off v) (off + 1) vs

theorem putL_size : ∀ (vs : List Value) (c : Array Value) (off : Nat), (putL c off vs).size = c.size
  | [], _, _ => rfl
  | v :: vs, c, off => by rw [putL, putL_size vs]; simp

def st1 (x v : Value) (K : Value → Hp → Prop) (h : Hp) : Prop :=
  match x with
  | .pointer (some a) => one v = true ∧ a.spot = none ∧ ∃ c e, h a.block = some (.cells c e (0, 0)) ∧ a.off < c.size ∧ K undef (h.upd a.block (.cells (c.setIfInBounds a.off v) e (0, 0)))
  | _ => False

def stN (n : Nat) (x v : Value) (K : Value → Hp → Prop) (h : Hp) : Prop :=
  match x with
  | .pointer (some a) => v.cells.size = n ∧ v.cells.toList.all one = true ∧ a.spot = none ∧ ∃ c e, h a.block = some (.cells c e (0, 0)) ∧ a.off + n ≤ c.size ∧
      K undef (h.upd a.block (.cells (putL c a.off v.cells.toList) e (0, 0)))
  | _ => False

theorem upd_upd (h : Hp) (b : Nat) (o q : Obj) : (h.upd b o).upd b q = h.upd b q := Hp.ext' fun x => by
  simp only [Hp.upd_apply]; split <;> rfl

theorem vc_storeCells {P : Program} {a : Addr} (hs : a.spot = none) {Q : Unit → Hp → Prop} : ∀ (vs : List Value) (i : Nat) (h : Hp) (c : Array Value) (e : TypeId), h a.block = some (.cells c e (0, 0)) →
    vs.all one = true → a.off + i + vs.length ≤ c.size → Q () (h.upd a.block (.cells (putL c (a.off + i) vs) e (0, 0))) → (storeCells a vs i).vc P Q h
  | [], i, h, c, e, hb, _, _, q => by
    have : h.upd a.block (.cells c e (0, 0)) = h := Hp.ext' fun b => by
      by_cases hx : b = a.block
      · subst hx; rw [Hp.upd_self, hb]
      · rw [Hp.upd_ne hx]
    rw [putL, this] at q
    exact q
  | v :: vs, i, h, c, e, hb, ho, hl, q => by
    simp only [List.all_cons, Bool.and_eq_true] at ho
    simp only [List.length_cons] at hl
    simp only [storeCells]
    refine vc_bind.2 ?_
    show one v = true ∧ ∃ o, h (a.add i).block = some o ∧ _
    rw [add_block]
    refine ⟨ho.1, _, hb, ?_, ?_, ?_⟩
    · simp only [Obj.cellAt, add_spot a i hs, add_off, Option.isSome_none, Bool.false_eq_true, if_false]
      rw [Array.getElem?_eq_getElem (by omega)]; rfl
    · simp [Obj.frz]
    · show Sem.vc P _ _ _
      refine vc_storeCells hs vs (i + 1) _ (c.setIfInBounds (a.off + i) v) e ?_ ho.2 (by simp; omega) ?_
      · rw [Hp.upd_self]
        simp [Obj.setAt, add_spot a i hs, add_off]
      · rw [upd_upd]
        rw [putL] at q
        exact q

/-! ### Values -/

def pickV (c a b : Value) : Option Value :=
  match c with
  | .bool t => some (bif t then a else b)
  | _ => none

def nilV (x : Value) : Option Value :=
  match x with
  | .pointer none | .nilIface | .nilFunc => none
  | .func (.method _) _ _ => none
  | x => some x

def binI (op : BinOp) (k : IntKind) (a b : Int) : Option Value :=
  match op with
  | .add => some (.int k (k.wrap (a + b)))
  | .sub => some (.int k (k.wrap (a - b)))
  | .mul => some (.int k (k.wrap (a * b)))
  | .quo => if b = 0 then none else some (.int k (k.wrap (a.tdiv b)))
  | .rem => if b = 0 then none else some (.int k (a.tmod b))
  | .and => some (.int k (k.wrap (BitVec.ofInt k.bits a &&& BitVec.ofInt k.bits b).toNat))
  | .or => some (.int k (k.wrap (BitVec.ofInt k.bits a ||| BitVec.ofInt k.bits b).toNat))
  | .xor => some (.int k (k.wrap (BitVec.ofInt k.bits a ^^^ BitVec.ofInt k.bits b).toNat))
  | .andNot => some (.int k (k.wrap (BitVec.ofInt k.bits a &&& ~~~BitVec.ofInt k.bits b).toNat))
  | .lss => some (.bool (decide (a < b)))
  | .leq => some (.bool (decide (a ≤ b)))
  | .gtr => some (.bool (decide (a > b)))
  | .geq => some (.bool (decide (a ≥ b)))
  | _ => none

def shV (op : BinOp) (k : IntKind) (a b : Int) : Option Value :=
  if b < 0 then none else
  match op with
  | .shl => some (.int k (k.wrap (a * 2 ^ (min b.toNat k.bits))))
  | .shr => some (.int k (a.fdiv (2 ^ (min b.toNat k.bits))))
  | _ => none

def binV (op : BinOp) (x y : Value) : Option Value :=
  match x, y with
  | .int k a, .int k' b =>
    match op with
    | .shl => shV .shl k a b
    | .shr => shV .shr k a b
    | .eql | .neq => none
    | op => if k = k' then binI op k a b else none
  | _, _ => none

def eqS (tag : Nat) (x y : Value) : Option Bool :=
  match tag, x, y with
  | 1, .int k a, .int k' b => if k = k' then some (a == b) else none
  | 2, .bool a, .bool b => some (a == b)
  | 3, .string a, .string b => some (a.toList == b.toList)
  | 4, .pointer none, .pointer b => some b.isNone
  | 4, .pointer _, .pointer none => some false
  | 5, .slice none _ _, .slice b _ _ => some b.isNone
  | 5, .slice _ _ _, .slice none _ _ => some false
  | 6, .map none, .map b => some b.isNone
  | 6, .map _, .map none => some false
  | 7, .nilFunc, .nilFunc => some true
  | 7, .nilFunc, .func _ _ _ => some false
  | 7, .func _ _ _, .nilFunc => some false
  | _, _, _ => none

def eqV (tag : Nat) (neg : Bool) (x y : Value) : Option Value := (eqS tag x y).map fun b => .bool (bif neg then !b else b)

/-- Fields one by one. -/
def eqL : List Nat → List Value → List Value → Option Bool
  | [], _, _ => some true
  | t :: ts, x :: xs, y :: ys =>
    match eqS t x y, eqL ts xs ys with
    | some a, some b => some (a && b)
    | _, _ => none
  | _, _, _ => none

def eqA (tags : List Nat) (neg : Bool) (x y : Value) : Option Value :=
  match x, y with
  | .agg xs, .agg ys => (eqL tags xs.toList ys.toList).map fun b => .bool (bif neg then !b else b)
  | _, _ => none

def unV (op : UnOp) (x : Value) : Option Value :=
  match op, x with
  | .neg, .int k n => some (.int k (k.wrap (0 - n)))
  | .not, .bool b => some (.bool !b)
  | .xor, .int k n => some (.int k (k.wrap (BitVec.ofInt k.bits (if k.signed then -1 else k.max) ^^^ BitVec.ofInt k.bits n).toNat))
  | _, _ => none

def convV (k : IntKind) (x : Value) : Option Value :=
  match x with
  | .int _ n => some (.int k (k.wrap n))
  | _ => none

def bnd (v : Value) (y : Nat) : Option Nat :=
  match v with
  | .int _ i => if 0 ≤ i ∧ i ≤ (y : Int) then some i.toNat else none
  | _ => none

def slB (len cap : Nat) (lo hi mx : Option Value) : Option (Nat × Nat × Nat) :=
  match (match mx with | some v => bnd v cap | none => some cap) with
  | none => none
  | some m =>
    match (match hi, mx with | some v, some _ => bnd v m | some v, none => bnd v cap | none, none => some len | none, some _ => none) with
    | none => none
    | some h =>
      match (match lo with | some v => bnd v h | none => some 0) with
      | none => none
      | some l => some (l, h, m)

def slV (sz : Nat) (x : Value) (lo hi mx : Option Value) : Option Value :=
  match x with
  | .slice a len cap => (slB len cap lo hi mx).map fun p => .slice (if p.2.2 = p.1 then a else a.map (·.add (p.1 * sz))) (p.2.1 - p.1) (p.2.2 - p.1)
  | _ => none

def slA (n sz : Nat) (x : Value) (lo hi mx : Option Value) : Option Value :=
  match x with
  | .pointer (some a) => (slB n n lo hi mx).map fun p => .slice (some (if p.2.2 = p.1 then a else a.add (p.1 * sz))) (p.2.1 - p.1) (p.2.2 - p.1)
  | _ => none

def faV (off : Nat) (x : Value) : Option Value :=
  match x with
  | .pointer (some a) => some (.pointer (some (a.add off)))
  | _ => none

def fdV (agg : Bool) (off sz : Nat) (x : Value) : Option Value :=
  match x with
  | .agg cs => bif agg then some (.agg (cs.extract off (off + sz))) else cs[off]?
  | _ => none

def iaS (sz : Nat) (x i : Value) : Option Value :=
  match x, i with
  | .slice (some a) len _, .int _ n => if 0 ≤ n ∧ n < (len : Int) then some (.pointer (some (a.add (n.toNat * sz)))) else none
  | _, _ => none

def iaA (n sz : Nat) (x i : Value) : Option Value :=
  match x, i with
  | .pointer (some a), .int _ m => if 0 ≤ m ∧ m < (n : Int) then some (.pointer (some (a.add (m.toNat * sz)))) else none
  | _, _ => none

def ixA (agg : Bool) (n sz : Nat) (x i : Value) : Option Value :=
  match x, i with
  | .agg cs, .int _ m => if 0 ≤ m ∧ m < (n : Int) then (bif agg then some (.agg (cs.extract (m.toNat * sz) (m.toNat * sz + sz))) else cs[m.toNat * sz]?) else none
  | _, _ => none

def exV (x : Value) (i : Nat) : Option Value :=
  match x with
  | .tuple vs => vs[i]?
  | _ => none

def taV (asserted : TypeId) (zero : Value) (ok : Bool) (x : Value) : Option Value :=
  match x with
  | .iface t v => if t = asserted then some (bif ok then .tuple #[v, .bool true] else v) else (bif ok then some (.tuple #[zero, .bool false]) else none)
  | .nilIface => bif ok then some (.tuple #[zero, .bool false]) else none
  | _ => none

def lenV (x : Value) : Option Value :=
  match x with
  | .slice _ n _ => some (.int .i64 n)
  | _ => none

def lenS (x : Value) : Option Value :=
  match x with
  | .string s => some (.int .i64 s.size)
  | _ => none

def lenM (x : Value) (h : Hp) : Option Value :=
  match x with
  | .map none => some (.int .i64 0)
  | .map (some r) => match h r with
    | some (.map es _) => some (.int .i64 es.size)
    | _ => none
  | _ => none

def capV (x : Value) : Option Value :=
  match x with
  | .slice _ _ n => some (.int .i64 n)
  | _ => none

def max2V (x y : Value) : Option Value :=
  match x, y with
  | .int k a, .int _ b => some (.int k (if b > a then b else a))
  | _, _ => none

def min2V (x y : Value) : Option Value :=
  match x, y with
  | .int k a, .int _ b => some (.int k (if b < a then b else a))
  | _, _ => none

def ptrV (r : Nat) : Value := .pointer (some ⟨r, 0, none⟩)

/-- A struct or an array out of its parts: places and sizes are known. -/
def bldV (zero : Array Value) : List (Nat × Nat × Value) → Option (Array Value)
  | [] => some zero
  | (off, sz, v) :: rest => if v.cells.size = sz ∧ off + v.cells.size ≤ zero.size then bldV (putL zero off v.cells.toList) rest else none

/-- A new slice's room. -/
def msV (bytes sz : Nat) (e : TypeId) (zero : Array Value) (l c : Value) : Option (Obj × (Nat → Value)) :=
  match l, c with
  | .int _ l, .int _ c =>
    if 0 ≤ l ∧ l ≤ c ∧ c * bytes ≤ 140737488355328 ∧ c ≤ 9223372036854775807 then
      some (.cells ((Array.range (c.toNat * sz)).map fun i => zero[i % zero.size]!) e (0, 0), fun r => .slice (some ⟨r, 0, none⟩) l.toNat c.toNat)
    else none
  | _, _ => none

end Go.Sl
