/-
  The system: each operation's nice form, and that the model does so.
-/
import Derived.Test.YtdcoflglkfbpcaaV4
set_option linter.unusedVariables false
set_option linter.unusedSimpArgs false
namespace Go.Sl

/-! ### Types, looked up -/

def szOf (P : Program) (t : TypeId) : Nat := ((P.info? t).map (·.size)).getD 0

def zOf (P : Program) (t : TypeId) : Option Value := (P.info? t).bind (·.zero)

/-- How values of a type are compared: as they stand (1, 2, 3), or with nil (4 to 7). -/
def eqTag (P : Program) (t : TypeId) : Nat :=
  match P.underlying t with
  | some (.int _) => 1
  | some .bool => 2
  | some .string => 3
  | some (.pointer _) => 4
  | some (.slice _) => 5
  | some (.map _ _) => 6
  | some (.func _ _ _) => 7
  | _ => 0

/-- The ways in which a struct's fields are compared, if each is one cell that is compared as it stands. -/
def eqTags (P : Program) (t : TypeId) : Option (List Nat) :=
  match P.underlying t with
  | some (.struct fs) =>
    if !P.eqGuardType P.depth t && !P.stoodInHeld t && fs.toList.zipIdx.all (fun p => p.1.name != "_" && Nat.beq p.1.offset p.2 && decide (eqTag P p.1.type = 1 ∨ eqTag P p.1.type = 2)) then
      some (fs.toList.map fun f => eqTag P f.type)
    else none
  | _ => none

def isNil : Operand → Bool
  | .const (.pointer none) | .const (.slice none _ _) | .const (.map none) | .const .nilFunc => true
  | _ => false

def structPlaces (P : Program) (fs : Array Field) : List (Nat × Nat) := fs.toList.map fun f => (f.offset, szOf P f.type)

/-- The places of a struct's or an array's parts. -/
def placeOf (P : Program) (t : TypeId) (i : Nat) : Option (Nat × Nat) :=
  match P.underlying t with
  | some (.struct fs) => (fs[i]?).map fun f => (f.offset, szOf P f.type)
  | some (.array _ e) => some (i * szOf P e, szOf P e)
  | _ => none

def layoutOk (P : Program) (t : TypeId) : Bool :=
  match P.underlying t with
  | some (.struct fs) => fs.toList.all fun f => (P.info? f.type).isSome
  | some (.array _ e) => (P.info? e).isSome
  | _ => false

def partsOf (place : Nat → Option (Nat × Nat)) : List (Nat × Value) → Option (List (Nat × Nat × Value))
  | [] => some []
  | (i, v) :: rest =>
    match place i, partsOf place rest with
    | some (off, sz), some l => some ((off, sz, v) :: l)
    | _, _ => none

def bodied (P : Program) (f : FuncId) : Bool :=
  match P.funcs[f]? with
  | some fn => fn.body.isSome && !(fn.name == "runtime.NumGoroutine")
  | none => false

/-- What the builtin append comes to: the model's own. -/
def apW (P : Program) (ts : Array TypeId) (t : TypeId) (x y : Value) (K : Value → Hp → Prop) (h : Hp) : Prop :=
  (Builtin.append_ ts t #[x, y]).vc P K h
def cpW (P : Program) (ts : Array TypeId) (t : TypeId) (x y : Value) (K : Value → Hp → Prop) (h : Hp) : Prop :=
  (Builtin.copy_ ts t #[x, y]).vc P K h
def clW (P : Program) (ts : Array TypeId) (t : TypeId) (x : Value) (K : Value → Hp → Prop) (h : Hp) : Prop :=
  (Builtin.clear_ ts t #[x]).vc P K h
def dlW (P : Program) (ts : Array TypeId) (t : TypeId) (x y : Value) (K : Value → Hp → Prop) (h : Hp) : Prop :=
  (Builtin.delete_ ts t #[x, y]).vc P K h
def muW (P : Program) (t : TypeId) (m k v : Value) (K : Value → Hp → Prop) (h : Hp) : Prop :=
  (Instr.mapUpdate t m k v).vc P (fun _ => K undef) h
def meW (P : Program) (t : TypeId) (m k : Value) (K : Value → Hp → Prop) (h : Hp) : Prop :=
  (Instr.mapEntry t m k).vc P K h
def esW (P : Program) (t : TypeId) (m s v : Value) (K : Value → Hp → Prop) (h : Hp) : Prop :=
  (Instr.entryStore t m s v).vc P (fun _ => K undef) h
def rgW (P : Program) (t : TypeId) (x : Value) (K : Value → Hp → Prop) (h : Hp) : Prop :=
  (Instr.range t x).vc P K h
def nxW (P : Program) (it : Value) (isString : Bool) (t : TypeId) (K : Value → Hp → Prop) (h : Hp) : Prop :=
  (Instr.next it isString t).vc P K h
/-- A call by way of the model (a structure: it does not unfold by itself). -/
structure CallW (P : Program) (s : Sem Next) (K : Value → Hp → Prop) (h : Hp) : Prop where
  ok : rawWp P s K h
theorem CallW_ok (P : Program) (s : Sem Next) : EfOk (CallW P s) where
  mono hk hh := ⟨(rawWp_ok P s).mono hk hh.ok⟩
  frame hh g d := ⟨(rawWp_ok P s).frame hh.ok g d⟩
  some hh := (rawWp_ok P s).some hh.ok
def cvW (P : Program) (f : Value) (args : Array Value) (K : Value → Hp → Prop) (h : Hp) : Prop :=
  CallW P (do let d ← Deferred.ofValue f args; invoke d.target d.args) K h
def ivW (P : Program) (recv : Value) (name : String) (args : Array Value) (K : Value → Hp → Prop) (h : Hp) : Prop :=
  CallW P (callMethod recv name args) K h
def exW (P : Program) (f : FuncId) (args : Array Value) (K : Value → Hp → Prop) (h : Hp) : Prop :=
  CallW P (callFunc f args) K h
def biW (P : Program) (b : Builtin) (ts : Array TypeId) (t : TypeId) (consts : Array Bool) (args : Array Value) (K : Value → Hp → Prop) (h : Hp) : Prop :=
  rawWp P (builtin b ts t consts args) K h
def lkV (P : Program) (t : TypeId) (x i : Value) (ok : Bool) (h : Hp) : Option Value := (Instr.lookup t x i ok).rd P h
def enV (P : Program) (it : Value) (h : Hp) : Option Value := (Instr.entry it).rd P h
def eqW (P : Program) (neg : Bool) (t : TypeId) (x y : Value) (h : Hp) : Option Value :=
  ((do let b ← Op.equal t x y; Pure.pure (Value.bool (bif neg then !b else b))) : Sem Value).rd P h
def gnW (P : Program) (s : Sem Next) (K : Value → Hp → Prop) (h : Hp) : Prop := rawWp P s K h

/-- As 'Array.map', by way of the list. -/
def mapL (ρ : Operand → Value) (l : Array Operand) : Array Value := ⟨l.toList.map ρ⟩

theorem mapL_eq (ρ : Operand → Value) (l : Array Operand) : mapL ρ l = l.map ρ := Array.ext' (by simp [mapL])

def zerosL (n : Nat) (z : Array Value) : Array Value := ⟨(List.range n).map fun i => z[i % z.size]!⟩

theorem zerosL_eq (n : Nat) (z : Array Value) : zerosL n z = (Array.range n).map fun i => z[i % z.size]! := Array.ext' (by simp [zerosL])

def constsOf (args : Array Operand) : Array Bool := args.map fun
  | .const _ => true
  | _ => false

def denBuiltin (P : Program) (b : Builtin) (ts : Array TypeId) (t : TypeId) (args : List Value) (raw : Den) : Den :=
  match b, args with
  | .len, [x] =>
    match (ts[0]?).bind P.underlying with
    | some (.slice _) => .pu (lenV x)
    | some .string => .pu (lenS x)
    | some (.map _ _) => .rd (lenM x)
    | _ => raw
  | .cap, [x] =>
    match (ts[0]?).bind P.underlying with
    | some (.slice _) => .pu (capV x)
    | _ => raw
  | .clear, [x] => .ef (clW P ts t x)
  | .max, [x, y] => .pu (max2V x y)
  | .min, [x, y] => .pu (min2V x y)
  | .append, [x, y] => .ef (apW P ts t x y)
  | .copy, [x, y] => .ef (cpW P ts t x y)
  | .delete, [x, y] => .ef (dlW P ts t x y)
  | _, _ => raw

def denCall (P : Program) (ρ : Operand → Value) (o : Oper) (c : Call) : Den :=
  match c.callee with
  | .value (.func f) => if bodied P f then .ef (CallH P f (mapL ρ c.args)) else .ef (exW P f (mapL ρ c.args))
  | .value f => .ef (cvW P (ρ f) (mapL ρ c.args))
  | .invoke r m => .ef (ivW P (ρ r) m (mapL ρ c.args))
  | .builtin b => denBuiltin P b c.argTypes o.type (c.args.toList.map ρ) (.ef (biW P b c.argTypes o.type (constsOf c.args) (mapL ρ c.args)))

def denEq (P : Program) (neg : Bool) (t : TypeId) (x y : Operand) (ρ : Operand → Value) (other : Den) : Den :=
  match eqTag P t with
  | 0 => match eqTags P t with
    | some l => .pu (eqA l neg (ρ x) (ρ y))
    | none => other
  | 1 => .pu (eqV 1 neg (ρ x) (ρ y))
  | 2 => .pu (eqV 2 neg (ρ x) (ρ y))
  | 3 => .pu (eqV 3 neg (ρ x) (ρ y))
  | k => if isNil x || isNil y then .pu (eqV k neg (ρ x) (ρ y)) else other

def den (P : Program) (ρ : Operand → Value) (o : Oper) : Den :=
  match o.op with
  | .move x | .assign x => .pu (some (ρ x))
  | .pick c a b => .pu (pickV (ρ c) (ρ a) (ρ b))
  | .alloc e => .al ((zOf P e).map fun z => (.cells z.cells e (0, 0), ptrV))
  | .box e x => .al (some (.cells (ρ x).cells e (0, 0), ptrV))
  | .build t ps => .pu (match zOf P t, partsOf (placeOf P t) (ps.toList.map fun p => (p.1, ρ p.2)) with
    | some z, some l => if layoutOk P t then (bldV z.cells l).map .agg else none
    | _, _ => none)
  | .buildSlice t n ps => .al (match P.underlying t with
    | some (.slice e) => match zOf P e, partsOf (fun i => some (i * szOf P e, szOf P e)) (ps.toList.map fun p => (p.1, ρ p.2)) with
      | some z, some l => if Nat.ble (n * szOf P e) 16777216 then (bldV (zerosL (n * szOf P e) z.cells) l).map fun c => (.cells c e (0, 0), fun r => .slice (some ⟨r, 0, none⟩) n n) else none
      | _, _ => none
    | _ => none)
  | .load t x => match P.underlying t with
    | some d => bif aggD d then .rd (ldN (szOf P t) (ρ x)) else .rd (ld1 (ρ x))
    | none => .rd fun _ => none
  | .store t a x => match P.underlying t with
    | some d => bif !aggD d && Nat.beq (szOf P t) 1 then .ef (st1 (ρ a) (ρ x)) else .ef (stN (szOf P t) (ρ a) (ρ x))
    | none => .ef (gnW P (execOp ρ o))
  | .nilCheck x => .pu (nilV (ρ x))
  | .binOp .eql t x y _ => denEq P false t x y ρ (.ef (gnW P (execOp ρ o)))
  | .binOp .neq t x y _ => denEq P true t x y ρ (.ef (gnW P (execOp ρ o)))
  | .binOp op _ x y _ => .pu (binV op (ρ x) (ρ y))
  | .unOp op _ x => .pu (unV op (ρ x))
  | .makeFunc fn f c => .pu (some (.func fn (mapL ρ f) (mapL ρ c)))
  | .makeInterface t x => .pu (match P.underlying t with
    | some (.interface _) | none => none
    | some _ => some (.iface t (ρ x)))
  | .convert s d x => match P.underlying s, P.underlying d with
    | some _, some (.int k) => .pu (convV k (ρ x))
    | _, _ => .ef (gnW P (execOp ρ o))
  | .makeMap _ none => .al (some (.map #[] 0, fun r => .map (some r)))
  | .makeSlice t l c => .al (match P.underlying t with
    | some (.slice e) => match P.info? e, zOf P e with
      | some i, some z => msV i.bytes i.size e z.cells (ρ l) (ρ c)
      | _, _ => none
    | _ => none)
  | .slice t x lo hi mx => match P.underlying t with
    | some (.slice e) => if (P.info? e).isSome then .pu (slV (szOf P e) (ρ x) (lo.map ρ) (hi.map ρ) (mx.map ρ)) else .ef (gnW P (execOp ρ o))
    | some (.array n e) => if (P.info? e).isSome then .pu (slA n (szOf P e) (ρ x) (lo.map ρ) (hi.map ρ) (mx.map ρ)) else .ef (gnW P (execOp ρ o))
    | _ => .ef (gnW P (execOp ρ o))
  | .fieldAddr t x f => match P.underlying t with
    | some (.struct fs) => match fs[f]? with
      | some fd => if Nat.beq (szOf P fd.type) 0 then .ef (gnW P (execOp ρ o)) else .pu (faV fd.offset (ρ x))
      | none => .ef (gnW P (execOp ρ o))
    | _ => .ef (gnW P (execOp ρ o))
  | .indexAddr t x i => match P.underlying t with
    | some (.slice e) => if (P.info? e).isSome then .pu (iaS (szOf P e) (ρ x) (ρ i)) else .ef (gnW P (execOp ρ o))
    | some (.array n e) => if (P.info? e).isSome then .pu (iaA n (szOf P e) (ρ x) (ρ i)) else .ef (gnW P (execOp ρ o))
    | _ => .ef (gnW P (execOp ρ o))
  | .index t x i => match P.underlying t with
    | some (.array n e) => match P.underlying e with
      | some d => .pu (ixA (aggD d) n (szOf P e) (ρ x) (ρ i))
      | none => .ef (gnW P (execOp ρ o))
    | _ => .ef (gnW P (execOp ρ o))
  | .field t x f => match P.underlying t with
    | some (.struct fs) => match fs[f]? with
      | some fd => match P.underlying fd.type with
        | some d => .pu (fdV (aggD d) fd.offset (szOf P fd.type) (ρ x))
        | none => .ef (gnW P (execOp ρ o))
      | none => .ef (gnW P (execOp ρ o))
    | _ => .ef (gnW P (execOp ρ o))
  | .lookup t x i ok => .rd (lkV P t (ρ x) (ρ i) ok)
  | .mapUpdate t m k v | .insert t m k v => .ef (muW P t (ρ m) (ρ k) (ρ v))
  | .mapEntry t m k => .ef (meW P t (ρ m) (ρ k))
  | .entryStore t m s v => .ef (esW P t (ρ m) (ρ s) (ρ v))
  | .range t x => .ef (rgW P t (ρ x))
  | .next it b => .ef (nxW P (ρ it) b o.type)
  | .entry it => .rd (enV P (ρ it))
  | .extract x i => .pu (exV (ρ x) i)
  | .typeAssert x _ t ok => match P.underlying t with
    | some (.interface _) | none => .ef (gnW P (execOp ρ o))
    | some _ => match zOf P t with
      | some z => .pu (taV t z ok (ρ x))
      | none => .ef (gnW P (execOp ρ o))
  | .call c => denCall P ρ o c
  | .select _ _ => .ef fun _ _ => False
  | _ => .ef (gnW P (execOp ρ o))

end Go.Sl
namespace Go.Sl

/-! ### That the model does so -/

theorem wp_value {P : Program} {s : Sem Value} {v : Value} {K : Value → Hp → Prop} {h : Hp} (e : s.rd P h = some v) (k : K v h) :
    rawWp P (do Pure.pure (Next.value (← s))) K h :=
  vc_bind.2 (rd_vc e k)

theorem wp_value_vc {P : Program} {s : Sem Value} {K : Value → Hp → Prop} {h : Hp} (e : s.vc P K h) : rawWp P (do Pure.pure (Next.value (← s))) K h :=
  vc_bind.2 (vc_mono (fun _ _ k => k) e)

theorem wp_unit_vc {P : Program} {s : Sem Unit} {K : Value → Hp → Prop} {h : Hp} (e : s.vc P (fun _ => K undef) h) : rawWp P (do s; Pure.pure Next.skip) K h :=
  vc_bind.2 (vc_mono (fun _ _ k => k) e)

theorem vP_iff {v : Option Value} {K : Value → Prop} : vP v K ↔ ∃ x, v = some x ∧ K x := by
  cases v with
  | none => simp [vP]
  | some x => simp [vP]

theorem vc_rd_bind {α β : Type} {P : Program} {s : Sem α} {k : α → Sem β} {Q : β → Hp → Prop} {h : Hp} {a : α} (e : s.rd P h = some a) (q : (k a).vc P Q h) : (s >>= k).vc P Q h :=
  vc_bind.2 (rd_vc e q)

theorem rd_seq {α β : Type} {P : Program} {s : Sem α} {k : α → Sem β} {h : Hp} {a : α} (e : s.rd P h = some a) : (s >>= k).rd P h = (k a).rd P h := by
  rw [rd_bind', e]; rfl

theorem wp_pick {P : Program} {c a b : Value} {K : Value → Hp → Prop} {h : Hp} (hh : vP (pickV c a b) fun x => K x h) :
    rawWp P (do Pure.pure (Next.value (if ← asBool c then a else b))) K h := by
  rw [vP_iff] at hh
  obtain ⟨x, hx, k⟩ := hh
  unfold pickV at hx
  split at hx
  · rename_i t
    cases hx
    refine vc_rd_bind (a := t) rfl ?_
    cases t <;> exact k
  · cases hx

theorem rd_asIntOf {P : Program} {k : IntKind} {n : Int} {h : Hp} : (asIntOf (.int k n)).rd P h = some (k, n) := rfl
theorem rd_asInt {P : Program} {k : IntKind} {n : Int} {h : Hp} : (asInt (.int k n)).rd P h = some n := rfl

theorem info_size {P : Program} {t : TypeId} {i : TypeInfo} (h : P.info? t = some i) : szOf P t = i.size := by simp [szOf, h]

theorem rd_zero {P : Program} {t : TypeId} {z : Value} {h : Hp} (e : zOf P t = some z) : (zeroValue t).rd P h = some z := by rw [rd_zeroValue]; exact e

theorem rd_size {P : Program} {t : TypeId} {h : Hp} (e : (P.info? t).isSome = true) : (sizeOf t).rd P h = some (szOf P t) := by
  rw [rd_sizeOf]; unfold szOf
  cases hi : P.info? t with
  | none => rw [hi] at e; cases e
  | some i => rfl

theorem wp_alloc {P : Program} {e : TypeId} {K : Value → Hp → Prop} {h : Hp} (hh : vA ((zOf P e).map fun z => (.cells z.cells e (0, 0), ptrV)) K h) :
    (Instr.alloc e true (.tuple #[])).vc P K h := by
  cases hz : zOf P e with
  | none => rw [hz] at hh; exact hh.elim
  | some z =>
    rw [hz] at hh
    exact vc_rd_bind (rd_zero hz) hh

theorem isSome_info_of_underlying {P : Program} {t : TypeId} {d : TypeDesc} (e : P.underlying t = some d) : (P.info? t).isSome = true := by
  unfold Program.underlying at e
  cases hi : P.info? t with
  | none => rw [hi] at e; cases e
  | some i => rfl

theorem rd_loadVar1 {P : Program} {t : TypeId} {a : Addr} {h : Hp} {v : Value} (e : ((P.underlying t).map aggD) = some false) (hv : h.cell a = some v) : (loadVar t a).rd P h = some v := by
  unfold loadVar
  rw [rd_seq (by rw [rd_isAgg]; exact e)]
  exact rd_load.trans hv

theorem rd_loadVarN {P : Program} {t : TypeId} {a : Addr} {h : Hp} {r : Array Value} (e : ((P.underlying t).map aggD) = some true) (hv : h.row a (szOf P t) = some r) : (loadVar t a).rd P h = some (.agg r) := by
  unfold loadVar
  rw [rd_seq (by rw [rd_isAgg]; exact e)]
  have hi : (P.info? t).isSome = true := by
    cases hu : P.underlying t with
    | none => rw [hu] at e; cases e
    | some d => exact isSome_info_of_underlying hu
  show (Sem.rd P (do let n ← sizeOf t; let r ← loadCells a n; Pure.pure (Value.agg r)) h) = _
  rw [rd_seq (rd_size hi), rd_seq (rd_loadCells hv)]
  rfl

theorem vc_storeVar {P : Program} {t : TypeId} {a : Addr} {v : Value} {Q : Unit → Hp → Prop} {h : Hp} {c : Array Value} {e : TypeId} (hi : (P.info? t).isSome = true) (hb : h a.block = some (.cells c e (0, 0)))
    (hs : a.spot = none) (hsz : v.cells.size = szOf P t) (ho : v.cells.toList.all one = true) (hl : a.off + szOf P t ≤ c.size) (q : Q () (h.upd a.block (.cells (putL c a.off v.cells.toList) e (0, 0)))) :
    (storeVar t a v).vc P Q h := by
  unfold storeVar
  refine vc_rd_bind (rd_size hi) ?_
  simp only [hsz, ne_eq, not_true_eq_false, if_false]
  refine vc_storeCells hs v.cells.toList 0 h c e hb ho (by simp [hsz, hl]) ?_
  simpa using q

theorem rd_nil {P : Program} {ρ : Operand → Value} {o : Oper} {x : Operand} {v : Value} {h : Hp} (ho : o.op = .nilCheck x) (hh : nilV (ρ x) = some v) : (execOp ρ o).rd P h = some (.value v) := by
  unfold execOp
  rw [ho]
  simp only
  generalize ρ x = y at *
  cases y with
  | pointer a => cases a with
    | none => cases hh
    | some a => cases hh; rfl
  | nilIface => cases hh
  | nilFunc => cases hh
  | func fn f c => cases fn with
    | method n => cases hh
    | _ => cases hh; rfl
  | _ => cases hh; rfl

theorem rd_binI {P : Program} {op : BinOp} {k : IntKind} {a b : Int} {v : Value} {h : Hp} (h1 : op ≠ .shl) (h2 : op ≠ .shr) (h3 : op ≠ .eql) (h4 : op ≠ .neq) (t : TypeId) (hh : binI op k a b = some v) :
    (binOp op t (.int k a) (.int k b)).rd P h = some v := by
  cases op <;> first | exact (h1 rfl).elim | exact (h2 rfl).elim | exact (h3 rfl).elim | exact (h4 rfl).elim | skip
  all_goals simp only [binI] at hh
  all_goals simp only [binOp, ne_eq, not_true_eq_false, if_false, Op.intArith, Op.intDiv, Op.intBits, Op.intCmp]
  all_goals first
    | (cases hh; rfl)
    | (split at hh <;> first | (cases hh; done) | (rename_i hz; rw [if_neg hz]; cases hh; rfl))

theorem rd_binV {P : Program} {op : BinOp} {x y v : Value} {h : Hp} (t : TypeId) (hh : binV op x y = some v) : (binOp op t x y).rd P h = some v := by
  unfold binV at hh
  split at hh
  · rename_i k a k' b
    split at hh
    · unfold shV at hh
      split at hh
      · cases hh
      · rename_i hb
        cases hh
        show Sem.rd P (Op.shift .shl k a k' b) h = _
        unfold Op.shift; rw [if_neg hb]; rfl
    · unfold shV at hh
      split at hh
      · cases hh
      · rename_i hb
        cases hh
        show Sem.rd P (Op.shift .shr k a k' b) h = _
        unfold Op.shift; rw [if_neg hb]; rfl
    · cases hh
    · cases hh
    · rename_i h1 h2 h3 h4
      split at hh
      · rename_i e; subst e
        exact rd_binI (fun e => h1 e) (fun e => h2 e) (fun e => h3 e) (fun e => h4 e) t hh
      · cases hh
  · cases hh

theorem rd_unV {P : Program} {op : UnOp} {x v : Value} {h : Hp} (hh : unV op x = some v) : (Op.unary op x).rd P h = some v := by
  unfold unV at hh
  split at hh <;> first | (cases hh; rfl) | cases hh

theorem rd_convV {P : Program} {s d : TypeId} {k : IntKind} {x v : Value} {ds : TypeDesc} {h : Hp} (es : P.underlying s = some ds) (ed : P.underlying d = some (.int k)) (hh : convV k x = some v) : (convert s d x).rd P h = some v := by
  unfold convV at hh
  split at hh
  · cases hh
    unfold convert
    rw [rd_seq (by rw [rd_underlying]; exact es), rd_seq (by rw [rd_underlying]; exact ed)]
    rfl
  · cases hh

theorem rd_sliceBound {P : Program} {v : Value} {y l : Nat} {code : BoundsCode} {h : Hp} (hh : bnd v y = some l) : (Instr.sliceBound v y code).rd P h = some l := by
  unfold bnd at hh
  split at hh
  · rename_i k i
    split at hh
    · rename_i hi
      cases hh
      show Sem.rd P (if 0 ≤ i ∧ i ≤ (y : Int) then Pure.pure i.toNat else boundsPanic k i y code) h = _
      rw [if_pos hi]; rfl
    · cases hh
  · cases hh

theorem rd_sliceBounds {P : Program} {s : Bool} {len cap : Nat} {lo hi mx : Option Value} {p : Nat × Nat × Nat} {h : Hp} (hh : slB len cap lo hi mx = some p) : (Instr.sliceBounds s len cap lo hi mx).rd P h = some p := by
  unfold slB at hh
  unfold Instr.sliceBounds
  cases mx with
  | none =>
    simp only at hh
    rw [rd_seq (a := cap) rfl]
    cases hi with
    | none =>
      simp only at hh
      rw [rd_seq (a := len) rfl]
      cases lo with
      | none => simp only at hh; cases hh; rfl
      | some v =>
        simp only at hh
        cases hb : bnd v len with
        | none => rw [hb] at hh; cases hh
        | some l => rw [hb] at hh; cases hh; rw [rd_seq (rd_sliceBound hb)]; rfl
    | some u =>
      simp only at hh
      cases hu : bnd u cap with
      | none => rw [hu] at hh; cases hh
      | some m =>
        rw [hu] at hh
        rw [rd_seq (rd_sliceBound hu)]
        cases lo with
        | none => simp only at hh; cases hh; rfl
        | some v =>
          simp only at hh
          cases hb : bnd v m with
          | none => rw [hb] at hh; cases hh
          | some l => rw [hb] at hh; cases hh; rw [rd_seq (rd_sliceBound hb)]; rfl
  | some w =>
    simp only at hh
    cases hw : bnd w cap with
    | none => rw [hw] at hh; cases hh
    | some c =>
      rw [hw] at hh
      rw [rd_seq (rd_sliceBound hw)]
      cases hi with
      | none => cases hh
      | some u =>
        simp only at hh
        cases hu : bnd u c with
        | none => rw [hu] at hh; cases hh
        | some m =>
          rw [hu] at hh
          rw [rd_seq (rd_sliceBound hu)]
          cases lo with
          | none => simp only at hh; cases hh; rfl
          | some v =>
            simp only at hh
            cases hb : bnd v m with
            | none => rw [hb] at hh; cases hh
            | some l => rw [hb] at hh; cases hh; rw [rd_seq (rd_sliceBound hb)]; rfl

end Go.Sl
namespace Go.Sl

theorem rd_slV {P : Program} {t e : TypeId} {x v : Value} {lo hi mx : Option Value} {h : Hp} (et : P.underlying t = some (.slice e)) (ee : (P.info? e).isSome = true) (hh : slV (szOf P e) x lo hi mx = some v) :
    (Instr.sliceAt t x lo hi mx).rd P h = some v := by
  unfold slV at hh
  split at hh
  · rename_i a len cap
    cases hb : slB len cap lo hi mx with
    | none => rw [hb] at hh; cases hh
    | some p =>
      rw [hb] at hh
      cases hh
      unfold Instr.sliceAt
      rw [rd_seq (by rw [rd_underlying]; exact et)]
      show Sem.rd P (Instr.slice t (.slice a len cap) lo hi mx) h = _
      unfold Instr.slice
      rw [rd_seq (by rw [rd_underlying]; exact et)]
      show Sem.rd P (do let p ← Instr.sliceBounds true len cap lo hi mx; let size ← sizeOf e; Pure.pure (Value.slice (if p.2.2 = p.1 then a else a.map (·.add (p.1 * size))) (p.2.1 - p.1) (p.2.2 - p.1))) h = _
      rw [rd_seq (rd_sliceBounds hb), rd_seq (rd_size ee)]
      rfl
  · cases hh

theorem rd_slA {P : Program} {t e : TypeId} {n : Nat} {x v : Value} {lo hi mx : Option Value} {h : Hp} (et : P.underlying t = some (.array n e)) (ee : (P.info? e).isSome = true) (hh : slA n (szOf P e) x lo hi mx = some v) :
    (Instr.sliceAt t x lo hi mx).rd P h = some v := by
  unfold slA at hh
  split at hh
  · rename_i a
    cases hb : slB n n lo hi mx with
    | none => rw [hb] at hh; cases hh
    | some p =>
      rw [hb] at hh
      cases hh
      unfold Instr.sliceAt
      rw [rd_seq (by rw [rd_underlying]; exact et)]
      show Sem.rd P (do let a ← Instr.sureAddr (.pointer (some a)); let p ← Instr.sliceBounds false n n lo hi mx; let size ← sizeOf e; Pure.pure (Value.slice (some (if p.2.2 = p.1 then a else a.add (p.1 * size))) (p.2.1 - p.1) (p.2.2 - p.1))) h = _
      rw [rd_seq (a := a) rfl, rd_seq (rd_sliceBounds hb), rd_seq (rd_size ee)]
      rfl
  · cases hh

theorem szOf_pos {P : Program} {t : TypeId} (h : szOf P t ≠ 0) : (P.info? t).isSome = true := by
  unfold szOf at h
  cases hi : P.info? t with
  | none => rw [hi] at h; exact (h rfl).elim
  | some i => rfl

theorem rd_faV {P : Program} {t : TypeId} {f off sz : Nat} {x v : Value} {h : Hp} (hp : (match P.underlying t with | some (.struct fs) => (fs[f]?).map fun f => (f.offset, szOf P f.type) | _ => none) = some (off, sz)) (hsz : sz ≠ 0) (hh : faV off x = some v) :
    (Instr.fieldAt t x f).rd P h = some v := by
  cases hu : P.underlying t with
  | none => rw [hu] at hp; cases hp
  | some d =>
    rw [hu] at hp
    cases d <;> first | (cases hp; done) | skip
    rename_i fs
    simp only at hp
    cases hf : fs[f]? with
    | none => rw [hf] at hp; cases hp
    | some fd =>
      rw [hf] at hp
      simp only [Option.map_some, Option.some.injEq, Prod.mk.injEq] at hp
      obtain ⟨rfl, rfl⟩ := hp
      unfold faV at hh
      split at hh
      · rename_i a
        cases hh
        unfold Instr.fieldAt
        rw [rd_seq (by rw [rd_underlying]; exact hu)]
        simp only [hf]
        show Sem.rd P (do let a ← Instr.sureAddr (.pointer (some a)); let b ← fieldPlace a fd; Pure.pure (Value.pointer (some b))) h = _
        rw [rd_seq (a := a) rfl]
        have : (fieldPlace a fd).rd P h = some (a.add fd.offset) := by
          unfold fieldPlace
          rw [rd_seq (rd_size (szOf_pos hsz))]
          simp only [hsz, if_false]
          rfl
        rw [rd_seq this]
        rfl
      · cases hh

theorem rd_iaS {P : Program} {t e : TypeId} {x i v : Value} {h : Hp} (et : P.underlying t = some (.slice e)) (ee : (P.info? e).isSome = true) (hh : iaS (szOf P e) x i = some v) : (Instr.indexAt t x i).rd P h = some v := by
  unfold iaS at hh
  split at hh
  · rename_i a len cap k n
    split at hh
    · rename_i hb
      cases hh
      unfold Instr.indexAt
      rw [rd_seq (rd_asIntOf (k := k) (n := n))]
      simp only
      rw [rd_seq (by rw [rd_underlying]; exact et)]
      simp only
      rw [rd_seq rd_pure, rd_seq (by rw [rd_underlying]; exact et)]
      simp only [if_pos hb]
      rw [rd_seq (rd_size ee)]
      rfl
    · cases hh
  · cases hh

theorem rd_iaA {P : Program} {t e : TypeId} {n : Nat} {x i v : Value} {h : Hp} (et : P.underlying t = some (.array n e)) (ee : (P.info? e).isSome = true) (hh : iaA n (szOf P e) x i = some v) : (Instr.indexAt t x i).rd P h = some v := by
  unfold iaA at hh
  split at hh
  · rename_i a k m
    split at hh
    · rename_i hb
      cases hh
      unfold Instr.indexAt
      rw [rd_seq (rd_asIntOf (k := k) (n := m))]
      simp only
      rw [rd_seq (by rw [rd_underlying]; exact et)]
      simp only
      rw [rd_seq (a := a) rfl, rd_seq rd_pure, rd_seq (by rw [rd_underlying]; exact et)]
      simp only [if_pos hb]
      rw [rd_seq (rd_size ee)]
      rfl
    · cases hh
  · cases hh

theorem rd_part {P : Program} {t : TypeId} {d : TypeDesc} {cs : Array Value} {off : Nat} {v : Value} {h : Hp} (et : P.underlying t = some d) (hh : (bif aggD d then some (.agg (cs.extract off (off + szOf P t))) else cs[off]?) = some v) :
    (part t cs off).rd P h = some v := by
  unfold part
  rw [rd_seq (by rw [rd_isAgg, et]; rfl)]
  cases ha : aggD d with
  | true =>
    rw [ha] at hh
    simp only [cond_true, Option.some.injEq] at hh
    subst hh
    simp only [if_true]
    rw [rd_seq (rd_size (isSome_info_of_underlying et))]
    rfl
  | false =>
    rw [ha] at hh
    simp only [cond_false] at hh
    simp only [Bool.false_eq_true, if_false, hh]
    rfl

theorem rd_ixA {P : Program} {t e : TypeId} {n : Nat} {d : TypeDesc} {x i v : Value} {h : Hp} (et : P.underlying t = some (.array n e)) (ee : P.underlying e = some d) (hh : ixA (aggD d) n (szOf P e) x i = some v) :
    (Instr.index t x i).rd P h = some v := by
  unfold ixA at hh
  split at hh
  · rename_i cs k m
    split at hh
    · rename_i hb
      unfold Instr.index
      rw [rd_seq (rd_asIntOf (k := k) (n := m))]
      simp only
      rw [rd_seq (by rw [rd_underlying]; exact et)]
      simp only [if_pos hb]
      rw [rd_seq (rd_size (isSome_info_of_underlying ee))]
      exact rd_part ee hh
    · cases hh
  · cases hh

theorem rd_exV {P : Program} {x v : Value} {i : Nat} {h : Hp} (hh : exV x i = some v) : (Instr.extract x i).rd P h = some v := by
  unfold exV at hh
  split at hh
  · rename_i vs
    unfold Instr.extract
    simp only [hh]
    rfl
  · cases hh

theorem rd_taV {P : Program} {x v z : Value} {xt t : TypeId} {ok : Bool} {d : TypeDesc} {h : Hp} (et : P.underlying t = some d) (hd : ∀ ms, d ≠ .interface ms) (hz : zOf P t = some z) (hh : taV t z ok x = some v) :
    (Instr.typeAssert x xt t ok).rd P h = some v := by
  unfold taV at hh
  unfold Instr.typeAssert
  rw [rd_seq (by rw [rd_underlying]; exact et)]
  split at hh
  · rename_i u w
    cases d <;> first | exact (hd _ rfl).elim | skip
    all_goals simp only
    all_goals split at hh
    all_goals first
      | (rename_i e; rw [if_pos e]; cases hh; cases ok <;> rfl)
      | (rename_i e; rw [if_neg e]; cases ok <;> simp only [cond_true, cond_false, Option.some.injEq, if_true] at hh ⊢ <;> first | (cases hh; done) | (subst hh; rw [rd_seq (rd_zero hz)]; rfl))
  · cases d <;> first | exact (hd _ rfl).elim | skip
    all_goals simp only
    all_goals cases ok <;> simp only [cond_true, cond_false, Option.some.injEq, if_true] at hh ⊢ <;> first | (cases hh; done) | (subst hh; rw [rd_seq (rd_zero hz)]; rfl)
  · cases hh

theorem rd_max2 {P : Program} {x y v : Value} {h : Hp} (ts : Array TypeId) (t : TypeId) (hh : max2V x y = some v) : (Builtin.max_ ts t #[x, y]).rd P h = some v := by
  unfold max2V at hh
  split at hh
  · cases hh; rfl
  · cases hh

theorem rd_min2 {P : Program} {x y v : Value} {h : Hp} (ts : Array TypeId) (t : TypeId) (hh : min2V x y = some v) : (Builtin.min_ ts t #[x, y]).rd P h = some v := by
  unfold min2V at hh
  split at hh
  · cases hh; rfl
  · cases hh

theorem rd_lenV {P : Program} {x v : Value} {ts : Array TypeId} {t0 t e : TypeId} {h : Hp} (e0 : ts[0]? = some t0) (et : P.underlying t0 = some (.slice e)) (hh : lenV x = some v) : (Builtin.len_ ts t #[x]).rd P h = some v := by
  unfold lenV at hh
  split at hh
  · cases hh
    unfold Builtin.len_
    simp only [e0]
    show Sem.rd P (do let d ← underlying t0; _) h = _
    rw [rd_seq (by rw [rd_underlying]; exact et)]
    rfl
  · cases hh

theorem rd_lenS {P : Program} {x v : Value} {ts : Array TypeId} {t0 t : TypeId} {h : Hp} (e0 : ts[0]? = some t0) (et : P.underlying t0 = some .string) (hh : lenS x = some v) : (Builtin.len_ ts t #[x]).rd P h = some v := by
  unfold lenS at hh
  split at hh
  · cases hh
    unfold Builtin.len_
    simp only [e0]
    show Sem.rd P (do let d ← underlying t0; _) h = _
    rw [rd_seq (by rw [rd_underlying]; exact et)]
    rfl
  · cases hh

theorem rd_lenM {P : Program} {x v : Value} {ts : Array TypeId} {t0 t a b : TypeId} {h : Hp} (e0 : ts[0]? = some t0) (et : P.underlying t0 = some (.map a b)) (hh : lenM x h = some v) : (Builtin.len_ ts t #[x]).rd P h = some v := by
  unfold lenM at hh
  split at hh
  · cases hh
    unfold Builtin.len_
    simp only [e0]
    show Sem.rd P (do let d ← underlying t0; _) h = _
    rw [rd_seq (by rw [rd_underlying]; exact et)]
    rfl
  · rename_i r
    split at hh
    · rename_i es c hr
      cases hh
      unfold Builtin.len_
      simp only [e0]
      show Sem.rd P (do let d ← underlying t0; _) h = _
      rw [rd_seq (by rw [rd_underlying]; exact et)]
      refine (rd_seq (s := getObj r) (a := Obj.map es c) ?_).trans rfl
      simp [getObj, Sem.rd, hr, Obj.isCellsB]
    · cases hh
  · cases hh

theorem rd_capV {P : Program} {x v : Value} {ts : Array TypeId} {t0 t e : TypeId} {h : Hp} (e0 : ts[0]? = some t0) (et : P.underlying t0 = some (.slice e)) (hh : capV x = some v) : (Builtin.cap_ ts t #[x]).rd P h = some v := by
  unfold capV at hh
  split at hh
  · cases hh
    unfold Builtin.cap_
    simp only [e0]
    show Sem.rd P (do let d ← underlying t0; _) h = _
    rw [rd_seq (by rw [rd_underlying]; exact et)]
    rfl
  · cases hh

end Go.Sl
namespace Go.Sl

theorem rd_eqS_in {P : Program} {t : TypeId} {x y : Value} {b : Bool} {h : Hp} {k : Nat} (hk : k ≠ 3) (ht : eqTag P t = k) (hh : eqS k x y = some b) (d : Nat) : (Op.equalIn (d + 1) t x y).rd P h = some b := by
  unfold eqTag at ht
  unfold Op.equalIn
  split at ht <;> rename_i hu <;> (try subst ht) <;> unfold eqS at hh <;> (try (cases hh; done))
  all_goals rw [rd_seq (by rw [rd_underlying]; exact hu)]
  · split at hh <;> first | (cases hh; done) | (exfalso; omega) | skip
    split at hh <;> first | (cases hh; done) | skip
    rename_i e; simp only [e, if_true]; cases hh; rfl
  · split at hh <;> first | (cases hh; done) | (exfalso; omega) | (cases hh; rfl)
  · split at hh <;> first | (cases hh; done) | (exfalso; omega) | (cases hh; rfl)
  · split at hh <;> first | (cases hh; done) | (exfalso; omega) | (cases hh; rfl) | skip
    rename_i a _ _; cases a <;> first | (cases hh; rfl) | simp_all
  · split at hh <;> first | (cases hh; done) | (exfalso; omega) | (cases hh; rfl) | skip
    rename_i a _ _ _ _ _ _; cases a <;> first | (cases hh; rfl) | simp_all
  · split at hh <;> first | (cases hh; done) | (exfalso; omega) | (cases hh; rfl) | skip
    rename_i a _ _; cases a <;> first | (cases hh; rfl) | simp_all
  · split at hh <;> first | (cases hh; done) | (exfalso; omega) | (cases hh; rfl)

theorem rd_eqS {P : Program} {t : TypeId} {x y : Value} {b : Bool} {h : Hp} {k : Nat} (hk : k ≠ 3) (ht : eqTag P t = k) (hh : eqS k x y = some b) : (Op.equal t x y).rd P h = some b := rd_eqS_in hk ht hh 9999

/-- No look at two nil interfaces. -/
theorem rd_eqGuard {P : Program} {op : BinOp} {t : TypeId} {x y : Operand} {a b : Value} {h : Hp} (h1 : a ≠ .nilIface) (h2 : (∀ xs, a ≠ .agg xs) ∨ P.eqGuardType P.depth t = false) : (eqGuard op t x y a b).rd P h = some () := by
  unfold eqGuard
  cases op <;> first | rfl | skip
  all_goals
    simp only [Bool.not_true, Bool.false_eq_true, if_false]
    split
    · exact (h1 rfl).elim
    · rename_i xs ys
      rcases h2 with h2 | h2
      · exact (h2 xs rfl).elim
      · rw [rd_seq (s := program) (a := P) rfl, rd_seq (s := program) (a := P) rfl]
        simp only [h2]
        rfl
    · rfl

theorem binOp_eq {P : Program} {neg : Bool} {t : TypeId} {x y : Value} {b : Bool} {h : Hp} {k : Nat} (ht : eqTag P t = k) (hh : eqS k x y = some b) :
    (binOp (if neg then .neq else .eql) t x y).rd P h = some (.bool (bif neg then !b else b)) := by
  have key : k ≠ 3 → (Op.equal t x y).rd P h = some b := fun hk => rd_eqS (h := h) hk ht hh
  have gen : ∀ (s : Sem Bool), s.rd P h = some b → (do Pure.pure (Value.bool (← s)) : Sem Value).rd P h = some (.bool b) ∧ (do Pure.pure (Value.bool (!(← s))) : Sem Value).rd P h = some (.bool !b) :=
    fun s hs => ⟨by rw [rd_seq hs]; rfl, by rw [rd_seq hs]; rfl⟩
  have g1 := fun hk => (gen _ (key hk)).1
  have g2 := fun hk => (gen _ (key hk)).2
  unfold eqS at hh
  split at hh <;> first | (cases hh; done) | skip
  · split at hh
    · rename_i e; subst e; cases hh
      cases neg
      · simp [binOp, Op.intCmp]; rfl
      · simp [binOp, Op.intCmp]; rfl
    · cases hh
  · cases neg <;> first | exact g1 (by omega) | exact g2 (by omega)
  · cases hh
    cases neg
    · simp [binOp, Op.stringOp]; rfl
    · simp [binOp, Op.stringOp]; rfl
  all_goals cases neg <;> first | exact g1 (by omega) | exact g2 (by omega)

end Go.Sl
namespace Go.Sl

theorem rd_fields {P : Program} {h : Hp} {xs ys : Array Value} {d : Nat} : ∀ (l : List Field) (k : Nat) (b : Bool),
    (l.zipIdx k).all (fun p => p.1.name != "_" && Nat.beq p.1.offset p.2 && decide (eqTag P p.1.type = 1 ∨ eqTag P p.1.type = 2)) = true →
    eqL (l.map fun f => eqTag P f.type) (xs.toList.drop k) (ys.toList.drop k) = some b →
    (forIn l ((none, ()) : Option Bool × Unit) fun f (_ : Option Bool × Unit) =>
      if f.name ≠ "_" then do
        let a ← part f.type xs f.offset
        let c ← part f.type ys f.offset
        let e ← Op.equalIn (d + 1) f.type a c
        if (!e) = true then Pure.pure (ForInStep.done (some false, ())) else Pure.pure (ForInStep.yield (none, ()))
      else Pure.pure (ForInStep.yield (none, ())) : Sem (Option Bool × Unit)).rd P h = some (if b then (none, ()) else (some false, ()))
  | [], k, b, _, hb => by
    simp only [List.map_nil, eqL, Option.some.injEq] at hb
    subst hb
    rfl
  | f :: l, k, b, hall, hb => by
    simp only [List.zipIdx_cons, List.all_cons, Bool.and_eq_true, bne_iff_ne, decide_eq_true_eq] at hall
    obtain ⟨⟨⟨hn, ho⟩, htag⟩, hrest⟩ := hall
    have ho : f.offset = k := Nat.eq_of_beq_eq_true ho
    simp only [List.map_cons] at hb
    cases hx : xs.toList.drop k with
    | nil => rw [hx] at hb; simp [eqL] at hb
    | cons x xr =>
      cases hy : ys.toList.drop k with
      | nil => rw [hx, hy] at hb; simp [eqL] at hb
      | cons y yr =>
        rw [hx, hy] at hb
        simp only [eqL] at hb
        cases he : eqS (eqTag P f.type) x y with
        | none => rw [he] at hb; cases hb
        | some c =>
          rw [he] at hb
          cases hr : eqL (l.map fun f => eqTag P f.type) xr yr with
          | none => rw [hr] at hb; cases hb
          | some b' =>
            rw [hr] at hb
            simp only [Option.some.injEq] at hb
            have ex : xs[k]? = some x := by
              have := congrArg List.head? hx
              rw [List.head?_drop] at this
              simpa using this
            have ey : ys[k]? = some y := by
              have := congrArg List.head? hy
              rw [List.head?_drop] at this
              simpa using this
            obtain ⟨dd, hd, hagg⟩ : ∃ dd, P.underlying f.type = some dd ∧ aggD dd = false := by
              unfold eqTag at htag
              cases hu : P.underlying f.type with
              | none => rw [hu] at htag; simp at htag
              | some dd =>
                refine ⟨dd, rfl, ?_⟩
                rw [hu] at htag
                cases dd <;> first | rfl | simp at htag
            rw [List.forIn_cons]
            simp only [ne_eq, hn, not_false_eq_true, if_true, ho]
            have p1 : (part f.type xs k).rd P h = some x := rd_part hd (by rw [hagg]; exact ex)
            have p2 : (part f.type ys k).rd P h = some y := rd_part hd (by rw [hagg]; exact ey)
            have body : (do
                let a ← part f.type xs k
                let c ← part f.type ys k
                let e ← Op.equalIn (d + 1) f.type a c
                if (!e) = true then Pure.pure (ForInStep.done (some false, ())) else Pure.pure (ForInStep.yield (none, ())) : Sem (ForInStep (Option Bool × Unit))).rd P h = some (if (!c) = true then ForInStep.done (some false, ()) else ForInStep.yield (none, ())) := by
              rw [rd_seq p1, rd_seq p2, rd_seq (rd_eqS_in (by omega) rfl he d)]
              cases c <;> rfl
            rw [rd_seq body]
            cases c with
            | false => subst hb; rfl
            | true =>
              simp only [Bool.not_true, Bool.false_eq_true, if_false]
              rw [← hb, Bool.true_and]
              refine rd_fields l (k + 1) b' hrest ?_
              have e1 : xs.toList.drop (k + 1) = xr := by rw [← List.drop_drop, hx]; rfl
              have e2 : ys.toList.drop (k + 1) = yr := by rw [← List.drop_drop, hy]; rfl
              rw [e1, e2]; exact hr

end Go.Sl
namespace Go.Sl

theorem rd_eqA {P : Program} {t : TypeId} {l : List Nat} {neg : Bool} {x y v : Value} {h : Hp} (ht : eqTags P t = some l) (hh : eqA l neg x y = some v) :
    P.eqGuardType P.depth t = false ∧ (binOp (if neg then .neq else .eql) t x y).rd P h = some v := by
  unfold eqTags at ht
  split at ht
  · rename_i fs hu
    split at ht
    · rename_i hc
      simp only [Bool.and_eq_true, Bool.not_eq_true'] at hc
      obtain ⟨⟨hg, hs⟩, hall⟩ := hc
      cases ht
      refine ⟨hg, ?_⟩
      unfold eqA at hh
      split at hh
      · rename_i xs ys
        cases hb : eqL (fs.toList.map fun f => eqTag P f.type) xs.toList ys.toList with
        | none => rw [hb] at hh; cases hh
        | some b =>
          rw [hb] at hh
          cases hh
          have key : (Op.equal t (.agg xs) (.agg ys)).rd P h = some b := by
            unfold Op.equal Op.maxDepth
            unfold Op.equalIn
            rw [rd_seq (by rw [rd_underlying]; exact hu)]
            simp only
            rw [rd_seq (s := program) (a := P) rfl]
            simp only [hs, Bool.false_eq_true, if_false]
            rw [← Array.forIn_toList]
            rw [rd_seq (rd_fields fs.toList 0 b (by simpa using hall) (by simpa using hb))]
            cases b <;> rfl
          cases neg
          · show (do Pure.pure (Value.bool (← Op.equal t (.agg xs) (.agg ys))) : Sem Value).rd P h = _
            rw [rd_seq key]; rfl
          · show (do Pure.pure (Value.bool (!(← Op.equal t (.agg xs) (.agg ys)))) : Sem Value).rd P h = _
            rw [rd_seq key]; rfl
      · cases hh
    · cases ht
  · cases ht

theorem eqA_agg {l : List Nat} {neg : Bool} {x y v : Value} (hh : eqA l neg x y = some v) : x ≠ .nilIface := by
  unfold eqA at hh
  split at hh
  · intro e; cases e
  · cases hh

theorem eqV_plain {k : Nat} {neg : Bool} {x y v : Value} (hh : eqV k neg x y = some v) : x ≠ .nilIface ∧ ∀ xs, x ≠ .agg xs := by
  unfold eqV at hh
  cases hs : eqS k x y with
  | none => rw [hs] at hh; cases hh
  | some b =>
    unfold eqS at hs
    split at hs <;> first | (cases hs; done) | (constructor <;> intros <;> (intro e; cases e))

theorem wp_eq {P : Program} {neg : Bool} {t : TypeId} {x y : Operand} {ρ : Operand → Value} {other : Den} {K : Value → Hp → Prop} {h : Hp}
    (hother : other.wp K h → rawWp P (do Pure.pure (Next.value (← (do eqGuard (if neg then .neq else .eql) t x y (ρ x) (ρ y); binOp (if neg then .neq else .eql) t (ρ x) (ρ y) : Sem Value)))) K h)
    (hh : (denEq P neg t x y ρ other).wp K h) : rawWp P (do Pure.pure (Next.value (← (do eqGuard (if neg then .neq else .eql) t x y (ρ x) (ρ y); binOp (if neg then .neq else .eql) t (ρ x) (ρ y) : Sem Value)))) K h := by
  have scal : ∀ k, eqTag P t = k → (vP (eqV k neg (ρ x) (ρ y)) fun v => K v h) → rawWp P (do Pure.pure (Next.value (← (do eqGuard (if neg then .neq else .eql) t x y (ρ x) (ρ y); binOp (if neg then .neq else .eql) t (ρ x) (ρ y) : Sem Value)))) K h := by
    intro k hk hv
    rw [vP_iff] at hv
    obtain ⟨v, hv, hK⟩ := hv
    obtain ⟨p1, p2⟩ := eqV_plain hv
    unfold eqV at hv
    cases hs : eqS k (ρ x) (ρ y) with
    | none => rw [hs] at hv; cases hv
    | some b =>
      rw [hs] at hv
      cases hv
      refine wp_value (v := .bool (bif neg then !b else b)) ?_ hK
      rw [rd_seq (rd_eqGuard p1 (.inl p2))]
      exact binOp_eq hk hs
  unfold denEq at hh
  split at hh
  · split at hh
    · rename_i l hl
      simp only [Den.wp] at hh
      rw [vP_iff] at hh
      obtain ⟨v, hv, hK⟩ := hh
      obtain ⟨g, r⟩ := rd_eqA (h := h) hl hv
      refine wp_value (v := v) ?_ hK
      rw [rd_seq (rd_eqGuard (eqA_agg hv) (.inr g))]
      exact r
    · exact hother hh
  · rename_i hk; exact scal 1 hk hh
  · rename_i hk; exact scal 2 hk hh
  · rename_i hk; exact scal 3 hk hh
  · split at hh
    · exact scal _ rfl hh
    · exact hother hh

theorem fold_put_list (off : Nat) : ∀ (l : List Value) (k : Nat) (cells : Array Value), (l.zipIdx k).foldl (fun cs (c, j) => cs.setIfInBounds (off + j) c) cells = putL cells (off + k) l
  | [], _, _ => rfl
  | v :: l, k, cells => by
    simp only [List.zipIdx_cons, List.foldl_cons, putL]
    rw [fold_put_list off l (k + 1)]
    rfl

theorem fold_put (off : Nat) (c cells : Array Value) : c.zipIdx.foldl (fun cs (c, j) => cs.setIfInBounds (off + j) c) cells = putL cells off c.toList := by
  rw [← Array.foldl_toList, Array.toList_zipIdx]
  exact fold_put_list off c.toList 0 cells

theorem fill_of_bld (place : Nat → Option (Nat × Nat)) : ∀ (parts : List (Nat × Value)) (l : List (Nat × Nat × Value)) (cells r : Array Value), partsOf place parts = some l → bldV cells l = some r → Instr.fill place cells parts = some r
  | [], l, cells, r, hp, hb => by
    simp only [partsOf, Option.some.injEq] at hp
    subst hp
    exact hb
  | (i, v) :: parts, l, cells, r, hp, hb => by
    simp only [partsOf] at hp
    cases hpl : place i with
    | none => rw [hpl] at hp; cases hp
    | some q =>
      obtain ⟨off, sz⟩ := q
      rw [hpl] at hp
      cases hr : partsOf place parts with
      | none => rw [hr] at hp; cases hp
      | some l' =>
        rw [hr] at hp
        simp only [Option.some.injEq] at hp
        subst hp
        simp only [bldV] at hb
        split at hb
        · rename_i hc
          simp only [Instr.fill, hpl]
          rw [if_neg (by simp only [Bool.or_eq_true, decide_eq_true_eq, ne_eq, not_or, Nat.not_lt, Decidable.not_not]; exact ⟨hc.1, by simpa using hc.2⟩)]
          refine fill_of_bld place parts l' _ r hr ?_
          rw [← hb, fold_put]
        · cases hb

end Go.Sl
namespace Go.Sl

theorem sem_bind_assoc {α β γ : Type} (s : Sem α) (f : α → Sem β) (g : β → Sem γ) : (s.bind f).bind g = s.bind fun a => (f a).bind g := by
  induction s with
  | pure a => rfl
  | load m a k ih => simp only [Sem.bind, ih]
  | store m a v k ih => simp only [Sem.bind, ih]
  | new o k ih => simp only [Sem.bind, ih]
  | shape r k ih => simp only [Sem.bind, ih]
  | freeze a n k ih => simp only [Sem.bind, ih]
  | frozen a k ih => simp only [Sem.bind, ih]
  | getObj r k ih => simp only [Sem.bind, ih]
  | setObj r o k ih => simp only [Sem.bind, ih]
  | choose q k ih => simp only [Sem.bind, ih]
  | sys c k ih => simp only [Sem.bind, ih]
  | program k ih => simp only [Sem.bind, ih]
  | mark m k ih => simp only [Sem.bind, ih]
  | halt h => rfl

theorem sem_bind_pure {α : Type} (s : Sem α) : s.bind Sem.pure = s := by
  induction s with
  | pure a => rfl
  | load m a k ih => simp only [Sem.bind, ih]
  | store m a v k ih => simp only [Sem.bind, ih]
  | new o k ih => simp only [Sem.bind, ih]
  | shape r k ih => simp only [Sem.bind, ih]
  | freeze a n k ih => simp only [Sem.bind, ih]
  | frozen a k ih => simp only [Sem.bind, ih]
  | getObj r k ih => simp only [Sem.bind, ih]
  | setObj r o k ih => simp only [Sem.bind, ih]
  | choose q k ih => simp only [Sem.bind, ih]
  | sys c k ih => simp only [Sem.bind, ih]
  | program k ih => simp only [Sem.bind, ih]
  | mark m k ih => simp only [Sem.bind, ih]
  | halt h => rfl

theorem sem_lawful : LawfulMonad Sem := LawfulMonad.mk' Sem sem_bind_pure (fun _ _ => rfl) sem_bind_assoc

theorem rd_mapM_list {α β : Type} {P : Program} {h : Hp} {f : α → Sem β} {g : α → β} : ∀ (l : List α), (∀ a ∈ l, (f a).rd P h = some (g a)) → (l.mapM f).rd P h = some (l.map g)
  | [], _ => rfl
  | a :: l, hl => by
    have := sem_lawful
    rw [List.mapM_cons, rd_seq (hl a List.mem_cons_self), rd_seq (rd_mapM_list l fun b hb => hl b (List.mem_cons_of_mem _ hb))]
    rfl

theorem rd_mapM {α β : Type} {P : Program} {h : Hp} {f : α → Sem β} {g : α → β} (l : Array α) (hl : ∀ a ∈ l.toList, (f a).rd P h = some (g a)) : (l.mapM f).rd P h = some (l.map g) := by
  have := sem_lawful
  rw [Array.mapM_eq_mapM_toList, rd_map, rd_mapM_list l.toList hl]
  exact congrArg some (Array.ext' (by simp))

theorem rd_build {P : Program} {t : TypeId} {parts : List (Nat × Value)} {z : Value} {l : List (Nat × Nat × Value)} {r : Array Value} {h : Hp} (hz : zOf P t = some z) (hp : partsOf (placeOf P t) parts = some l) (hb : bldV z.cells l = some r)
    (hl : layoutOk P t = true) (ps : Array (Nat × Value)) (hps : ps.toList = parts) : (Instr.build t ps).rd P h = some (.agg r) := by
  unfold Instr.build
  rw [rd_seq (rd_zero hz)]
  unfold layoutOk at hl
  split at hl
  · rename_i fs hu
    have hpl : placeOf P t = fun i => (fs[i]?).map fun f => (f.offset, szOf P f.type) := by
      funext i; unfold placeOf; rw [hu]
    have hfill := fill_of_bld (placeOf P t) parts l z.cells r hp hb
    rw [rd_seq (by rw [rd_underlying]; exact hu)]
    simp only
    have hm : (fs.mapM fun f => do Pure.pure (f.offset, ← sizeOf f.type) : Sem (Array (Nat × Nat))).rd P h = some (fs.map fun f => (f.offset, szOf P f.type)) :=
      rd_mapM fs fun f hf => by
        rw [rd_seq (rd_size (List.all_eq_true.1 hl f hf))]; rfl
    rw [rd_seq hm]
    have : (fun i => (fs.map fun f => (f.offset, szOf P f.type))[i]?) = placeOf P t := by rw [hpl]; funext i; simp
    rw [this, hps, hfill]
    rfl
  · rename_i n e hu
    have hpl : placeOf P t = fun i => some (i * szOf P e, szOf P e) := by funext i; unfold placeOf; rw [hu]
    have hfill := fill_of_bld (placeOf P t) parts l z.cells r hp hb
    rw [rd_seq (by rw [rd_underlying]; exact hu)]
    simp only
    rw [rd_seq (rd_size hl), hps, ← hpl, hfill]
    rfl
  · cases hl

theorem vc_buildSlice {P : Program} {t e : TypeId} {n : Nat} {z : Value} {l : List (Nat × Nat × Value)} {c : Array Value} {K : Value → Hp → Prop} {h : Hp} (ps : Array (Nat × Value)) (ht : P.underlying t = some (.slice e)) (hz : zOf P e = some z)
    (hp : partsOf (fun i => some (i * szOf P e, szOf P e)) ps.toList = some l) (hn : n * szOf P e ≤ 2 ^ 24) (hb : bldV ((Array.range (n * szOf P e)).map fun i => z.cells[i % z.cells.size]!) l = some c)
    (hk : ∀ r, h r = none → K (.slice (some ⟨r, 0, none⟩) n n) (h.upd r (.cells c e (0, 0)))) : (Instr.buildSlice t n ps).vc P K h := by
  unfold Instr.buildSlice
  have he : (P.info? e).isSome = true := by
    unfold zOf at hz
    cases hi : P.info? e with
    | none => rw [hi] at hz; cases hz
    | some i => rfl
  refine vc_rd_bind (by rw [rd_underlying]; exact ht) ?_
  simp only
  refine vc_rd_bind (rd_size he) ?_
  rw [if_neg (by omega)]
  have hfill := fill_of_bld (fun i => some (i * szOf P e, szOf P e)) ps.toList l _ c hp hb
  by_cases h0 : n * szOf P e = 0
  · rw [if_pos h0]
    refine vc_rd_bind rd_pure ?_
    have : ((Array.range (n * szOf P e)).map fun i => (#[] : Array Value)[i % (#[] : Array Value).size]!) = ((Array.range (n * szOf P e)).map fun i => z.cells[i % z.cells.size]!) := by rw [h0]; simp
    rw [this, hfill]
    exact hk
  · rw [if_neg h0]
    refine vc_rd_bind (rd_zero hz) ?_
    refine vc_rd_bind rd_pure ?_
    rw [hfill]
    exact hk

theorem vc_makeSlice {P : Program} {t e : TypeId} {i : TypeInfo} {z l c : Value} {K : Value → Hp → Prop} {h : Hp} (ht : P.underlying t = some (.slice e)) (hi : P.info? e = some i) (hz : zOf P e = some z)
    (hh : vA (msV i.bytes i.size e z.cells l c) K h) : (Instr.makeSlice t l c).vc P K h := by
  unfold msV at hh
  split at hh
  · rename_i k1 l k2 c
    split at hh
    · rename_i hc
      obtain ⟨h1, h2, h3, h4⟩ := hc
      have wl : IntKind.i64.wrap l = l := by rw [IntKind.wrap_i64]; omega
      have wc : IntKind.i64.wrap c = c := by rw [IntKind.wrap_i64]; omega
      unfold Instr.makeSlice
      refine vc_rd_bind (by rw [rd_underlying]; exact ht) ?_
      simp only
      refine vc_rd_bind rd_asInt ?_
      refine vc_rd_bind rd_asInt ?_
      refine vc_rd_bind (by rw [rd_typeInfo]; exact hi) ?_
      simp only [wl, wc]
      have hb : (i.bytes : Int) * c ≤ 2 ^ 48 := by
        rw [Int.mul_comm]; omega
      rw [if_neg (by simp only [Bool.or_eq_true, decide_eq_true_eq]; omega)]
      have hroom : (askRoom (c.toNat * i.bytes)).rd P h = some () := by
        unfold askRoom; split <;> rfl
      refine vc_rd_bind hroom ?_
      refine vc_rd_bind (rd_size (by rw [hi]; rfl)) ?_
      have hsz := info_size hi
      rw [hsz]
      by_cases h0 : c.toNat * i.size = 0
      · rw [if_pos h0]
        refine vc_rd_bind rd_pure ?_
        have : ((Array.range (c.toNat * i.size)).map fun j => (#[] : Array Value)[j % (#[] : Array Value).size]!) = ((Array.range (c.toNat * i.size)).map fun j => z.cells[j % z.cells.size]!) := by rw [h0]; simp
        rw [this]
        exact hh
      · rw [if_neg h0]
        refine vc_rd_bind (rd_zero hz) ?_
        refine vc_rd_bind rd_pure ?_
        exact hh
    · exact hh.elim
  · exact hh.elim

end Go.Sl
namespace Go.Sl

theorem callFunc_bodied {P : Program} {f : FuncId} {args : Array Value} {K : Value → Hp → Prop} {h : Hp} (hb : bodied P f = true) (hh : CallH P f args K h) : rawWp P (callFunc f args) K h := by
  unfold bodied at hb
  cases hf : P.funcs[f]? with
  | none => rw [hf] at hb; cases hb
  | some fn =>
    rw [hf] at hb
    simp only [Bool.and_eq_true, Bool.not_eq_true'] at hb
    unfold callFunc
    refine vc_rd_bind (s := program) (a := P) rfl ?_
    rw [hf]
    simp only [hb.2, Bool.false_eq_true, if_false]
    cases hbd : fn.body with
    | none => rw [hbd] at hb; cases hb.1
    | some c =>
      simp only [Option.isNone_some, Bool.false_eq_true, if_false]
      exact hh

theorem gn_raw {P : Program} {s : Sem Next} {K : Value → Hp → Prop} {h : Hp} (hh : gnW P s K h) : rawWp P s K h := hh

theorem denBuiltin_sound {P : Program} {b : Builtin} {ts : Array TypeId} {t : TypeId} {cs : Array Bool} {args : Array Value} {K : Value → Hp → Prop} {h : Hp} {raw : Den}
    (hraw : raw.wp K h → rawWp P (builtin b ts t cs args) K h) (hh : (denBuiltin P b ts t args.toList raw).wp K h) : rawWp P (builtin b ts t cs args) K h := by
  have h1 : ∀ x, args.toList = [x] → args = #[x] := fun x e => Array.ext' (by simpa using e)
  have h2 : ∀ x y, args.toList = [x, y] → args = #[x, y] := fun x y e => Array.ext' (by simpa using e)
  unfold denBuiltin at hh
  split at hh
  · rename_i x ha
    have ha := h1 x ha
    subst ha
    split at hh <;> rename_i hu <;> first | (cases h0 : ts[0]? <;> rw [h0] at hu <;> first | (cases hu; done) | skip) | skip
    · simp only [Den.wp, vP_iff] at hh
      obtain ⟨v, hv, hK⟩ := hh
      exact wp_value (rd_lenV h0 hu hv) hK
    · simp only [Den.wp, vP_iff] at hh
      obtain ⟨v, hv, hK⟩ := hh
      exact wp_value (rd_lenS h0 hu hv) hK
    · simp only [Den.wp, vP_iff] at hh
      obtain ⟨v, hv, hK⟩ := hh
      exact wp_value (rd_lenM h0 hu hv) hK
    · exact hraw hh
    · exact hraw hh
  · rename_i x ha
    have ha := h1 x ha
    subst ha
    split at hh <;> rename_i hu <;> first | (cases h0 : ts[0]? <;> rw [h0] at hu <;> first | (cases hu; done) | skip) | skip
    · simp only [Den.wp, vP_iff] at hh
      obtain ⟨v, hv, hK⟩ := hh
      exact wp_value (rd_capV h0 hu hv) hK
    · exact hraw hh
    · exact hraw hh
  · rename_i x ha
    have ha := h1 x ha
    subst ha
    exact wp_value_vc hh
  · rename_i x y ha
    have ha := h2 x y ha
    subst ha
    simp only [Den.wp, vP_iff] at hh
    obtain ⟨v, hv, hK⟩ := hh
    exact wp_value (rd_max2 ts t hv) hK
  · rename_i x y ha
    have ha := h2 x y ha
    subst ha
    simp only [Den.wp, vP_iff] at hh
    obtain ⟨v, hv, hK⟩ := hh
    exact wp_value (rd_min2 ts t hv) hK
  · rename_i x y ha
    have ha := h2 x y ha
    subst ha
    exact wp_value_vc hh
  · rename_i x y ha
    have ha := h2 x y ha
    subst ha
    exact wp_value_vc hh
  · rename_i x y ha
    have ha := h2 x y ha
    subst ha
    exact wp_value_vc hh
  · exact hraw hh

theorem resolve_func {P : Program} {ρ : Operand → Value} {f : FuncId} {args : Array Operand} {ts : Array TypeId} {t : TypeId} {h : Hp} (hρ : ρ (.func f) = .func (.func f) #[] #[]) :
    (resolve ρ ⟨.value (.func f), args, ts⟩ t).rd P h = some { target := .fn (.func f) #[], args := #[] ++ args.map ρ } := by
  unfold resolve
  simp only [hρ]
  rfl

theorem resolve_builtin {P : Program} {ρ : Operand → Value} {b : Builtin} {args : Array Operand} {ts : Array TypeId} {t : TypeId} {h : Hp} :
    (resolve ρ ⟨.builtin b, args, ts⟩ t).rd P h = some { target := .builtin b ts t (constsOf args), args := args.map ρ } := rfl

theorem resolve_invoke {P : Program} {ρ : Operand → Value} {r : Operand} {m : String} {args : Array Operand} {ts : Array TypeId} {t : TypeId} {h : Hp} :
    (resolve ρ ⟨.invoke r m, args, ts⟩ t).rd P h = some { target := .fn (.method m) #[], args := #[ρ r] ++ args.map ρ } := rfl

theorem invoke_builtin {P : Program} {b : Builtin} {args : Array Value} {ts : Array TypeId} {t : TypeId} {cs : Array Bool} {K : Value → Hp → Prop} {h : Hp} (hh : rawWp P (builtin b ts t cs args) K h) :
    rawWp P (invoke (.builtin b ts t cs) args) K h := hh

theorem invoke_method {P : Program} {m : String} {r : Value} {args : Array Value} {K : Value → Hp → Prop} {h : Hp} (hh : rawWp P (callMethod r m args) K h) :
    rawWp P (invoke (.fn (.method m) #[]) (#[r] ++ args)) K h := by
  have h2 : (#[r] ++ args).extract 1 (#[r] ++ args).size = args := by
    apply Array.ext'
    rw [Array.toList_extract, List.extract_eq_take_drop]
    simp
    exact List.take_of_length_le (by simp)
  have e : invoke (.fn (.method m) #[]) (#[r] ++ args) = callMethod r m ((#[r] ++ args).extract 1 (#[r] ++ args).size) := by
    unfold invoke
    have h1 : (#[r] ++ args)[0]? = some r := by rw [Array.getElem?_append_left (by simp)]; rfl
    simp only
    rw [h1]
  rw [e, h2]
  exact hh

theorem denCall_sound (P : Program) (ρ : Operand → Value) (hρ : ∀ f, ρ (.func f) = .func (.func f) #[] #[]) (o : Oper) (c : Call) (K : Value → Hp → Prop) (h : Hp) (hh : (denCall P ρ o c).wp K h) :
    rawWp P (do let d ← resolve ρ c o.type; invoke d.target d.args) K h := by
  obtain ⟨callee, args, ts⟩ := c
  cases callee with
  | value f =>
    cases f with
    | func f =>
      refine vc_rd_bind (resolve_func (hρ f)) ?_
      show rawWp P (callFunc f (#[] ++ args.map ρ ++ #[])) K h
      simp only [denCall, mapL_eq] at hh
      split at hh
      · rename_i hb
        have hh : CallH P f (args.map ρ) K h := hh
        exact callFunc_bodied hb (by simpa using hh)
      · have : exW P f (args.map ρ) K h := hh
        have := this.ok
        simpa using this
    | tmp t => simp only [denCall, mapL_eq] at hh; exact CallW.ok hh
    | const v => simp only [denCall, mapL_eq] at hh; exact CallW.ok hh
    | global g => simp only [denCall, mapL_eq] at hh; exact CallW.ok hh
  | invoke r m =>
    refine vc_rd_bind resolve_invoke ?_
    simp only [denCall, mapL_eq] at hh
    exact invoke_method (CallW.ok hh)
  | builtin b =>
    refine vc_rd_bind resolve_builtin ?_
    simp only [denCall, mapL_eq] at hh
    exact invoke_builtin (denBuiltin_sound (cs := constsOf args) (raw := .ef (biW P b ts o.type (constsOf args) (args.map ρ))) (fun hr => hr) (by simpa using hh))

theorem putL_set (c : Array Value) (off : Nat) (v : Value) (hv : one v = true) : putL c off v.cells.toList = c.setIfInBounds off v := by
  cases v <;> first | (cases hv; done) | rfl

theorem cells_one {v : Value} (hv : one v = true) : v.cells = #[v] := by
  cases v <;> first | (cases hv; done) | rfl

theorem wp_pu {P : Program} {s : Sem Value} {v : Option Value} {K : Value → Hp → Prop} {h : Hp} (hv : ∀ x, v = some x → s.rd P h = some x) (hh : vP v fun x => K x h) : rawWp P (do Pure.pure (Next.value (← s))) K h := by
  rw [vP_iff] at hh
  obtain ⟨x, hx, k⟩ := hh
  exact wp_value (hv x hx) k

theorem rd_loadAt {P : Program} {t : TypeId} {x v : Value} {h : Hp} (e : ((P.underlying t).map aggD) = some false) (hv : ld1 x h = some v) : (Instr.loadAt t x).rd P h = some v := by
  unfold ld1 at hv
  split at hv
  · rename_i a
    unfold Instr.loadAt
    rw [rd_seq (s := Instr.sureAddr (.pointer (some a))) (a := a) rfl]
    exact rd_loadVar1 e hv
  · cases hv

theorem rd_loadAtN {P : Program} {t : TypeId} {x v : Value} {h : Hp} (e : ((P.underlying t).map aggD) = some true) (hv : ldN (szOf P t) x h = some v) : (Instr.loadAt t x).rd P h = some v := by
  unfold ldN at hv
  split at hv
  · rename_i a
    cases hr : h.row a (szOf P t) with
    | none => rw [hr] at hv; cases hv
    | some r =>
      rw [hr] at hv
      cases hv
      unfold Instr.loadAt
      rw [rd_seq (s := Instr.sureAddr (.pointer (some a))) (a := a) rfl]
      exact rd_loadVarN e hr
  · cases hv

theorem vc_storeAt1 {P : Program} {t : TypeId} {x v : Value} {K : Value → Hp → Prop} {h : Hp} (hs : szOf P t = 1) (hh : st1 x v K h) : (Instr.storeAt t x v).vc P (fun _ => K undef) h := by
  unfold st1 at hh
  split at hh
  · rename_i a
    obtain ⟨h1, h2, c, e, hb, hl, hk⟩ := hh
    unfold Instr.storeAt
    refine vc_rd_bind (s := Instr.sureAddr (.pointer (some a))) (a := a) rfl ?_
    refine vc_storeVar (szOf_pos (by omega)) hb h2 (by rw [cells_one h1, hs]; rfl) (by rw [cells_one h1]; simp [h1]) (by omega) ?_
    rw [putL_set _ _ _ h1]
    exact hk
  · exact hh.elim

theorem vc_storeAtN {P : Program} {t : TypeId} {x v : Value} {K : Value → Hp → Prop} {h : Hp} (hi : (P.info? t).isSome = true) (hh : stN (szOf P t) x v K h) : (Instr.storeAt t x v).vc P (fun _ => K undef) h := by
  unfold stN at hh
  split at hh
  · rename_i a
    obtain ⟨h0, h1, h2, c, e, hb, hl, hk⟩ := hh
    unfold Instr.storeAt
    refine vc_rd_bind (s := Instr.sureAddr (.pointer (some a))) (a := a) rfl ?_
    exact vc_storeVar hi hb h2 h0 h1 hl hk
  · exact hh.elim

theorem den_sound (P : Program) (ρ : Operand → Value) (hρ : ∀ f, ρ (.func f) = .func (.func f) #[] #[]) (o : Oper) (K : Value → Hp → Prop) (h : Hp) (hh : (den P ρ o).wp K h) : rawWp P (execOp ρ o) K h := by
  unfold den at hh
  split at hh <;> rename_i ho
  case h_1 x => unfold execOp; rw [ho]; exact hh
  case h_2 x => unfold execOp; rw [ho]; exact hh
  case h_3 c a b => unfold execOp; rw [ho]; exact wp_pick hh
  case h_4 e => unfold execOp; rw [ho]; exact wp_value_vc (wp_alloc hh)
  case h_5 e x => unfold execOp; rw [ho]; exact wp_value_vc hh
  case h_6 t ps =>
    unfold execOp; rw [ho]
    refine wp_pu (v := _) (fun x hx => ?_) hh
    split at hx
    · rename_i z l hz hl
      split at hx
      · rename_i hlay
        cases hb : bldV z.cells l with
        | none => rw [hb] at hx; cases hx
        | some r => rw [hb] at hx; cases hx; exact rd_build hz hl hb hlay _ (by simp)
      · cases hx
    · cases hx
  case h_7 t n ps =>
    unfold execOp; rw [ho]
    refine wp_value_vc ?_
    simp only [Den.wp] at hh
    split at hh
    · rename_i e hu
      split at hh
      · rename_i z l hz hl
        split at hh
        · rename_i hn
          rw [zerosL_eq] at hh
          have hn : n * szOf P e ≤ 2 ^ 24 := Nat.le_of_ble_eq_true hn
          cases hb : bldV ((Array.range (n * szOf P e)).map fun i => z.cells[i % z.cells.size]!) l with
          | none => rw [hb] at hh; exact hh.elim
          | some c => rw [hb] at hh; exact vc_buildSlice _ hu hz (by simpa using hl) hn hb hh
        · exact hh.elim
      · exact hh.elim
    · exact hh.elim
  case h_8 t x =>
    unfold execOp; rw [ho]
    split at hh
    · rename_i d hu
      cases ha : aggD d with
      | true =>
        rw [ha] at hh
        exact wp_pu (fun v hv => rd_loadAtN (by rw [hu]; exact congrArg some ha) hv) hh
      | false =>
        rw [ha] at hh
        exact wp_pu (fun v hv => rd_loadAt (by rw [hu]; exact congrArg some ha) hv) hh
    · exact hh.elim
  case h_9 t a x =>
    split at hh
    · rename_i d hu
      unfold execOp; rw [ho]
      cases hc : (!aggD d && Nat.beq (szOf P t) 1) with
      | true =>
        rw [hc] at hh
        simp only [Bool.and_eq_true] at hc
        exact wp_unit_vc (vc_storeAt1 (Nat.eq_of_beq_eq_true hc.2) hh)
      | false =>
        rw [hc] at hh
        exact wp_unit_vc (vc_storeAtN (isSome_info_of_underlying hu) hh)
    · exact hh
  case h_10 x =>
    simp only [Den.wp, vP_iff] at hh
    obtain ⟨v, hv, hk⟩ := hh
    exact rd_vc (rd_nil ho hv) hk
  case h_11 t x y yt =>
    have e : execOp ρ o = (do Pure.pure (Next.value (← (do eqGuard .eql t x y (ρ x) (ρ y); binOp .eql t (ρ x) (ρ y) : Sem Value)))) := by unfold execOp; rw [ho]
    have := wp_eq (neg := false) (t := t) (x := x) (y := y) (ρ := ρ) (other := .ef (gnW P (execOp ρ o))) (K := K) (h := h) (fun hr => by rw [show (if false = true then BinOp.neq else BinOp.eql) = .eql from rfl, ← e]; exact hr) hh
    rw [e]
    exact this
  case h_12 t x y yt =>
    have e : execOp ρ o = (do Pure.pure (Next.value (← (do eqGuard .neq t x y (ρ x) (ρ y); binOp .neq t (ρ x) (ρ y) : Sem Value)))) := by unfold execOp; rw [ho]
    have := wp_eq (neg := true) (t := t) (x := x) (y := y) (ρ := ρ) (other := .ef (gnW P (execOp ρ o))) (K := K) (h := h) (fun hr => by rw [show (if true = true then BinOp.neq else BinOp.eql) = .neq from rfl, ← e]; exact hr) hh
    rw [e]
    exact this
  case h_13 op t x y yt h1 h2 =>
    unfold execOp; rw [ho]
    refine wp_pu (v := _) (fun v hv => ?_) hh
    have hg : (eqGuard op t x y (ρ x) (ρ y)).rd P h = some () := by
      unfold eqGuard
      cases op <;> first | rfl | exact (h1 rfl).elim | exact (h2 rfl).elim
    rw [rd_seq hg]
    exact rd_binV t hv
  case h_14 op t x => unfold execOp; rw [ho]; exact wp_pu (fun v hv => rd_unV hv) hh
  case h_15 fn f c => unfold execOp; rw [ho]; simp only [mapL_eq] at hh; exact hh
  case h_16 t x =>
    unfold execOp; rw [ho]
    refine wp_pu (v := _) (fun v hv => ?_) hh
    split at hv
    · cases hv
    · cases hv
    · rename_i d hd hu
      cases hv
      unfold Instr.makeInterface
      rw [rd_seq (by rw [rd_underlying]; exact hu)]
      cases d <;> first | exact (hd _ rfl).elim | rfl
  case h_17 s d x =>
    split at hh
    · rename_i ds k hs hd
      unfold execOp; rw [ho]
      exact wp_pu (fun v hv => rd_convV hs hd hv) hh
    · exact hh
  case h_18 t => unfold execOp; rw [ho]; exact wp_value_vc hh
  case h_19 t l c =>
    unfold execOp; rw [ho]
    refine wp_value_vc ?_
    simp only [Den.wp] at hh
    split at hh
    · rename_i e hu
      split at hh
      · rename_i i z hi hz
        exact vc_makeSlice hu hi hz hh
      · exact hh.elim
    · exact hh.elim
  case h_20 t x lo hi mx =>
    split at hh
    · rename_i e hu
      split at hh
      · rename_i hi
        unfold execOp; rw [ho]
        exact wp_pu (fun v hv => rd_slV hu hi hv) hh
      · exact hh
    · rename_i n e hu
      split at hh
      · rename_i hi
        unfold execOp; rw [ho]
        exact wp_pu (fun v hv => rd_slA hu hi hv) hh
      · exact hh
    · exact hh
  case h_21 t x f =>
    split at hh
    · rename_i fs hu
      split at hh
      · rename_i fd hf
        split at hh
        · exact hh
        · rename_i hz
          have hz : szOf P fd.type ≠ 0 := fun e => hz (by rw [e]; rfl)
          unfold execOp; rw [ho]
          exact wp_pu (fun v hv => rd_faV (t := t) (f := f) (off := fd.offset) (sz := szOf P fd.type) (by rw [hu]; simp [hf]) hz hv) hh
      · exact hh
    · exact hh
  case h_22 t x i =>
    split at hh
    · rename_i e hu
      split at hh
      · rename_i hi
        unfold execOp; rw [ho]
        exact wp_pu (fun v hv => rd_iaS hu hi hv) hh
      · exact hh
    · rename_i n e hu
      split at hh
      · rename_i hi
        unfold execOp; rw [ho]
        exact wp_pu (fun v hv => rd_iaA hu hi hv) hh
      · exact hh
    · exact hh
  case h_23 t x i =>
    split at hh
    · rename_i n e hu
      split at hh
      · rename_i d hd
        unfold execOp; rw [ho]
        exact wp_pu (fun v hv => rd_ixA hu hd hv) hh
      · exact hh
    · exact hh
  case h_24 t x f =>
    split at hh
    · rename_i fs hu
      split at hh
      · rename_i fd hf
        split at hh
        · rename_i d hd
          unfold execOp; rw [ho]
          refine wp_pu (fun v hv => ?_) hh
          unfold fdV at hv
          split at hv
          · rename_i cs hx
            rw [hx]
            unfold Instr.field
            rw [rd_seq (by rw [rd_underlying]; exact hu)]
            simp only [hf]
            rw [rd_seq (s := asAgg (.agg cs)) (a := cs) rfl]
            exact rd_part hd hv
          · cases hv
        · exact hh
      · exact hh
    · exact hh
  case h_25 t x i ok => unfold execOp; rw [ho]; exact wp_pu (fun v hv => hv) hh
  case h_26 t m k v => unfold execOp; rw [ho]; exact wp_unit_vc hh
  case h_27 t m k v => unfold execOp; rw [ho]; exact wp_unit_vc hh
  case h_28 t m k => unfold execOp; rw [ho]; exact wp_value_vc hh
  case h_29 t m s v => unfold execOp; rw [ho]; exact wp_unit_vc hh
  case h_30 t x => unfold execOp; rw [ho]; exact wp_value_vc hh
  case h_31 it b => unfold execOp; rw [ho]; exact wp_value_vc hh
  case h_32 it => unfold execOp; rw [ho]; exact wp_pu (fun v hv => hv) hh
  case h_33 x i => unfold execOp; rw [ho]; exact wp_pu (fun v hv => rd_exV hv) hh
  case h_34 x xt t ok =>
    split at hh
    · exact hh
    · exact hh
    · rename_i d hd hu
      split at hh
      · rename_i z hz
        unfold execOp; rw [ho]
        exact wp_pu (fun v hv => rd_taV hu (fun ms e => hd ms e) hz hv) hh
      · exact hh
  case h_35 c => unfold execOp; rw [ho]; exact denCall_sound P ρ hρ o c K h hh
  case h_36 cs b => exact hh.elim
  case h_37 => exact hh

end Go.Sl
namespace Go.Sl

theorem storeV_ok1 (x v : Value) : EfOk (st1 x v) where
  mono {K K' h} hk hh := by
    unfold st1 at *
    split at hh
    · obtain ⟨h1, h2, c, e, hb, hl, hK⟩ := hh; exact ⟨h1, h2, c, e, hb, hl, hk _ _ hK⟩
    · exact hh
  frame {K h} hh g d := by
    unfold st1 at *
    split at hh
    · obtain ⟨h1, h2, c, e, hb, hl, hK⟩ := hh
      exact ⟨h1, h2, c, e, Hp.add_of_left hb, hl, _, d.upd_mem hb, by rw [Hp.upd_mem_add], hK⟩
    · exact hh.elim
  some {K h} hh := by
    unfold st1 at hh
    split at hh
    · obtain ⟨h1, h2, c, e, hb, hl, hK⟩ := hh; exact ⟨_, _, hK⟩
    · exact hh.elim

theorem storeV_okN (n : Nat) (x v : Value) : EfOk (stN n x v) where
  mono {K K' h} hk hh := by
    unfold stN at *
    split at hh
    · obtain ⟨h0, h1, h2, c, e, hb, hl, hK⟩ := hh; exact ⟨h0, h1, h2, c, e, hb, hl, hk _ _ hK⟩
    · exact hh
  frame {K h} hh g d := by
    unfold stN at *
    split at hh
    · obtain ⟨h0, h1, h2, c, e, hb, hl, hK⟩ := hh
      exact ⟨h0, h1, h2, c, e, Hp.add_of_left hb, hl, _, d.upd_mem hb, by rw [Hp.upd_mem_add], hK⟩
    · exact hh.elim
  some {K h} hh := by
    unfold stN at hh
    split at hh
    · obtain ⟨h0, h1, h2, c, e, hb, hl, hK⟩ := hh; exact ⟨_, _, hK⟩
    · exact hh.elim

theorem vc_ok (P : Program) (s : Sem Value) : EfOk fun K h => s.vc P K h where
  mono hk hh := vc_mono hk hh
  frame hh g d := vc_frame hh g d
  some hh := vc_some hh

theorem vcU_ok (P : Program) (s : Sem Unit) : EfOk fun (K : Value → Hp → Prop) h => s.vc P (fun _ => K undef) h where
  mono hk hh := vc_mono (fun _ h => hk _ h) hh
  frame hh g d := vc_frame hh g d
  some hh := by obtain ⟨_, h', hK⟩ := vc_some hh; exact ⟨_, h', hK⟩

theorem call_ok (P : Program) (f : FuncId) (args : Array Value) : EfOk (CallH P f args) where
  mono hk hh := hh.mono hk
  frame hh g d := hh.frame g d
  some hh := hh.some

theorem false_ok : EfOk fun _ _ => False where
  mono _ hh := hh
  frame hh _ _ := hh.elim
  some hh := hh.elim

theorem lenM_mono (x : Value) (h f : Hp) (v : Value) (hv : lenM x h = some v) : lenM x (h.add f) = some v := by
  unfold lenM at *
  split at hv
  · exact hv
  · rename_i r
    split at hv
    · rename_i hr; rw [Hp.add_of_left hr]; exact hv
    · cases hv
  · cases hv

theorem denBuiltin_ok (P : Program) (b : Builtin) (ts : Array TypeId) (t : TypeId) (args : List Value) (raw : Den) (hr : raw.Ok) : (denBuiltin P b ts t args raw).Ok := by
  unfold denBuiltin
  split
  · split <;> first | exact trivial | exact hr | exact fun h f v _ hv => lenM_mono _ h f v hv
  · split <;> first | exact trivial | exact hr
  · exact vc_ok P _
  · exact trivial
  · exact trivial
  · exact vc_ok P _
  · exact vc_ok P _
  · exact vc_ok P _
  · exact hr

theorem denEq_ok (P : Program) (neg : Bool) (t : TypeId) (x y : Operand) (ρ : Operand → Value) (other : Den) (hr : other.Ok) : (denEq P neg t x y ρ other).Ok := by
  unfold denEq
  split
  · split <;> first | exact trivial | exact hr
  · exact trivial
  · exact trivial
  · exact trivial
  · split <;> first | exact trivial | exact hr

theorem den_ok (P : Program) (ρ : Operand → Value) (o : Oper) : (den P ρ o).Ok := by
  have raw : (Den.ef (gnW P (execOp ρ o))).Ok := rawWp_ok P _
  unfold den
  split
  all_goals first
    | exact trivial
    | exact raw
    | exact denEq_ok P _ _ _ _ ρ _ raw
    | skip
  · split
    · rename_i d _
      cases aggD d
      · exact fun h f v _ hv => ld1_mono _ h f v hv
      · exact fun h f v _ hv => ldN_mono _ _ h f v hv
    · exact fun h f v _ hv => hv
  · split
    · rename_i d _
      cases (!aggD d && Nat.beq (szOf P _) 1)
      · exact storeV_okN _ _ _
      · exact storeV_ok1 _ _
    · exact raw
  · split <;> first | exact trivial | exact raw
  · split <;> first | exact raw | (split <;> first | exact trivial | exact raw)
  · split <;> first | exact raw | (split <;> first | exact raw | (split <;> first | exact trivial | exact raw))
  · split <;> first | exact raw | (split <;> first | exact trivial | exact raw)
  · split <;> first | exact raw | (split <;> first | exact trivial | exact raw)
  · split <;> first | exact raw | (split <;> first | exact raw | (split <;> first | exact trivial | exact raw))
  · exact fun h f v _ hv => rd_mono hv
  · exact vcU_ok P _
  · exact vcU_ok P _
  · exact vc_ok P _
  · exact vcU_ok P _
  · exact vc_ok P _
  · exact vc_ok P _
  · exact fun h f v _ hv => rd_mono hv
  · split <;> first | exact raw | (split <;> first | exact trivial | exact raw)
  · unfold denCall
    split
    · split
      · exact call_ok P _ _
      · exact CallW_ok P _
    · exact CallW_ok P _
    · exact CallW_ok P _
    · exact denBuiltin_ok P _ _ _ _ _ (rawWp_ok P _)
  · exact false_ok

def kindV (P : Program) (o : Oper) : Kind := (den P (fun _ => undef) o).kind

theorem kind_denEq (P : Program) (neg : Bool) (t : TypeId) (x y : Operand) (ρ ρ' : Operand → Value) (a b : Den) (h : a.kind = b.kind) : (denEq P neg t x y ρ a).kind = (denEq P neg t x y ρ' b).kind := by
  unfold denEq
  split
  · cases eqTags P t <;> first | exact h | rfl
  · rfl
  · rfl
  · rfl
  · split <;> first | rfl | exact h

theorem kind_denBuiltin (P : Program) (b : Builtin) (ts : Array TypeId) (t : TypeId) : ∀ (l l' : List Value), l.length = l'.length → ∀ (r r' : Den), r.kind = r'.kind → (denBuiltin P b ts t l r).kind = (denBuiltin P b ts t l' r').kind
  | [], [], _, r, r', h => by cases b <;> exact h
  | [x], [x'], _, r, r', h => by
    cases b <;> first | exact h | rfl | skip
    · simp only [denBuiltin]
      cases (ts[0]?).bind P.underlying with
      | none => exact h
      | some d => cases d <;> first | rfl | exact h
    · simp only [denBuiltin]
      cases (ts[0]?).bind P.underlying with
      | none => exact h
      | some d => cases d <;> first | rfl | exact h
  | [x, y], [x', y'], _, r, r', h => by cases b <;> first | exact h | rfl
  | x :: y :: z :: l, x' :: y' :: z' :: l', _, r, r', h => by cases b <;> exact h
  | [], _ :: _, hl, _, _, _ => by simp at hl
  | _ :: _, [], hl, _, _, _ => by simp at hl
  | [_], _ :: _ :: _, hl, _, _, _ => by simp at hl
  | _ :: _ :: _, [_], hl, _, _, _ => by simp at hl
  | [_, _], _ :: _ :: _ :: _, hl, _, _, _ => by simp at hl
  | _ :: _ :: _ :: _, [_, _], hl, _, _, _ => by simp at hl

theorem kind_den (P : Program) (ρ ρ' : Operand → Value) (o : Oper) : (den P ρ o).kind = (den P ρ' o).kind := by
  unfold den
  split
  all_goals first
    | rfl
    | exact kind_denEq P _ _ _ _ ρ ρ' _ _ rfl
    | skip
  · rename_i t x _
    cases P.underlying t with
    | none => rfl
    | some d => simp only; cases aggD d <;> rfl
  · rename_i t a x _
    cases P.underlying t with
    | none => rfl
    | some d => simp only; cases (!aggD d && Nat.beq (szOf P t) 1) <;> rfl
  · rename_i s d x _
    cases P.underlying s with
    | none => rfl
    | some ds => cases P.underlying d with
      | none => rfl
      | some dd => cases dd <;> rfl
  · rename_i t x lo hi mx _
    cases P.underlying t with
    | none => rfl
    | some d => cases d <;> first | rfl | (simp only; split <;> rfl)
  · rename_i t x f _
    cases P.underlying t with
    | none => rfl
    | some d =>
      cases d <;> first | rfl | skip
      rename_i fs
      simp only
      cases fs[f]? with
      | none => rfl
      | some fd => simp only; split <;> rfl
  · rename_i t x i _
    cases P.underlying t with
    | none => rfl
    | some d => cases d <;> first | rfl | (simp only; split <;> rfl)
  · rename_i t x i _
    cases P.underlying t with
    | none => rfl
    | some d =>
      cases d <;> first | rfl | skip
      rename_i n e
      simp only
      cases P.underlying e <;> rfl
  · rename_i t x f _
    cases P.underlying t with
    | none => rfl
    | some d =>
      cases d <;> first | rfl | skip
      rename_i fs
      simp only
      cases fs[f]? with
      | none => rfl
      | some fd => simp only; cases P.underlying fd.type <;> rfl
  · rename_i x xt t ok _
    cases P.underlying t with
    | none => rfl
    | some d =>
      cases d <;> first | rfl | skip
      all_goals (simp only; cases zOf P t <;> rfl)
  · rename_i c _
    unfold denCall
    split
    · split <;> rfl
    · rfl
    · rfl
    · exact kind_denBuiltin P _ _ _ _ _ (by simp) _ _ rfl

theorem kindOf_den (P : Program) (ρ : Operand → Value) (o : Oper) : (den P ρ o).kind = kindV P o := kind_den P _ _ o

theorem op1 {ρ ρ' : Operand → Value} {x : Operand} (h : ∀ y ∈ #[x], ρ y = ρ' y) : ρ x = ρ' x := h x (by simp)
theorem op2 {ρ ρ' : Operand → Value} {x z : Operand} (h : ∀ y ∈ #[x, z], ρ y = ρ' y) : ρ x = ρ' x ∧ ρ z = ρ' z := ⟨h x (by simp), h z (by simp)⟩
theorem op3 {ρ ρ' : Operand → Value} {x z u : Operand} (h : ∀ y ∈ #[x, z, u], ρ y = ρ' y) : ρ x = ρ' x ∧ ρ z = ρ' z ∧ ρ u = ρ' u := ⟨h x (by simp), h z (by simp), h u (by simp)⟩
theorem opPairs {ρ ρ' : Operand → Value} {ps : Array (Nat × Operand)} (h : ∀ y ∈ (ps.toList.map (·.2)).toArray, ρ y = ρ' y) : (ps.toList.map fun p => (p.1, ρ p.2)) = ps.toList.map fun p => (p.1, ρ' p.2) :=
  List.map_congr_left fun p hp => by rw [h p.2 (by simp; exact ⟨p.1, by simpa using hp⟩)]
theorem opMap {ρ ρ' : Operand → Value} {l : Array Operand} (h : ∀ y ∈ l, ρ y = ρ' y) : l.map ρ = l.map ρ' := Array.map_congr_left h

theorem denCall_congr (P : Program) (ρ ρ' : Operand → Value) (o : Oper) (c : Call) (h : ∀ x ∈ c.operands, ρ x = ρ' x) : denCall P ρ o c = denCall P ρ' o c := by
  unfold denCall
  simp only [mapL_eq]
  have ha : c.args.map ρ = c.args.map ρ' := opMap fun x hx => h x (by simp [Call.operands, hx])
  have hl : c.args.toList.map ρ = c.args.toList.map ρ' := by
    have := congrArg Array.toList ha
    simpa using this
  rw [ha, hl]
  cases hc : c.callee with
  | value f =>
    have hf : ρ f = ρ' f := h f (by simp [Call.operands, hc])
    cases f <;> simp only [hf]
  | invoke r m =>
    have hr : ρ r = ρ' r := h r (by simp [Call.operands, hc])
    simp only [hr]
  | builtin b => rfl

theorem den_congr (P : Program) (ρ ρ' : Operand → Value) (o : Oper) (h : ∀ x ∈ o.op.operands, ρ x = ρ' x) : den P ρ o = den P ρ' o := by
  by_cases hs : ∃ cs b, o.op = .select cs b
  · obtain ⟨cs, b, hs⟩ := hs
    unfold den
    rw [hs]
  · have hraw : execOp ρ o = execOp ρ' o := execOp_congr o (fun cs b e => hs ⟨cs, b, e⟩) h
    unfold den
    rw [hraw]
    split
    all_goals first | rfl | skip
    all_goals rename_i ho; rw [ho] at h; simp only [Op.operands] at h
    all_goals first
      | (rw [op1 h]; done)
      | (rw [(op2 h).1, (op2 h).2]; done)
      | (rw [(op3 h).1, (op3 h).2.1, (op3 h).2.2]; done)
      | (rw [opPairs h]; done)
      | (unfold denEq; rw [(op2 h).1, (op2 h).2]; done)
      | exact denCall_congr P ρ ρ' o _ h
      | skip
    · rename_i fn f c
      rw [mapL_eq, mapL_eq, mapL_eq, mapL_eq, opMap (fun x hx => h x (by simp [hx])), opMap (fun x hx => h x (by simp [hx]))]
    · rename_i t x lo hi mx
      have e1 : ρ x = ρ' x := h x (by simp)
      have e2 : lo.map ρ = lo.map ρ' := by cases lo with
        | none => rfl
        | some y => exact congrArg some (h y (by simp))
      have e3 : hi.map ρ = hi.map ρ' := by cases hi with
        | none => rfl
        | some y => exact congrArg some (h y (by simp))
      have e4 : mx.map ρ = mx.map ρ' := by cases mx with
        | none => rfl
        | some y => exact congrArg some (h y (by simp))
      rw [e1, e2, e3, e4]

/-- The system of the nice forms. -/
def sys (P : Program) : Sys P where
  D := den P
  kind := kindV P
  ok := den_ok P
  kindOf := kindOf_den P
  sound σ o K h hh := den_sound P (ev σ) (fun _ => rfl) o K h hh
  congr ρ ρ' o h := den_congr P ρ ρ' o h
  mv ρ o x h := by
    unfold den
    cases ho : o.op <;> rw [ho] at h <;> simp only [mvOf, Option.some.injEq] at h <;> first | (subst h; rfl) | cases h

/-- Is a guard's test as it is wanted? -/
def gB (v : Value) (want : Bool) : Bool := (match v with
  | .bool b => some b
  | _ => none) == some want

/-! ### A function -/

def resOne (P : Program) (σ : St) (h : Hp) : ResultVar → Option Value
  | .tmp t => some (σ t)
  | .cell a t => match P.underlying t with
    | some d => bif aggD d then ldN (szOf P t) (σ a) h else ld1 (σ a) h
    | none => none

def resAll (P : Program) (σ : St) (h : Hp) : List ResultVar → Option (List Value)
  | [] => some []
  | r :: rs => match resOne P σ h r, resAll P σ h rs with
    | some v, some vs => some (v :: vs)
    | _, _ => none

def resV (P : Program) (fn : Func) (σ : St) (h : Hp) : Option Value :=
  match resAll P σ h fn.results.toList with
  | some [v] => some v
  | some vs => some (.tuple vs.toArray)
  | none => none

def resSem (tmps : Array Value) : ResultVar → Sem Value
  | .tmp t => Pure.pure (tmps.getD t undef)
  | .cell a t => do loadVar t (← asAddr (tmps.getD a undef))

theorem results_eq (fn : Func) (tmps : Array Value) : results fn tmps = (do
    let vs ← fn.results.mapM (resSem tmps)
    Pure.pure (if h : vs.size = 1 then vs[0] else .tuple vs)) := by
  unfold results
  congr 1

theorem rd_resOne {P : Program} {n : Nat} {σ : St} {a : Act} {h : Hp} (r : Rel n σ a) : ∀ (x : ResultVar) (w : Value), resOne P σ h x = some w → (resSem a.tmps x).rd P h = some w := by
  intro x w hw
  cases x with
  | tmp t =>
    simp only [resOne] at hw
    show some (a.tmps.getD t undef) = some w
    rw [r.slot]; exact hw
  | cell b t =>
    simp only [resOne] at hw
    show (do loadVar t (← asAddr (a.tmps.getD b undef)) : Sem Value).rd P h = some w
    rw [r.slot]
    cases hu : P.underlying t with
    | none => rw [hu] at hw; cases hw
    | some d =>
      rw [hu] at hw
      simp only at hw
      cases ha : aggD d with
      | true =>
        rw [ha] at hw
        have := rd_loadAtN (t := t) (x := σ b) (v := w) (h := h) (P := P) (by rw [hu]; exact congrArg some ha) hw
        simp only [cond_true, ldN] at hw
        split at hw
        · rename_i ad hx
          rw [hx] at this ⊢
          exact this
        · cases hw
      | false =>
        rw [ha] at hw
        have := rd_loadAt (t := t) (x := σ b) (v := w) (h := h) (P := P) (by rw [hu]; exact congrArg some ha) hw
        simp only [cond_false, ld1] at hw
        split at hw
        · rename_i ad hx
          rw [hx] at this ⊢
          exact this
        · cases hw

theorem rd_resAll {P : Program} {n : Nat} {σ : St} {a : Act} {h : Hp} (r : Rel n σ a) : ∀ (l : List ResultVar) (ws : List Value), resAll P σ h l = some ws → (l.mapM (resSem a.tmps)).rd P h = some ws := by
  have := sem_lawful
  intro l
  induction l with
  | nil => intro ws hw; simp only [resAll, Option.some.injEq] at hw; subst hw; rfl
  | cons x l ih =>
    intro ws hw
    simp only [resAll] at hw
    cases h1 : resOne P σ h x with
    | none => rw [h1] at hw; cases hw
    | some v1 =>
      rw [h1] at hw
      cases h2 : resAll P σ h l with
      | none => rw [h2] at hw; cases hw
      | some vs =>
        rw [h2] at hw
        simp only [Option.some.injEq] at hw
        subst hw
        rw [List.mapM_cons, rd_seq (rd_resOne r x v1 h1), rd_seq (ih vs h2)]
        rfl

theorem rd_results {P : Program} {n : Nat} {fn : Func} {σ : St} {a : Act} {h : Hp} {v : Value} (r : Rel n σ a) (hh : resV P fn σ h = some v) : (results fn a.tmps).rd P h = some v := by
  unfold resV at hh
  cases hr : resAll P σ h fn.results.toList with
  | none => rw [hr] at hh; cases hh
  | some vs =>
    rw [hr] at hh
    have := sem_lawful
    have e : (fn.results.mapM (resSem a.tmps)).rd P h = some vs.toArray := by
      rw [Array.mapM_eq_mapM_toList, rd_map, rd_resAll r _ _ hr]; rfl
    rw [results_eq, rd_seq e]
    cases vs with
    | nil => cases hh; rfl
    | cons v1 vs => cases vs with
      | nil => cases hh; rfl
      | cons v2 vs => cases hh; rfl

/-- The results, one by one. -/
def resC (P : Program) (σ : St) (h : Hp) : List ResultVar → List Value → (List Value → Prop) → Prop
  | [], acc, k => k acc.reverse
  | r :: rs, acc, k => vP (resOne P σ h r) fun v => resC P σ h rs (v :: acc) k

theorem resC_all {P : Program} {σ : St} {h : Hp} {k : List Value → Prop} : ∀ (l : List ResultVar) (acc : List Value), resC P σ h l acc k → ∃ vs, resAll P σ h l = some vs ∧ k (acc.reverse ++ vs)
  | [], acc, hh => ⟨[], rfl, by simpa [resC] using hh⟩
  | r :: rs, acc, hh => by
    simp only [resC, vP_iff] at hh
    obtain ⟨v, hv, hh⟩ := hh
    obtain ⟨vs, hvs, hk⟩ := resC_all rs (v :: acc) hh
    exact ⟨v :: vs, by simp [resAll, hv, hvs], by simpa using hk⟩

def one1 : List Value → Value
  | [v] => v
  | vs => .tuple vs.toArray

theorem resV_of {P : Program} {fn : Func} {σ : St} {h : Hp} {vs : List Value} (hr : resAll P σ h fn.results.toList = some vs) : resV P fn σ h = some (one1 vs) := by
  unfold resV
  rw [hr]
  cases vs with
  | nil => rfl
  | cons v vs => cases vs <;> rfl

/-- What is to be shown of a function's body. -/
def fnPost (P : Program) (fn : Func) (K : Value → Hp → Prop) : Post := fun e σ h =>
  match e with
  | .normal | .ret => resC P σ h fn.results.toList [] fun vs => K (one1 vs) h
  | _ => False

def fnVC (P : Program) (fn : Func) (x : Ann) (args : List Value) (K : Value → Hp → Prop) (h : Hp) : Prop :=
  match fn.body with
  | some c => VC (sys P) c x (fnPost P fn K) (fun t => args.getD t undef) h
  | none => False

def fnOk (P : Program) (fn : Func) (x : Ann) (n : Nat) : Bool :=
  decide (n ≤ fn.ntmps) && (match fn.body with
  | some c => annOk (sys P) fn.ntmps c x
  | none => false)

/-- A call comes to what its body comes to. -/
theorem callH_of {P : Program} (hm : P.follows .mixedOrders = true) {f : FuncId} {fn : Func} (hf : P.funcs[f]? = some fn) (x : Ann) (args : List Value) (hok : fnOk P fn x args.length = true)
    {K : Value → Hp → Prop} {h : Hp} (hh : fnVC P fn x args K h) : CallH P f args.toArray K h := by
  intro w fr tg d e
  unfold fnVC at hh
  simp only [fnOk, Bool.and_eq_true, decide_eq_true_eq] at hok
  obtain ⟨hn, hok⟩ := hok
  cases hb : fn.body with
  | none => rw [hb] at hh; exact hh.elim
  | some c =>
    rw [hb] at hh hok
    simp only at hh hok
    refine calls_of_wp hf hb (wp_mono (VC_sound (sys P) hm c x (a := { tmps := args.toArray ++ Array.replicate (fn.ntmps - args.toArray.size) undef, defers := [] }) (fun l σ h hq => hq) hok ?_ d e hh) ?_)
    · refine ⟨rfl, by simp; omega, fun t => ?_⟩
      simp only [Array.getD_eq_getD_getElem?, Array.getElem?_append, List.getD_eq_getElem?_getD]
      by_cases ht : t < args.length
      · simp [ht]
      · simp only [List.size_toArray, ht, if_false, Array.getElem?_replicate]
        rw [List.getElem?_eq_none (by omega)]
        split <;> rfl
    · rintro ex a' w' ⟨σ', h', fr', r', d', e', g', hq⟩
      cases ex <;> simp only [fnPost] at hq <;> first
        | exact hq.elim
        | (obtain ⟨vs, hv, hk⟩ := resC_all _ _ hq
           refine ⟨r'.defers, _, ?_, _, h', fr', rfl, d', e', g', hk⟩
           have := rd_results r' (resV_of hv)
           exact rd_run this e'.1)

end Go.Sl
