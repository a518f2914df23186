/-
  Parts of slices, made; append of zeros.
-/
import Derived.Test.YtdcoflglkfbpcaaV8
set_option linter.unusedVariables false
set_option linter.unusedSimpArgs false
namespace Go.Sl

/-- Where a part of a slice begins: at the very end it stays. -/
def cut (off i sz cap : Nat) : Nat := if cap = i then off else off + i * sz

theorem bnd_ok {k : IntKind} {i y : Nat} (h : i ≤ y) : bnd (.int k (i : Int)) y = some i := by
  show (if _ then _ else _) = _
  rw [if_pos (by omega)]; simp

theorem slB_to {n cap j : Nat} {k : IntKind} (h : j ≤ cap) : slB n cap none (some (.int k (j : Int))) none = some (0, j, cap) := by
  unfold slB
  simp only [bnd_ok h]
theorem slB_from {n cap i : Nat} {k : IntKind} (h : i ≤ n) : slB n cap (some (.int k (i : Int))) none none = some (i, n, cap) := by
  unfold slB
  simp only [bnd_ok h]
theorem slB_ft {n cap i j : Nat} {k k' : IntKind} (h : i ≤ j) (h' : j ≤ cap) : slB n cap (some (.int k (i : Int))) (some (.int k' (j : Int))) none = some (i, j, cap) := by
  unfold slB
  simp only [bnd_ok h, bnd_ok h']
theorem slB_ftm {n cap i j m : Nat} {k k' k'' : IntKind} (h : i ≤ j) (h' : j ≤ m) (h'' : m ≤ cap) : slB n cap (some (.int k (i : Int))) (some (.int k' (j : Int))) (some (.int k'' (m : Int))) = some (i, j, m) := by
  unfold slB
  simp only [bnd_ok h, bnd_ok h', bnd_ok h'']

theorem cut_ptr {b off i sz cap : Nat} : (if cap = i then some (⟨b, off, none⟩ : Addr) else (some (⟨b, off, none⟩ : Addr)).map (·.add (i * sz))) = some ⟨b, cut off i sz cap, none⟩ := by
  unfold cut
  split <;> simp [add_mk]

theorem slV_of {sz b off n cap i j m : Nat} {lo hi mx : Option Value} (h : slB n cap lo hi mx = some (i, j, m)) : slV sz (.slice (some ⟨b, off, none⟩) n cap) lo hi mx = some (.slice (some ⟨b, cut off i sz m, none⟩) (j - i) (m - i)) := by
  show (slB n cap lo hi mx).map _ = _
  rw [h]
  show some (Value.slice _ _ _) = _
  rw [cut_ptr]

theorem sl_to {sz b off n cap j : Nat} {k : IntKind} (h : j ≤ cap) : slV sz (.slice (some ⟨b, off, none⟩) n cap) none (some (.int k (j : Int))) none = some (.slice (some ⟨b, off, none⟩) j cap) := by
  rw [slV_of (slB_to h)]
  simp [cut]
theorem sl_from {sz b off n cap i : Nat} {k : IntKind} (h : i ≤ n) : slV sz (.slice (some ⟨b, off, none⟩) n cap) (some (.int k (i : Int))) none none = some (.slice (some ⟨b, cut off i sz cap, none⟩) (n - i) (cap - i)) :=
  slV_of (slB_from h)
theorem sl_ft {sz b off n cap i j : Nat} {k k' : IntKind} (h : i ≤ j) (h' : j ≤ cap) : slV sz (.slice (some ⟨b, off, none⟩) n cap) (some (.int k (i : Int))) (some (.int k' (j : Int))) none = some (.slice (some ⟨b, cut off i sz cap, none⟩) (j - i) (cap - i)) :=
  slV_of (slB_ft h h')
theorem sl_ftm {sz b off n cap i j m : Nat} {k k' k'' : IntKind} (h : i ≤ j) (h' : j ≤ m) (h'' : m ≤ cap) : slV sz (.slice (some ⟨b, off, none⟩) n cap) (some (.int k (i : Int))) (some (.int k' (j : Int))) (some (.int k'' (m : Int))) = some (.slice (some ⟨b, cut off i sz m, none⟩) (j - i) (m - i)) :=
  slV_of (slB_ftm h h' h'')

theorem slN_to {sz : Nat} {k : IntKind} : slV sz (.slice none 0 0) none (some (.int k 0)) none = some (.slice none 0 0) := rfl
theorem slN_from {sz : Nat} {k : IntKind} : slV sz (.slice none 0 0) (some (.int k 0)) none none = some (.slice none 0 0) := rfl
theorem slN_ft {sz : Nat} {k k' : IntKind} : slV sz (.slice none 0 0) (some (.int k 0)) (some (.int k' 0)) none = some (.slice none 0 0) := rfl
theorem slN_ftm {sz : Nat} {k k' k'' : IntKind} : slV sz (.slice none 0 0) (some (.int k 0)) (some (.int k' 0)) (some (.int k'' 0)) = some (.slice none 0 0) := rfl

/-- The elements of a part, read. -/
theorem src_part {α : Type} (e : Enc α) {b i n cap cc xc : Nat} {l : List α} {post : List Value} {h : Hp} {E : TypeId} (hb : h b = some (.cells (e.arr l post) E (0, 0))) (hi : i + n ≤ l.length) (hc : l.length ≤ cc) :
    srcOf e.sz n (.slice (some ⟨b, cut 0 i e.sz cc, none⟩) cap xc) h = some (e.cs ((l.drop i).take n)).toArray := by
  unfold srcOf Hp.row cut
  simp only [hb, Option.bind_some]
  have hsz : i * e.sz + n * e.sz ≤ l.length * e.sz := by rw [← Nat.add_mul]; exact Nat.mul_le_mul_right _ hi
  unfold rowIn
  by_cases hq : cc = i
  · have hn : n = 0 := by omega
    subst hn
    rw [if_pos hq]
    simp [Enc.cs]
  · rw [if_neg hq, Nat.zero_add]
    have h1 : decide (i * e.sz + n * e.sz ≤ (e.arr l post).size) = true := by rw [decide_eq_true_eq, e.arr_size]; omega
    simp only [h1, Option.isNone_none, Bool.and_self, if_true]
    have := e.arr_extract (post := post) hi
    rw [Nat.add_mul] at this
    rw [this]

theorem src_all {α : Type} (e : Enc α) {b n cap : Nat} {l : List α} {post : List Value} {h : Hp} {E : TypeId} (hb : h b = some (.cells (e.arr l post) E (0, 0))) (hn : n ≤ l.length) (xn : Nat) :
    srcOf e.sz n (.slice (some ⟨b, 0, none⟩) xn cap) h = some (e.cs (l.take n)).toArray := by
  have := src_part e (i := 0) (n := n) (cap := xn) (cc := l.length + 1) (xc := cap) hb (by omega) (by omega)
  simpa [cut] using this

theorem src_SL {α : Type} (e : Enc α) {E : Nat} {n xn cap : Nat} {xa : Option Addr} {l : List α} {F : Asrt} {h : Hp} (hh : (SL e E (.slice xa xn cap) l * F) h) (hn : n ≤ l.length) :
    srcOf e.sz n (.slice xa xn cap) h = some (e.cs (l.take n)).toArray := by
  rcases SL_elim e hh with ⟨h1, rfl, _⟩ | ⟨r, cap', post, h1, h2, h3, h4, hp⟩
  · cases h1
    simp [srcOf, Enc.cs]
  · cases h1
    exact src_all e (pt_get hp) hn _

theorem Enc.cs_size {α : Type} (e : Enc α) (l : List α) : (e.cs l).toArray.size = l.length * e.sz := by simp [e.cs_length]

/-- Append of zeros: a new array is made. -/
theorem apW_zero {P : Program} {ts : Array TypeId} {t t0 t1 e : TypeId} {i : TypeInfo} {z : Value} (ok : ElemOk P ts t0 e i z) (h1 : ts[1]? = some t1) {k : IntKind} (hd : P.underlying t1 = some (.int k))
    {sLen sCap : Nat} {n : Nat} {k' : IntKind} {sa : Option Addr} {K : Value → Hp → Prop} {h : Hp} {F : Asrt} {old : Array Value} (hF : F h)
    (hgrow : sCap < sLen + n) (hb : (2 * (sLen + n) + 256) * i.bytes ≤ 281474976710656) (hbp : 0 < i.bytes)
    (hold : srcOf i.size sLen (.slice sa sLen sCap) h = some old)
    (hk : ∀ (cap' r : Nat) (spare : Array Value) (h' : Hp), sLen + n ≤ cap' → cap' < 9223372036854775808 → spare.size = (cap' - sLen) * i.size → (pt r (.cells (old ++ spare) e (0, 0)) * F) h' →
      K (.slice (some ⟨r, 0, none⟩) (sLen + n) cap') h') :
    apW P ts t (.slice sa sLen sCap) (.int k' (n : Int)) K h := by
  unfold apW Builtin.append_
  simp only [ok.at0, h1]
  show Sem.vc P (do let d ← underlying t0; _) K h
  refine vc_rd_bind (by rw [rd_underlying]; exact ok.sl) ?_
  simp only
  refine vc_rd_bind (rd_size (by rw [ok.info]; rfl)) ?_
  rw [info_size ok.info]
  refine vc_rd_bind (by rw [rd_underlying]; exact hd) ?_
  refine vc_rd_bind (a := true) rfl ?_
  have hinfo : ∀ h : Hp, (typeInfo e).rd P h = some i := fun h => by rw [rd_typeInfo]; exact ok.info
  have hlen : sLen + n < 9223372036854775808 := by
    have : 2 * (sLen + n) + 256 ≤ (2 * (sLen + n) + 256) * i.bytes := Nat.le_mul_of_pos_right _ hbp
    omega
  have hw : IntKind.i64.wrap (n : Int) = n := wrap_i64 (by omega)
  refine vc_rd_bind (s := asInt (.int k' (n : Int))) (a := (n : Int)) rfl ?_
  simp only [hw]
  rw [if_neg (by omega)]
  refine vc_rd_bind (hinfo h) ?_
  rw [if_neg (by
    have h3 : n * i.bytes ≤ (2 * (sLen + n) + 256) * i.bytes := Nat.mul_le_mul_right _ (by omega)
    have h4 : ((n * i.bytes : Nat) : Int) = (n : Int) * (i.bytes : Int) := Int.natCast_mul _ _
    omega)]
  refine vc_rd_bind (a := n) (by rw [Int.toNat_natCast]; rfl) ?_
  rw [if_neg (show ¬ sLen + n ≤ sCap by omega)]
  refine vc_rd_bind (hinfo h) ?_
  have hcnd : ¬ (((sLen + n : Nat) : Int) > IntKind.i64.max ∧ (True ∨ i.bytes = 0)) := by
    rintro ⟨h, _⟩
    have : IntKind.i64.max = 9223372036854775807 := rfl
    omega
  rw [if_neg hcnd]
  refine vc_rd_bind (hinfo h) ?_
  have hnx : ¬ Builtin.nextslicecap (sLen + n) sCap * i.bytes > 2 ^ 48 := by
    have h2 := nextslicecap_le hgrow
    have h3 : Builtin.nextslicecap (sLen + n) sCap * i.bytes ≤ (2 * (sLen + n) + 256) * i.bytes := Nat.mul_le_mul_right _ h2
    omega
  rw [if_neg hnx]
  refine vc_bind.2 ?_
  show Sem.vc P (.choose _ .pure) _ h
  simp only [Sem.vc, Question.forced, Bool.false_eq_true, if_false]
  intro tp
  have hcap1 : sLen + n ≤ Question.cut (.appendCap (sLen + n) sCap e) tp := by simp only [Question.cut]; omega
  have hcap2 : Question.cut (.appendCap (sLen + n) sCap e) tp < 9223372036854775808 := by
    simp only [Question.cut]
    have := Nat.mod_lt tp (show 0 < 2 ^ 63 - (sLen + n) by omega)
    omega
  generalize Question.cut (.appendCap (sLen + n) sCap e) tp = cap' at hcap1 hcap2
  refine vc_rd_bind (hinfo h) ?_
  have hroom : (askRoom (cap' * i.bytes)).rd P h = some () := by unfold askRoom; split <;> rfl
  refine vc_rd_bind hroom ?_
  refine vc_rd_bind (rd_firstCells hold) ?_
  have hz : ∀ h : Hp, (zeroValue e).rd P h = some z := fun h => by rw [rd_zeroValue, ok.info]; exact ok.zero
  refine vc_rd_bind (a := Builtin.zeroCells z.cells n) ?_ ?_
  · simp only [Bool.not_true, Bool.false_eq_true, if_false]
    split
    · rename_i h0
      have : Builtin.zeroCells z.cells n = #[] := Array.size_eq_zero_iff.1 (by rw [zeroCells_size, ok.zsz]; exact h0)
      rw [this]; rfl
    · rw [rd_bind', hz]; rfl
  refine vc_rd_bind (hz h) ?_
  intro r hr
  refine hk cap' r (Builtin.zeroCells z.cells n ++ Builtin.zeroCells z.cells (cap' - (sLen + n))) _ hcap1 hcap2 ?_ ?_
  · rw [Array.size_append, zeroCells_size, zeroCells_size, ok.zsz, ← Nat.add_mul]
    congr 1; omega
  · have := pt_new (o := .cells (old ++ (Builtin.zeroCells z.cells n ++ Builtin.zeroCells z.cells (cap' - (sLen + n)))) e (0, 0)) hF hr
    rw [← Array.append_assoc] at this ⊢
    exact this

end Go.Sl
