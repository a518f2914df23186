/-
  The builtins append and copy.
-/
import Derived.Test.YtdcoflglkfbpcaaV6
set_option linter.unusedVariables false
set_option linter.unusedSimpArgs false
namespace Go.Sl

theorem zeroCells_size (zero : Array Value) (n : Nat) : (Builtin.zeroCells zero n).size = n * zero.size := by simp [Builtin.zeroCells]

theorem growBy_le (newLen : Nat) : ∀ (rounds c : Nat), c ≤ newLen + (newLen + 768) / 4 → Builtin.growBy newLen rounds c ≤ newLen + (newLen + 768) / 4
  | 0, c, h => by simpa [Builtin.growBy] using h
  | r + 1, c, h => by
    simp only [Builtin.growBy]
    split
    · exact h
    · exact growBy_le newLen r _ (by omega)

theorem nextslicecap_le {need cap : Nat} (h : cap < need) : Builtin.nextslicecap need cap ≤ 2 * need + 256 := by
  unfold Builtin.nextslicecap
  split
  · omega
  · split
    · omega
    · have := growBy_le need 4 cap (by omega)
      omega

/-- The first cells of a slice. -/
def srcOf (sz n : Nat) (x : Value) (h : Hp) : Option (Array Value) :=
  match x with
  | .slice (some a) _ _ => h.row a (n * sz)
  | .slice none _ _ => some #[]
  | _ => none

theorem rd_firstCells {P : Program} {sz n : Nat} {x : Value} {h : Hp} {r : Array Value} (hs : srcOf sz n x h = some r) : (Builtin.firstCells sz n x).rd P h = some r := by
  unfold srcOf at hs
  split at hs
  · exact rd_loadCells hs
  · cases hs; rfl
  · cases hs

structure ElemOk (P : Program) (ts : Array TypeId) (t0 e : TypeId) (i : TypeInfo) (z : Value) : Prop where
  at0 : ts[0]? = some t0
  sl : P.underlying t0 = some (.slice e)
  info : P.info? e = some i
  zero : i.zero = some z
  zsz : z.cells.size = i.size

theorem vc_stores {P : Program} {b off : Nat} {c : Array Value} {e : TypeId} {vs : Array Value} {β : Type} {k : Unit → Sem β} {Q : β → Hp → Prop} {h : Hp} {F : Asrt} (hF : (pt b (.cells c e (0, 0)) * F) h)
    (ho : vs.toList.all one = true) (hl : off + vs.size ≤ c.size) (hk : ∀ h', (pt b (.cells (putL c off vs.toList) e (0, 0)) * F) h' → (k ()).vc P Q h') :
    (storeCells ⟨b, off, none⟩ vs.toList >>= k).vc P Q h := by
  refine vc_bind.2 (vc_storeCells rfl vs.toList 0 h c e (pt_get hF) ho (by simpa using hl) ?_)
  have := pt_upd (o' := .cells (putL c off vs.toList) e (0, 0)) hF
  exact hk _ this

/-- Append of a slice's elements: there is room. -/
theorem apW_fit {P : Program} {ts : Array TypeId} {t t0 t1 e : TypeId} {i : TypeInfo} {z : Value} (ok : ElemOk P ts t0 e i z) (h1 : ts[1]? = some t1) {d : TypeDesc} (hd : P.underlying t1 = some d) (hn1 : ∀ k, d ≠ .int k)
    {b off sLen sCap n xc : Nat} {xa : Option Addr} {K : Value → Hp → Prop} {h : Hp} {F : Asrt} {c new : Array Value} {e' : TypeId}
    (hF : (pt b (.cells c e' (0, 0)) * F) h) (hfit : sLen + n ≤ sCap) (hsrc : srcOf i.size n (.slice xa n xc) h = some new) (hone : new.toList.all one = true) (hsize : new.size = n * i.size) (hc : off + (sLen + n) * i.size ≤ c.size)
    (hk : ∀ h', (pt b (.cells (putL c (off + sLen * i.size) new.toList) e' (0, 0)) * F) h' → K (.slice (some ⟨b, off, none⟩) (sLen + n) sCap) h') :
    apW P ts t (.slice (some ⟨b, off, none⟩) sLen sCap) (.slice xa n xc) K h := by
  unfold apW Builtin.append_
  simp only [ok.at0, h1]
  show Sem.vc P (do let d ← underlying t0; _) K h
  refine vc_rd_bind (by rw [rd_underlying]; exact ok.sl) ?_
  simp only
  refine vc_rd_bind (rd_size (by rw [ok.info]; rfl)) ?_
  rw [info_size ok.info]
  refine vc_rd_bind (by rw [rd_underlying]; exact hd) ?_
  refine vc_rd_bind (a := false) (by cases d <;> first | exact (hn1 _ rfl).elim | rfl) ?_
  simp only [Bool.false_eq_true, if_false]
  refine vc_rd_bind (a := n) rfl ?_
  simp only [if_pos hfit, Bool.not_false, if_true]
  refine vc_rd_bind (rd_firstCells hsrc) ?_
  rw [add_mk]
  refine vc_stores hF hone (by rw [hsize]; rw [Nat.add_mul] at hc; omega) ?_
  exact hk

/-- Append of a slice's elements: a new array is made. -/
theorem apW_grow {P : Program} {ts : Array TypeId} {t t0 t1 e : TypeId} {i : TypeInfo} {z : Value} (ok : ElemOk P ts t0 e i z) (h1 : ts[1]? = some t1) {d : TypeDesc} (hd : P.underlying t1 = some d) (hn1 : ∀ k, d ≠ .int k)
    {sLen sCap n xc : Nat} {sa xa : Option Addr} {K : Value → Hp → Prop} {h : Hp} {F : Asrt} {old new : Array Value} (hF : F h)
    (hgrow : sCap < sLen + n) (hb : (2 * (sLen + n) + 256) * i.bytes ≤ 281474976710656) (hbp : 0 < i.bytes)
    (hold : srcOf i.size sLen (.slice sa sLen sCap) h = some old) (hsrc : srcOf i.size n (.slice xa n xc) h = some new)
    (hk : ∀ (cap' r : Nat) (spare : Array Value) (h' : Hp), sLen + n ≤ cap' → cap' < 9223372036854775808 → spare.size = (cap' - (sLen + n)) * i.size → (pt r (.cells (old ++ new ++ spare) e (0, 0)) * F) h' →
      K (.slice (some ⟨r, 0, none⟩) (sLen + n) cap') h') :
    apW P ts t (.slice sa sLen sCap) (.slice xa n xc) K h := by
  unfold apW Builtin.append_
  simp only [ok.at0, h1]
  show Sem.vc P (do let d ← underlying t0; _) K h
  refine vc_rd_bind (by rw [rd_underlying]; exact ok.sl) ?_
  simp only
  refine vc_rd_bind (rd_size (by rw [ok.info]; rfl)) ?_
  rw [info_size ok.info]
  refine vc_rd_bind (by rw [rd_underlying]; exact hd) ?_
  refine vc_rd_bind (a := false) (by cases d <;> first | exact (hn1 _ rfl).elim | rfl) ?_
  simp only [Bool.false_eq_true, if_false]
  refine vc_rd_bind (a := n) rfl ?_
  have hinfo : ∀ h : Hp, (typeInfo e).rd P h = some i := fun h => by rw [rd_typeInfo]; exact ok.info
  simp only [if_neg (show ¬ sLen + n ≤ sCap by omega), Bool.not_false, if_true]
  refine vc_rd_bind (hinfo h) ?_
  have hlen : sLen + n < 9223372036854775808 := by
    have : 2 * (sLen + n) + 256 ≤ (2 * (sLen + n) + 256) * i.bytes := Nat.le_mul_of_pos_right _ hbp
    omega
  have hcnd : ¬ (((sLen + n : Nat) : Int) > IntKind.i64.max ∧ (False ∨ i.bytes = 0)) := by
    rintro ⟨_, h | h⟩
    · exact h
    · omega
  rw [if_neg hcnd]
  refine vc_rd_bind (hinfo h) ?_
  have hnx : ¬ Builtin.nextslicecap (sLen + n) sCap * i.bytes > 2 ^ 48 := by
    have h2 := nextslicecap_le hgrow
    have h3 : Builtin.nextslicecap (sLen + n) sCap * i.bytes ≤ (2 * (sLen + n) + 256) * i.bytes := Nat.mul_le_mul_right _ h2
    omega
  rw [if_neg hnx]
  refine vc_bind.2 ?_
  show Sem.vc P (.choose _ .pure) _ h
  simp only [Sem.vc, Question.forced, Bool.false_eq_true, if_false]
  intro tp
  have hcap1 : sLen + n ≤ Question.cut (.appendCap (sLen + n) sCap e) tp := by simp only [Question.cut]; omega
  have hcap2 : Question.cut (.appendCap (sLen + n) sCap e) tp < 9223372036854775808 := by
    simp only [Question.cut]
    have := Nat.mod_lt tp (show 0 < 2 ^ 63 - (sLen + n) by omega)
    omega
  generalize Question.cut (.appendCap (sLen + n) sCap e) tp = cap' at hcap1 hcap2
  refine vc_rd_bind (hinfo h) ?_
  have hroom : (askRoom (cap' * i.bytes)).rd P h = some () := by unfold askRoom; split <;> rfl
  refine vc_rd_bind hroom ?_
  refine vc_rd_bind (rd_firstCells hold) ?_
  refine vc_rd_bind (rd_firstCells hsrc) ?_
  refine vc_rd_bind (a := z) (by rw [rd_zeroValue, ok.info]; exact ok.zero) ?_
  intro r hr
  exact hk cap' r _ _ hcap1 hcap2 (by rw [zeroCells_size, ok.zsz]) (pt_new hF hr)

/-- Copy of a slice's elements onto a slice. -/
theorem cpW_mk {P : Program} {ts : Array TypeId} {t t0 e : TypeId} {i : TypeInfo} (h0 : ts[0]? = some t0) (hsl : P.underlying t0 = some (.slice e)) (hi : P.info? e = some i)
    {b off dLen dCap n xc : Nat} {xa : Option Addr} {K : Value → Hp → Prop} {h : Hp} {F : Asrt} {c new : Array Value} {e' : TypeId}
    (hF : (pt b (.cells c e' (0, 0)) * F) h) (hsrc : srcOf i.size (min n dLen) (.slice xa n xc) h = some new) (hone : new.toList.all one = true) (hc : off + new.size ≤ c.size)
    (hk : ∀ h', (pt b (.cells (putL c off new.toList) e' (0, 0)) * F) h' → K (.int .i64 (min n dLen : Nat)) h') :
    cpW P ts t (.slice (some ⟨b, off, none⟩) dLen dCap) (.slice xa n xc) K h := by
  unfold cpW Builtin.copy_
  simp only [h0]
  show Sem.vc P (do let d ← underlying t0; _) K h
  refine vc_rd_bind (by rw [rd_underlying]; exact hsl) ?_
  simp only
  refine vc_rd_bind (s := Builtin.lenOf (.slice xa n xc)) (a := n) rfl ?_
  refine vc_rd_bind (rd_size (by rw [hi]; rfl)) ?_
  rw [info_size hi]
  refine vc_rd_bind (rd_firstCells hsrc) ?_
  refine vc_stores hF hone hc ?_
  exact hk

end Go.Sl
namespace Go.Sl

theorem zeroCells_one {z : Array Value} {n : Nat} (h : z.toList.all one = true) : (Builtin.zeroCells z n).toList.all one = true := by
  rw [List.all_eq_true] at h ⊢
  intro v hv
  simp only [Builtin.zeroCells, Array.toList_map, List.mem_map] at hv
  obtain ⟨i, hi, rfl⟩ := hv
  have hlt : i < n * z.size := by simpa using hi
  have hz : 0 < z.size := by
    rcases Nat.eq_zero_or_pos z.size with e | e
    · rw [e] at hlt; omega
    · exact e
  have hm : i % z.size < z.size := Nat.mod_lt _ hz
  rw [getElem!_pos z (i % z.size) hm]
  exact h _ (Array.mem_toList_iff.2 (Array.getElem_mem hm))

/-- Clear of a slice. -/
theorem clW_mk {P : Program} {ts : Array TypeId} {t t0 e : TypeId} {i : TypeInfo} {z : Value} (ok : ElemOk P ts t0 e i z) {b off n cap : Nat} {K : Value → Hp → Prop} {h : Hp} {F : Asrt} {c : Array Value} {e' : TypeId}
    (hF : (pt b (.cells c e' (0, 0)) * F) h) (hone : z.cells.toList.all one = true) (hc : off + n * i.size ≤ c.size)
    (hk : ∀ (zs : Array Value) (h' : Hp), zs.size = n * i.size → (pt b (.cells (putL c off zs.toList) e' (0, 0)) * F) h' → K (.tuple #[]) h') :
    clW P ts t (.slice (some ⟨b, off, none⟩) n cap) K h := by
  unfold clW Builtin.clear_
  simp only [ok.at0]
  show Sem.vc P (do let d ← underlying t0; _) K h
  refine vc_rd_bind (by rw [rd_underlying]; exact ok.sl) ?_
  cases n with
  | zero =>
    refine vc_rd_bind rd_pure ?_
    refine hk #[] h (by simp) ?_
    simpa [putL] using hF
  | succ n =>
    refine vc_rd_bind (s := zeroValue e) (a := z) (by rw [rd_zeroValue, ok.info]; exact ok.zero) ?_
    refine vc_stores hF ?_ (by rw [zeroCells_size, ok.zsz]; exact hc) ?_
    · exact zeroCells_one hone
    · exact fun h' hh => hk _ h' (by rw [zeroCells_size, ok.zsz]) hh

end Go.Sl
