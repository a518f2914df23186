/-
  Maps whose keys are numbers; calls of function values.
-/
import Derived.Test.YtdcoflglkfbpcaaV18
set_option linter.unusedVariables false
set_option linter.unusedSimpArgs false
namespace Go.Sl

/-- A function value, called. -/
theorem cv_fn {P : Program} {g : FuncId} {caps args : Array Value} {K : Value → Hp → Prop} {h : Hp} (hb : bodied P g = true) (hh : CallH P g (args ++ caps) K h) : cvW P (.func (.func g) #[] caps) args K h := by
  refine ⟨?_⟩
  unfold rawWp
  show Sem.vc P (do let d ← (Pure.pure { target := .fn (.func g) caps, args := #[] ++ args } : Sem Deferred); invoke d.target d.args) _ h
  refine vc_rd_bind (a := { target := .fn (.func g) caps, args := args }) (by rw [rd_pure]; simp) ?_
  show Sem.vc P (callFunc g (args ++ caps)) _ h
  exact callFunc_bodied hb hh

/-- An entry: its key, its value, when it was made. -/
structure Ent where
  key : Int
  val : Value
  born : Nat

def Ent.mk' (e : Ent) : MapEntry := { key := .int .i64 e.key, val := e.val, born := e.born }

def mget (es : List Ent) (k : Int) : Option Value := (es.find? fun e => e.key == k).map (·.val)

structure MapOk (es : List Ent) (c : Nat) : Prop where
  keys : es.Pairwise fun a b => a.key ≠ b.key
  borns : es.Pairwise fun a b => a.born ≠ b.born
  lt : ∀ e ∈ es, e.born < c

/-- A map from numbers: this function. -/
def MP (r : Nat) (f : Int → Option Value) : Asrt := ex fun es => ex fun c => pr (MapOk es c ∧ (∀ k, mget es k = f k)) * pt r (.map (es.map Ent.mk').toArray c)

theorem MP_elim {r : Nat} {f : Int → Option Value} {F : Asrt} {h : Hp} (hh : (MP r f * F) h) : ∃ es c, MapOk es c ∧ (∀ k, mget es k = f k) ∧ (pt r (.map (es.map Ent.mk').toArray c) * F) h := by
  obtain ⟨es, hh⟩ := ex_star.1 hh
  obtain ⟨c, hh⟩ := ex_star.1 hh
  rw [star_assoc, pr_star] at hh
  exact ⟨es, c, hh.1.1, hh.1.2, hh.2⟩

theorem MP_intro {r : Nat} {f : Int → Option Value} {F : Asrt} {h : Hp} {es : List Ent} {c : Nat} (h1 : MapOk es c) (h2 : ∀ k, mget es k = f k) (hh : (pt r (.map (es.map Ent.mk').toArray c) * F) h) : (MP r f * F) h := by
  refine ex_star.2 ⟨es, ex_star.2 ⟨c, ?_⟩⟩
  rw [star_assoc, pr_star]
  exact ⟨⟨h1, h2⟩, hh⟩

/-- A map without entries. -/
theorem MP_new {r : Nat} {F : Asrt} {h : Hp} (hh : (pt r (.map #[] 0) * F) h) : (MP r (fun _ => none) * F) h :=
  MP_intro (es := []) (c := 0) ⟨by simp, by simp, by simp⟩ (fun _ => rfl) hh

def fidx (es : List Ent) (k : Int) : Option Nat := es.findIdx? fun e => e.key == k

theorem mget_fidx : ∀ {es : List Ent} {k : Int}, mget es k = (fidx es k).bind fun i => (es[i]?).map (·.val)
  | [], k => rfl
  | e :: es, k => by
    have ih := mget_fidx (es := es) (k := k)
    unfold mget fidx at *
    rw [List.find?_cons, List.findIdx?_cons]
    cases hq : (e.key == k) with
    | true => simp
    | false =>
      simp only [Bool.false_eq_true, if_false, ih, Option.bind_map]
      cases es.findIdx? (fun e => e.key == k) <;> simp

theorem findNow_eq {q : IntKind} (k : Int) : ∀ (es : List Ent) (i : Nat), Instr.findNow (.int q) (.int .i64 k) (es.map Ent.mk') i = some ((fidx es k).bind fun j => (es[j]?).map fun e => (i + j, e.val))
  | [], i => rfl
  | e :: es, i => by
    have ih := findNow_eq (q := q) k es (i + 1)
    unfold fidx at *
    rw [List.map_cons, List.findIdx?_cons]
    show (match Instr.sameNow (.int q) (.int .i64 k) (.int .i64 e.key) with | some true => some (some (i, e.val)) | some false => Instr.findNow (.int q) (.int .i64 k) (es.map Ent.mk') (i + 1) | none => none) = _
    have hs : Instr.sameNow (.int q) (.int .i64 k) (.int .i64 e.key) = some (k == e.key) := by
      show (if IntKind.i64 = IntKind.i64 then some (k == e.key) else none) = _
      rw [if_pos rfl]
    rw [hs]
    by_cases hq : e.key = k
    · have h1 : (k == e.key) = true := by simp [hq]
      have h2 : (e.key == k) = true := by simp [hq]
      simp [h1, h2]
    · have h1 : (k == e.key) = false := by simpa using fun h => hq h.symm
      have h2 : (e.key == k) = false := by simpa using hq
      simp only [h1, h2, Bool.false_eq_true, if_false, ih]
      cases es.findIdx? (fun e => e.key == k) with
      | none => rfl
      | some j => simp; cases es[j]? <;> simp <;> omega

theorem rd_findKey {P : Program} {t : TypeId} {q : IntKind} {k : Int} {es : List Ent} {h : Hp} (ht : P.underlying t = some (.int q)) :
    (Instr.findKey t (.int .i64 k) (es.map Ent.mk')).rd P h = some ((fidx es k).bind fun j => (es[j]?).map fun e => (j, e.val)) := by
  unfold Instr.findKey
  rw [rd_bind', rd_underlying, ht]
  simp only [Option.bind_some, findNow_eq, Nat.zero_add]
  rfl

theorem rd_checkKey {P : Program} {t : TypeId} {q : IntKind} {k : Int} {b : Bool} {h : Hp} (ht : P.underlying t = some (.int q)) : (Instr.checkKey b 10000 t (.int .i64 k)).rd P h = some () := by
  unfold Instr.checkKey
  rw [rd_bind', rd_underlying, ht]
  rfl

theorem rd_getObj {P : Program} {r : Nat} {h : Hp} {es : Array MapEntry} {c : Nat} (hb : h r = some (.map es c)) : (getObj r).rd P h = some (.map es c) := by
  unfold getObj
  simp only [Sem.rd, hb]
  rfl

/-- What stands at a key. -/
theorem lk_MP {P : Program} {t tk te : TypeId} {q : IntKind} {z : Value} {r : Nat} {f : Int → Option Value} {F : Asrt} {h : Hp} {k : Int} (ht : P.underlying t = some (.map tk te)) (hk : P.underlying tk = some (.int q)) (hz : zOf P te = some z) (hh : (MP r f * F) h) :
    lkV P t (.map (some r)) (.int .i64 k) false h = some ((f k).getD z) ∧ lkV P t (.map (some r)) (.int .i64 k) true h = some (.tuple #[(f k).getD z, .bool (f k).isSome]) := by
  obtain ⟨es, c, _, hf, hp⟩ := MP_elim hh
  have hb := pt_get hp
  have key : ∀ ok : Bool, lkV P t (.map (some r)) (.int .i64 k) ok h = some (if ok then .tuple #[(f k).getD z, .bool (f k).isSome] else (f k).getD z) := fun ok => by
    unfold lkV Instr.lookup
    rw [rd_seq (by rw [rd_underlying]; exact ht)]
    simp only
    rw [rd_seq (rd_getObj hb)]
    simp only
    rw [rd_seq (a := (es.map Ent.mk').toArray) rd_pure]
    rw [rd_seq (rd_checkKey hk)]
    rw [← hf k, mget_fidx]
    have hfk := rd_findKey (P := P) (k := k) (es := es) (h := h) hk
    cases hi : fidx es k with
    | none =>
      rw [hi] at hfk
      rw [rd_seq hfk]
      simp only [Option.bind_none]
      rw [rd_seq (rd_zero hz), rd_seq (a := (z, false)) rd_pure]
      cases ok <;> rfl
    | some j =>
      rw [hi] at hfk
      have hlt : j < es.length := by
        unfold fidx at hi
        exact (List.findIdx?_eq_some_iff_getElem.1 hi).1
      simp only [Option.bind_some, List.getElem?_eq_getElem hlt, Option.map_some] at hfk ⊢
      rw [rd_seq hfk]
      simp only
      rw [rd_seq (a := (es[j].val, true)) rd_pure]
      cases ok <;> rfl
  exact ⟨key false, key true⟩

theorem lk_nilmap {P : Program} {t tk te : TypeId} {q : IntKind} {z : Value} {h : Hp} {k : Int} (ht : P.underlying t = some (.map tk te)) (hk : P.underlying tk = some (.int q)) (hz : zOf P te = some z) :
    lkV P t (.map none) (.int .i64 k) false h = some z ∧ lkV P t (.map none) (.int .i64 k) true h = some (.tuple #[z, .bool false]) := by
  have key : ∀ ok : Bool, lkV P t (.map none) (.int .i64 k) ok h = some (if ok then .tuple #[z, .bool false] else z) := fun ok => by
    unfold lkV Instr.lookup
    rw [rd_seq (by rw [rd_underlying]; exact ht)]
    simp only
    rw [rd_seq (a := (#[] : Array MapEntry)) rfl]
    rw [rd_seq (rd_checkKey hk)]
    have hfk : (Instr.findKey tk (.int .i64 k) (#[] : Array MapEntry).toList).rd P h = some none := rd_findKey (P := P) (k := k) (es := []) (h := h) hk
    rw [rd_seq (a := none) hfk]
    simp only
    rw [rd_seq (rd_zero hz), rd_seq (a := (z, false)) rd_pure]
    cases ok <;> rfl
  exact ⟨key false, key true⟩

theorem len_MP {r : Nat} {f : Int → Option Value} {F : Asrt} {h : Hp} (hh : (MP r f * F) h) : ∃ n : Nat, lenM (.map (some r)) h = some (.int .i64 n) := by
  obtain ⟨es, c, _, _, hp⟩ := MP_elim hh
  refine ⟨es.length, ?_⟩
  unfold lenM
  simp only [pt_get hp]
  simp

theorem MapOk.set {es : List Ent} {c j : Nat} {v : Value} (h : MapOk es c) (hj : j < es.length) : MapOk (es.set j { es[j] with val := v }) c := by
  have hmap : ∀ {β : Type} (p : Ent → β), (∀ e v, p { e with val := v } = p e) → (es.set j { es[j] with val := v }).map p = es.map p := fun p hp => by
    rw [List.map_set, hp, ← List.getElem_map (f := p) (h := by simpa using hj)]
    exact List.set_getElem_self ..
  refine ⟨?_, ?_, fun e he => ?_⟩
  · have := h.keys
    rw [← List.pairwise_map (f := Ent.key) (R := fun a b => a ≠ b)] at this ⊢
    rwa [hmap Ent.key (fun _ _ => rfl)]
  · have := h.borns
    rw [← List.pairwise_map (f := Ent.born) (R := fun a b => a ≠ b)] at this ⊢
    rwa [hmap Ent.born (fun _ _ => rfl)]
  · rcases List.mem_or_eq_of_mem_set he with h1 | h1
    · exact h.lt e h1
    · rw [h1]; exact h.lt es[j] (List.getElem_mem hj)

theorem fidx_set {es : List Ent} {j : Nat} {v : Value} (hj : j < es.length) (k : Int) : fidx (es.set j { es[j] with val := v }) k = fidx es k := by
  induction es generalizing j with
  | nil => simp at hj
  | cons e es ih =>
    cases j with
    | zero => simp [fidx, List.findIdx?_cons]
    | succ j =>
      simp only [List.set_cons_succ, List.getElem_cons_succ, fidx, List.findIdx?_cons]
      have := ih (j := j) (by simpa using hj)
      unfold fidx at this
      rw [this]

theorem fidx_uniq {es : List Ent} {c i j : Nat} {k : Int} (h : MapOk es c) (hi : i < es.length) (hk : es[i].key = k) (hj : fidx es k = some j) : i = j := by
  unfold fidx at hj
  obtain ⟨hjl, h1, h2⟩ := List.findIdx?_eq_some_iff_getElem.1 hj
  have h1 : es[j].key = k := by simpa using h1
  rcases Nat.lt_trichotomy i j with hlt | heq | hgt
  · have := h2 i hlt
    simp [hk] at this
  · exact heq
  · exact absurd (h1.trans hk.symm) ((List.pairwise_iff_getElem.1 h.keys) j i hjl hi hgt)

/-- A key is given a value. -/
theorem mu_MP {P : Program} {t tk te : TypeId} {q : IntKind} {r : Nat} {f : Int → Option Value} {F : Asrt} {h : Hp} {k : Int} {v : Value} {K : Value → Hp → Prop} (ht : P.underlying t = some (.map tk te)) (hk : P.underlying tk = some (.int q)) (hh : (MP r f * F) h)
    (hK : ∀ h', (MP r (fun x => if x = k then some v else f x) * F) h' → K undef h') : muW P t (.map (some r)) (.int .i64 k) v K h := by
  obtain ⟨es, c, hok, hf, hp⟩ := MP_elim hh
  have hb := pt_get hp
  unfold muW Instr.mapUpdate
  refine vc_rd_bind (by rw [rd_underlying]; exact ht) ?_
  simp only
  refine vc_rd_bind (rd_getObj hb) ?_
  simp only
  refine vc_rd_bind (rd_checkKey hk) ?_
  refine vc_rd_bind (rd_findKey hk) ?_
  cases hi : fidx es k with
  | none =>
    simp only [Option.bind_none]
    refine ⟨_, hb, rfl, hK _ ?_⟩
    refine MP_intro (es := es ++ [⟨k, v, c⟩]) (c := c + 1) ?_ ?_ ?_
    · have hnone : ∀ e ∈ es, e.key ≠ k := fun e he => by
        unfold fidx at hi
        rw [List.findIdx?_eq_none_iff] at hi
        simpa using hi e he
      refine ⟨?_, ?_, fun e he => ?_⟩
      · rw [List.pairwise_append]
        exact ⟨hok.keys, by simp, fun a ha b hb => by simp at hb; subst hb; exact hnone a ha⟩
      · rw [List.pairwise_append]
        exact ⟨hok.borns, by simp, fun a ha b hb => by simp at hb; subst hb; have := hok.lt a ha; simp only; omega⟩
      · rw [List.mem_append, List.mem_singleton] at he
        rcases he with he | rfl
        · have := hok.lt e he; omega
        · simp
    · intro x
      have hfx := hf x
      unfold mget at *
      rw [List.find?_append]
      by_cases hx : x = k
      · subst hx
        rw [if_pos rfl]
        have : es.find? (fun e => e.key == x) = none := by
          rw [List.find?_eq_none]
          intro e he
          unfold fidx at hi
          rw [List.findIdx?_eq_none_iff] at hi
          simpa using hi e he
        rw [this]
        simp
      · rw [if_neg hx, ← hfx]
        cases es.find? (fun e => e.key == x) with
        | some e => rfl
        | none =>
          have : (k == x) = false := by simpa using fun h => hx h.symm
          simp [this]
    · have := pt_upd (o' := .map ((es ++ [(⟨k, v, c⟩ : Ent)]).map Ent.mk').toArray (c + 1)) hp
      refine asr rfl ?_
      have e : (es.map Ent.mk').toArray.push { key := .int .i64 k, val := v, born := c } = ((es ++ [(⟨k, v, c⟩ : Ent)]).map Ent.mk').toArray := by simp [Ent.mk']
      rw [e]
      exact this
  | some j =>
    have hlt : j < es.length := by
      unfold fidx at hi
      exact (List.findIdx?_eq_some_iff_getElem.1 hi).1
    have hkey : es[j].key = k := by
      unfold fidx at hi
      have := (List.findIdx?_eq_some_iff_getElem.1 hi).2.1
      simpa using this
    simp only [Option.bind_some, List.getElem?_eq_getElem hlt, Option.map_some]
    have hks : (((es.map Ent.mk').toArray[j]?).map (·.key)).getD (.int .i64 k) = .int .i64 k := by
      simp [List.getElem?_eq_getElem hlt, Ent.mk', hkey]
    rw [hks]
    refine vc_rd_bind (s := Instr.keyThatStays (.int .i64 k) (.int .i64 k)) (a := .int .i64 k) ?_ ?_
    · unfold Instr.keyThatStays
      have : Instr.sameBits 10000 (.int .i64 k) (.int .i64 k) = true := by simp [Instr.sameBits]
      rw [this]
      rfl
    refine ⟨_, hb, rfl, hK _ ?_⟩
    refine MP_intro (es := es.set j { es[j] with val := v }) (c := c) (hok.set hlt) ?_ ?_
    · intro x
      rw [mget_fidx, fidx_set hlt]
      by_cases hx : x = k
      · subst hx
        rw [if_pos rfl, hi]
        simp [hlt]
      · rw [if_neg hx, ← hf x, mget_fidx]
        cases hq : fidx es x with
        | none => rfl
        | some i =>
          have hij : i ≠ j := by
            rintro rfl
            unfold fidx at hq
            have := (List.findIdx?_eq_some_iff_getElem.1 hq).2.1
            have : es[i].key = x := by simpa using this
            exact hx (this.symm.trans hkey)
          simp [List.getElem?_set_ne (fun h => hij h.symm)]
    · have := pt_upd (o' := .map ((es.set j { es[j] with val := v }).map Ent.mk').toArray c) hp
      have e : (es.map Ent.mk').toArray.modify j (fun e => { e with key := .int .i64 k, val := v }) = ((es.set j { es[j] with val := v }).map Ent.mk').toArray := by
        apply Array.ext'
        apply List.ext_getElem?
        intro i
        simp only [Array.getElem?_toList, Array.getElem?_modify, List.getElem?_toArray, List.getElem?_map, List.getElem?_set]
        by_cases hij : j = i
        · subst hij
          simp [hlt, Ent.mk', hkey]
        · simp [hij]
      rw [e]
      exact this

end Go.Sl
