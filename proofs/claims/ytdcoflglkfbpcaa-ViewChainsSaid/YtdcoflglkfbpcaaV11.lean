/-
  Append, copy, clear on slices that are lists.
-/
import Derived.Test.YtdcoflglkfbpcaaV10
set_option linter.unusedVariables false
set_option linter.unusedSimpArgs false
namespace Go.Sl

def elB (P : Program) (t0 e sz bytes : Nat) : Bool :=
  match P.underlying t0, P.info? e with
  | some (.slice e'), some i =>
    match i.zero with
    | some z => Nat.beq e' e && Nat.beq z.cells.size sz && Nat.beq i.size sz && Nat.beq i.bytes bytes && z.cells.toList.all one
    | none => false
  | _, _ => false

structure ElOk (P : Program) (t0 e sz bytes : Nat) : Prop where
  ok : ∃ i z, (∀ ts : Array TypeId, ts[0]? = some t0 → ElemOk P ts t0 e i z) ∧ i.size = sz ∧ i.bytes = bytes ∧ z.cells.toList.all one = true

theorem elB_ok {P : Program} {t0 e sz bytes : Nat} (h : elB P t0 e sz bytes = true) : ElOk P t0 e sz bytes := by
  unfold elB at h
  split at h
  · rename_i e' i h1 h2
    split at h
    · rename_i z h3
      simp only [Bool.and_eq_true, Nat.beq_eq] at h
      obtain ⟨⟨⟨⟨rfl, h5⟩, h6⟩, h7⟩, h8⟩ := h
      exact ⟨i, z, fun ts h0 => ⟨h0, h1, h2, h3, by rw [h5, h6]⟩, h6, h7, h8⟩
    · cases h
  · cases h

/-- A type that is no integer: append does not take it for a count. -/
def noInt (P : Program) (t : TypeId) : Prop := ∃ d, P.underlying t = some d ∧ ∀ k, d ≠ .int k

theorem noInt_sl {P : Program} {t e : TypeId} (h : P.underlying t = some (.slice e)) : noInt P t := ⟨_, h, fun _ e => by cases e⟩

/-- Append of nothing to nothing. -/
theorem apW_nil {P : Program} {ts : Array TypeId} {t t0 t1 e : TypeId} {i : TypeInfo} {z : Value} (ok : ElemOk P ts t0 e i z) (h1 : ts[1]? = some t1) (hd : noInt P t1)
    {xc : Nat} {xa : Option Addr} {K : Value → Hp → Prop} {h : Hp} {new : Array Value} (hsrc : srcOf i.size 0 (.slice xa 0 xc) h = some new) (hk : K (.slice none 0 0) h) :
    apW P ts t (.slice none 0 0) (.slice xa 0 xc) K h := by
  obtain ⟨d, hd, hn1⟩ := hd
  unfold apW Builtin.append_
  simp only [ok.at0, h1]
  show Sem.vc P (do let d ← underlying t0; _) K h
  refine vc_rd_bind (by rw [rd_underlying]; exact ok.sl) ?_
  simp only
  refine vc_rd_bind (rd_size (by rw [ok.info]; rfl)) ?_
  rw [info_size ok.info]
  refine vc_rd_bind (by rw [rd_underlying]; exact hd) ?_
  refine vc_rd_bind (a := false) (by cases d <;> first | exact (hn1 _ rfl).elim | rfl) ?_
  simp only [Bool.false_eq_true, if_false]
  refine vc_rd_bind (a := 0) rfl ?_
  rw [if_pos (show 0 + 0 ≤ 0 by omega)]
  simp only [Bool.not_false, if_true]
  exact vc_rd_bind (rd_firstCells hsrc) hk

variable {α : Type} {e : Enc α}

theorem ap_SL {P : Program} {ts : Array TypeId} {t t0 t1 E sz bytes : Nat} (ok : ElOk P t0 E sz bytes) (h0 : ts[0]? = some t0) (h1 : ts[1]? = some t1) (hd : noInt P t1) (he : sz = e.sz) (hbp : 0 < bytes)
    {sv : Value} {l m : List α} {F : Asrt} {K : Value → Hp → Prop} {h : Hp} {xa : Option Addr} {n xc : Nat} (hh : (SL e E sv l * (F * tt)) h)
    (hsrc : srcOf sz n (.slice xa n xc) h = some (e.cs m).toArray) (hm : n = m.length) (hb : (2 * (l.length + m.length) + 256) * bytes ≤ 281474976710656)
    (hk : ∀ v h', (SL e E v (l ++ m) * (F * tt)) h' → K v h') : apW P ts t sv (.slice xa n xc) K h := by
  obtain ⟨i, z, okk, hsz, hby, _⟩ := ok.ok
  clear ok
  have ok := okk ts h0
  subst hsz; subst hby; subst hm
  have hcs : (e.cs m).toArray.size = m.length * i.size := by rw [he]; simp [e.cs_length]
  obtain ⟨d, hd, hn1⟩ := hd
  rcases SL_elim e hh with ⟨rfl, rfl, hF⟩ | ⟨r, cap, post, rfl, h2, h3, h4, hp⟩
  · rcases Nat.eq_zero_or_pos m.length with hm0 | hm0
    · rw [hm0] at hsrc ⊢
      refine apW_nil ok h1 ⟨d, hd, hn1⟩ hsrc ?_
      have : m = [] := List.length_eq_zero_iff.1 hm0
      subst this
      exact hk _ _ (SL_nil e hF)
    · refine apW_grow ok h1 hd hn1 (old := #[]) hF (by omega) (by simpa using hb) hbp rfl hsrc ?_
      intro cap' r spare h' hc1 hc2 hsp hp'
      refine hk _ _ ?_
      have hq := SL_intro e (l := m) (post := spare.toList) (n := m.length) rfl (by omega) hc2 (by rw [Array.length_toList (xs := spare), hsp, ← he]; simp) (h := h') (E := E) (r := r) (F := F * tt) ?_
      · simpa using hq
      · refine asr ?_ hp'
        congr 3
        apply Array.ext'
        simp [Enc.arr]
  · by_cases hfit : l.length + m.length ≤ cap
    · have hsz : m.length * e.sz ≤ post.length := Nat.le_trans (Nat.mul_le_mul_right _ (by omega)) h4
      refine apW_fit ok h1 hd hn1 hp hfit hsrc (e.cs_one m) hcs (by rw [e.arr_size, he, Nat.add_mul]; omega) ?_
      intro h' hp'
      refine hk _ _ ?_
      have hlen : (l ++ m).length = l.length + m.length := by simp
      refine SL_intro e (by rw [hlen]) (by omega) h3 (post := post.drop (m.length * e.sz)) ?_ ?_
      · rw [List.length_drop, hlen, show cap - (l.length + m.length) = cap - l.length - m.length by omega, Nat.sub_mul]
        omega
      · rw [Nat.zero_add, he, e.arr_app (by omega)] at hp'
        exact hp'
    · have hold := src_all e (n := l.length) (pt_get hp) (by omega) l.length (cap := cap)
      rw [List.take_length, ← he] at hold
      refine apW_grow ok h1 hd hn1 hp (by omega) hb hbp hold hsrc ?_
      intro cap' r' spare h' hc1 hc2 hsp hp'
      refine hk _ _ ?_
      have hlen : (l ++ m).length = l.length + m.length := by simp
      refine SL_intro e (by rw [hlen]) (by omega) hc2 (post := spare.toList) (by rw [Array.length_toList (xs := spare), hsp, ← he, hlen]; exact Nat.le_refl _) ?_
      have : (e.cs l).toArray ++ (e.cs m).toArray ++ spare = e.arr (l ++ m) spare.toList := by
        apply Array.ext'
        simp [Enc.arr, e.cs_append]
      rw [this] at hp'
      have h5 : (pt r' (.cells (e.arr (l ++ m) spare.toList) E (0, 0)) * (F * tt * pt r (.cells (e.arr l post) E (0, 0)))) h' := asr (by ac_rfl) hp'
      refine star_right (fun x hx => ?_) h5
      have h6 : (F * (tt * pt r (.cells (e.arr l post) E (0, 0)))) x := asr (by ac_rfl) hx
      exact to_tt h6

end Go.Sl
