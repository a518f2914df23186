/-
  How far from an object, backwards; the least way by these distances.
-/
import Derived.Test.YtdcoflglkfbpcaaVb1
import Derived.Test.YtdcoflglkfbpcaaV21
set_option linter.unusedVariables false
set_option linter.unusedSimpArgs false
namespace Go.Sl

variable {w : VW} {a : Int}

inductive Stp (w : VW) (a : Int) : Nat → Int → Prop where
  | zero : Stp w a 0 a
  | succ {n : Nat} {x y : Int} : w.edge x y → Stp w a n y → Stp w a (n + 1) x

theorem Stp.way {n : Nat} {x : Int} (h : Stp w a n x) : ∀ {q : List Int}, Way w q x → ∃ r, r.length = n ∧ Way w (q ++ r) a := by
  induction h with
  | zero => intro q hq; exact ⟨[], rfl, by rw [List.append_nil]; exact hq⟩
  | @succ n x y he _ ih =>
    intro q hq
    obtain ⟨r, h1, h2⟩ := ih (.step hq he)
    exact ⟨y :: r, by simp [h1], by rw [List.append_assoc] at h2; exact h2⟩

theorem Stp.way1 {n : Nat} {x y : Int} (he : w.edge x y) (h : Stp w a n y) {q : List Int} (hq : Way w q x) : ∃ r, r.length = n ∧ Way w (q ++ y :: r) a := by
  obtain ⟨r, h1, h2⟩ := h.way (.step hq he)
  exact ⟨r, h1, by rw [List.append_assoc] at h2; exact h2⟩

def fv (far : Int → Option Int) (x : Int) : Int := (far x).getD 0

/-- What is reached, as objects; a is one. -/
structure RA (w : VW) (a : Int) (R : List Int) : Prop where
  mem : ∀ x, x ∈ R ↔ Rch w x ∧ (w.at x).isSome = true
  rise : Rise R
  ina : a ∈ R

/-- All that are less than d steps away are known. -/
structure FarI (w : VW) (a : Int) (R : List Int) (d : Nat) (far : Int → Option Int) : Prop where
  iff : ∀ x, fv far x ≠ 0 → x ∈ R ∧ ∃ n : Nat, n < d ∧ fv far x = n + 1 ∧ Stp w a n x ∧ ∀ m, Stp w a m x → n ≤ m
  all : ∀ x ∈ R, ∀ n, n < d → Stp w a n x → fv far x ≠ 0

theorem FarI.start {R : List Int} (hR : RA w a R) : FarI w a R 1 (fun x => if x = a then some 1 else none) := by
  refine ⟨fun x hx => ?_, fun x hx n hn hs => ?_⟩
  · by_cases h : x = a
    · subst h
      exact ⟨hR.ina, 0, by omega, by simp [fv], .zero, fun m _ => by omega⟩
    · simp [fv, h] at hx
  · obtain rfl : n = 0 := by omega
    cases hs
    simp [fv]

/-- Within a round: those in T are done. -/
structure FarR (w : VW) (a : Int) (R : List Int) (d : Nat) (far : Int → Option Int) (T : List Int) (far' : Int → Option Int) : Prop where
  old : ∀ x, fv far x ≠ 0 → fv far' x = fv far x
  new : ∀ x, fv far' x ≠ 0 → fv far x = 0 → x ∈ R ∧ fv far' x = d + 1 ∧ ∃ y, w.edge x y ∧ fv far y = d
  don : ∀ x ∈ T, (∃ y, w.edge x y ∧ fv far y = d) → fv far' x ≠ 0

variable {R T : List Int} {d : Nat} {far far' : Int → Option Int}

theorem FarR.begin : FarR w a R d far [] far := ⟨fun _ _ => rfl, fun x h1 h2 => (h1 h2).elim, by simp⟩

theorem FarR.eqd (h : FarR w a R d far T far') (hd : 1 ≤ d) (y : Int) : fv far' y = d ↔ fv far y = d := by
  by_cases h0 : fv far y = 0
  · constructor
    · intro e
      have := (h.new y (by omega) h0).2.1
      omega
    · intro e; omega
  · rw [h.old y h0]

/-- One that is known already, or that nothing leads on from. -/
theorem FarR.skip (h : FarR w a R d far T far') {x : Int} (hx : fv far' x ≠ 0 ∨ ∀ y, w.edge x y → fv far y ≠ d) : FarR w a R d far (T ++ [x]) far' := by
  refine ⟨h.old, h.new, fun z hz hy => ?_⟩
  rcases List.mem_append.1 hz with hz | hz
  · exact h.don z hz hy
  · obtain rfl := List.mem_singleton.1 hz
    rcases hx with hx | hx
    · exact hx
    · obtain ⟨y, h1, h2⟩ := hy
      exact (hx y h1 h2).elim

theorem FarR.put (h : FarR w a R d far T far') {x y : Int} (hxR : x ∈ R) (h0 : fv far x = 0) (he : w.edge x y) (hy : fv far y = d) : FarR w a R d far T (fun z => if z = x then some ((d : Int) + 1) else far' z) := by
  have hv : ∀ z, fv (fun z => if z = x then some ((d : Int) + 1) else far' z) z = if z = x then (d : Int) + 1 else fv far' z := fun z => by
    unfold fv
    by_cases h : z = x <;> simp [h]
  refine ⟨fun z hz => ?_, fun z hz h1 => ?_, fun z hz hq => ?_⟩
  · have : z ≠ x := fun e => hz (e ▸ h0)
    rw [hv, if_neg this]
    exact h.old z hz
  · by_cases e : z = x
    · subst e
      rw [hv, if_pos rfl]
      exact ⟨hxR, rfl, y, he, hy⟩
    · rw [hv, if_neg e] at hz ⊢
      exact h.new z hz h1
  · rw [hv]
    split
    · omega
    · exact h.don z hz hq

theorem FarR.done (hI : FarI w a R d far) (hR : RA w a R) (hd : 1 ≤ d) (h : FarR w a R d far R far') : FarI w a R (d + 1) far' := by
  refine ⟨fun x hx => ?_, fun x hx n hn hs => ?_⟩
  · by_cases h0 : fv far x = 0
    · obtain ⟨h1, h2, y, h3, h4⟩ := h.new x hx h0
      obtain ⟨_, n, n1, n2, n3, _⟩ := hI.iff y (by omega)
      have hnd : n + 1 = d := by omega
      refine ⟨h1, d, by omega, h2, hnd ▸ .succ h3 n3, fun m hm => ?_⟩
      rcases Nat.lt_or_ge m d with hlt | hge
      · exact (hI.all x h1 m hlt hm h0).elim
      · exact hge
    · obtain ⟨h1, n, n1, n2, n3, n4⟩ := hI.iff x h0
      exact ⟨h1, n, by omega, by rw [h.old x h0]; exact n2, n3, n4⟩
  · by_cases h0 : fv far x = 0
    · cases hs with
      | zero => exact (hI.all a hx 0 (by omega) .zero h0).elim
      | @succ n _ y he hs =>
        have hyR : y ∈ R := by
          rw [hR.mem]
          obtain ⟨k, o, e1, e2, e3, e4⟩ := id he
          refine ⟨.step ((hR.mem x).1 hx).1 e1 e2 e3 e4, ?_⟩
          cases hs with
          | zero => exact ((hR.mem a).1 hR.ina).2
          | succ he2 _ => obtain ⟨k2, _, f1, _⟩ := he2; rw [f1]; rfl
        have hy0 := hI.all y hyR n (by omega) hs
        obtain ⟨_, n', n1, n2, n3, n4⟩ := hI.iff y hy0
        have := n4 n hs
        by_cases hq : n' + 1 = d
        · exact h.don x hx ⟨y, he, by omega⟩
        · exact (hI.all x hx (n' + 1) (by omega) (.succ he n3) h0).elim
    · rw [h.old x h0]; exact h0

theorem lt2_head {b s : Int} {t r : List Int} : ∀ {q : List Int}, lt2 (q ++ b :: t) (q ++ s :: r) → b ≤ s
  | [], h => by rcases h with h | ⟨h, _⟩ <;> omega
  | _ :: q, h => by
    rcases h with h | ⟨_, h⟩
    · omega
    · exact lt2_head h

/-- The least way, seen from these distances. -/
structure LW (w : VW) (a : Int) (R : List Int) (far : Int → Option Int) (l : List Int) : Prop where
  pos : 0 < l.length
  val : ∀ (i : Nat) x, l[i]? = some x → x ∈ R ∧ fv far x = l.length - i
  root : ∀ x, l[0]? = some x → w.root x
  rmin : ∀ x y, l[0]? = some x → w.root y → fv far y ≠ 0 → fv far x ≤ fv far y ∧ (fv far y = fv far x → x ≤ y)
  nxt : ∀ (i : Nat) x y, l[i]? = some x → l[i + 1]? = some y → w.edge x y
  nmin : ∀ (i : Nat) x y z, l[i]? = some x → l[i + 1]? = some y → w.edge x z → fv far z = fv far x - 1 → y ≤ z
  lst : l[l.length - 1]? = some a

theorem LW.of {l : List Int} (hb : Best w l a) (hR : RA w a R) (hI : FarI w a R (R.length + 1) far) : LW w a R far l := by
  have hobj := hb.objs ((hR.mem a).1 hR.ina).2
  have hfew := hb.few ((hR.mem a).1 hR.ina).2 hR.mem
  have hpos := hb.way.pos
  have hin : ∀ x ∈ l, x ∈ R := fun x hx => (hR.mem x).2 ⟨hb.way.rchs x hx, hobj x hx⟩
  have hlast : l[l.length - 1]? = some a := by
    obtain ⟨u, rfl⟩ := hb.way.last
    simp
  have hA : ∀ (n i : Nat) x, i + n + 1 = l.length → l[i]? = some x → Stp w a n x := by
    intro n
    induction n with
    | zero =>
      intro i x hi hx
      have : i = l.length - 1 := by omega
      subst this
      rw [hlast] at hx
      cases hx
      exact .zero
    | succ n ih =>
      intro i x hi hx
      have hy : l[i + 1]? = some (l[i + 1]'(by omega)) := List.getElem?_eq_getElem (by omega)
      exact .succ (hb.way.steps hx hy) (ih (i + 1) _ (by omega) hy)
  -- the part of the way up to a place
  have hpart : ∀ (i : Nat) x, l[i]? = some x → Way w (l.take (i + 1)) x := fun i x hx => by
    have hi := (List.getElem?_eq_some_iff.1 hx).1
    have hne : l.take (i + 1) ≠ [] := by intro q; have := congrArg List.length q; rw [List.length_take, List.length_nil] at this; omega
    obtain ⟨z, h1, _⟩ := hb.way.splice (List.take_append_drop (i + 1) l).symm hne
    obtain ⟨u, e1⟩ := h1.last
    have l1 : l.take (i + 1) = l.take i ++ [l[i]] := List.take_succ_eq_append_getElem hi
    have hz : z = l[i] := by
      have := (List.append_inj' (e1.symm.trans l1) rfl).2
      simpa using this
    have hxi : x = l[i] := by
      rw [List.getElem?_eq_getElem hi] at hx
      exact (Option.some.inj hx).symm
    rw [hxi, ← hz]
    exact h1
  have hBm : ∀ (i : Nat) x m, l[i]? = some x → Stp w a m x → l.length ≤ i + 1 + m := fun i x m hx hs => by
    have hi := (List.getElem?_eq_some_iff.1 hx).1
    obtain ⟨r, h1, h2⟩ := hs.way (hpart i x hx)
    have := (hb.min _ h2).1
    rw [List.length_append, List.length_take, h1] at this
    omega
  have hval : ∀ (i : Nat) x, l[i]? = some x → x ∈ R ∧ fv far x = l.length - i := fun i x hx => by
    have hi := (List.getElem?_eq_some_iff.1 hx).1
    have hxR := hin x (List.mem_of_getElem? hx)
    have hs := hA (l.length - 1 - i) i x (by omega) hx
    have h0 := hI.all x hxR _ (by omega) hs
    obtain ⟨_, n, n1, n2, n3, n4⟩ := hI.iff x h0
    have h1 := n4 _ hs
    have h2 := hBm i x n hx n3
    exact ⟨hxR, by omega⟩
  refine ⟨hpos, hval, fun x hx => ?_, fun x y hx hy h0 => ?_, fun i x y h1 h2 => hb.way.steps h1 h2, fun i x y z h1 h2 he hz => ?_, hlast⟩
  · obtain ⟨x', h1, h2⟩ := hb.way.head
    rw [hx] at h1
    cases h1
    exact h2
  · obtain ⟨_, n, n1, n2, n3, n4⟩ := hI.iff y h0
    obtain ⟨r, h1, h2⟩ := n3.way (.root hy)
    have hm := hb.min _ h2
    have hv := (hval 0 x hx).2
    have hlen : ([y] ++ r).length = n + 1 := by simp [h1]
    rw [hlen] at hm
    refine ⟨by omega, fun e => ?_⟩
    have hl : n + 1 = l.length := by omega
    have hc : l = x :: l.drop 1 := by
      cases l with
      | nil => simp at hpos
      | cons b t => simp at hx; subst hx; rfl
    rcases hm.2 hl with hq | hq
    · rw [hc] at hq
      have := (List.cons.inj hq).1
      omega
    · rw [hc] at hq
      exact lt2_head (q := []) hq
  · have hv1 := (hval i x h1).2
    have hi := (List.getElem?_eq_some_iff.1 h1).1
    have hi2 := (List.getElem?_eq_some_iff.1 h2).1
    obtain ⟨_, n, n1, n2, n3, n4⟩ := hI.iff z (by omega)
    obtain ⟨r, e1, e2⟩ := n3.way1 he (hpart i x h1)
    have hm := hb.min _ e2
    have hlen : (l.take (i + 1) ++ z :: r).length = l.length := by
      rw [List.length_append, List.length_take, List.length_cons, e1]
      omega
    have hc : l = l.take (i + 1) ++ y :: l.drop (i + 2) := by
      have hy : y = l[i + 1] := by
        rw [List.getElem?_eq_getElem hi2] at h2
        exact (Option.some.inj h2).symm
      rw [hy, ← List.drop_eq_getElem_cons hi2, List.take_append_drop]
    rcases hm.2 hlen with hq | hq
    · rw [hc] at hq
      have hq2 : l.take (i + 1) ++ z :: r = l.take (i + 1) ++ y :: l.drop (i + 2) := by
        rw [List.take_append_of_le_length (by rw [List.length_take]; omega), List.take_take, Nat.min_self] at hq
        exact hq
      have := (List.cons.inj (List.append_cancel_left hq2)).1
      omega
    · have hq2 : lt2 (l.take (i + 1) ++ y :: l.drop (i + 2)) (l.take (i + 1) ++ z :: r) := by
        rw [← hc]; exact hq
      exact lt2_head hq2

end Go.Sl
