/-
  More on ways: parts of them; the shortest repeat nothing.
-/
import Derived.Test.YtdcoflglkfbpcaaVb0
set_option linter.unusedVariables false
set_option linter.unusedSimpArgs false
namespace Go.Sl

variable {w : VW}

theorem Way.splice {p : List Int} {a : Int} (h : Way w p a) : ∀ {q r : List Int}, p = q ++ r → q ≠ [] → ∃ x, Way w q x ∧ ∀ q', Way w q' x → Way w (q' ++ r) a := by
  induction h with
  | @root x hr =>
    intro q r e hq
    cases q with
    | nil => exact (hq rfl).elim
    | cons y q =>
      rw [List.cons_append, List.cons.injEq] at e
      obtain ⟨rfl, e⟩ := e
      have e' := e.symm
      rw [List.append_eq_nil_iff] at e'
      obtain ⟨rfl, rfl⟩ := e'
      exact ⟨x, .root hr, fun q' h => by rw [List.append_nil]; exact h⟩
  | @step p c b hp he ih =>
    intro q r e hq
    rcases List.eq_nil_or_concat r with rfl | ⟨r', z, rfl⟩
    · rw [List.append_nil] at e
      subst e
      exact ⟨b, .step hp he, fun q' h => by rw [List.append_nil]; exact h⟩
    · simp only [List.concat_eq_append] at e ⊢
      rw [← List.append_assoc] at e
      obtain ⟨e1, e2⟩ := List.append_inj' e rfl
      obtain rfl : b = z := by simpa using e2
      obtain ⟨x, h1, h2⟩ := ih e1 hq
      exact ⟨x, h1, fun q' h => by rw [← List.append_assoc]; exact .step (h2 q' h) he⟩

theorem Way.pos {p : List Int} {a : Int} (h : Way w p a) : 0 < p.length := by
  obtain ⟨i, rfl⟩ := h.last
  simp

theorem Way.head {p : List Int} {a : Int} (h : Way w p a) : ∃ x, p[0]? = some x ∧ w.root x := by
  induction h with
  | root hr => exact ⟨_, rfl, hr⟩
  | step hp _ ih =>
    obtain ⟨x, h1, h2⟩ := ih
    exact ⟨x, by rw [List.getElem?_append_left hp.pos]; exact h1, h2⟩

theorem Way.steps {p : List Int} {a : Int} (h : Way w p a) : ∀ {j : Nat} {x y : Int}, p[j]? = some x → p[j + 1]? = some y → w.edge x y := by
  induction h with
  | root hr => intro j x y h1 h2; simp at h2
  | @step p c b hp he ih =>
    intro j x y h1 h2
    by_cases hj : j + 1 < p.length
    · rw [List.getElem?_append_left (by omega)] at h1
      rw [List.getElem?_append_left hj] at h2
      exact ih h1 h2
    · have hl : j + 1 < p.length + 1 := by
        have := (List.getElem?_eq_some_iff.1 h2).1
        simpa using this
      obtain ⟨i, rfl⟩ := hp.last
      have hj : j = i.length := by simp at hj hl; omega
      subst hj
      simp at h1 h2
      subst h1; subst h2
      exact he

theorem Way.rchs {p : List Int} {a : Int} (h : Way w p a) : ∀ x ∈ p, Rch w x := by
  induction h with
  | root hr => intro x hx; obtain rfl := List.mem_singleton.1 hx; exact .root hr.1 hr.2
  | step hp he ih =>
    intro x hx
    rcases List.mem_append.1 hx with hx | hx
    · exact ih x hx
    · obtain rfl := List.mem_singleton.1 hx
      exact (Way.step hp he).rch

theorem Best.nodup {p : List Int} {a : Int} (h : Best w p a) : p.Nodup := by
  rw [List.nodup_iff_pairwise_ne, List.pairwise_iff_getElem]
  intro i j hi hj hij e
  -- the part to the first and the part to the second lead to the same
  have s1 : p = p.take (i + 1) ++ p.drop (i + 1) := (List.take_append_drop _ _).symm
  have s2 : p = p.take (j + 1) ++ p.drop (j + 1) := (List.take_append_drop _ _).symm
  have n1 : p.take (i + 1) ≠ [] := by intro q; have := congrArg List.length q; rw [List.length_take, List.length_nil] at this; omega
  have n2 : p.take (j + 1) ≠ [] := by intro q; have := congrArg List.length q; rw [List.length_take, List.length_nil] at this; omega
  obtain ⟨x, w1, _⟩ := h.way.splice s1 n1
  obtain ⟨y, w2, k2⟩ := h.way.splice s2 n2
  have l1 : p.take (i + 1) = p.take i ++ [p[i]] := List.take_succ_eq_append_getElem hi
  have l2 : p.take (j + 1) = p.take j ++ [p[j]] := List.take_succ_eq_append_getElem hj
  obtain ⟨u1, e1⟩ := w1.last
  obtain ⟨u2, e2⟩ := w2.last
  have hx : x = p[i] := by
    have := (List.append_inj' (e1.symm.trans l1) rfl).2
    simpa using this
  have hy : y = p[j] := by
    have := (List.append_inj' (e2.symm.trans l2) rfl).2
    simpa using this
  have hxy : x = y := by rw [hx, hy, e]
  subst hxy
  have := (h.min _ (k2 _ w1)).1
  rw [List.length_append, List.length_take, List.length_drop] at this
  omega

theorem Best.objs {p : List Int} {a : Int} (h : Best w p a) (ha : (w.at a).isSome) : ∀ x ∈ p, (w.at x).isSome := by
  intro x hx
  obtain ⟨j, hj, rfl⟩ := List.getElem_of_mem hx
  by_cases hl : j + 1 < p.length
  · obtain ⟨k, _, h1, _⟩ := h.way.steps (List.getElem?_eq_getElem hj) (List.getElem?_eq_getElem hl)
    rw [h1]; rfl
  · obtain ⟨i, rfl⟩ := h.way.last
    have : j = i.length := by simp at hj hl; omega
    subst this
    simpa using ha

theorem Best.few {p R : List Int} {a : Int} (h : Best w p a) (ha : (w.at a).isSome) (hR : ∀ x, x ∈ R ↔ Rch w x ∧ (w.at x).isSome = true) : p.length ≤ R.length :=
  nodup_len h.nodup fun x hx => (hR x).2 ⟨h.way.rchs x hx, h.objs ha x hx⟩

end Go.Sl
