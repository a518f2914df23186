/-
  Page, more of the plain law: one run when all is free; where runs begin; a stretch that is free lies in one run.
-/
import Derived.Test.YtfjgkljgfomobaaPgLefts
import Derived.Test.YtfjgkljgfomobaaV17
set_option linter.unusedVariables false
set_option linter.unusedSimpArgs false
namespace Go.Proofs
open Go.Sl

theorem WFf_full {n : Int} : ∀ {lo : Int} {l : List Run}, WFf n lo l → leftS l + lo + 1 = n → lo + 1 < n → l = [(lo + 1, n - lo - 1)]
  | lo, [], _, h, h' => by simp [leftS] at h; omega
  | lo, [r], ⟨a, b, c, _⟩, h, _ => by
    rw [leftS_cons] at h
    simp only [leftS, List.map_nil, List.sum_nil] at h
    rw [show r = (lo + 1, n - lo - 1) from Prod.ext (by simp only; omega) (by simp only; omega)]
  | lo, r :: s :: l, ⟨a, b, c, d⟩, h, _ => by
    have := (WFf_left d).2 (by simp)
    rw [leftS_cons] at h
    omega

theorem fr_start {n : Int} : ∀ {lo : Int} {l : List Run}, WFf n lo l → ∀ r ∈ l, ¬ fr l (r.1 - 1)
  | _, [], _, r, h => by simp at h
  | lo, s :: l, ⟨a, b, c, d⟩, r, h => by
    intro hf
    rw [List.mem_cons] at h
    rcases h with rfl | h
    · rcases hf with hf | hf
      · omega
      · have := fr_lo d _ hf; omega
    · have h1 := fr_lo d r.1 (fr_mem.2 ⟨r, h, by omega, by have := WFf_memlo d r h; omega⟩)
      rcases hf with hf | hf
      · have h2 := WFf_memlo d r h; omega
      · exact fr_start d r h hf
where
  WFf_memlo {n : Int} : ∀ {lo : Int} {l : List Run}, WFf n lo l → ∀ r ∈ l, lo < r.1 ∧ 1 ≤ r.2
    | _, [], _, r, h => by simp at h
    | lo, s :: l, ⟨a, b, c, d⟩, r, h => by
      rw [List.mem_cons] at h
      rcases h with rfl | h
      · exact ⟨a, b⟩
      · have := WFf_memlo d r h; omega

theorem fr_run {n : Int} {a b : Int} (hab : a < b) : ∀ {lo : Int} {l : List Run}, WFf n lo l → (∀ x, a ≤ x → x < b → fr l x) → ∃ r ∈ l, r.1 ≤ a ∧ b ≤ r.1 + r.2
  | _, [], _, h => (h a (by omega) hab).elim
  | lo, r :: l, ⟨p, q, c, d⟩, h => by
    have ha := h a (by omega) hab
    rcases ha with ha | ha
    · by_cases hb : b ≤ r.1 + r.2
      · exact ⟨r, by simp, by omega, hb⟩
      · exfalso
        rcases h (r.1 + r.2) (by omega) (by omega) with h1 | h1
        · omega
        · have := fr_lo d _ h1; omega
    · have hlo := fr_lo d a ha
      obtain ⟨s, hs, h1, h2⟩ := fr_run hab d fun x hx hx' => by
        rcases h x hx hx' with h1 | h1
        · omega
        · exact h1
      exact ⟨s, by simp [hs], h1, h2⟩

/-- How many runs begin below m. -/
def st (l : List Run) (m : Int) : Nat := l.countP fun r => decide (r.1 < m)

theorem st_split (m : Int) : ∀ l : List Run, st l (m + 1) = st l m + l.countP fun r => decide (r.1 = m)
  | [] => rfl
  | r :: l => by
    have := st_split m l
    unfold st at *
    simp only [List.countP_cons, this]
    by_cases h1 : r.1 < m
    · simp only [decide_eq_true h1, decide_eq_true (show r.1 < m + 1 by omega), decide_eq_false (show ¬ r.1 = m by omega)]; simp; omega
    · by_cases h2 : r.1 = m
      · simp only [decide_eq_false h1, decide_eq_true (show r.1 < m + 1 by omega), decide_eq_true h2]; simp; omega
      · simp only [decide_eq_false h1, decide_eq_false (show ¬ r.1 < m + 1 by omega), decide_eq_false h2]; simp

theorem countP_lo {n m : Int} : ∀ {lo : Int} {l : List Run}, WFf n lo l → m ≤ lo → (l.countP fun r => decide (r.1 = m)) = 0
  | _, [], _, _ => rfl
  | lo, r :: l, ⟨a, b, c, d⟩, h => by
    rw [List.countP_cons, countP_lo d (by omega), decide_eq_false (by omega)]; rfl

theorem countP_le {n m : Int} : ∀ {lo : Int} {l : List Run}, WFf n lo l → (l.countP fun r => decide (r.1 = m)) ≤ 1
  | _, [], _ => by simp
  | lo, r :: l, ⟨a, b, c, d⟩ => by
    rw [List.countP_cons]
    by_cases h : r.1 = m
    · rw [countP_lo d (by omega), decide_eq_true h]; simp
    · rw [decide_eq_false h]; simpa using countP_le d

theorem st_t {n m : Int} {l : List Run} (hw : WF n l) (h1 : fr l m) (h2 : ¬ fr l (m - 1)) : st l (m + 1) = st l m + 1 := by
  rw [st_split]
  obtain ⟨r, hr, h3, h4⟩ := fr_mem.1 h1
  have h5 : r.1 = m := by
    rcases Int.lt_or_le r.1 m with h | h
    · exact (h2 (fr_mem.2 ⟨r, hr, by omega, by omega⟩)).elim
    · omega
  have h6 : 0 < l.countP fun r => decide (r.1 = m) := List.countP_pos_iff.2 ⟨r, hr, by simpa using h5⟩
  have := countP_le (m := m) hw
  omega

theorem st_f {n m : Int} {l : List Run} (hw : WF n l) (h : fr l m → fr l (m - 1)) : st l (m + 1) = st l m := by
  rw [st_split]
  have : (l.countP fun r => decide (r.1 = m)) = 0 := by
    rw [List.countP_eq_zero]
    intro r hr hq
    have hq : r.1 = m := by simpa using hq
    have h1 := WFf_mem hw (by omega) r hr
    have h2 := fr_start hw r hr
    rw [hq] at h2
    exact h2 (h (fr_mem.2 ⟨r, hr, by omega, by omega⟩))
  omega

theorem st_one {n : Int} {l : List Run} (hw : WF n l) : st l 1 = 0 := by
  unfold st
  rw [List.countP_eq_zero]
  intro r hr hq
  have := WFf_mem hw (by omega) r hr
  have : r.1 < 1 := by simpa using hq
  omega

theorem st_all {n : Int} {l : List Run} (hw : WF n l) : st l n = l.length := by
  unfold st
  rw [List.countP_eq_length]
  intro r hr
  have := WFf_mem hw (by omega) r hr
  exact decide_eq_true (by omega)

end Go.Proofs
