/-
  Page, the plain law: runs that rise and do not touch, and the set of pages that they have.
-/
import Derived.Test.YtfjgkljgfomobaaPg6
set_option linter.unusedVariables false
set_option linter.unusedSimpArgs false
namespace Go.Proofs
open Go.Sl

/-- From behind 'lo' on, below 'n': runs that rise and do not touch. -/
def WFf (n : Int) : Int → List Run → Prop
  | _, [] => True
  | lo, r :: l => lo < r.1 ∧ 1 ≤ r.2 ∧ r.1 + r.2 ≤ n ∧ WFf n (r.1 + r.2) l

abbrev WF (n : Int) (l : List Run) : Prop := WFf n 0 l

/-- A page is free. -/
def fr : List Run → Int → Prop
  | [], _ => False
  | r :: l, x => (r.1 ≤ x ∧ x < r.1 + r.2) ∨ fr l x

theorem WFf.mono {n : Int} {lo lo' : Int} (h : lo' ≤ lo) : ∀ {l : List Run}, WFf n lo l → WFf n lo' l
  | [], _ => trivial
  | _ :: _, ⟨a, b, c, d⟩ => ⟨by omega, b, c, d⟩

theorem fr_lo {n : Int} : ∀ {lo : Int} {l : List Run}, WFf n lo l → ∀ x, fr l x → lo < x ∧ x < n
  | _, [], _, _, h => h.elim
  | lo, r :: l, ⟨a, b, c, d⟩, x, h => by
    rcases h with h | h
    · omega
    · have := fr_lo d x h
      omega

/-- One set, one list. -/
theorem WFf_unique {n : Int} : ∀ {lo lo' : Int} {l l' : List Run}, WFf n lo l → WFf n lo' l' → (∀ x, fr l x ↔ fr l' x) → l = l'
  | _, _, [], [], _, _, _ => rfl
  | _, _, [], r :: l, _, ⟨_, b, _, _⟩, h => ((h r.1).2 (.inl ⟨by omega, by omega⟩)).elim
  | _, _, r :: l, [], ⟨_, b, _, _⟩, _, h => ((h r.1).1 (.inl ⟨by omega, by omega⟩)).elim
  | _, _, r :: l, r' :: l', ⟨a, b, c, d⟩, ⟨a', b', c', d'⟩, h => by
    have e1 : r.1 = r'.1 := by
      have h1 := (h r.1).1 (.inl ⟨by omega, by omega⟩)
      have h2 := (h r'.1).2 (.inl ⟨by omega, by omega⟩)
      rcases h1 with h1 | h1
      · rcases h2 with h2 | h2
        · omega
        · have := fr_lo d _ h2; omega
      · have := fr_lo d' _ h1
        rcases h2 with h2 | h2
        · omega
        · have := fr_lo d _ h2; omega
    have e2 : r.2 = r'.2 := by
      rcases Int.lt_trichotomy r.2 r'.2 with q | q | q
      · have h2 := (h (r.1 + r.2)).2 (.inl ⟨by omega, by omega⟩)
        rcases h2 with h2 | h2
        · omega
        · have := fr_lo d _ h2; omega
      · exact q
      · have h2 := (h (r'.1 + r'.2)).1 (.inl ⟨by omega, by omega⟩)
        rcases h2 with h2 | h2
        · omega
        · have := fr_lo d' _ h2; omega
    have e : r = r' := Prod.ext e1 e2
    subst e
    congr 1
    refine WFf_unique d d' fun x => ?_
    constructor
    · intro hx
      have := fr_lo d _ hx
      rcases (h x).1 (.inr hx) with q | q
      · omega
      · exact q
    · intro hx
      have := fr_lo d' _ hx
      rcases (h x).2 (.inr hx) with q | q
      · omega
      · exact q

theorem fr_mem : ∀ {l : List Run} {x : Int}, fr l x ↔ ∃ r ∈ l, r.1 ≤ x ∧ x < r.1 + r.2
  | [], x => by simp [fr]
  | r :: l, x => by
    simp only [fr, List.mem_cons, exists_eq_or_imp]
    rw [fr_mem (l := l)]

theorem WFf_mem {n : Int} : ∀ {lo : Int} {l : List Run}, WFf n lo l → 0 ≤ lo → ∀ r ∈ l, 1 ≤ r.1 ∧ 1 ≤ r.2 ∧ r.1 + r.2 ≤ n
  | lo, s :: l, ⟨a, b, c, d⟩, h, r, hr => by
    rw [List.mem_cons] at hr
    rcases hr with rfl | hr
    · omega
    · exact WFf_mem d (by omega) r hr

theorem WF_bd {n : Int} {l : List Run} (h : WF n l) : Bd n l := fun r hr => by
  have := WFf_mem h (by omega) r hr; omega

theorem leftS_cons (r : Run) (l : List Run) : leftS (r :: l) = r.2 + leftS l := by simp [leftS]

theorem WFf_left {n : Int} : ∀ {lo : Int} {l : List Run}, WFf n lo l → (l.length : Int) ≤ leftS l ∧ (l ≠ [] → leftS l + lo < n)
  | lo, [], _ => by simp [leftS]
  | lo, r :: l, ⟨a, b, c, d⟩ => by
    have := WFf_left d
    rw [leftS_cons, List.length_cons]
    by_cases hl : l = []
    · subst hl; simp [leftS]; omega
    · have := this.2 hl
      refine ⟨by omega, fun _ => by omega⟩

theorem WF_len {n : Int} {l : List Run} (h : WF n l) (hn : 0 ≤ n) : (l.length : Int) ≤ n ∧ leftS l ≤ n ∧ 0 ≤ leftS l := by
  have h1 := WFf_left h
  by_cases hl : l = []
  · subst hl; simp [leftS]; omega
  · have := h1.2 hl
    omega

/-! ### Alloc -/

theorem alloc_erase {n : Int} : ∀ {lo : Int} {l : List Run} {i : Nat} {b : Run}, WFf n lo l → l[i]? = some b →
    WFf n lo (l.take i ++ l.drop (i + 1)) ∧ (∀ x, fr (l.take i ++ l.drop (i + 1)) x ↔ fr l x ∧ ¬ (b.1 ≤ x ∧ x < b.1 + b.2)) ∧ leftS (l.take i ++ l.drop (i + 1)) = leftS l - b.2
  | lo, r :: l, 0, b, ⟨a, p, c, d⟩, hb => by
    cases hb
    refine ⟨?_, fun x => ?_, ?_⟩
    · exact d.mono (by omega)
    · show fr l x ↔ _
      constructor
      · intro h
        have := fr_lo d x h
        exact ⟨.inr h, by omega⟩
      · rintro ⟨h | h, g⟩
        · exact absurd h g
        · exact h
    · show leftS l = _
      rw [leftS_cons]; omega
  | lo, r :: l, i + 1, b, ⟨a, p, c, d⟩, hb => by
    have hb' : l[i]? = some b := by simpa using hb
    obtain ⟨h1, h2, h3⟩ := alloc_erase d hb'
    have hfr : ∀ x, r.1 ≤ x ∧ x < r.1 + r.2 → ¬ (b.1 ≤ x ∧ x < b.1 + b.2) := fun x hx hy => by
      have := fr_lo d x (fr_mem.2 ⟨b, List.mem_of_getElem? hb', hy⟩)
      omega
    refine ⟨⟨a, p, c, h1⟩, fun x => ?_, ?_⟩
    · show (_ ∨ fr (l.take i ++ l.drop (i + 1)) x) ↔ _
      rw [h2]
      constructor
      · rintro (h | ⟨h, g⟩)
        · exact ⟨.inl h, hfr x h⟩
        · exact ⟨.inr h, g⟩
      · rintro ⟨h | h, g⟩
        · exact .inl h
        · exact .inr ⟨h, g⟩
    · show leftS (r :: (l.take i ++ l.drop (i + 1))) = _
      rw [leftS_cons, leftS_cons, h3]; omega
  | lo, [], i, b, _, hb => by simp at hb

theorem alloc_set {n : Int} {k : Int} : ∀ {lo : Int} {l : List Run} {i : Nat} {b : Run}, WFf n lo l → l[i]? = some b → 1 ≤ k → k < b.2 →
    WFf n lo (l.set i (b.1 + k, b.2 - k)) ∧ (∀ x, fr (l.set i (b.1 + k, b.2 - k)) x ↔ fr l x ∧ ¬ (b.1 ≤ x ∧ x < b.1 + k)) ∧ leftS (l.set i (b.1 + k, b.2 - k)) = leftS l - k
  | lo, r :: l, 0, b, ⟨a, p, c, d⟩, hb, hk, hk' => by
    cases hb
    refine ⟨⟨by simp only; omega, by simp only; omega, by simp only; omega, ?_⟩, fun x => ?_, ?_⟩
    · have : r.1 + k + (r.2 - k) = r.1 + r.2 := by omega
      simp only [this]
      exact d
    · show ((r.1 + k ≤ x ∧ x < r.1 + k + (r.2 - k)) ∨ fr l x) ↔ _
      constructor
      · rintro (h | h)
        · exact ⟨.inl (by omega), by omega⟩
        · have := fr_lo d x h
          exact ⟨.inr h, by omega⟩
      · rintro ⟨h | h, g⟩
        · exact .inl (by omega)
        · exact .inr h
    · show leftS ((r.1 + k, r.2 - k) :: l) = _
      rw [leftS_cons, leftS_cons]; simp only; omega
  | lo, r :: l, i + 1, b, ⟨a, p, c, d⟩, hb, hk, hk' => by
    have hb' : l[i]? = some b := by simpa using hb
    obtain ⟨h1, h2, h3⟩ := alloc_set d hb' hk hk'
    have hfr : ∀ x, r.1 ≤ x ∧ x < r.1 + r.2 → ¬ (b.1 ≤ x ∧ x < b.1 + k) := fun x hx hy => by
      have := fr_lo d x (fr_mem.2 ⟨b, List.mem_of_getElem? hb', by omega⟩)
      omega
    refine ⟨⟨a, p, c, h1⟩, fun x => ?_, ?_⟩
    · show (_ ∨ fr (l.set i (b.1 + k, b.2 - k)) x) ↔ _
      rw [h2]
      constructor
      · rintro (h | ⟨h, g⟩)
        · exact ⟨.inl h, hfr x h⟩
        · exact ⟨.inr h, g⟩
      · rintro ⟨h | h, g⟩
        · exact .inl h
        · exact .inr ⟨h, g⟩
    · show leftS (r :: l.set i (b.1 + k, b.2 - k)) = _
      rw [leftS_cons, leftS_cons, h3]; omega
  | lo, [], i, b, _, hb, _, _ => by simp at hb

/-- What Alloc does to the set of free pages. -/
theorem alloc_law {n : Int} {l l' : List Run} {k : Int} {v : Value} (hw : WF n l) (h : AllocR l k v l') :
    (k < 1 ∧ v = tup 0 1 ∧ l' = l) ∨ (1 ≤ k ∧ (∀ r ∈ l, r.2 < k) ∧ v = tup 0 3 ∧ l' = l) ∨
    (1 ≤ k ∧ ∃ b ∈ l, k ≤ b.2 ∧ (∀ y ∈ l, k ≤ y.2 → lt y b = false) ∧ v = tup b.1 0 ∧ WF n l' ∧ (∀ x, fr l' x ↔ fr l x ∧ ¬ (b.1 ≤ x ∧ x < b.1 + k)) ∧ leftS l' = leftS l - k) := by
  rcases h with h | h | ⟨h1, b, i, h2, h3, h4, h5, h6⟩
  · exact .inl h
  · exact .inr (.inl h)
  · refine .inr (.inr ⟨h1, b, List.mem_of_getElem? h2, h3, h4, h5, ?_⟩)
    by_cases hq : b.2 = k
    · rw [if_pos hq] at h6
      subst h6
      rw [← hq]
      exact alloc_erase hw h2
    · rw [if_neg hq] at h6
      subst h6
      exact alloc_set hw h2 h1 (by omega)

/-! ### Free -/

theorem joinS_neg (l : List Run) {i : Int} (h : i < 0) : joinS l i = l := by rw [joinS, if_pos h]
theorem joinS_zero2 (x y : Run) (t : List Run) : joinS (x :: y :: t) 0 = if x.1 + x.2 = y.1 then (x.1, x.2 + y.2) :: t else x :: y :: t := by
  simp [joinS]
theorem joinS_zero1 (x : Run) : joinS [x] 0 = [x] := by simp [joinS]
theorem joinS_zero0 : joinS [] 0 = [] := by simp [joinS]
theorem joinS_succ (r : Run) (X : List Run) (i : Nat) : joinS (r :: X) ((i : Int) + 1) = r :: joinS X (i : Int) := by
  have h1 : ¬ ((i : Int) + 1 < 0) := by omega
  have h2 : ¬ ((i : Int) < 0) := by omega
  have h3 : ((i : Int) + 1).toNat = i + 1 := by omega
  rw [joinS, joinS, if_neg h1, if_neg h2, h3, Int.toNat_natCast]
  simp only [List.getElem?_cons_succ]
  split
  · rename_i x y e1 e2
    split
    · simp
    · rfl
  · rfl

/-- The run as it comes back, at its place. -/
def J (l : List Run) (first k : Int) (p : Nat) : List Run := joinS (joinS (l.take p ++ (first, k) :: l.drop p) p) ((p : Int) - 1)

theorem J_succ (r : Run) (l : List Run) (first k : Int) (p : Nat) : J (r :: l) first k (p + 2) = r :: J l first k (p + 1) := by
  unfold J
  show joinS (joinS (r :: (l.take (p + 1) ++ (first, k) :: l.drop (p + 1))) (((p + 2 : Nat) : Int))) _ = _
  rw [show (((p + 2 : Nat) : Int)) = ((p + 1 : Nat) : Int) + 1 by omega, joinS_succ]
  rw [show ((p + 1 : Nat) : Int) + 1 - 1 = (p : Int) + 1 by omega, joinS_succ]
  rw [show ((p + 1 : Nat) : Int) - 1 = (p : Int) by omega]

theorem J_zero {n : Int} {lo first k : Int} {l : List Run} (hw : WFf n lo l) (h1 : lo < first) (hk : 1 ≤ k) (h2 : ∀ y, l[0]? = some y → first + k ≤ y.1) (h3 : first + k ≤ n) :
    ∃ k' t, joinS ((first, k) :: l) 0 = (first, k') :: t ∧ WFf n lo ((first, k') :: t) ∧ (∀ x, fr ((first, k') :: t) x ↔ fr l x ∨ (first ≤ x ∧ x < first + k)) ∧ leftS ((first, k') :: t) = leftS l + k := by
  cases l with
  | nil =>
    rw [joinS_zero1]
    refine ⟨k, [], rfl, ⟨h1, hk, h3, trivial⟩, fun x => ?_, ?_⟩
    · show (_ ∨ False) ↔ (False ∨ _)
      simp
    · rw [leftS_cons]; simp [leftS]
  | cons y t =>
    obtain ⟨a, b, c, d⟩ := hw
    have h2' := h2 y rfl
    rw [joinS_zero2]
    simp only
    by_cases hq : first + k = y.1
    · rw [if_pos hq]
      refine ⟨k + y.2, t, rfl, ⟨h1, by simp only; omega, by simp only; omega, ?_⟩, fun x => ?_, ?_⟩
      · simp only
        rw [show first + (k + y.2) = y.1 + y.2 by omega]
        exact d
      · show ((first ≤ x ∧ x < first + (k + y.2)) ∨ fr t x) ↔ ((y.1 ≤ x ∧ x < y.1 + y.2) ∨ fr t x) ∨ _
        constructor
        · rintro (h | h)
          · by_cases hx : x < first + k
            · exact .inr (by omega)
            · exact .inl (.inl (by omega))
          · exact .inl (.inr h)
        · rintro ((h | h) | h)
          · exact .inl (by omega)
          · exact .inr h
          · exact .inl (by omega)
      · rw [leftS_cons, leftS_cons]; simp only; omega
    · rw [if_neg hq]
      refine ⟨k, y :: t, rfl, ⟨h1, hk, by simp only; omega, by simp only; omega, b, c, d⟩, fun x => ?_, ?_⟩
      · show ((first ≤ x ∧ x < first + k) ∨ fr (y :: t) x) ↔ _
        exact Or.comm
      · rw [leftS_cons]; simp only; omega

theorem J_law {n : Int} {first k : Int} (hk : 1 ≤ k) (h3 : first + k ≤ n) : ∀ (p : Nat) {lo : Int} {l : List Run}, WFf n lo l → lo < first → p ≤ l.length →
    (∀ y, l[p]? = some y → first + k ≤ y.1) → (∀ x, 0 < p → l[p - 1]? = some x → x.1 + x.2 ≤ first) →
    WFf n lo (J l first k p) ∧ (∀ x, fr (J l first k p) x ↔ fr l x ∨ (first ≤ x ∧ x < first + k)) ∧ leftS (J l first k p) = leftS l + k
  | 0, lo, l, hw, h1, hp, hy, hx => by
    obtain ⟨k', t, e, g1, g2, g3⟩ := J_zero hw h1 hk hy h3
    have : J l first k 0 = (first, k') :: t := by
      unfold J
      rw [joinS_neg _ (by omega)]
      exact e
    rw [this]
    exact ⟨g1, g2, g3⟩
  | 1, lo, l, hw, h1, hp, hy, hx => by
    cases l with
    | nil => simp at hp
    | cons r l =>
      obtain ⟨a, b, c, d⟩ := hw
      have hr := hx r (by omega) rfl
      obtain ⟨k', t, e, g1, g2, g3⟩ := J_zero (lo := r.1 + r.2 - 1) (d.mono (by omega)) (by omega) hk hy h3
      have : J (r :: l) first k 1 = if r.1 + r.2 = first then (r.1, r.2 + k') :: t else r :: (first, k') :: t := by
        unfold J
        show joinS (joinS (r :: (first, k) :: l) (((0 : Nat) : Int) + 1)) 0 = _
        rw [joinS_succ, show ((0 : Nat) : Int) = 0 from rfl, e, joinS_zero2]
      rw [this]
      obtain ⟨q1, q2, q3, q4⟩ := g1
      simp only at q1 q2 q3 q4
      by_cases hq : r.1 + r.2 = first
      · rw [if_pos hq]
        refine ⟨⟨a, by simp only; omega, by simp only; omega, ?_⟩, fun x => ?_, ?_⟩
        · simp only
          rw [show r.1 + (r.2 + k') = first + k' by omega]
          exact q4
        · have := g2 x
          simp only [fr] at this ⊢
          constructor
          · rintro (h | h)
            · by_cases hx : x < r.1 + r.2
              · exact .inl (.inl (by omega))
              · rcases this.1 (.inl (by omega)) with h | h
                · exact .inl (.inr h)
                · exact .inr h
            · rcases this.1 (.inr h) with h | h
              · exact .inl (.inr h)
              · exact .inr h
          · rintro ((h | h) | h)
            · exact .inl (by omega)
            · rcases this.2 (.inl h) with h | h
              · exact .inl (by omega)
              · exact .inr h
            · rcases this.2 (.inr h) with h | h
              · exact .inl (by omega)
              · exact .inr h
        · rw [leftS_cons] at g3 ⊢
          rw [leftS_cons]; simp only at *; omega
      · rw [if_neg hq]
        refine ⟨⟨a, b, c, by simp only; omega, q2, q3, q4⟩, fun x => ?_, ?_⟩
        · show (_ ∨ fr ((first, k') :: t) x) ↔ (_ ∨ fr l x) ∨ _
          rw [g2, or_assoc]
        · rw [leftS_cons, g3, leftS_cons]; omega
  | p + 2, lo, l, hw, h1, hp, hy, hx => by
    cases l with
    | nil => simp at hp
    | cons r l =>
      obtain ⟨a, b, c, d⟩ := hw
      have hp' : p + 1 ≤ l.length := by simpa using hp
      have hpl : p < l.length := by omega
      have h0 := hx l[p] (by omega) (by simp)
      have hlo : r.1 + r.2 < first := by
        have hm := List.getElem_mem hpl
        have h4 : ∀ {lo : Int} {l : List Run}, WFf n lo l → ∀ s ∈ l, lo < s.1 ∧ 1 ≤ s.2 := fun {lo l} hw => by
          induction l generalizing lo with
          | nil => intro s hs; cases hs
          | cons q l ih =>
            obtain ⟨a, b, c, d⟩ := hw
            intro s hs
            rw [List.mem_cons] at hs
            rcases hs with rfl | hs
            · exact ⟨a, b⟩
            · have := ih d s hs; omega
        have := h4 d _ hm
        omega
      obtain ⟨g1, g2, g3⟩ := J_law hk h3 (p + 1) d hlo hp' (fun y e => hy y (by simpa using e)) (fun x _ e => hx x (by omega) (by simpa using e))
      rw [J_succ]
      refine ⟨⟨a, b, c, g1⟩, fun x => ?_, ?_⟩
      · show (_ ∨ fr (J l first k (p + 1)) x) ↔ (_ ∨ fr l x) ∨ _
        rw [g2, or_assoc]
      · rw [leftS_cons, g3, leftS_cons]; omega

/-- What Free does to the set of free pages. -/
theorem free_law {n : Int} {l l' : List Run} {first k : Int} {v : Value} (hw : WF n l) (h : FreeR l n first k v l') :
    (badF n first k ∧ v = .int .i64 1 ∧ l' = l) ∨
    (¬ badF n first k ∧ (∃ x, first ≤ x ∧ x < first + k ∧ fr l x) ∧ v = .int .i64 5 ∧ l' = l) ∨
    (¬ badF n first k ∧ (∀ x, first ≤ x → x < first + k → ¬ fr l x) ∧ v = .int .i64 0 ∧ WF n l' ∧ (∀ x, fr l' x ↔ fr l x ∨ (first ≤ x ∧ x < first + k)) ∧ leftS l' = leftS l + k) := by
  rcases h with h | ⟨hb, p, hp, hlow, hhigh, h⟩
  · exact .inl h
  · have hb' : 1 ≤ k ∧ 1 ≤ first ∧ first ≤ n - 1 ∧ k ≤ n - first := by unfold badF at hb; omega
    have hget : ∀ (j : Nat) x, l[j]? = some x → x ∈ l := fun j x e => List.mem_of_getElem? e
    have hm := WFf_mem hw (by omega)
    rcases h with ⟨ho, rfl, rfl⟩ | ⟨ho, rfl, rfl⟩
    · refine .inr (.inl ⟨hb, ?_, rfl, rfl⟩)
      rcases ho with ⟨x, h1, h2, h3⟩ | ⟨y, h2, h3⟩
      · have := hlow (p - 1) x (by omega) h2
        exact ⟨first, by omega, by omega, fr_mem.2 ⟨x, hget _ x h2, by omega, by omega⟩⟩
      · have := hhigh y h2
        have := hm y (hget _ y h2)
        exact ⟨y.1, by omega, by omega, fr_mem.2 ⟨y, hget _ y h2, by omega, by omega⟩⟩
    · have hy : ∀ y, l[p]? = some y → first + k ≤ y.1 := fun y e => Int.not_lt.1 fun h => ho (.inr ⟨y, e, h⟩)
      have hx : ∀ x, 0 < p → l[p - 1]? = some x → x.1 + x.2 ≤ first := fun x h0 e => Int.not_lt.1 fun h => ho (.inl ⟨x, h0, e, h⟩)
      obtain ⟨g1, g2, g3⟩ := J_law (by omega) (show first + k ≤ n by omega) p hw (by omega) hp hy hx
      refine .inr (.inr ⟨hb, fun z hz1 hz2 hf => ?_, rfl, g1, g2, g3⟩)
      obtain ⟨r, hr, h4, h5⟩ := fr_mem.1 hf
      obtain ⟨j, hj⟩ := List.getElem?_of_mem hr
      have order : ∀ {lo : Int} {l : List Run}, WFf n lo l → ∀ (i j : Nat) s t, l[i]? = some s → l[j]? = some t → i < j → s.1 + s.2 < t.1 := fun {lo l} hw => by
        induction l generalizing lo with
        | nil => intro i j s t hs; simp at hs
        | cons q l ih =>
          obtain ⟨a, b, c, d⟩ := hw
          intro i j s t hs ht hij
          cases j with
          | zero => omega
          | succ j =>
            have ht' : l[j]? = some t := by simpa using ht
            cases i with
            | zero =>
              have : q = s := by simpa using hs
              subst this
              have h6 : ∀ {lo : Int} {l : List Run}, WFf n lo l → ∀ s ∈ l, lo < s.1 := fun {lo l} hw => by
                induction l generalizing lo with
                | nil => intro s hs; cases hs
                | cons q l ih =>
                  obtain ⟨a, b, c, d⟩ := hw
                  intro s hs
                  rw [List.mem_cons] at hs
                  rcases hs with rfl | hs
                  · exact a
                  · have := ih d s hs; omega
              exact h6 d t (List.mem_of_getElem? ht')
            | succ i => exact ih d i j s t (by simpa using hs) ht' (by omega)
      by_cases hjp : j < p
      · have h7 := hlow j r hjp hj
        obtain ⟨x, hxx⟩ : ∃ x, l[p - 1]? = some x := ⟨_, List.getElem?_eq_getElem (by omega)⟩
        have := hx x (by omega) hxx
        by_cases hjp' : j = p - 1
        · subst hjp'; rw [hj] at hxx; cases hxx; omega
        · have := order hw j (p - 1) r x hj hxx (by omega)
          have := hm x (hget _ x hxx)
          omega
      · by_cases hjp' : j = p
        · subst hjp'; have := hy r hj; omega
        · have hlt := (List.getElem?_eq_some_iff.1 hj).1
          obtain ⟨y, hyy⟩ : ∃ y, l[p]? = some y := ⟨_, List.getElem?_eq_getElem (by omega)⟩
          have := hy y hyy
          have := order hw p j y r hyy hj (by omega)
          have := hm y (hget _ y hyy)
          omega

theorem new_wf (n : Int) : WF (newN n) (newL n) ∧ (∀ x, fr (newL n) x ↔ 1 ≤ x ∧ x < newN n) ∧ leftS (newL n) = newN n - 1 := by
  unfold newL
  have : 1 ≤ newN n := by unfold newN; omega
  split
  · rename_i h
    refine ⟨⟨by simp only; omega, by simp only; omega, by simp only; omega, trivial⟩, fun x => ?_, by simp [leftS]⟩
    simp only [fr, or_false]
    omega
  · rename_i h
    refine ⟨trivial, fun x => ⟨fun h => h.elim, fun h => by omega⟩, ?_⟩
    simp only [leftS, List.map_nil, List.sum_nil]; omega

end Go.Proofs
