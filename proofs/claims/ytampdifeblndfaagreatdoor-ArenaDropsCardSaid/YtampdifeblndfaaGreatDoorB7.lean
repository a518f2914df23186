/-
  Page: the contracts with the plain law, and more of the plain law (for seats that stand above page).
-/
import Derived.Test.YtampdifeblndfaaGreatDoorB3
import Derived.Test.YtampdifeblndfaaGreatDoorB5
set_option linter.unusedVariables false
set_option linter.unusedSimpArgs false
set_option maxRecDepth 100000
namespace Go.Proofs
open Go.Sl

/-- What Alloc does. -/
def AllocL (n : Int) (l : List Run) (k : Int) (v : Value) (l' : List Run) : Prop :=
  (k < 1 ∧ v = tup 0 1 ∧ l' = l) ∨ (1 ≤ k ∧ (∀ r ∈ l, r.2 < k) ∧ v = tup 0 3 ∧ l' = l) ∨
  (1 ≤ k ∧ ∃ b ∈ l, k ≤ b.2 ∧ (∀ y ∈ l, k ≤ y.2 → lt y b = false) ∧ v = tup b.1 0 ∧ (∀ x, fr l' x ↔ fr l x ∧ ¬ (b.1 ≤ x ∧ x < b.1 + k)) ∧ leftS l' = leftS l - k)

/-- What Free does. -/
def FreeL (n : Int) (l : List Run) (first k : Int) (v : Value) (l' : List Run) : Prop :=
  (badF n first k ∧ v = .int .i64 1 ∧ l' = l) ∨
  (¬ badF n first k ∧ (∃ x, first ≤ x ∧ x < first + k ∧ fr l x) ∧ v = .int .i64 5 ∧ l' = l) ∨
  (¬ badF n first k ∧ (∀ x, first ≤ x → x < first + k → ¬ fr l x) ∧ v = .int .i64 0 ∧ (∀ x, fr l' x ↔ fr l x ∨ (first ≤ x ∧ x < first + k)) ∧ leftS l' = leftS l + k)

theorem use_alloc {a : Nat} {n : Int} {l : List Run} {k : Int} {F : Asrt} {K : Value → Hp → Prop} {h : Hp} (hw : WF n l) (hn : 0 ≤ n ∧ n ≤ 262144) (hk : k ≤ 9223372036854775807) (hh : (PG a n l * F) h)
    (hK : ∀ v l' h', AllocL n l k v l' → WF n l' → (PG a n l' * F) h' → K v h') : CallH Tryz.prog 32 #[pv a, .int .i64 k] K h := by
  have := WF_len hw hn.1
  refine (alloc_tr a n l k (B := n) (by omega) (WF_bd hw) (by omega) hk).use hh fun v h' hv => ?_
  obtain ⟨l', hv⟩ := ex_star.1 hv
  rw [star_assoc, pr_star] at hv
  rcases alloc_law hw hv.1 with ⟨h1, h2, rfl⟩ | ⟨h1, h2, h3, rfl⟩ | ⟨h1, b, h2, h3, h4, h5, h6, h7, h8⟩
  · exact hK v _ h' (.inl ⟨h1, h2, rfl⟩) hw hv.2
  · exact hK v _ h' (.inr (.inl ⟨h1, h2, h3, rfl⟩)) hw hv.2
  · exact hK v _ h' (.inr (.inr ⟨h1, b, h2, h3, h4, h5, h7, h8⟩)) h6 hv.2

theorem use_free {a : Nat} {n : Int} {l : List Run} {first k : Int} {F : Asrt} {K : Value → Hp → Prop} {h : Hp} (hw : WF n l) (hn : 0 ≤ n ∧ n ≤ 262144) (hk : k ≤ 9223372036854775807) (hh : (PG a n l * F) h)
    (hK : ∀ v l' h', FreeL n l first k v l' → WF n l' → (PG a n l' * F) h' → K v h') : CallH Tryz.prog 43 #[pv a, .int .i64 first, .int .i64 k] K h := by
  have := WF_len hw hn.1
  refine (free_tr a n l first k (B := n) (by omega) (WF_bd hw) (by omega) (by omega) hk).use hh fun v h' hv => ?_
  obtain ⟨l', hv⟩ := ex_star.1 hv
  rw [star_assoc, pr_star] at hv
  rcases free_law hw hv.1 with ⟨h1, h2, rfl⟩ | ⟨h1, h2, h3, rfl⟩ | ⟨h1, h2, h3, h6, h7, h8⟩
  · exact hK v _ h' (.inl ⟨h1, h2, rfl⟩) hw hv.2
  · exact hK v _ h' (.inr (.inl ⟨h1, h2, h3, rfl⟩)) hw hv.2
  · exact hK v _ h' (.inr (.inr ⟨h1, h2, h3, h7, h8⟩)) h6 hv.2

theorem use_new {n : Int} {F : Asrt} {K : Value → Hp → Prop} {h : Hp} (hh : F h) (hK : ∀ a h', (PG a (newN n) (newL n) * F) h' → K (pv a) h') : CallH Tryz.prog 30 #[.int .i64 n] K h := by
  refine (new_tr n).use (F := F) (by rw [emp_star]; exact hh) fun v h' hv => ?_
  obtain ⟨a, hv⟩ := ex_star.1 hv
  rw [star_assoc, pr_star] at hv
  rw [hv.1]
  exact hK a h' hv.2

theorem use_runs {a : Nat} {n : Int} {l : List Run} {F : Asrt} {K : Value → Hp → Prop} {h : Hp} (hw : WF n l) (hn : 0 ≤ n ∧ n ≤ 262144) (hh : (PG a n l * F) h)
    (hK : ∀ v h', (SL enc2 91 v l * (PG a n l * F)) h' → K v h') : CallH Tryz.prog 78 #[pv a] K h := by
  have := WF_len hw hn.1
  exact (runs_tr a n l (by omega)).use hh fun v h' hv => hK v h' (asr (star_assoc _ _ _) hv)

theorem use_left {a : Nat} {n : Int} {l : List Run} {F : Asrt} {K : Value → Hp → Prop} {h : Hp} (hw : WF n l) (hn : 0 ≤ n ∧ n ≤ 262144) (hh : (PG a n l * F) h)
    (hK : ∀ h', (PG a n l * F) h' → K (.int .i64 (leftS l)) h') : CallH Tryz.prog 38 #[pv a] K h := by
  have h1 := WF_len hw hn.1
  refine (left_tr a n l (by omega) (fun r hr => by have := WFf_mem hw (by omega) r hr; omega) (by omega)).use hh fun v h' hv => ?_
  rw [star_assoc, pr_star] at hv
  rw [hv.1]
  exact hK h' hv.2

theorem WF_one (n m : Int) (h : 1 ≤ m) (h' : 1 + m ≤ n) : WF n [(1, m)] := ⟨by simp only; omega, by simp only; omega, by simp only; omega, trivial⟩

theorem WFf_snoc {n : Int} {r : Run} (h2 : 1 ≤ r.2) (h3 : r.1 + r.2 ≤ n) : ∀ {lo : Int} {l : List Run}, WFf n lo l → lo < r.1 → (∀ x, fr l x → x + 1 < r.1) → WFf n lo (l ++ [r])
  | _, [], _, h, _ => ⟨h, h2, h3, trivial⟩
  | _, s :: l, ⟨a, b, c, d⟩, h, hx => by
    have := hx (s.1 + s.2 - 1) (.inl (by omega))
    exact ⟨a, b, c, WFf_snoc h2 h3 d (by omega) fun x hf => hx x (.inr hf)⟩

theorem fr_append {l m : List Run} {x : Int} : fr (l ++ m) x ↔ fr l x ∨ fr m x := by
  rw [fr_mem, fr_mem, fr_mem]
  simp only [List.mem_append]
  constructor
  · rintro ⟨r, h | h, g⟩
    · exact .inl ⟨r, h, g⟩
    · exact .inr ⟨r, h, g⟩
  · rintro (⟨r, h, g⟩ | ⟨r, h, g⟩)
    · exact ⟨r, .inl h, g⟩
    · exact ⟨r, .inr h, g⟩

theorem leftS_append (l m : List Run) : leftS (l ++ m) = leftS l + leftS m := by simp [leftS]

theorem exV0 (a b : Int) : exV (tup a b) 0 = some (.int .i64 a) := rfl
theorem exV1 (a b : Int) : exV (tup a b) 1 = some (.int .i64 b) := rfl

theorem WFf_full {n : Int} : ∀ {lo : Int} {l : List Run}, WFf n lo l → leftS l + lo + 1 = n → lo + 1 < n → l = [(lo + 1, n - lo - 1)]
  | lo, [], _, h, h' => by simp [leftS] at h; omega
  | lo, [r], ⟨a, b, c, _⟩, h, _ => by
    rw [leftS_cons] at h
    simp only [leftS, List.map_nil, List.sum_nil] at h
    rw [show r = (lo + 1, n - lo - 1) from Prod.ext (by simp only; omega) (by simp only; omega)]
  | lo, r :: s :: l, ⟨a, b, c, d⟩, h, _ => by
    have := (WFf_left d).2 (by simp)
    rw [leftS_cons] at h
    omega

theorem fr_start {n : Int} : ∀ {lo : Int} {l : List Run}, WFf n lo l → ∀ r ∈ l, ¬ fr l (r.1 - 1)
  | _, [], _, r, h => by simp at h
  | lo, s :: l, ⟨a, b, c, d⟩, r, h => by
    intro hf
    rw [List.mem_cons] at h
    rcases h with rfl | h
    · rcases hf with hf | hf
      · omega
      · have := fr_lo d _ hf; omega
    · have h1 := fr_lo d r.1 (fr_mem.2 ⟨r, h, by omega, by have := WFf_memlo d r h; omega⟩)
      rcases hf with hf | hf
      · have h2 := WFf_memlo d r h; omega
      · exact fr_start d r h hf
where
  WFf_memlo {n : Int} : ∀ {lo : Int} {l : List Run}, WFf n lo l → ∀ r ∈ l, lo < r.1 ∧ 1 ≤ r.2
    | _, [], _, r, h => by simp at h
    | lo, s :: l, ⟨a, b, c, d⟩, r, h => by
      rw [List.mem_cons] at h
      rcases h with rfl | h
      · exact ⟨a, b⟩
      · have := WFf_memlo d r h; omega

theorem fr_run {n : Int} {a b : Int} (hab : a < b) : ∀ {lo : Int} {l : List Run}, WFf n lo l → (∀ x, a ≤ x → x < b → fr l x) → ∃ r ∈ l, r.1 ≤ a ∧ b ≤ r.1 + r.2
  | _, [], _, h => (h a (by omega) hab).elim
  | lo, r :: l, ⟨p, q, c, d⟩, h => by
    have ha := h a (by omega) hab
    rcases ha with ha | ha
    · by_cases hb : b ≤ r.1 + r.2
      · exact ⟨r, by simp, by omega, hb⟩
      · exfalso
        rcases h (r.1 + r.2) (by omega) (by omega) with h1 | h1
        · omega
        · have := fr_lo d _ h1; omega
    · have hlo := fr_lo d a ha
      obtain ⟨s, hs, h1, h2⟩ := fr_run hab d fun x hx hx' => by
        rcases h x hx hx' with h1 | h1
        · omega
        · exact h1
      exact ⟨s, by simp [hs], h1, h2⟩

/-- How many runs begin below m. -/
def st (l : List Run) (m : Int) : Nat := l.countP fun r => decide (r.1 < m)

theorem st_split (m : Int) : ∀ l : List Run, st l (m + 1) = st l m + l.countP fun r => decide (r.1 = m)
  | [] => rfl
  | r :: l => by
    have := st_split m l
    unfold st at *
    simp only [List.countP_cons, this]
    by_cases h1 : r.1 < m
    · simp only [decide_eq_true h1, decide_eq_true (show r.1 < m + 1 by omega), decide_eq_false (show ¬ r.1 = m by omega)]; simp; omega
    · by_cases h2 : r.1 = m
      · simp only [decide_eq_false h1, decide_eq_true (show r.1 < m + 1 by omega), decide_eq_true h2]; simp; omega
      · simp only [decide_eq_false h1, decide_eq_false (show ¬ r.1 < m + 1 by omega), decide_eq_false h2]; simp

theorem countP_lo {n m : Int} : ∀ {lo : Int} {l : List Run}, WFf n lo l → m ≤ lo → (l.countP fun r => decide (r.1 = m)) = 0
  | _, [], _, _ => rfl
  | lo, r :: l, ⟨a, b, c, d⟩, h => by
    rw [List.countP_cons, countP_lo d (by omega), decide_eq_false (by omega)]; rfl

theorem countP_le {n m : Int} : ∀ {lo : Int} {l : List Run}, WFf n lo l → (l.countP fun r => decide (r.1 = m)) ≤ 1
  | _, [], _ => by simp
  | lo, r :: l, ⟨a, b, c, d⟩ => by
    rw [List.countP_cons]
    by_cases h : r.1 = m
    · rw [countP_lo d (by omega), decide_eq_true h]; simp
    · rw [decide_eq_false h]; simpa using countP_le d

theorem st_t {n m : Int} {l : List Run} (hw : WF n l) (h1 : fr l m) (h2 : ¬ fr l (m - 1)) : st l (m + 1) = st l m + 1 := by
  rw [st_split]
  obtain ⟨r, hr, h3, h4⟩ := fr_mem.1 h1
  have h5 : r.1 = m := by
    rcases Int.lt_or_le r.1 m with h | h
    · exact (h2 (fr_mem.2 ⟨r, hr, by omega, by omega⟩)).elim
    · omega
  have h6 : 0 < l.countP fun r => decide (r.1 = m) := List.countP_pos_iff.2 ⟨r, hr, by simpa using h5⟩
  have := countP_le (m := m) hw
  omega

theorem st_f {n m : Int} {l : List Run} (hw : WF n l) (h : fr l m → fr l (m - 1)) : st l (m + 1) = st l m := by
  rw [st_split]
  have : (l.countP fun r => decide (r.1 = m)) = 0 := by
    rw [List.countP_eq_zero]
    intro r hr hq
    have hq : r.1 = m := by simpa using hq
    have h1 := WFf_mem hw (by omega) r hr
    have h2 := fr_start hw r hr
    rw [hq] at h2
    exact h2 (h (fr_mem.2 ⟨r, hr, by omega, by omega⟩))
  omega

theorem st_one {n : Int} {l : List Run} (hw : WF n l) : st l 1 = 0 := by
  unfold st
  rw [List.countP_eq_zero]
  intro r hr hq
  have := WFf_mem hw (by omega) r hr
  have : r.1 < 1 := by simpa using hq
  omega

theorem st_all {n : Int} {l : List Run} (hw : WF n l) : st l n = l.length := by
  unfold st
  rw [List.countP_eq_length]
  intro r hr
  have := WFf_mem hw (by omega) r hr
  exact decide_eq_true (by omega)

/-- What is handed out: within bounds, not free, apart. -/
structure Held (n : Int) (l got : List Run) : Prop where
  rng : ∀ r ∈ got, 1 ≤ r.1 ∧ 1 ≤ r.2 ∧ r.1 + r.2 ≤ n
  off : ∀ r ∈ got, ∀ x, r.1 ≤ x → x < r.1 + r.2 → ¬ fr l x
  dis : got.Pairwise fun r s => r.1 + r.2 ≤ s.1 ∨ s.1 + s.2 ≤ r.1

theorem Held_nil (n : Int) (l : List Run) : Held n l [] := ⟨by simp, by simp, by simp⟩

theorem Held_add {n k : Int} {l l' got : List Run} {b : Run} (hw : WF n l) (h : Held n l got) (hb : b ∈ l) (hk : 1 ≤ k) (hkb : k ≤ b.2) (hf : ∀ x, fr l' x ↔ fr l x ∧ ¬ (b.1 ≤ x ∧ x < b.1 + k)) : Held n l' (got ++ [(b.1, k)]) := by
  have hm := WFf_mem hw (by omega) b hb
  refine ⟨fun r hr => ?_, fun r hr x h1 h2 hx => ?_, ?_⟩
  · rw [List.mem_append, List.mem_singleton] at hr
    rcases hr with hr | rfl
    · exact h.rng r hr
    · exact ⟨hm.1, hk, by simp only; omega⟩
  · rw [hf] at hx
    rw [List.mem_append, List.mem_singleton] at hr
    rcases hr with hr | rfl
    · exact h.off r hr x h1 h2 hx.1
    · exact hx.2 ⟨h1, h2⟩
  · rw [List.pairwise_append]
    refine ⟨h.dis, by simp, fun r hr s hs => ?_⟩
    rw [List.mem_singleton] at hs
    subst hs
    simp only
    rcases Int.le_total r.1 b.1 with h1 | h1
    · rcases Int.lt_or_le b.1 (r.1 + r.2) with h2 | h2
      · exact (h.off r hr b.1 h1 h2 (fr_mem.2 ⟨b, hb, by omega, by omega⟩)).elim
      · exact .inl h2
    · rcases Int.lt_or_le r.1 (b.1 + k) with h2 | h2
      · exact (h.off r hr r.1 (by omega) (by have := h.rng r hr; omega) (fr_mem.2 ⟨b, hb, by omega, by omega⟩)).elim
      · exact .inr h2

theorem Held_free {n : Int} {l l' A B : List Run} {r : Run} (h : Held n l (A ++ r :: B)) (hf : ∀ x, fr l' x ↔ fr l x ∨ (r.1 ≤ x ∧ x < r.1 + r.2)) : Held n l' (A ++ B) := by
  have hsub : ∀ s ∈ A ++ B, s ∈ A ++ r :: B := fun s hs => by
    rw [List.mem_append] at hs ⊢
    rcases hs with hs | hs
    · exact .inl hs
    · exact .inr (List.mem_cons_of_mem _ hs)
  have hd := h.dis
  rw [List.pairwise_append, List.pairwise_cons] at hd
  obtain ⟨d1, ⟨d2, d3⟩, d4⟩ := hd
  refine ⟨fun s hs => h.rng s (hsub s hs), fun s hs x h1 h2 hx => ?_, ?_⟩
  · rw [hf] at hx
    rcases hx with hx | hx
    · exact h.off s (hsub s hs) x h1 h2 hx
    · rw [List.mem_append] at hs
      rcases hs with hs | hs
      · have := d4 s hs r (by simp); omega
      · have := d2 s hs; omega
  · rw [List.pairwise_append]
    exact ⟨d1, d3, fun a ha b hb => d4 a ha b (List.mem_cons_of_mem _ hb)⟩

/-- A run that is held is taken back. -/
theorem use_back {a : Nat} {n : Int} {l : List Run} {r : Run} {A B : List Run} {F : Asrt} {K : Value → Hp → Prop} {h : Hp} (hw : WF n l) (hn : 0 ≤ n ∧ n ≤ 262144) (hd : Held n l (A ++ r :: B)) (hh : (PG a n l * F) h)
    (hK : ∀ l' h', WF n l' → (∀ x, fr l' x ↔ fr l x ∨ (r.1 ≤ x ∧ x < r.1 + r.2)) → leftS l' = leftS l + r.2 → (PG a n l' * F) h' → K (.int .i64 0) h') : CallH Tryz.prog 43 #[pv a, .int .i64 r.1, .int .i64 r.2] K h := by
  have hr := hd.rng r (by simp)
  refine use_free hw hn (by omega) hh fun v l' h' hv w' hh' => ?_
  rcases hv with ⟨hq, _⟩ | ⟨_, ⟨z, z1, z2, z3⟩, _⟩ | ⟨_, _, rfl, hf, hl⟩
  · exfalso; unfold badF at hq; omega
  · exact (hd.off r (by simp) z z1 z2 z3).elim
  · exact hK l' h' w' hf hl hh'

theorem leftS_app (A B : List Run) : leftS (A ++ B) = leftS A + leftS B := by simp [leftS]

theorem enc2_agg (r : Run) : (Value.agg (enc2.enc r).toArray) = run r := rfl

theorem elRun2 : ElOk Tryz.prog 87 91 2 16 := elRun

end Go.Proofs
