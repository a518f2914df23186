/-
  Texts of the proof, in one file: PgU, PgEnc, PgApart, PgRef, PgRef2.
-/
import Derived.Test.YtampdifeblndfaaGreatDoorB3
import Derived.Test.YtampdifeblndfaaGreatDoorB5
set_option linter.unusedVariables false
set_option linter.unusedSimpArgs false
/-
  Page: the contracts with the plain law, and more of the plain law (for seats that stand above page).
-/
set_option maxRecDepth 100000
namespace Go.Proofs
open Go.Sl
def AllocL (n : Int) (l : List Run) (k : Int) (v : Value) (l' : List Run) : Prop :=
  (k < 1 ∧ v = tup 0 1 ∧ l' = l) ∨ (1 ≤ k ∧ (∀ r ∈ l, r.2 < k) ∧ v = tup 0 3 ∧ l' = l) ∨
  (1 ≤ k ∧ ∃ b ∈ l, k ≤ b.2 ∧ (∀ y ∈ l, k ≤ y.2 → lt y b = false) ∧ v = tup b.1 0 ∧ (∀ x, fr l' x ↔ fr l x ∧ ¬ (b.1 ≤ x ∧ x < b.1 + k)) ∧ leftS l' = leftS l - k)
def FreeL (n : Int) (l : List Run) (first k : Int) (v : Value) (l' : List Run) : Prop :=
  (badF n first k ∧ v = .int .i64 1 ∧ l' = l) ∨
  (¬ badF n first k ∧ (∃ x, first ≤ x ∧ x < first + k ∧ fr l x) ∧ v = .int .i64 5 ∧ l' = l) ∨
  (¬ badF n first k ∧ (∀ x, first ≤ x → x < first + k → ¬ fr l x) ∧ v = .int .i64 0 ∧ (∀ x, fr l' x ↔ fr l x ∨ (first ≤ x ∧ x < first + k)) ∧ leftS l' = leftS l + k)
theorem use_alloc {a : Nat} {n : Int} {l : List Run} {k : Int} {F : Asrt} {K : Value → Hp → Prop} {h : Hp} (hw : WF n l) (hn : 0 ≤ n ∧ n ≤ 262144) (hk : k ≤ 9223372036854775807) (hh : (PG a n l * F) h)
    (hK : ∀ v l' h', AllocL n l k v l' → WF n l' → (PG a n l' * F) h' → K v h') : CallH Tryz.prog 32 #[pv a, .int .i64 k] K h := by
  have := WF_len hw hn.1
  refine (alloc_tr a n l k (B := n) (by omega) (WF_bd hw) (by omega) hk).use hh fun v h' hv => ?_
  obtain ⟨l', hv⟩ := ex_star.1 hv
  rw [star_assoc, pr_star] at hv
  rcases alloc_law hw hv.1 with ⟨h1, h2, rfl⟩ | ⟨h1, h2, h3, rfl⟩ | ⟨h1, b, h2, h3, h4, h5, h6, h7, h8⟩
  · exact hK v _ h' (.inl ⟨h1, h2, rfl⟩) hw hv.2
  · exact hK v _ h' (.inr (.inl ⟨h1, h2, h3, rfl⟩)) hw hv.2
  · exact hK v _ h' (.inr (.inr ⟨h1, b, h2, h3, h4, h5, h7, h8⟩)) h6 hv.2
theorem use_free {a : Nat} {n : Int} {l : List Run} {first k : Int} {F : Asrt} {K : Value → Hp → Prop} {h : Hp} (hw : WF n l) (hn : 0 ≤ n ∧ n ≤ 262144) (hk : k ≤ 9223372036854775807) (hh : (PG a n l * F) h)
    (hK : ∀ v l' h', FreeL n l first k v l' → WF n l' → (PG a n l' * F) h' → K v h') : CallH Tryz.prog 43 #[pv a, .int .i64 first, .int .i64 k] K h := by
  have := WF_len hw hn.1
  refine (free_tr a n l first k (B := n) (by omega) (WF_bd hw) (by omega) (by omega) hk).use hh fun v h' hv => ?_
  obtain ⟨l', hv⟩ := ex_star.1 hv
  rw [star_assoc, pr_star] at hv
  rcases free_law hw hv.1 with ⟨h1, h2, rfl⟩ | ⟨h1, h2, h3, rfl⟩ | ⟨h1, h2, h3, h6, h7, h8⟩
  · exact hK v _ h' (.inl ⟨h1, h2, rfl⟩) hw hv.2
  · exact hK v _ h' (.inr (.inl ⟨h1, h2, h3, rfl⟩)) hw hv.2
  · exact hK v _ h' (.inr (.inr ⟨h1, h2, h3, h7, h8⟩)) h6 hv.2
theorem use_new {n : Int} {F : Asrt} {K : Value → Hp → Prop} {h : Hp} (hh : F h) (hK : ∀ a h', (PG a (newN n) (newL n) * F) h' → K (pv a) h') : CallH Tryz.prog 30 #[.int .i64 n] K h := by
  refine (new_tr n).use (F := F) (by rw [emp_star]; exact hh) fun v h' hv => ?_
  obtain ⟨a, hv⟩ := ex_star.1 hv
  rw [star_assoc, pr_star] at hv
  rw [hv.1]
  exact hK a h' hv.2
theorem use_runs {a : Nat} {n : Int} {l : List Run} {F : Asrt} {K : Value → Hp → Prop} {h : Hp} (hw : WF n l) (hn : 0 ≤ n ∧ n ≤ 262144) (hh : (PG a n l * F) h)
    (hK : ∀ v h', (SL enc2 91 v l * (PG a n l * F)) h' → K v h') : CallH Tryz.prog 78 #[pv a] K h := by
  have := WF_len hw hn.1
  exact (runs_tr a n l (by omega)).use hh fun v h' hv => hK v h' (asr (star_assoc _ _ _) hv)
theorem use_left {a : Nat} {n : Int} {l : List Run} {F : Asrt} {K : Value → Hp → Prop} {h : Hp} (hw : WF n l) (hn : 0 ≤ n ∧ n ≤ 262144) (hh : (PG a n l * F) h)
    (hK : ∀ h', (PG a n l * F) h' → K (.int .i64 (leftS l)) h') : CallH Tryz.prog 38 #[pv a] K h := by
  have h1 := WF_len hw hn.1
  refine (left_tr a n l (by omega) (fun r hr => by have := WFf_mem hw (by omega) r hr; omega) (by omega)).use hh fun v h' hv => ?_
  rw [star_assoc, pr_star] at hv
  rw [hv.1]
  exact hK h' hv.2
theorem WF_one (n m : Int) (h : 1 ≤ m) (h' : 1 + m ≤ n) : WF n [(1, m)] := ⟨by simp only; omega, by simp only; omega, by simp only; omega, trivial⟩
theorem WFf_snoc {n : Int} {r : Run} (h2 : 1 ≤ r.2) (h3 : r.1 + r.2 ≤ n) : ∀ {lo : Int} {l : List Run}, WFf n lo l → lo < r.1 → (∀ x, fr l x → x + 1 < r.1) → WFf n lo (l ++ [r])
  | _, [], _, h, _ => ⟨h, h2, h3, trivial⟩
  | _, s :: l, ⟨a, b, c, d⟩, h, hx => by
    have := hx (s.1 + s.2 - 1) (.inl (by omega))
    exact ⟨a, b, c, WFf_snoc h2 h3 d (by omega) fun x hf => hx x (.inr hf)⟩
theorem fr_append {l m : List Run} {x : Int} : fr (l ++ m) x ↔ fr l x ∨ fr m x := by
  rw [fr_mem, fr_mem, fr_mem]
  simp only [List.mem_append]
  constructor
  · rintro ⟨r, h | h, g⟩
    · exact .inl ⟨r, h, g⟩
    · exact .inr ⟨r, h, g⟩
  · rintro (⟨r, h, g⟩ | ⟨r, h, g⟩)
    · exact ⟨r, .inl h, g⟩
    · exact ⟨r, .inr h, g⟩
theorem leftS_append (l m : List Run) : leftS (l ++ m) = leftS l + leftS m := by simp [leftS]
theorem exV0 (a b : Int) : exV (tup a b) 0 = some (.int .i64 a) := rfl
theorem exV1 (a b : Int) : exV (tup a b) 1 = some (.int .i64 b) := rfl
theorem WFf_full {n : Int} : ∀ {lo : Int} {l : List Run}, WFf n lo l → leftS l + lo + 1 = n → lo + 1 < n → l = [(lo + 1, n - lo - 1)]
  | lo, [], _, h, h' => by simp [leftS] at h; omega
  | lo, [r], ⟨a, b, c, _⟩, h, _ => by
    rw [leftS_cons] at h
    simp only [leftS, List.map_nil, List.sum_nil] at h
    rw [show r = (lo + 1, n - lo - 1) from Prod.ext (by simp only; omega) (by simp only; omega)]
  | lo, r :: s :: l, ⟨a, b, c, d⟩, h, _ => by
    have := (WFf_left d).2 (by simp)
    rw [leftS_cons] at h
    omega
theorem fr_start {n : Int} : ∀ {lo : Int} {l : List Run}, WFf n lo l → ∀ r ∈ l, ¬ fr l (r.1 - 1)
  | _, [], _, r, h => by simp at h
  | lo, s :: l, ⟨a, b, c, d⟩, r, h => by
    intro hf
    rw [List.mem_cons] at h
    rcases h with rfl | h
    · rcases hf with hf | hf
      · omega
      · have := fr_lo d _ hf; omega
    · have h1 := fr_lo d r.1 (fr_mem.2 ⟨r, h, by omega, by have := WFf_memlo d r h; omega⟩)
      rcases hf with hf | hf
      · have h2 := WFf_memlo d r h; omega
      · exact fr_start d r h hf
where
  WFf_memlo {n : Int} : ∀ {lo : Int} {l : List Run}, WFf n lo l → ∀ r ∈ l, lo < r.1 ∧ 1 ≤ r.2
    | _, [], _, r, h => by simp at h
    | lo, s :: l, ⟨a, b, c, d⟩, r, h => by
      rw [List.mem_cons] at h
      rcases h with rfl | h
      · exact ⟨a, b⟩
      · have := WFf_memlo d r h; omega
theorem fr_run {n : Int} {a b : Int} (hab : a < b) : ∀ {lo : Int} {l : List Run}, WFf n lo l → (∀ x, a ≤ x → x < b → fr l x) → ∃ r ∈ l, r.1 ≤ a ∧ b ≤ r.1 + r.2
  | _, [], _, h => (h a (by omega) hab).elim
  | lo, r :: l, ⟨p, q, c, d⟩, h => by
    have ha := h a (by omega) hab
    rcases ha with ha | ha
    · by_cases hb : b ≤ r.1 + r.2
      · exact ⟨r, by simp, by omega, hb⟩
      · exfalso
        rcases h (r.1 + r.2) (by omega) (by omega) with h1 | h1
        · omega
        · have := fr_lo d _ h1; omega
    · have hlo := fr_lo d a ha
      obtain ⟨s, hs, h1, h2⟩ := fr_run hab d fun x hx hx' => by
        rcases h x hx hx' with h1 | h1
        · omega
        · exact h1
      exact ⟨s, by simp [hs], h1, h2⟩
def st (l : List Run) (m : Int) : Nat := l.countP fun r => decide (r.1 < m)
theorem st_split (m : Int) : ∀ l : List Run, st l (m + 1) = st l m + l.countP fun r => decide (r.1 = m)
  | [] => rfl
  | r :: l => by
    have := st_split m l
    unfold st at *
    simp only [List.countP_cons, this]
    by_cases h1 : r.1 < m
    · simp only [decide_eq_true h1, decide_eq_true (show r.1 < m + 1 by omega), decide_eq_false (show ¬ r.1 = m by omega)]; simp; omega
    · by_cases h2 : r.1 = m
      · simp only [decide_eq_false h1, decide_eq_true (show r.1 < m + 1 by omega), decide_eq_true h2]; simp; omega
      · simp only [decide_eq_false h1, decide_eq_false (show ¬ r.1 < m + 1 by omega), decide_eq_false h2]; simp
theorem countP_lo {n m : Int} : ∀ {lo : Int} {l : List Run}, WFf n lo l → m ≤ lo → (l.countP fun r => decide (r.1 = m)) = 0
  | _, [], _, _ => rfl
  | lo, r :: l, ⟨a, b, c, d⟩, h => by
    rw [List.countP_cons, countP_lo d (by omega), decide_eq_false (by omega)]; rfl
theorem countP_le {n m : Int} : ∀ {lo : Int} {l : List Run}, WFf n lo l → (l.countP fun r => decide (r.1 = m)) ≤ 1
  | _, [], _ => by simp
  | lo, r :: l, ⟨a, b, c, d⟩ => by
    rw [List.countP_cons]
    by_cases h : r.1 = m
    · rw [countP_lo d (by omega), decide_eq_true h]; simp
    · rw [decide_eq_false h]; simpa using countP_le d
theorem st_t {n m : Int} {l : List Run} (hw : WF n l) (h1 : fr l m) (h2 : ¬ fr l (m - 1)) : st l (m + 1) = st l m + 1 := by
  rw [st_split]
  obtain ⟨r, hr, h3, h4⟩ := fr_mem.1 h1
  have h5 : r.1 = m := by
    rcases Int.lt_or_le r.1 m with h | h
    · exact (h2 (fr_mem.2 ⟨r, hr, by omega, by omega⟩)).elim
    · omega
  have h6 : 0 < l.countP fun r => decide (r.1 = m) := List.countP_pos_iff.2 ⟨r, hr, by simpa using h5⟩
  have := countP_le (m := m) hw
  omega
theorem st_f {n m : Int} {l : List Run} (hw : WF n l) (h : fr l m → fr l (m - 1)) : st l (m + 1) = st l m := by
  rw [st_split]
  have : (l.countP fun r => decide (r.1 = m)) = 0 := by
    rw [List.countP_eq_zero]
    intro r hr hq
    have hq : r.1 = m := by simpa using hq
    have h1 := WFf_mem hw (by omega) r hr
    have h2 := fr_start hw r hr
    rw [hq] at h2
    exact h2 (h (fr_mem.2 ⟨r, hr, by omega, by omega⟩))
  omega
theorem st_one {n : Int} {l : List Run} (hw : WF n l) : st l 1 = 0 := by
  unfold st
  rw [List.countP_eq_zero]
  intro r hr hq
  have := WFf_mem hw (by omega) r hr
  have : r.1 < 1 := by simpa using hq
  omega
theorem st_all {n : Int} {l : List Run} (hw : WF n l) : st l n = l.length := by
  unfold st
  rw [List.countP_eq_length]
  intro r hr
  have := WFf_mem hw (by omega) r hr
  exact decide_eq_true (by omega)
structure Held (n : Int) (l got : List Run) : Prop where
  rng : ∀ r ∈ got, 1 ≤ r.1 ∧ 1 ≤ r.2 ∧ r.1 + r.2 ≤ n
  off : ∀ r ∈ got, ∀ x, r.1 ≤ x → x < r.1 + r.2 → ¬ fr l x
  dis : got.Pairwise fun r s => r.1 + r.2 ≤ s.1 ∨ s.1 + s.2 ≤ r.1
theorem Held_nil (n : Int) (l : List Run) : Held n l [] := ⟨by simp, by simp, by simp⟩
theorem Held_add {n k : Int} {l l' got : List Run} {b : Run} (hw : WF n l) (h : Held n l got) (hb : b ∈ l) (hk : 1 ≤ k) (hkb : k ≤ b.2) (hf : ∀ x, fr l' x ↔ fr l x ∧ ¬ (b.1 ≤ x ∧ x < b.1 + k)) : Held n l' (got ++ [(b.1, k)]) := by
  have hm := WFf_mem hw (by omega) b hb
  refine ⟨fun r hr => ?_, fun r hr x h1 h2 hx => ?_, ?_⟩
  · rw [List.mem_append, List.mem_singleton] at hr
    rcases hr with hr | rfl
    · exact h.rng r hr
    · exact ⟨hm.1, hk, by simp only; omega⟩
  · rw [hf] at hx
    rw [List.mem_append, List.mem_singleton] at hr
    rcases hr with hr | rfl
    · exact h.off r hr x h1 h2 hx.1
    · exact hx.2 ⟨h1, h2⟩
  · rw [List.pairwise_append]
    refine ⟨h.dis, by simp, fun r hr s hs => ?_⟩
    rw [List.mem_singleton] at hs
    subst hs
    simp only
    rcases Int.le_total r.1 b.1 with h1 | h1
    · rcases Int.lt_or_le b.1 (r.1 + r.2) with h2 | h2
      · exact (h.off r hr b.1 h1 h2 (fr_mem.2 ⟨b, hb, by omega, by omega⟩)).elim
      · exact .inl h2
    · rcases Int.lt_or_le r.1 (b.1 + k) with h2 | h2
      · exact (h.off r hr r.1 (by omega) (by have := h.rng r hr; omega) (fr_mem.2 ⟨b, hb, by omega, by omega⟩)).elim
      · exact .inr h2
theorem Held_free {n : Int} {l l' A B : List Run} {r : Run} (h : Held n l (A ++ r :: B)) (hf : ∀ x, fr l' x ↔ fr l x ∨ (r.1 ≤ x ∧ x < r.1 + r.2)) : Held n l' (A ++ B) := by
  have hsub : ∀ s ∈ A ++ B, s ∈ A ++ r :: B := fun s hs => by
    rw [List.mem_append] at hs ⊢
    rcases hs with hs | hs
    · exact .inl hs
    · exact .inr (List.mem_cons_of_mem _ hs)
  have hd := h.dis
  rw [List.pairwise_append, List.pairwise_cons] at hd
  obtain ⟨d1, ⟨d2, d3⟩, d4⟩ := hd
  refine ⟨fun s hs => h.rng s (hsub s hs), fun s hs x h1 h2 hx => ?_, ?_⟩
  · rw [hf] at hx
    rcases hx with hx | hx
    · exact h.off s (hsub s hs) x h1 h2 hx
    · rw [List.mem_append] at hs
      rcases hs with hs | hs
      · have := d4 s hs r (by simp); omega
      · have := d2 s hs; omega
  · rw [List.pairwise_append]
    exact ⟨d1, d3, fun a ha b hb => d4 a ha b (List.mem_cons_of_mem _ hb)⟩
theorem use_back {a : Nat} {n : Int} {l : List Run} {r : Run} {A B : List Run} {F : Asrt} {K : Value → Hp → Prop} {h : Hp} (hw : WF n l) (hn : 0 ≤ n ∧ n ≤ 262144) (hd : Held n l (A ++ r :: B)) (hh : (PG a n l * F) h)
    (hK : ∀ l' h', WF n l' → (∀ x, fr l' x ↔ fr l x ∨ (r.1 ≤ x ∧ x < r.1 + r.2)) → leftS l' = leftS l + r.2 → (PG a n l' * F) h' → K (.int .i64 0) h') : CallH Tryz.prog 43 #[pv a, .int .i64 r.1, .int .i64 r.2] K h := by
  have hr := hd.rng r (by simp)
  refine use_free hw hn (by omega) hh fun v l' h' hv w' hh' => ?_
  rcases hv with ⟨hq, _⟩ | ⟨_, ⟨z, z1, z2, z3⟩, _⟩ | ⟨_, _, rfl, hf, hl⟩
  · exfalso; unfold badF at hq; omega
  · exact (hd.off r (by simp) z z1 z2 z3).elim
  · exact hK l' h' w' hf hl hh'
theorem leftS_app (A B : List Run) : leftS (A ++ B) = leftS A + leftS B := by simp [leftS]
theorem enc2_agg (r : Run) : (Value.agg (enc2.enc r).toArray) = run r := rfl
theorem elRun2 : ElOk Tryz.prog 87 91 2 16 := elRun
end Go.Proofs

/-
  Booleans as elements (for seats above page, where PgApart is an alias: import PgEnc).
-/
namespace Go.Proofs
open Go.Sl
abbrev bE : Enc Bool := enc1 (fun b => .bool b) (fun _ => rfl)
end Go.Proofs



/-
  The document's own pages (treadmillref5.Pages): the same law.
-/
set_option maxRecDepth 100000
namespace Go.Proofs
open Go.Sl
theorem WFf_up {n : Int} : ∀ {lo : Int} {l : List Run}, WFf n lo l → WFf (n + 1) lo l
  | _, [], _ => trivial
  | _, _ :: _, ⟨a, b, c, d⟩ => ⟨a, b, by omega, WFf_up d⟩
theorem WFf_ext {i : Int} {r : Run} : ∀ {lo : Int} {init : List Run}, WFf i lo (init ++ [r]) → r.1 + r.2 = i → WFf (i + 1) lo (init ++ [(r.1, r.2 + 1)])
  | lo, [], ⟨a, b, c, _⟩, h => ⟨a, by simp only; omega, by simp only; omega, trivial⟩
  | lo, s :: init, ⟨a, b, c, d⟩, h => ⟨a, b, by omega, WFf_ext d h⟩
theorem WFf_last {i : Int} : ∀ {lo : Int} {l : List Run}, WFf i lo l → fr l (i - 1) → ∃ init r, l = init ++ [r] ∧ r.1 + r.2 = i
  | _, [], _, h => h.elim
  | lo, [r], ⟨a, b, c, _⟩, h => ⟨[], r, rfl, by
    rcases h with h | h
    · omega
    · exact h.elim⟩
  | lo, r :: s :: l, ⟨a, b, c, d⟩, h => by
    rcases h with h | h
    · have := d.1
      have := d.2.1
      have := d.2.2.1
      omega
    · obtain ⟨init, q, e, h1⟩ := WFf_last d h
      exact ⟨r :: init, q, by rw [e]; rfl, h1⟩
theorem grow_t {i : Int} {out : List Run} (hw : WF i out) (hi : 1 ≤ i) :
    ∃ out', WF (i + 1) out' ∧ (∀ x, fr out' x ↔ fr out x ∨ x = i) ∧ leftS out' = leftS out + 1 ∧
      ((fr out (i - 1) ∧ ∃ init r, out = init ++ [r] ∧ out' = init ++ [(r.1, r.2 + 1)] ∧ 0 ≤ r.2 ∧ r.2 ≤ i) ∨ (¬ fr out (i - 1) ∧ out' = out ++ [(i, 1)])) := by
  rcases Classical.em (fr out (i - 1)) with h | h
  · obtain ⟨init, r, rfl, hr⟩ := WFf_last hw h
    have hm := WFf_mem hw (by omega) r (by simp)
    refine ⟨init ++ [(r.1, r.2 + 1)], WFf_ext hw hr, fun x => ?_, ?_, .inl ⟨h, init, r, rfl, rfl, by omega, by omega⟩⟩
    · rw [fr_append, fr_append]
      simp only [fr, or_false]
      constructor
      · rintro (h1 | h1)
        · exact .inl (.inl h1)
        · rcases Int.lt_or_le x i with h2 | h2
          · exact .inl (.inr (by omega))
          · exact .inr (by omega)
      · rintro ((h1 | h1) | h1)
        · exact .inl h1
        · exact .inr (by omega)
        · exact .inr (by omega)
    · rw [leftS_app, leftS_app]
      simp only [leftS, List.map_cons, List.map_nil, List.sum_cons, List.sum_nil]
      omega
  · refine ⟨out ++ [(i, 1)], WFf_snoc (r := (i, 1)) (by simp only; omega) (by simp only; omega) (WFf_up hw) (by simp only; omega) fun x hx => ?_, fun x => ?_, ?_, .inr ⟨h, rfl⟩⟩
    · have := fr_lo hw x hx
      rcases Int.lt_or_le (x + 1) i with h2 | h2
      · exact h2
      · obtain rfl : x = i - 1 := by omega
        exact (h hx).elim
    · rw [fr_append]
      simp only [fr, or_false]
      constructor
      · rintro (h1 | h1)
        · exact .inl h1
        · exact .inr (by omega)
      · rintro (h1 | h1)
        · exact .inl h1
        · exact .inr (by omega)
    · rw [leftS_app]
      simp only [leftS, List.map_cons, List.map_nil, List.sum_cons, List.sum_nil]
      omega
theorem freeR_some (l : List Run) (n first k : Int) : ∃ v l', FreeR l n first k v l' := by
  rcases Classical.em (badF n first k) with hb | hb
  · exact ⟨_, _, .inl ⟨hb, rfl, rfl⟩⟩
  · have h1 : ∀ (j : Nat) x, j < l.findIdx (fun r => decide (first ≤ r.1)) → l[j]? = some x → x.1 < first := fun j x hj hx => by
      have := List.not_of_lt_findIdx hj
      obtain ⟨hlt, e⟩ := List.getElem?_eq_some_iff.1 hx
      rw [e] at this
      simp at this
      omega
    have h2 : ∀ y, l[l.findIdx (fun r => decide (first ≤ r.1))]? = some y → first ≤ y.1 := fun y hy => by
      obtain ⟨hlt, e⟩ := List.getElem?_eq_some_iff.1 hy
      have := List.findIdx_getElem (w := hlt)
      rw [e] at this
      simpa using this
    rcases Classical.em (ovF l (l.findIdx (fun r => decide (first ≤ r.1))) first k) with ho | ho
    · exact ⟨_, _, .inr ⟨hb, _, List.findIdx_le_length, h1, h2, .inl ⟨ho, rfl, rfl⟩⟩⟩
    · exact ⟨_, _, .inr ⟨hb, _, List.findIdx_le_length, h1, h2, .inr ⟨ho, rfl, rfl⟩⟩⟩
theorem freeL_some {n : Int} {l : List Run} (hw : WF n l) (first k : Int) : ∃ v l', FreeL n l first k v l' ∧ WF n l' := by
  obtain ⟨v, l', h⟩ := freeR_some l n first k
  rcases free_law hw h with ⟨h1, h2, rfl⟩ | ⟨h1, h2, h3, rfl⟩ | ⟨h1, h2, h3, h6, h7, h8⟩
  · exact ⟨v, _, .inl ⟨h1, h2, rfl⟩, hw⟩
  · exact ⟨v, _, .inr (.inl ⟨h1, h2, h3, rfl⟩), hw⟩
  · exact ⟨v, _, .inr (.inr ⟨h1, h2, h3, h7, h8⟩), h6⟩
theorem FreeL_fun {n : Int} {l l1 l2 : List Run} {first k : Int} {v1 v2 : Value} (h1 : FreeL n l first k v1 l1) (h2 : FreeL n l first k v2 l2) (w1 : WF n l1) (w2 : WF n l2) : v1 = v2 ∧ l1 = l2 := by
  rcases h1 with ⟨a, rfl, rfl⟩ | ⟨a, b, rfl, rfl⟩ | ⟨a, b, rfl, c, _⟩ <;> rcases h2 with ⟨a', rfl, rfl⟩ | ⟨a', b', rfl, rfl⟩ | ⟨a', b', rfl, c', _⟩
  · exact ⟨rfl, rfl⟩
  · exact (a' a).elim
  · exact (a' a).elim
  · exact (a a').elim
  · exact ⟨rfl, rfl⟩
  · obtain ⟨x, h1, h2, h3⟩ := b; exact (b' x h1 h2 h3).elim
  · exact (a a').elim
  · obtain ⟨x, h1, h2, h3⟩ := b'; exact (b x h1 h2 h3).elim
  · exact ⟨rfl, WFf_unique w1 w2 fun x => by rw [c, c']⟩
theorem AllocL_fun {n : Int} {l l1 l2 : List Run} {k : Int} {v1 v2 : Value} (h1 : AllocL n l k v1 l1) (h2 : AllocL n l k v2 l2) (w1 : WF n l1) (w2 : WF n l2) : v1 = v2 ∧ l1 = l2 := by
  rcases h1 with ⟨a, rfl, rfl⟩ | ⟨a, b, rfl, rfl⟩ | ⟨a, b, hb, hk, hm, rfl, c, _⟩ <;> rcases h2 with ⟨a', rfl, rfl⟩ | ⟨a', b', rfl, rfl⟩ | ⟨a', b', hb', hk', hm', rfl, c', _⟩
  · exact ⟨rfl, rfl⟩
  · omega
  · omega
  · omega
  · exact ⟨rfl, rfl⟩
  · have := b b' hb'; omega
  · omega
  · have := b' b hb; omega
  · have h1 := hm b' hb' hk'
    have h2 := hm' b hb hk
    rw [nlt_iff] at h1 h2
    obtain rfl : b = b' := Prod.ext (by omega) (by omega)
    exact ⟨rfl, WFf_unique w1 w2 fun x => by rw [c, c']⟩
theorem WFf_rise {n : Int} : ∀ {lo : Int} {l : List Run} {i j : Nat} {x y : Run}, WFf n lo l → i < j → l[i]? = some x → l[j]? = some y → x.1 < y.1
  | _, [], _, _, _, _, _, _, h, _ => by simp at h
  | lo, r :: l, 0, j + 1, x, y, ⟨a, b, c, d⟩, _, h1, h2 => by
    simp at h1 h2
    subst h1
    have h3 := fr_start.WFf_memlo d y (List.mem_of_getElem? h2)
    omega
  | lo, r :: l, i + 1, j + 1, x, y, ⟨a, b, c, d⟩, hij, h1, h2 => WFf_rise (i := i) (j := j) d (by omega) (by simpa using h1) (by simpa using h2)
def FLs (b : Nat) (n : Nat) (l : List Run) : Asrt := ex fun sv => ex fun fl : List Bool => pr (fl.length = n ∧ ∀ x : Nat, x < n → (fl[x]? = some true ↔ fr l x)) * (pt b (.cells #[sv] 83 (0, 0)) * SG bE 4 sv fl)
abbrev rv (b : Nat) : Value := .pointer (some ⟨b, 0, none⟩)
theorem FLs_elim {b n : Nat} {l : List Run} {F : Asrt} {h : Hp} (hh : (FLs b n l * F) h) :
    ∃ sv fl, fl.length = n ∧ (∀ x : Nat, x < n → (fl[x]? = some true ↔ fr l x)) ∧ (pt b (.cells #[sv] 83 (0, 0)) * (SG bE 4 sv fl * F)) h := by
  obtain ⟨sv, hh⟩ := ex_star.1 hh
  obtain ⟨fl, hh⟩ := ex_star.1 hh
  rw [star_assoc, pr_star] at hh
  exact ⟨sv, fl, hh.1.1, hh.1.2, asr (star_assoc _ _ _) hh.2⟩
theorem FLs_intro {b n : Nat} {l : List Run} {F : Asrt} {h : Hp} {sv : Value} {fl : List Bool} (h1 : fl.length = n) (h2 : ∀ x : Nat, x < n → (fl[x]? = some true ↔ fr l x)) (hh : (pt b (.cells #[sv] 83 (0, 0)) * (SG bE 4 sv fl * F)) h) : (FLs b n l * F) h := by
  refine ex_star.2 ⟨sv, ex_star.2 ⟨fl, ?_⟩⟩
  rw [star_assoc, pr_star]
  exact ⟨⟨h1, h2⟩, asr (star_assoc _ _ _).symm hh⟩
theorem fl_ld {b : Nat} {sv : Value} {F : Asrt} {h : Hp} (hh : (pt b (.cells #[sv] 83 (0, 0)) * F) h) : ld1 (.pointer (some ⟨b, 0 + 0, none⟩)) h = some sv := ld1_mk (pt_get hh) rfl
theorem use_rnew {n : Int} {F : Asrt} {K : Value → Hp → Prop} {h : Hp} (hh : F h) (hK : ∀ a h', (FLs a (newN n).toNat (newL n) * F) h' → K (rv a) h') : CallH Tryz.prog 48 #[.int .i64 n] K h := by
  refine C48 ?_
  unfold D48
  have e1 : min2V (.int .i64 n) (.int .i64 262144) = some (.int .i64 (min n 262144)) := by
    show some (Value.int .i64 (if 262144 < n then 262144 else n)) = _
    congr 2; omega
  have e2 : max2V (.int .i64 1) (.int .i64 (min n 262144)) = some (.int .i64 (newN n).toNat) := by
    show some (Value.int .i64 (if min n 262144 > 1 then min n 262144 else 1)) = _
    congr 2
    unfold newN
    omega
  have hN : 1 ≤ (newN n).toNat ∧ (newN n).toNat ≤ 262144 := by unfold newN; omega
  have hf := (new_wf n).2.1
  have hn0 : newN n = (newN n).toNat := by omega
  repeat (with_reducible first | refine vP_so ?_ | refine vB_t ?_ | refine vB_f ?_ | refine vE_tt ?_ | refine vE_ff ?_ | refine vE_tf ?_ | refine vE_ft ?_ | refine vE_u ?_ | refine vP_to (by simp (disch := omega) only [gdW_true, gdW_false, gB_true, gB_false, gB_undef, pickV_true, pickV_false, Bool.not_true, Bool.not_false, Option.map_some, bin_add, bin_sub, bin_mul, bin_quo, bin_rem, lss_t, lss_f, leq_t, leq_f, gtr_t, gtr_f, geq_t, geq_f, eqi_t, eqi_f, nei_t, nei_f, rem_uw, conv_ui, conv_iu, conv_ii, not_bool, nil_ptr, fa_mk, ptrV, len_mk, cap_mk, eq_ptr_nil, ne_ptr_nil, eq_nil_nil, ne_nil_nil, eq_slice_nil, eq_nil_slice, ia_1, e1, e2]; exact so_so) ?_)
  generalize (newN n).toNat = N at *
  refine ms_SG bE (z := false) hh rfl rfl (by omega) (by omega) fun v8 h1 hh1 => ?_
  have eb : (bldV #[.slice none 0 0] [(0, 1, v8)]).map Value.agg = some (.agg #[v8]) := by
    rcases SG_elim bE hh1 with ⟨rfl, _⟩ | ⟨r, cap, pre, post, rfl, _⟩ <;> rfl
  repeat (with_reducible first | refine vP_so ?_ | refine vB_t ?_ | refine vB_f ?_ | refine vE_tt ?_ | refine vE_ff ?_ | refine vE_tf ?_ | refine vE_ft ?_ | refine vE_u ?_ | refine vP_to (by simp (disch := omega) only [gdW_true, gdW_false, gB_true, gB_false, gB_undef, pickV_true, pickV_false, Bool.not_true, Bool.not_false, Option.map_some, bin_add, bin_sub, bin_mul, bin_quo, bin_rem, lss_t, lss_f, leq_t, leq_f, gtr_t, gtr_f, geq_t, geq_f, eqi_t, eqi_f, nei_t, nei_f, rem_uw, conv_ui, conv_iu, conv_ii, not_bool, nil_ptr, fa_mk, ptrV, len_mk, cap_mk, eq_ptr_nil, ne_ptr_nil, eq_nil_nil, ne_nil_nil, eq_slice_nil, eq_nil_slice, ia_1, eb]; exact so_so) ?_)
  refine vA_new hh1 fun r h2 hh2 => ?_
  refine ⟨fun q ys h' => ∃ (i : Nat) (fl : List Bool), ys = [.int .i64 i] ∧ q = N - i ∧ 1 ≤ i ∧ i ≤ N ∧ fl.length = N ∧ (∀ x : Nat, x < N → (fl[x]? = some true ↔ 1 ≤ x ∧ x < i)) ∧ (pt r (.cells #[v8] 83 (0, 0)) * (SG bE 4 v8 fl * F)) h',
    ⟨_, 1, List.replicate N false, rfl, rfl, by omega, by omega, List.length_replicate, fun x hx => ⟨fun q => ?_, fun q => by omega⟩, hh2⟩, ?_⟩
  · rw [List.getElem?_replicate] at q; split at q <;> simp at q
  rintro q v4 h3 ⟨i, fl, hys, rfl, hi1, hi2, hfl, hff, hh3⟩ _
  obtain rfl : v4 = .int .i64 i := by simpa using hys
  have hS : (SG bE 4 v8 fl * (pt r (.cells #[v8] 83 (0, 0)) * F)) h3 := asr (by ac_rfl) hh3
  have hlen := SG_len bE hS
  by_cases hil : i < N
  · obtain ⟨p, g1, _, g3⟩ := el1 hS (List.getElem?_eq_getElem (show i < fl.length by omega)) .i64
    repeat (with_reducible first | refine vP_so ?_ | refine vB_t ?_ | refine vB_f ?_ | refine vE_tt ?_ | refine vE_ff ?_ | refine vE_tf ?_ | refine vE_ft ?_ | refine vE_u ?_ | refine vP_to (by simp (disch := omega) only [gdW_true, gdW_false, gB_true, gB_false, gB_undef, pickV_true, pickV_false, Bool.not_true, Bool.not_false, Option.map_some, bin_add, bin_sub, bin_mul, bin_quo, bin_rem, lss_t, lss_f, leq_t, leq_f, gtr_t, gtr_f, geq_t, geq_f, eqi_t, eqi_f, nei_t, nei_f, rem_uw, conv_ui, conv_iu, conv_ii, not_bool, nil_ptr, fa_mk, ptrV, len_mk, cap_mk, eq_ptr_nil, ne_ptr_nil, eq_nil_nil, ne_nil_nil, eq_slice_nil, eq_nil_slice, ia_1, fl_ld hh3, hlen, g1]; exact so_so) ?_)
    refine g3 true _ fun h4 hh4 => ?_
    repeat (with_reducible first | refine vP_so ?_ | refine vB_t ?_ | refine vB_f ?_ | refine vE_tt ?_ | refine vE_ff ?_ | refine vE_tf ?_ | refine vE_ft ?_ | refine vE_u ?_ | refine vP_to (by simp (disch := omega) only [gdW_true, gdW_false, gB_true, gB_false, gB_undef, pickV_true, pickV_false, Bool.not_true, Bool.not_false, Option.map_some, bin_add, bin_sub, bin_mul, bin_quo, bin_rem, lss_t, lss_f, leq_t, leq_f, gtr_t, gtr_f, geq_t, geq_f, eqi_t, eqi_f, nei_t, nei_f, rem_uw, conv_ui, conv_iu, conv_ii, not_bool, nil_ptr, fa_mk, ptrV, len_mk, cap_mk, eq_ptr_nil, ne_ptr_nil, eq_nil_nil, ne_nil_nil, eq_slice_nil, eq_nil_slice, ia_1]; exact so_so) ?_)
    refine ⟨N - (i + 1), by omega, i + 1, fl.set i true, by simp, rfl, by omega, by omega, by simpa using hfl, fun x hx => ?_, asr (by ac_rfl) hh4⟩
    rw [List.getElem?_set]
    by_cases hxi : i = x
    · rw [if_pos hxi, if_pos (by omega)]
      simp only [true_iff]; omega
    · rw [if_neg hxi, hff x hx]; omega
  · repeat (with_reducible first | refine vP_so ?_ | refine vB_t ?_ | refine vB_f ?_ | refine vE_tt ?_ | refine vE_ff ?_ | refine vE_tf ?_ | refine vE_ft ?_ | refine vE_u ?_ | refine vP_to (by simp (disch := omega) only [gdW_true, gdW_false, gB_true, gB_false, gB_undef, pickV_true, pickV_false, Bool.not_true, Bool.not_false, Option.map_some, bin_add, bin_sub, bin_mul, bin_quo, bin_rem, lss_t, lss_f, leq_t, leq_f, gtr_t, gtr_f, geq_t, geq_f, eqi_t, eqi_f, nei_t, nei_f, rem_uw, conv_ui, conv_iu, conv_ii, not_bool, nil_ptr, fa_mk, ptrV, len_mk, cap_mk, eq_ptr_nil, ne_ptr_nil, eq_nil_nil, ne_nil_nil, eq_slice_nil, eq_nil_slice, ia_1, fl_ld hh3, hlen]; exact so_so) ?_)
    refine hK r h3 (FLs_intro hfl (fun x hx => ?_) hh3)
    rw [hff x hx, hf]
    omega
theorem use_rruns {b n : Nat} {l : List Run} {F : Asrt} {K : Value → Hp → Prop} {h : Hp} (hw : WF n l) (hn : n ≤ 262144) (hh : (FLs b n l * (F * tt)) h)
    (hK : ∀ v h', (SG enc2 91 v l * (FLs b n l * (F * tt))) h' → K v h') : CallH Tryz.prog 113 #[rv b] K h := by
  refine C113 ?_
  unfold D113
  obtain ⟨sv, fl, hfl, hff, hp⟩ := FLs_elim hh
  have hfr0 : ∀ x, fr l x → 0 < x ∧ x < n := fr_lo hw
  refine ⟨fun q ys h' => ∃ (i : Nat) (v3 : Value) (out : List Run), ys = [.int .i64 i, v3] ∧ q = n - i ∧ i ≤ n ∧ WF i out ∧ (∀ x, fr out x ↔ fr l x ∧ x < i) ∧ (SG enc2 91 v3 out * (pt b (.cells #[sv] 83 (0, 0)) * (SG bE 4 sv fl * (F * tt)))) h',
    ⟨_, 0, .slice none 0 0, [], rfl, rfl, by omega, trivial, fun x => ⟨fun q => q.elim, fun q => by have := hfr0 x q.1; omega⟩, SG_nil enc2 hp⟩, ?_⟩
  rintro q v4 v3 h1 ⟨i, v3', out, hys, rfl, hi, hwo, hfo, hh1⟩ _
  obtain ⟨rfl, rfl⟩ : v4 = .int .i64 i ∧ v3 = v3' := by simpa using hys
  have hP : (pt b (.cells #[sv] 83 (0, 0)) * (SG enc2 91 v3 out * (SG bE 4 sv fl * (F * tt)))) h1 := asr (by ac_rfl) hh1
  have hS : (SG bE 4 sv fl * (SG enc2 91 v3 out * (pt b (.cells #[sv] 83 (0, 0)) * (F * tt)))) h1 := asr (by ac_rfl) hh1
  have hlen := SG_len bE hS
  have holen := SG_len enc2 hh1
  have hwl := WF_len hwo (by omega)
  by_cases hil : i < n
  · obtain ⟨p, g1, g2, _⟩ := el1 hS (List.getElem?_eq_getElem (show i < fl.length by omega)) .i64
    have hfi := hff i hil
    rw [List.getElem?_eq_getElem (show i < fl.length by omega)] at hfi
    generalize fl[i] = bi at *
    repeat (with_reducible first | refine vP_so ?_ | refine vB_t ?_ | refine vB_f ?_ | refine vE_tt ?_ | refine vE_ff ?_ | refine vE_tf ?_ | refine vE_ft ?_ | refine vE_u ?_ | refine vP_to (by simp (disch := omega) only [gdW_true, gdW_false, gB_true, gB_false, gB_undef, pickV_true, pickV_false, Bool.not_true, Bool.not_false, Option.map_some, bin_add, bin_sub, bin_mul, bin_quo, bin_rem, lss_t, lss_f, leq_t, leq_f, gtr_t, gtr_f, geq_t, geq_f, eqi_t, eqi_f, nei_t, nei_f, rem_uw, conv_ui, conv_iu, conv_ii, not_bool, nil_ptr, fa_mk, ptrV, len_mk, cap_mk, eq_ptr_nil, ne_ptr_nil, eq_nil_nil, ne_nil_nil, eq_slice_nil, eq_nil_slice, ia_1, fl_ld hP, hlen]; exact so_so) ?_)
    intro J2 hJ2
    have hJ : ∀ v' out' h', WF ((i : Int) + 1) out' → (∀ x, fr out' x ↔ fr l x ∧ x < (i : Int) + 1) → (SG enc2 91 v' out' * (pt b (.cells #[sv] 83 (0, 0)) * (SG bE 4 sv fl * (F * tt)))) h' → J2 [v'] h' := fun v' out' h' a1 a2 a3 => by
      refine hJ2 _ _ fun _ => ?_
      repeat (with_reducible first | refine vP_so ?_ | refine vB_t ?_ | refine vB_f ?_ | refine vE_tt ?_ | refine vE_ff ?_ | refine vE_tf ?_ | refine vE_ft ?_ | refine vE_u ?_ | refine vP_to (by simp (disch := omega) only [gdW_true, gdW_false, gB_true, gB_false, gB_undef, pickV_true, pickV_false, Bool.not_true, Bool.not_false, Option.map_some, bin_add, bin_sub, bin_mul, bin_quo, bin_rem, lss_t, lss_f, leq_t, leq_f, gtr_t, gtr_f, geq_t, geq_f, eqi_t, eqi_f, nei_t, nei_f, rem_uw, conv_ui, conv_iu, conv_ii, not_bool, nil_ptr, fa_mk, ptrV, len_mk, cap_mk, eq_ptr_nil, ne_ptr_nil, eq_nil_nil, ne_nil_nil, eq_slice_nil, eq_nil_slice, ia_1]; exact so_so) ?_)
      exact ⟨n - (i + 1), by omega, i + 1, v', out', rfl, rfl, by omega, by simpa using a1, by simpa using a2, a3⟩
    cases bi with
    | false =>
      repeat (with_reducible first | refine vP_so ?_ | refine vB_t ?_ | refine vB_f ?_ | refine vE_tt ?_ | refine vE_ff ?_ | refine vE_tf ?_ | refine vE_ft ?_ | refine vE_u ?_ | refine vP_to (by simp (disch := omega) only [gdW_true, gdW_false, gB_true, gB_false, gB_undef, pickV_true, pickV_false, Bool.not_true, Bool.not_false, Option.map_some, bin_add, bin_sub, bin_mul, bin_quo, bin_rem, lss_t, lss_f, leq_t, leq_f, gtr_t, gtr_f, geq_t, geq_f, eqi_t, eqi_f, nei_t, nei_f, rem_uw, conv_ui, conv_iu, conv_ii, not_bool, nil_ptr, fa_mk, ptrV, len_mk, cap_mk, eq_ptr_nil, ne_ptr_nil, eq_nil_nil, ne_nil_nil, eq_slice_nil, eq_nil_slice, ia_1, fl_ld hP, hlen, g1, g2]; exact so_so) ?_)
      refine hJ v3 out h1 (WFf_up hwo) (fun x => ?_) hh1
      rw [hfo]
      constructor
      · exact fun h => ⟨h.1, by omega⟩
      · rintro ⟨h1, h2⟩
        refine ⟨h1, ?_⟩
        rcases Int.lt_or_le x i with h3 | h3
        · exact h3
        · obtain rfl : x = i := by omega
          have := hfi.2 h1; simp at this
    | true =>
      have hi1 : fr l i := hfi.1 rfl
      have hipos := hfr0 _ hi1
      have hfo' : ∀ out', (∀ x, fr out' x ↔ fr out x ∨ x = i) → ∀ x, fr out' x ↔ fr l x ∧ x < (i : Int) + 1 := fun out' h x => by
        rw [h, hfo]
        constructor
        · rintro (h1 | rfl)
          · exact ⟨h1.1, by omega⟩
          · exact ⟨hi1, by omega⟩
        · rintro ⟨h1, h2⟩
          rcases Int.lt_or_le x i with h3 | h3
          · exact .inl ⟨h1, h3⟩
          · exact .inr (by omega)
      obtain ⟨out', hw', hf', _, hcase⟩ := grow_t hwo (by omega)
      have hfp := hff (i - 1) (by omega)
      obtain ⟨p', q1, q2, _⟩ := el1 hS (List.getElem?_eq_getElem (show i - 1 < fl.length by omega)) .i64
      rw [show ((i - 1 : Nat) : Int) = (i : Int) - 1 by omega] at q1 hfp
      rw [List.getElem?_eq_getElem (show i - 1 < fl.length by omega)] at hfp
      generalize fl[i - 1] = bp at *
      rcases hcase with ⟨hfr, init, r, rfl, rfl, hr0, hri⟩ | ⟨hfr, rfl⟩
      · obtain rfl : bp = true := by simpa using hfp.2 ((hfo _).1 hfr).1
        have hl1 : (init ++ [r]).length = init.length + 1 := by simp
        obtain ⟨pb, po, e1, e2, _, _, e5⟩ := elG enc2 (i := init.length) (a := r) hh1 (by simp) .i64
        have e1 : iaS 2 v3 (.int .i64 init.length) = some (.pointer (some ⟨pb, po, none⟩)) := e1
        have e2 := e2 1 _ rfl
        have el : ((init ++ [r]).length : Int) - 1 = init.length := by omega
        repeat (with_reducible first | refine vP_so ?_ | refine vB_t ?_ | refine vB_f ?_ | refine vE_tt ?_ | refine vE_ff ?_ | refine vE_tf ?_ | refine vE_ft ?_ | refine vE_u ?_ | refine vP_to (by simp (disch := omega) only [gdW_true, gdW_false, gB_true, gB_false, gB_undef, pickV_true, pickV_false, Bool.not_true, Bool.not_false, Option.map_some, bin_add, bin_sub, bin_mul, bin_quo, bin_rem, lss_t, lss_f, leq_t, leq_f, gtr_t, gtr_f, geq_t, geq_f, eqi_t, eqi_f, nei_t, nei_f, rem_uw, conv_ui, conv_iu, conv_ii, not_bool, nil_ptr, fa_mk, ptrV, len_mk, cap_mk, eq_ptr_nil, ne_ptr_nil, eq_nil_nil, ne_nil_nil, eq_slice_nil, eq_nil_slice, ia_1, fl_ld hP, hlen, g1, g2, q1, q2, holen, el, e1, e2]; exact so_so) ?_)
        refine e5 1 (.int .i64 (r.2 + 1)) (r.1, r.2 + 1) _ (by decide) rfl rfl fun h3 hh3 => ?_
        refine hJ v3 _ h3 hw' (hfo' _ hf') ?_
        rw [List.set_append_right _ _ (Nat.le_refl _), Nat.sub_self] at hh3
        exact hh3
      · obtain rfl : bp = false := by
          cases bp with
          | false => rfl
          | true => exact (hfr ((hfo _).2 ⟨hfp.1 rfl, by omega⟩)).elim
        have eb : bldV #[.int .i64 0, .int .i64 0] [(0, 1, .int .i64 i), (1, 1, .int .i64 1)] = some #[.int .i64 i, .int .i64 1] := rfl
        have eb2 : bldV #[.int .i64 0, .int .i64 0] [(0, 2, .agg #[.int .i64 i, .int .i64 1])] = some #[.int .i64 i, .int .i64 1] := rfl
        repeat (with_reducible first | refine vP_so ?_ | refine vB_t ?_ | refine vB_f ?_ | refine vE_tt ?_ | refine vE_ff ?_ | refine vE_tf ?_ | refine vE_ft ?_ | refine vE_u ?_ | refine vP_to (by simp (disch := omega) only [gdW_true, gdW_false, gB_true, gB_false, gB_undef, pickV_true, pickV_false, Bool.not_true, Bool.not_false, Option.map_some, bin_add, bin_sub, bin_mul, bin_quo, bin_rem, lss_t, lss_f, leq_t, leq_f, gtr_t, gtr_f, geq_t, geq_f, eqi_t, eqi_f, nei_t, nei_f, rem_uw, conv_ui, conv_iu, conv_ii, not_bool, nil_ptr, fa_mk, ptrV, len_mk, cap_mk, eq_ptr_nil, ne_ptr_nil, eq_nil_nil, ne_nil_nil, eq_slice_nil, eq_nil_slice, ia_1, fl_ld hP, hlen, g1, g2, q1, q2, eb]; exact so_so) ?_)
        rw [eb2]
        refine vA_new (f := fun r => .slice (some ⟨r, 0, none⟩) 1 1) hh1 fun r9 h9 hh9 => ?_
        refine ap_new enc2 (l := out) (m := [((i : Int), (1 : Int))]) (F := pt b (.cells #[sv] 83 (0, 0)) * (SG bE 4 sv fl * F)) elRun2 rfl rfl niRuns rfl (by omega) (asr (by ac_rfl) hh9) rfl rfl (by simp only [List.length_singleton]; omega) fun v48 h10 hh10 => ?_
        exact hJ v48 _ h10 hw' (hfo' _ hf') (asr (by ac_rfl) hh10)
  · obtain rfl : i = n := by omega
    repeat (with_reducible first | refine vP_so ?_ | refine vB_t ?_ | refine vB_f ?_ | refine vE_tt ?_ | refine vE_ff ?_ | refine vE_tf ?_ | refine vE_ft ?_ | refine vE_u ?_ | refine vP_to (by simp (disch := omega) only [gdW_true, gdW_false, gB_true, gB_false, gB_undef, pickV_true, pickV_false, Bool.not_true, Bool.not_false, Option.map_some, bin_add, bin_sub, bin_mul, bin_quo, bin_rem, lss_t, lss_f, leq_t, leq_f, gtr_t, gtr_f, geq_t, geq_f, eqi_t, eqi_f, nei_t, nei_f, rem_uw, conv_ui, conv_iu, conv_ii, not_bool, nil_ptr, fa_mk, ptrV, len_mk, cap_mk, eq_ptr_nil, ne_ptr_nil, eq_nil_nil, ne_nil_nil, eq_slice_nil, eq_nil_slice, ia_1, fl_ld hP, hlen]; exact so_so) ?_)
    obtain rfl : out = l := WFf_unique hwo hw fun x => by rw [hfo]; exact ⟨fun h => h.1, fun h => ⟨h, (hfr0 x h).2⟩⟩
    refine hK v3 h1 ?_
    have : (FLs b i out * (SG enc2 91 v3 out * (F * tt))) h1 := FLs_intro hfl hff (asr (by ac_rfl) hh1)
    exact asr (by ac_rfl) this
theorem use_rleft {b n : Nat} {l : List Run} {F : Asrt} {K : Value → Hp → Prop} {h : Hp} (hw : WF n l) (hn : n ≤ 262144) (hh : (FLs b n l * F) h)
    (hK : ∀ h', (FLs b n l * F) h' → K (.int .i64 (leftS l)) h') : CallH Tryz.prog 25 #[rv b] K h := by
  refine C25 ?_
  unfold D25
  obtain ⟨sv, fl, hfl, hff, hp⟩ := FLs_elim hh
  have hfr0 : ∀ x, fr l x → 0 < x ∧ x < n := fr_lo hw
  refine ⟨fun q ys h' => ∃ (i : Nat) (out : List Run), ys = [.int .i64 i, .int .i64 (leftS out)] ∧ q = n - i ∧ i ≤ n ∧ WF i out ∧ (∀ x, fr out x ↔ fr l x ∧ x < i) ∧ h' = h,
    ⟨_, 0, [], rfl, rfl, by omega, trivial, fun x => ⟨fun q => q.elim, fun q => by have := hfr0 x q.1; omega⟩, rfl⟩, ?_⟩
  rintro q v4 v3 h1 ⟨i, out, hys, rfl, hi, hwo, hfo, rfl⟩ _
  obtain ⟨rfl, rfl⟩ : v4 = .int .i64 i ∧ v3 = .int .i64 (leftS out) := by simpa using hys
  have hS : (SG bE 4 sv fl * (pt b (.cells #[sv] 83 (0, 0)) * F)) h1 := asr (by ac_rfl) hp
  have hlen := SG_len bE hS
  have hwl := WF_len hwo (by omega)
  by_cases hil : i < n
  · obtain ⟨p, g1, g2, _⟩ := el1 hS (List.getElem?_eq_getElem (show i < fl.length by omega)) .i64
    have hfi := hff i hil
    rw [List.getElem?_eq_getElem (show i < fl.length by omega)] at hfi
    generalize fl[i] = bi at *
    repeat (with_reducible first | refine vP_so ?_ | refine vB_t ?_ | refine vB_f ?_ | refine vE_tt ?_ | refine vE_ff ?_ | refine vE_tf ?_ | refine vE_ft ?_ | refine vE_u ?_ | refine vP_to (by simp (disch := omega) only [gdW_true, gdW_false, gB_true, gB_false, gB_undef, pickV_true, pickV_false, Bool.not_true, Bool.not_false, Option.map_some, bin_add, bin_sub, bin_mul, bin_quo, bin_rem, lss_t, lss_f, leq_t, leq_f, gtr_t, gtr_f, geq_t, geq_f, eqi_t, eqi_f, nei_t, nei_f, rem_uw, conv_ui, conv_iu, conv_ii, not_bool, nil_ptr, fa_mk, ptrV, len_mk, cap_mk, eq_ptr_nil, ne_ptr_nil, eq_nil_nil, ne_nil_nil, eq_slice_nil, eq_nil_slice, ia_1, fl_ld hp, hlen]; exact so_so) ?_)
    intro J2 hJ2
    have hJ : ∀ out', WF ((i : Int) + 1) out' → (∀ x, fr out' x ↔ fr l x ∧ x < (i : Int) + 1) → J2 [.int .i64 (leftS out')] h1 := fun out' a1 a2 => by
      refine hJ2 _ _ fun _ => ?_
      repeat (with_reducible first | refine vP_so ?_ | refine vB_t ?_ | refine vB_f ?_ | refine vE_tt ?_ | refine vE_ff ?_ | refine vE_tf ?_ | refine vE_ft ?_ | refine vE_u ?_ | refine vP_to (by simp (disch := omega) only [gdW_true, gdW_false, gB_true, gB_false, gB_undef, pickV_true, pickV_false, Bool.not_true, Bool.not_false, Option.map_some, bin_add, bin_sub, bin_mul, bin_quo, bin_rem, lss_t, lss_f, leq_t, leq_f, gtr_t, gtr_f, geq_t, geq_f, eqi_t, eqi_f, nei_t, nei_f, rem_uw, conv_ui, conv_iu, conv_ii, not_bool, nil_ptr, fa_mk, ptrV, len_mk, cap_mk, eq_ptr_nil, ne_ptr_nil, eq_nil_nil, ne_nil_nil, eq_slice_nil, eq_nil_slice, ia_1]; exact so_so) ?_)
      exact ⟨n - (i + 1), by omega, i + 1, out', rfl, rfl, by omega, by simpa using a1, by simpa using a2, rfl⟩
    cases bi with
    | false =>
      repeat (with_reducible first | refine vP_so ?_ | refine vB_t ?_ | refine vB_f ?_ | refine vE_tt ?_ | refine vE_ff ?_ | refine vE_tf ?_ | refine vE_ft ?_ | refine vE_u ?_ | refine vP_to (by simp (disch := omega) only [gdW_true, gdW_false, gB_true, gB_false, gB_undef, pickV_true, pickV_false, Bool.not_true, Bool.not_false, Option.map_some, bin_add, bin_sub, bin_mul, bin_quo, bin_rem, lss_t, lss_f, leq_t, leq_f, gtr_t, gtr_f, geq_t, geq_f, eqi_t, eqi_f, nei_t, nei_f, rem_uw, conv_ui, conv_iu, conv_ii, not_bool, nil_ptr, fa_mk, ptrV, len_mk, cap_mk, eq_ptr_nil, ne_ptr_nil, eq_nil_nil, ne_nil_nil, eq_slice_nil, eq_nil_slice, ia_1, fl_ld hp, hlen, g1, g2]; exact so_so) ?_)
      refine hJ out (WFf_up hwo) (fun x => ?_)
      rw [hfo]
      constructor
      · exact fun h => ⟨h.1, by omega⟩
      · rintro ⟨h1, h2⟩
        refine ⟨h1, ?_⟩
        rcases Int.lt_or_le x i with h3 | h3
        · exact h3
        · obtain rfl : x = i := by omega
          have := hfi.2 h1; simp at this
    | true =>
      have hi1 : fr l i := hfi.1 rfl
      have hipos := hfr0 _ hi1
      obtain ⟨out', hw', hf', hlo, _⟩ := grow_t hwo (by omega)
      repeat (with_reducible first | refine vP_so ?_ | refine vB_t ?_ | refine vB_f ?_ | refine vE_tt ?_ | refine vE_ff ?_ | refine vE_tf ?_ | refine vE_ft ?_ | refine vE_u ?_ | refine vP_to (by simp (disch := omega) only [gdW_true, gdW_false, gB_true, gB_false, gB_undef, pickV_true, pickV_false, Bool.not_true, Bool.not_false, Option.map_some, bin_add, bin_sub, bin_mul, bin_quo, bin_rem, lss_t, lss_f, leq_t, leq_f, gtr_t, gtr_f, geq_t, geq_f, eqi_t, eqi_f, nei_t, nei_f, rem_uw, conv_ui, conv_iu, conv_ii, not_bool, nil_ptr, fa_mk, ptrV, len_mk, cap_mk, eq_ptr_nil, ne_ptr_nil, eq_nil_nil, ne_nil_nil, eq_slice_nil, eq_nil_slice, ia_1, fl_ld hp, hlen, g1, g2]; exact so_so) ?_)
      rw [← hlo]
      refine hJ out' hw' fun x => ?_
      rw [hf', hfo]
      constructor
      · rintro (h1 | rfl)
        · exact ⟨h1.1, by omega⟩
        · exact ⟨hi1, by omega⟩
      · rintro ⟨h1, h2⟩
        rcases Int.lt_or_le x i with h3 | h3
        · exact .inl ⟨h1, h3⟩
        · exact .inr (by omega)
  · obtain rfl : i = n := by omega
    repeat (with_reducible first | refine vP_so ?_ | refine vB_t ?_ | refine vB_f ?_ | refine vE_tt ?_ | refine vE_ff ?_ | refine vE_tf ?_ | refine vE_ft ?_ | refine vE_u ?_ | refine vP_to (by simp (disch := omega) only [gdW_true, gdW_false, gB_true, gB_false, gB_undef, pickV_true, pickV_false, Bool.not_true, Bool.not_false, Option.map_some, bin_add, bin_sub, bin_mul, bin_quo, bin_rem, lss_t, lss_f, leq_t, leq_f, gtr_t, gtr_f, geq_t, geq_f, eqi_t, eqi_f, nei_t, nei_f, rem_uw, conv_ui, conv_iu, conv_ii, not_bool, nil_ptr, fa_mk, ptrV, len_mk, cap_mk, eq_ptr_nil, ne_ptr_nil, eq_nil_nil, ne_nil_nil, eq_slice_nil, eq_nil_slice, ia_1, fl_ld hp, hlen]; exact so_so) ?_)
    obtain rfl : out = l := WFf_unique hwo hw fun x => by rw [hfo]; exact ⟨fun h => h.1, fun h => ⟨h, (hfr0 x h).2⟩⟩
    exact hK h1 hh
end Go.Proofs

/-
  The document's own pages: Alloc, Back; two lists of runs.
-/
set_option maxRecDepth 100000
namespace Go.Proofs
open Go.Sl
def bestI (l : List Run) (k : Int) (i : Nat) (b : Int) : Prop :=
  (b = -1 ∧ ∀ (j : Nat) x, j < i → l[j]? = some x → x.2 < k) ∨
  ∃ (q : Nat) (r : Run), b = q ∧ q < i ∧ l[q]? = some r ∧ k ≤ r.2 ∧ ∀ (j : Nat) x, j < i → l[j]? = some x → k ≤ x.2 → lt x r = false
theorem use_ralloc {b n : Nat} {l : List Run} {k : Int} {F : Asrt} {K : Value → Hp → Prop} {h : Hp} (hw : WF n l) (hn : n ≤ 262144) (hh : (FLs b n l * (F * tt)) h)
    (hK : ∀ v l' h', AllocL n l k v l' → WF n l' → (FLs b n l' * (F * tt)) h' → K v h') : CallH Tryz.prog 91 #[rv b, .int .i64 k] K h := by
  refine C91 ?_
  unfold D91
  by_cases hk1 : k < 1
  · repeat (with_reducible first | refine vP_so ?_ | refine vB_t ?_ | refine vB_f ?_ | refine vE_tt ?_ | refine vE_ff ?_ | refine vE_tf ?_ | refine vE_ft ?_ | refine vE_u ?_ | refine vP_to (by simp (disch := omega) only [gdW_true, gdW_false, gB_true, gB_false, gB_undef, pickV_true, pickV_false, Bool.not_true, Bool.not_false, Option.map_some, bin_add, bin_sub, bin_mul, bin_quo, bin_rem, lss_t, lss_f, leq_t, leq_f, gtr_t, gtr_f, geq_t, geq_f, eqi_t, eqi_f, nei_t, nei_f, rem_uw, conv_ui, conv_iu, conv_ii, not_bool, nil_ptr, fa_mk, ptrV, len_mk, cap_mk, eq_ptr_nil, ne_ptr_nil, eq_nil_nil, ne_nil_nil, eq_slice_nil, eq_nil_slice, ia_1]; exact so_so) ?_)
    exact hK _ l h (.inl ⟨hk1, rfl, rfl⟩) hw hh
  repeat (with_reducible first | refine vP_so ?_ | refine vB_t ?_ | refine vB_f ?_ | refine vE_tt ?_ | refine vE_ff ?_ | refine vE_tf ?_ | refine vE_ft ?_ | refine vE_u ?_ | refine vP_to (by simp (disch := omega) only [gdW_true, gdW_false, gB_true, gB_false, gB_undef, pickV_true, pickV_false, Bool.not_true, Bool.not_false, Option.map_some, bin_add, bin_sub, bin_mul, bin_quo, bin_rem, lss_t, lss_f, leq_t, leq_f, gtr_t, gtr_f, geq_t, geq_f, eqi_t, eqi_f, nei_t, nei_f, rem_uw, conv_ui, conv_iu, conv_ii, not_bool, nil_ptr, fa_mk, ptrV, len_mk, cap_mk, eq_ptr_nil, ne_ptr_nil, eq_nil_nil, ne_nil_nil, eq_slice_nil, eq_nil_slice, ia_1]; exact so_so) ?_)
  refine use_rruns (F := F) hw hn hh fun v13 h1 hh1 => ?_
  have hlen := SG_len enc2 hh1
  have hwl := WF_len hw (by omega)
  refine ⟨fun q ys h' => ∃ (i : Nat) (bi : Int), ys = [.int .i64 i, .int .i64 bi] ∧ q = l.length - i ∧ i ≤ l.length ∧ bestI l k i bi ∧ h' = h1, ⟨_, 0, -1, rfl, rfl, by omega, .inl ⟨rfl, fun j x h => by omega⟩, rfl⟩, ?_⟩
  rintro q v8 v7 h2 ⟨i, bi, hys, rfl, hi, hb, rfl⟩ _
  obtain ⟨rfl, rfl⟩ : v8 = .int .i64 i ∧ v7 = .int .i64 bi := by simpa using hys
  by_cases hil : i < l.length
  · obtain ⟨pb, po, e1, e2, _⟩ := elG enc2 hh1 (List.getElem?_eq_getElem hil) .i64
    have e1 : iaS 2 v13 (.int .i64 i) = some (.pointer (some ⟨pb, po, none⟩)) := e1
    have e2 := e2 1 _ rfl
    have hli : l[i]? = some l[i] := List.getElem?_eq_getElem hil
    generalize l[i] = x at *
    repeat (with_reducible first | refine vP_so ?_ | refine vB_t ?_ | refine vB_f ?_ | refine vE_tt ?_ | refine vE_ff ?_ | refine vE_tf ?_ | refine vE_ft ?_ | refine vE_u ?_ | refine vP_to (by simp (disch := omega) only [gdW_true, gdW_false, gB_true, gB_false, gB_undef, pickV_true, pickV_false, Bool.not_true, Bool.not_false, Option.map_some, bin_add, bin_sub, bin_mul, bin_quo, bin_rem, lss_t, lss_f, leq_t, leq_f, gtr_t, gtr_f, geq_t, geq_f, eqi_t, eqi_f, nei_t, nei_f, rem_uw, conv_ui, conv_iu, conv_ii, not_bool, nil_ptr, fa_mk, ptrV, len_mk, cap_mk, eq_ptr_nil, ne_ptr_nil, eq_nil_nil, ne_nil_nil, eq_slice_nil, eq_nil_slice, ia_1, hlen]; exact so_so) ?_)
    intro J2 hJ2
    have hJ : ∀ b', bestI l k (i + 1) b' → J2 [.int .i64 b'] h2 := fun b' hb' => by
      refine hJ2 _ _ fun _ => ?_
      repeat (with_reducible first | refine vP_so ?_ | refine vB_t ?_ | refine vB_f ?_ | refine vE_tt ?_ | refine vE_ff ?_ | refine vE_tf ?_ | refine vE_ft ?_ | refine vE_u ?_ | refine vP_to (by simp (disch := omega) only [gdW_true, gdW_false, gB_true, gB_false, gB_undef, pickV_true, pickV_false, Bool.not_true, Bool.not_false, Option.map_some, bin_add, bin_sub, bin_mul, bin_quo, bin_rem, lss_t, lss_f, leq_t, leq_f, gtr_t, gtr_f, geq_t, geq_f, eqi_t, eqi_f, nei_t, nei_f, rem_uw, conv_ui, conv_iu, conv_ii, not_bool, nil_ptr, fa_mk, ptrV, len_mk, cap_mk, eq_ptr_nil, ne_ptr_nil, eq_nil_nil, ne_nil_nil, eq_slice_nil, eq_nil_slice, ia_1]; exact so_so) ?_)
      exact ⟨l.length - (i + 1), by omega, i + 1, b', rfl, rfl, by omega, hb', rfl⟩
    rcases hb with ⟨rfl, hnone⟩ | ⟨q, r, rfl, hqi, hq, hkr, hmin⟩
    · by_cases hx : k ≤ x.2
      · repeat (with_reducible first | refine vP_so ?_ | refine vB_t ?_ | refine vB_f ?_ | refine vE_tt ?_ | refine vE_ff ?_ | refine vE_tf ?_ | refine vE_ft ?_ | refine vE_u ?_ | refine vP_to (by simp (disch := omega) only [gdW_true, gdW_false, gB_true, gB_false, gB_undef, pickV_true, pickV_false, Bool.not_true, Bool.not_false, Option.map_some, bin_add, bin_sub, bin_mul, bin_quo, bin_rem, lss_t, lss_f, leq_t, leq_f, gtr_t, gtr_f, geq_t, geq_f, eqi_t, eqi_f, nei_t, nei_f, rem_uw, conv_ui, conv_iu, conv_ii, not_bool, nil_ptr, fa_mk, ptrV, len_mk, cap_mk, eq_ptr_nil, ne_ptr_nil, eq_nil_nil, ne_nil_nil, eq_slice_nil, eq_nil_slice, ia_1, e1, e2]; exact so_so) ?_)
        refine hJ i (.inr ⟨i, x, rfl, by omega, hli, hx, fun j y hj hy hky => ?_⟩)
        by_cases hji : j = i
        · subst hji
          obtain rfl : x = y := Option.some.inj (hli.symm.trans hy)
          exact nlt_self x
        · have := hnone j y (by omega) hy; omega
      · repeat (with_reducible first | refine vP_so ?_ | refine vB_t ?_ | refine vB_f ?_ | refine vE_tt ?_ | refine vE_ff ?_ | refine vE_tf ?_ | refine vE_ft ?_ | refine vE_u ?_ | refine vP_to (by simp (disch := omega) only [gdW_true, gdW_false, gB_true, gB_false, gB_undef, pickV_true, pickV_false, Bool.not_true, Bool.not_false, Option.map_some, bin_add, bin_sub, bin_mul, bin_quo, bin_rem, lss_t, lss_f, leq_t, leq_f, gtr_t, gtr_f, geq_t, geq_f, eqi_t, eqi_f, nei_t, nei_f, rem_uw, conv_ui, conv_iu, conv_ii, not_bool, nil_ptr, fa_mk, ptrV, len_mk, cap_mk, eq_ptr_nil, ne_ptr_nil, eq_nil_nil, ne_nil_nil, eq_slice_nil, eq_nil_slice, ia_1, e1, e2]; exact so_so) ?_)
        refine hJ (-1) (.inl ⟨rfl, fun j y hj hy => ?_⟩)
        by_cases hji : j = i
        · subst hji
          obtain rfl : x = y := Option.some.inj (hli.symm.trans hy)
          omega
        · exact hnone j y (by omega) hy
    · obtain ⟨qb, qo, f1, f2, _⟩ := elG enc2 hh1 hq .i64
      have f1 : iaS 2 v13 (.int .i64 q) = some (.pointer (some ⟨qb, qo, none⟩)) := f1
      have f2 := f2 1 _ rfl
      have hrise := WFf_rise hw hqi hq hli
      by_cases hx : k ≤ x.2
      · by_cases hxr : x.2 < r.2
        · repeat (with_reducible first | refine vP_so ?_ | refine vB_t ?_ | refine vB_f ?_ | refine vE_tt ?_ | refine vE_ff ?_ | refine vE_tf ?_ | refine vE_ft ?_ | refine vE_u ?_ | refine vP_to (by simp (disch := omega) only [gdW_true, gdW_false, gB_true, gB_false, gB_undef, pickV_true, pickV_false, Bool.not_true, Bool.not_false, Option.map_some, bin_add, bin_sub, bin_mul, bin_quo, bin_rem, lss_t, lss_f, leq_t, leq_f, gtr_t, gtr_f, geq_t, geq_f, eqi_t, eqi_f, nei_t, nei_f, rem_uw, conv_ui, conv_iu, conv_ii, not_bool, nil_ptr, fa_mk, ptrV, len_mk, cap_mk, eq_ptr_nil, ne_ptr_nil, eq_nil_nil, ne_nil_nil, eq_slice_nil, eq_nil_slice, ia_1, e1, e2, f1, f2]; exact so_so) ?_)
          refine hJ i (.inr ⟨i, x, rfl, by omega, hli, hx, fun j y hj hy hky => ?_⟩)
          by_cases hji : j = i
          · subst hji
            obtain rfl : x = y := Option.some.inj (hli.symm.trans hy)
            exact nlt_self x
          · have := hmin j y (by omega) hy hky
            rw [nlt_iff] at *
            omega
        · repeat (with_reducible first | refine vP_so ?_ | refine vB_t ?_ | refine vB_f ?_ | refine vE_tt ?_ | refine vE_ff ?_ | refine vE_tf ?_ | refine vE_ft ?_ | refine vE_u ?_ | refine vP_to (by simp (disch := omega) only [gdW_true, gdW_false, gB_true, gB_false, gB_undef, pickV_true, pickV_false, Bool.not_true, Bool.not_false, Option.map_some, bin_add, bin_sub, bin_mul, bin_quo, bin_rem, lss_t, lss_f, leq_t, leq_f, gtr_t, gtr_f, geq_t, geq_f, eqi_t, eqi_f, nei_t, nei_f, rem_uw, conv_ui, conv_iu, conv_ii, not_bool, nil_ptr, fa_mk, ptrV, len_mk, cap_mk, eq_ptr_nil, ne_ptr_nil, eq_nil_nil, ne_nil_nil, eq_slice_nil, eq_nil_slice, ia_1, e1, e2, f1, f2]; exact so_so) ?_)
          refine hJ q (.inr ⟨q, r, rfl, by omega, hq, hkr, fun j y hj hy hky => ?_⟩)
          by_cases hji : j = i
          · subst hji
            obtain rfl : x = y := Option.some.inj (hli.symm.trans hy)
            rw [nlt_iff]
            omega
          · exact hmin j y (by omega) hy hky
      · repeat (with_reducible first | refine vP_so ?_ | refine vB_t ?_ | refine vB_f ?_ | refine vE_tt ?_ | refine vE_ff ?_ | refine vE_tf ?_ | refine vE_ft ?_ | refine vE_u ?_ | refine vP_to (by simp (disch := omega) only [gdW_true, gdW_false, gB_true, gB_false, gB_undef, pickV_true, pickV_false, Bool.not_true, Bool.not_false, Option.map_some, bin_add, bin_sub, bin_mul, bin_quo, bin_rem, lss_t, lss_f, leq_t, leq_f, gtr_t, gtr_f, geq_t, geq_f, eqi_t, eqi_f, nei_t, nei_f, rem_uw, conv_ui, conv_iu, conv_ii, not_bool, nil_ptr, fa_mk, ptrV, len_mk, cap_mk, eq_ptr_nil, ne_ptr_nil, eq_nil_nil, ne_nil_nil, eq_slice_nil, eq_nil_slice, ia_1, e1, e2, f1, f2]; exact so_so) ?_)
        refine hJ q (.inr ⟨q, r, rfl, by omega, hq, hkr, fun j y hj hy hky => ?_⟩)
        by_cases hji : j = i
        · subst hji
          obtain rfl : x = y := Option.some.inj (hli.symm.trans hy)
          omega
        · exact hmin j y (by omega) hy hky
  obtain rfl : i = l.length := by omega
  have hget : ∀ y ∈ l, ∃ j, j < l.length ∧ l[j]? = some y := fun y hy => by
    obtain ⟨j, hj, e⟩ := List.getElem_of_mem hy
    exact ⟨j, hj, by rw [List.getElem?_eq_getElem hj, e]⟩
  rcases hb with ⟨rfl, hnone⟩ | ⟨q, r, rfl, hqi, hq, hkr, hmin⟩
  · repeat (with_reducible first | refine vP_so ?_ | refine vB_t ?_ | refine vB_f ?_ | refine vE_tt ?_ | refine vE_ff ?_ | refine vE_tf ?_ | refine vE_ft ?_ | refine vE_u ?_ | refine vP_to (by simp (disch := omega) only [gdW_true, gdW_false, gB_true, gB_false, gB_undef, pickV_true, pickV_false, Bool.not_true, Bool.not_false, Option.map_some, bin_add, bin_sub, bin_mul, bin_quo, bin_rem, lss_t, lss_f, leq_t, leq_f, gtr_t, gtr_f, geq_t, geq_f, eqi_t, eqi_f, nei_t, nei_f, rem_uw, conv_ui, conv_iu, conv_ii, not_bool, nil_ptr, fa_mk, ptrV, len_mk, cap_mk, eq_ptr_nil, ne_ptr_nil, eq_nil_nil, ne_nil_nil, eq_slice_nil, eq_nil_slice, ia_1, hlen]; exact so_so) ?_)
    refine hK _ l h2 (.inr (.inl ⟨by omega, fun y hy => ?_, rfl, rfl⟩)) hw (drp (P := SG enc2 91 v13 l) (Q := FLs b n l * F) (asr (by ac_rfl) hh1) |> asr (by ac_rfl))
    obtain ⟨j, hj, e⟩ := hget y hy
    exact hnone j y hj e
  · have hR : AllocR l k (tup r.1 0) (if r.2 = k then l.take q ++ l.drop (q + 1) else l.set q (r.1 + k, r.2 - k)) := .inr (.inr ⟨by omega, r, q, hq, hkr, fun y hy hky => by
      obtain ⟨j, hj, e⟩ := hget y hy
      exact hmin j y hj e hky, rfl, rfl⟩)
    generalize (if r.2 = k then l.take q ++ l.drop (q + 1) else l.set q (r.1 + k, r.2 - k)) = l' at *
    have hA : AllocL n l k (tup r.1 0) l' ∧ WF n l' := by
      rcases alloc_law hw hR with ⟨h1, _⟩ | ⟨_, h1, _⟩ | ⟨h1, b, h2, h3, h4, h5, h6, h7, h8⟩
      · omega
      · have := h1 r (List.mem_of_getElem? hq); omega
      · exact ⟨.inr (.inr ⟨h1, b, h2, h3, h4, h5, h7, h8⟩), h6⟩
    have hrm := WFf_mem hw (by omega) r (List.mem_of_getElem? hq)
    have hf : ∀ x, fr l' x ↔ fr l x ∧ ¬ (r.1 ≤ x ∧ x < r.1 + k) := by
      rcases hA.1 with ⟨h1, _⟩ | ⟨_, _, h1, _⟩ | ⟨_, b, _, _, _, h5, h7, _⟩
      · omega
      · simp at h1
      · have : r.1 = b.1 := by simpa using h5
        rw [this]; exact h7
    obtain ⟨qb, qo, f1, f2, _⟩ := elG enc2 hh1 hq .i64
    have f1 : iaS 2 v13 (.int .i64 q) = some (.pointer (some ⟨qb, qo, none⟩)) := f1
    repeat (with_reducible first | refine vP_so ?_ | refine vB_t ?_ | refine vB_f ?_ | refine vE_tt ?_ | refine vE_ff ?_ | refine vE_tf ?_ | refine vE_ft ?_ | refine vE_u ?_ | refine vP_to (by simp (disch := omega) only [gdW_true, gdW_false, gB_true, gB_false, gB_undef, pickV_true, pickV_false, Bool.not_true, Bool.not_false, Option.map_some, bin_add, bin_sub, bin_mul, bin_quo, bin_rem, lss_t, lss_f, leq_t, leq_f, gtr_t, gtr_f, geq_t, geq_f, eqi_t, eqi_f, nei_t, nei_f, rem_uw, conv_ui, conv_iu, conv_ii, not_bool, nil_ptr, fa_mk, ptrV, len_mk, cap_mk, eq_ptr_nil, ne_ptr_nil, eq_nil_nil, ne_nil_nil, eq_slice_nil, eq_nil_slice, ia_1, hlen]; exact so_so) ?_)
    have hh2 : (FLs b n l * (SG enc2 91 v13 l * (F * tt))) h2 := asr (by ac_rfl) hh1
    obtain ⟨sv, fl, hfl, hff, hp⟩ := FLs_elim hh2
    refine ⟨fun m ys h' => ∃ (j : Nat) (fl' : List Bool), ys = [.int .i64 j] ∧ m = k.toNat - j ∧ (j : Int) ≤ k ∧ fl'.length = n ∧ (∀ x : Nat, x < n → (fl'[x]? = some true ↔ fr l x ∧ ¬ (r.1 ≤ x ∧ (x : Int) < r.1 + j))) ∧ (pt b (.cells #[sv] 83 (0, 0)) * (SG bE 4 sv fl' * (SG enc2 91 v13 l * (F * tt)))) h',
      ⟨_, 0, fl, rfl, rfl, by omega, hfl, fun x hx => by rw [hff x hx]; exact ⟨fun h => ⟨h, by omega⟩, fun h => h.1⟩, hp⟩, ?_⟩
    rintro m v9 h4 ⟨j, fl', hys, rfl, hj, hfl', hff', hh4⟩ _
    obtain rfl : v9 = .int .i64 j := by simpa using hys
    have hR4 : (SG enc2 91 v13 l * (pt b (.cells #[sv] 83 (0, 0)) * (SG bE 4 sv fl' * (F * tt)))) h4 := asr (by ac_rfl) hh4
    obtain ⟨qb', qo', f1', f2', _⟩ := elG enc2 hR4 hq .i64
    have f1' : iaS 2 v13 (.int .i64 q) = some (.pointer (some ⟨qb', qo', none⟩)) := f1'
    have f2' := f2' 0 _ rfl
    by_cases hjk : (j : Int) < k
    · have hS4 : (SG bE 4 sv fl' * (pt b (.cells #[sv] 83 (0, 0)) * (SG enc2 91 v13 l * (F * tt)))) h4 := asr (by ac_rfl) hh4
      obtain ⟨y, hy⟩ : ∃ y : Nat, r.1 + j = y := ⟨(r.1 + j).toNat, by omega⟩
      obtain ⟨p, g1, _, g3⟩ := el1 hS4 (List.getElem?_eq_getElem (show y < fl'.length by omega)) .i64
      repeat (with_reducible first | refine vP_so ?_ | refine vB_t ?_ | refine vB_f ?_ | refine vE_tt ?_ | refine vE_ff ?_ | refine vE_tf ?_ | refine vE_ft ?_ | refine vE_u ?_ | refine vP_to (by simp (disch := omega) only [gdW_true, gdW_false, gB_true, gB_false, gB_undef, pickV_true, pickV_false, Bool.not_true, Bool.not_false, Option.map_some, bin_add, bin_sub, bin_mul, bin_quo, bin_rem, lss_t, lss_f, leq_t, leq_f, gtr_t, gtr_f, geq_t, geq_f, eqi_t, eqi_f, nei_t, nei_f, rem_uw, conv_ui, conv_iu, conv_ii, not_bool, nil_ptr, fa_mk, ptrV, len_mk, cap_mk, eq_ptr_nil, ne_ptr_nil, eq_nil_nil, ne_nil_nil, eq_slice_nil, eq_nil_slice, ia_1, fl_ld hh4, f1', f2', hy, g1]; exact so_so) ?_)
      refine g3 false _ fun h5 hh5 => ?_
      repeat (with_reducible first | refine vP_so ?_ | refine vB_t ?_ | refine vB_f ?_ | refine vE_tt ?_ | refine vE_ff ?_ | refine vE_tf ?_ | refine vE_ft ?_ | refine vE_u ?_ | refine vP_to (by simp (disch := omega) only [gdW_true, gdW_false, gB_true, gB_false, gB_undef, pickV_true, pickV_false, Bool.not_true, Bool.not_false, Option.map_some, bin_add, bin_sub, bin_mul, bin_quo, bin_rem, lss_t, lss_f, leq_t, leq_f, gtr_t, gtr_f, geq_t, geq_f, eqi_t, eqi_f, nei_t, nei_f, rem_uw, conv_ui, conv_iu, conv_ii, not_bool, nil_ptr, fa_mk, ptrV, len_mk, cap_mk, eq_ptr_nil, ne_ptr_nil, eq_nil_nil, ne_nil_nil, eq_slice_nil, eq_nil_slice, ia_1]; exact so_so) ?_)
      refine ⟨k.toNat - (j + 1), by omega, j + 1, fl'.set y false, by simp, rfl, by omega, by simpa using hfl', fun x hx => ?_, asr (by ac_rfl) hh5⟩
      rw [List.getElem?_set]
      by_cases hxy : y = x
      · rw [if_pos hxy, if_pos (by omega)]
        constructor
        · intro h; simp at h
        · rintro ⟨_, h⟩; exact (h (by omega)).elim
      · rw [if_neg hxy, hff' x hx]
        constructor
        · exact fun h => ⟨h.1, by omega⟩
        · exact fun h => ⟨h.1, by omega⟩
    · repeat (with_reducible first | refine vP_so ?_ | refine vB_t ?_ | refine vB_f ?_ | refine vE_tt ?_ | refine vE_ff ?_ | refine vE_tf ?_ | refine vE_ft ?_ | refine vE_u ?_ | refine vP_to (by simp (disch := omega) only [gdW_true, gdW_false, gB_true, gB_false, gB_undef, pickV_true, pickV_false, Bool.not_true, Bool.not_false, Option.map_some, bin_add, bin_sub, bin_mul, bin_quo, bin_rem, lss_t, lss_f, leq_t, leq_f, gtr_t, gtr_f, geq_t, geq_f, eqi_t, eqi_f, nei_t, nei_f, rem_uw, conv_ui, conv_iu, conv_ii, not_bool, nil_ptr, fa_mk, ptrV, len_mk, cap_mk, eq_ptr_nil, ne_ptr_nil, eq_nil_nil, ne_nil_nil, eq_slice_nil, eq_nil_slice, ia_1, f1', f2']; exact so_so) ?_)
      refine hK _ l' h4 hA.1 hA.2 (FLs_intro hfl' (fun x hx => ?_) (drp (P := SG enc2 91 v13 l) (Q := pt b (.cells #[sv] 83 (0, 0)) * (SG bE 4 sv fl' * F)) (asr (by ac_rfl) hh4) |> asr (by ac_rfl)))
      rw [hff' x hx, hf, show (j : Int) = k by omega]
theorem use_rback {b n : Nat} {l : List Run} {first k : Int} {F : Asrt} {K : Value → Hp → Prop} {h : Hp} (hw : WF n l) (hn : n ≤ 262144) (hh : (FLs b n l * F) h)
    (hK : ∀ v l' h', FreeL n l first k v l' → WF n l' → (FLs b n l' * F) h' → K v h') : CallH Tryz.prog 94 #[rv b, .int .i64 first, .int .i64 k] K h := by
  refine C94 ?_
  unfold D94
  obtain ⟨sv, fl, hfl, hff, hp⟩ := FLs_elim hh
  have hS : (SG bE 4 sv fl * (pt b (.cells #[sv] 83 (0, 0)) * F)) h := asr (by ac_rfl) hp
  have hlen := SG_len bE hS
  by_cases hbad : badF n first k
  · have key : K (.int .i64 1) h := hK _ l h (.inl ⟨hbad, rfl, rfl⟩) hw hh
    by_cases h1 : k < 1
    · repeat (with_reducible first | refine vP_so ?_ | refine vB_t ?_ | refine vB_f ?_ | refine vE_tt ?_ | refine vE_ff ?_ | refine vE_tf ?_ | refine vE_ft ?_ | refine vE_u ?_ | refine vP_to (by simp (disch := omega) only [gdW_true, gdW_false, gB_true, gB_false, gB_undef, pickV_true, pickV_false, Bool.not_true, Bool.not_false, Option.map_some, bin_add, bin_sub, bin_mul, bin_quo, bin_rem, lss_t, lss_f, leq_t, leq_f, gtr_t, gtr_f, geq_t, geq_f, eqi_t, eqi_f, nei_t, nei_f, rem_uw, conv_ui, conv_iu, conv_ii, not_bool, nil_ptr, fa_mk, ptrV, len_mk, cap_mk, eq_ptr_nil, ne_ptr_nil, eq_nil_nil, ne_nil_nil, eq_slice_nil, eq_nil_slice, ia_1]; exact so_so) ?_)
      exact key
    by_cases h2 : first < 1
    · repeat (with_reducible first | refine vP_so ?_ | refine vB_t ?_ | refine vB_f ?_ | refine vE_tt ?_ | refine vE_ff ?_ | refine vE_tf ?_ | refine vE_ft ?_ | refine vE_u ?_ | refine vP_to (by simp (disch := omega) only [gdW_true, gdW_false, gB_true, gB_false, gB_undef, pickV_true, pickV_false, Bool.not_true, Bool.not_false, Option.map_some, bin_add, bin_sub, bin_mul, bin_quo, bin_rem, lss_t, lss_f, leq_t, leq_f, gtr_t, gtr_f, geq_t, geq_f, eqi_t, eqi_f, nei_t, nei_f, rem_uw, conv_ui, conv_iu, conv_ii, not_bool, nil_ptr, fa_mk, ptrV, len_mk, cap_mk, eq_ptr_nil, ne_ptr_nil, eq_nil_nil, ne_nil_nil, eq_slice_nil, eq_nil_slice, ia_1]; exact so_so) ?_)
      exact key
    by_cases h3 : (n : Int) ≤ first
    · repeat (with_reducible first | refine vP_so ?_ | refine vB_t ?_ | refine vB_f ?_ | refine vE_tt ?_ | refine vE_ff ?_ | refine vE_tf ?_ | refine vE_ft ?_ | refine vE_u ?_ | refine vP_to (by simp (disch := omega) only [gdW_true, gdW_false, gB_true, gB_false, gB_undef, pickV_true, pickV_false, Bool.not_true, Bool.not_false, Option.map_some, bin_add, bin_sub, bin_mul, bin_quo, bin_rem, lss_t, lss_f, leq_t, leq_f, gtr_t, gtr_f, geq_t, geq_f, eqi_t, eqi_f, nei_t, nei_f, rem_uw, conv_ui, conv_iu, conv_ii, not_bool, nil_ptr, fa_mk, ptrV, len_mk, cap_mk, eq_ptr_nil, ne_ptr_nil, eq_nil_nil, ne_nil_nil, eq_slice_nil, eq_nil_slice, ia_1, fl_ld hp, hlen, hfl]; exact so_so) ?_)
      exact key
    · have h4 : (n : Int) - first < k := by unfold badF at hbad; omega
      repeat (with_reducible first | refine vP_so ?_ | refine vB_t ?_ | refine vB_f ?_ | refine vE_tt ?_ | refine vE_ff ?_ | refine vE_tf ?_ | refine vE_ft ?_ | refine vE_u ?_ | refine vP_to (by simp (disch := omega) only [gdW_true, gdW_false, gB_true, gB_false, gB_undef, pickV_true, pickV_false, Bool.not_true, Bool.not_false, Option.map_some, bin_add, bin_sub, bin_mul, bin_quo, bin_rem, lss_t, lss_f, leq_t, leq_f, gtr_t, gtr_f, geq_t, geq_f, eqi_t, eqi_f, nei_t, nei_f, rem_uw, conv_ui, conv_iu, conv_ii, not_bool, nil_ptr, fa_mk, ptrV, len_mk, cap_mk, eq_ptr_nil, ne_ptr_nil, eq_nil_nil, ne_nil_nil, eq_slice_nil, eq_nil_slice, ia_1, fl_ld hp, hlen, hfl]; exact so_so) ?_)
      exact key
  have hg : 1 ≤ k ∧ 1 ≤ first ∧ first < n ∧ k ≤ n - first := by unfold badF at hbad; omega
  repeat (with_reducible first | refine vP_so ?_ | refine vB_t ?_ | refine vB_f ?_ | refine vE_tt ?_ | refine vE_ff ?_ | refine vE_tf ?_ | refine vE_ft ?_ | refine vE_u ?_ | refine vP_to (by simp (disch := omega) only [gdW_true, gdW_false, gB_true, gB_false, gB_undef, pickV_true, pickV_false, Bool.not_true, Bool.not_false, Option.map_some, bin_add, bin_sub, bin_mul, bin_quo, bin_rem, lss_t, lss_f, leq_t, leq_f, gtr_t, gtr_f, geq_t, geq_f, eqi_t, eqi_f, nei_t, nei_f, rem_uw, conv_ui, conv_iu, conv_ii, not_bool, nil_ptr, fa_mk, ptrV, len_mk, cap_mk, eq_ptr_nil, ne_ptr_nil, eq_nil_nil, ne_nil_nil, eq_slice_nil, eq_nil_slice, ia_1, fl_ld hp, hlen, hfl]; exact so_so) ?_)
  refine ⟨fun m ys h' => ∃ (j : Nat), ys = [.int .i64 j] ∧ m = k.toNat - j ∧ (j : Int) ≤ k ∧ (∀ x, first ≤ x → x < first + j → ¬ fr l x) ∧ h' = h, ⟨_, 0, rfl, rfl, by omega, fun x h1 h2 => by omega, rfl⟩, ?_⟩
  rintro m v7 h1 ⟨j, hys, rfl, hj, hno, rfl⟩ _
  obtain rfl : v7 = .int .i64 j := by simpa using hys
  by_cases hjk : (j : Int) < k
  · obtain ⟨y, hy⟩ : ∃ y : Nat, first + j = y := ⟨(first + j).toNat, by omega⟩
    obtain ⟨p, g1, g2, _⟩ := el1 hS (List.getElem?_eq_getElem (show y < fl.length by omega)) .i64
    have hfy := hff y (by omega)
    rw [List.getElem?_eq_getElem (show y < fl.length by omega)] at hfy
    generalize fl[y] = bi at *
    cases bi with
    | true =>
      repeat (with_reducible first | refine vP_so ?_ | refine vB_t ?_ | refine vB_f ?_ | refine vE_tt ?_ | refine vE_ff ?_ | refine vE_tf ?_ | refine vE_ft ?_ | refine vE_u ?_ | refine vP_to (by simp (disch := omega) only [gdW_true, gdW_false, gB_true, gB_false, gB_undef, pickV_true, pickV_false, Bool.not_true, Bool.not_false, Option.map_some, bin_add, bin_sub, bin_mul, bin_quo, bin_rem, lss_t, lss_f, leq_t, leq_f, gtr_t, gtr_f, geq_t, geq_f, eqi_t, eqi_f, nei_t, nei_f, rem_uw, conv_ui, conv_iu, conv_ii, not_bool, nil_ptr, fa_mk, ptrV, len_mk, cap_mk, eq_ptr_nil, ne_ptr_nil, eq_nil_nil, ne_nil_nil, eq_slice_nil, eq_nil_slice, ia_1, fl_ld hp, hy, g1, g2]; exact so_so) ?_)
      exact hK _ l h1 (.inr (.inl ⟨hbad, ⟨y, by omega, by omega, hfy.1 rfl⟩, rfl, rfl⟩)) hw hh
    | false =>
      repeat (with_reducible first | refine vP_so ?_ | refine vB_t ?_ | refine vB_f ?_ | refine vE_tt ?_ | refine vE_ff ?_ | refine vE_tf ?_ | refine vE_ft ?_ | refine vE_u ?_ | refine vP_to (by simp (disch := omega) only [gdW_true, gdW_false, gB_true, gB_false, gB_undef, pickV_true, pickV_false, Bool.not_true, Bool.not_false, Option.map_some, bin_add, bin_sub, bin_mul, bin_quo, bin_rem, lss_t, lss_f, leq_t, leq_f, gtr_t, gtr_f, geq_t, geq_f, eqi_t, eqi_f, nei_t, nei_f, rem_uw, conv_ui, conv_iu, conv_ii, not_bool, nil_ptr, fa_mk, ptrV, len_mk, cap_mk, eq_ptr_nil, ne_ptr_nil, eq_nil_nil, ne_nil_nil, eq_slice_nil, eq_nil_slice, ia_1, fl_ld hp, hy, g1, g2]; exact so_so) ?_)
      refine ⟨k.toNat - (j + 1), by omega, j + 1, by simp, rfl, by omega, fun x h1 h2 hx => ?_, rfl⟩
      by_cases hxy : x = y
      · subst hxy
        have := hfy.2 hx; simp at this
      · exact hno x h1 (by omega) hx
  · repeat (with_reducible first | refine vP_so ?_ | refine vB_t ?_ | refine vB_f ?_ | refine vE_tt ?_ | refine vE_ff ?_ | refine vE_tf ?_ | refine vE_ft ?_ | refine vE_u ?_ | refine vP_to (by simp (disch := omega) only [gdW_true, gdW_false, gB_true, gB_false, gB_undef, pickV_true, pickV_false, Bool.not_true, Bool.not_false, Option.map_some, bin_add, bin_sub, bin_mul, bin_quo, bin_rem, lss_t, lss_f, leq_t, leq_f, gtr_t, gtr_f, geq_t, geq_f, eqi_t, eqi_f, nei_t, nei_f, rem_uw, conv_ui, conv_iu, conv_ii, not_bool, nil_ptr, fa_mk, ptrV, len_mk, cap_mk, eq_ptr_nil, ne_ptr_nil, eq_nil_nil, ne_nil_nil, eq_slice_nil, eq_nil_slice, ia_1]; exact so_so) ?_)
    have hno : ∀ x, first ≤ x → x < first + k → ¬ fr l x := fun x h1 h2 => hno x h1 (by omega)
    obtain ⟨v, l', hL, wL⟩ := freeL_some hw first k
    have hL' := hL
    rcases hL with ⟨h1, _⟩ | ⟨_, ⟨x, h1, h2, h3⟩, _⟩ | ⟨_, _, rfl, hf, _⟩
    · exact (hbad h1).elim
    · exact (hno x h1 h2 h3).elim
    refine ⟨fun m ys h' => ∃ (j : Nat) (fl' : List Bool), ys = [.int .i64 j] ∧ m = k.toNat - j ∧ (j : Int) ≤ k ∧ fl'.length = n ∧ (∀ x : Nat, x < n → (fl'[x]? = some true ↔ fr l x ∨ (first ≤ x ∧ (x : Int) < first + j))) ∧ (pt b (.cells #[sv] 83 (0, 0)) * (SG bE 4 sv fl' * F)) h',
      ⟨_, 0, fl, rfl, rfl, by omega, hfl, fun x hx => by rw [hff x hx]; exact ⟨.inl, fun h => by rcases h with h | h; exact h; omega⟩, hp⟩, ?_⟩
    rintro m v8 h2 ⟨j, fl', hys, rfl, hj, hfl', hff', hh2⟩ _
    obtain rfl : v8 = .int .i64 j := by simpa using hys
    by_cases hjk : (j : Int) < k
    · have hS2 : (SG bE 4 sv fl' * (pt b (.cells #[sv] 83 (0, 0)) * F)) h2 := asr (by ac_rfl) hh2
      obtain ⟨y, hy⟩ : ∃ y : Nat, first + j = y := ⟨(first + j).toNat, by omega⟩
      obtain ⟨p, g1, _, g3⟩ := el1 hS2 (List.getElem?_eq_getElem (show y < fl'.length by omega)) .i64
      repeat (with_reducible first | refine vP_so ?_ | refine vB_t ?_ | refine vB_f ?_ | refine vE_tt ?_ | refine vE_ff ?_ | refine vE_tf ?_ | refine vE_ft ?_ | refine vE_u ?_ | refine vP_to (by simp (disch := omega) only [gdW_true, gdW_false, gB_true, gB_false, gB_undef, pickV_true, pickV_false, Bool.not_true, Bool.not_false, Option.map_some, bin_add, bin_sub, bin_mul, bin_quo, bin_rem, lss_t, lss_f, leq_t, leq_f, gtr_t, gtr_f, geq_t, geq_f, eqi_t, eqi_f, nei_t, nei_f, rem_uw, conv_ui, conv_iu, conv_ii, not_bool, nil_ptr, fa_mk, ptrV, len_mk, cap_mk, eq_ptr_nil, ne_ptr_nil, eq_nil_nil, ne_nil_nil, eq_slice_nil, eq_nil_slice, ia_1, fl_ld hh2, hy, g1]; exact so_so) ?_)
      refine g3 true _ fun h5 hh5 => ?_
      repeat (with_reducible first | refine vP_so ?_ | refine vB_t ?_ | refine vB_f ?_ | refine vE_tt ?_ | refine vE_ff ?_ | refine vE_tf ?_ | refine vE_ft ?_ | refine vE_u ?_ | refine vP_to (by simp (disch := omega) only [gdW_true, gdW_false, gB_true, gB_false, gB_undef, pickV_true, pickV_false, Bool.not_true, Bool.not_false, Option.map_some, bin_add, bin_sub, bin_mul, bin_quo, bin_rem, lss_t, lss_f, leq_t, leq_f, gtr_t, gtr_f, geq_t, geq_f, eqi_t, eqi_f, nei_t, nei_f, rem_uw, conv_ui, conv_iu, conv_ii, not_bool, nil_ptr, fa_mk, ptrV, len_mk, cap_mk, eq_ptr_nil, ne_ptr_nil, eq_nil_nil, ne_nil_nil, eq_slice_nil, eq_nil_slice, ia_1]; exact so_so) ?_)
      refine ⟨k.toNat - (j + 1), by omega, j + 1, fl'.set y true, by simp, rfl, by omega, by simpa using hfl', fun x hx => ?_, asr (by ac_rfl) hh5⟩
      rw [List.getElem?_set]
      by_cases hxy : y = x
      · rw [if_pos hxy, if_pos (by omega)]
        simp only [true_iff]
        right; omega
      · rw [if_neg hxy, hff' x hx]
        constructor
        · rintro (h | h)
          · exact .inl h
          · exact .inr (by omega)
        · rintro (h | h)
          · exact .inl h
          · exact .inr (by omega)
    · repeat (with_reducible first | refine vP_so ?_ | refine vB_t ?_ | refine vB_f ?_ | refine vE_tt ?_ | refine vE_ff ?_ | refine vE_tf ?_ | refine vE_ft ?_ | refine vE_u ?_ | refine vP_to (by simp (disch := omega) only [gdW_true, gdW_false, gB_true, gB_false, gB_undef, pickV_true, pickV_false, Bool.not_true, Bool.not_false, Option.map_some, bin_add, bin_sub, bin_mul, bin_quo, bin_rem, lss_t, lss_f, leq_t, leq_f, gtr_t, gtr_f, geq_t, geq_f, eqi_t, eqi_f, nei_t, nei_f, rem_uw, conv_ui, conv_iu, conv_ii, not_bool, nil_ptr, fa_mk, ptrV, len_mk, cap_mk, eq_ptr_nil, ne_ptr_nil, eq_nil_nil, ne_nil_nil, eq_slice_nil, eq_nil_slice, ia_1]; exact so_so) ?_)
      refine hK _ l' h2 hL' wL (FLs_intro hfl' (fun x hx => ?_) hh2)
      rw [hff' x hx, hf, show (j : Int) = k by omega]
end Go.Proofs
