/-
  Page: the contracts with the plain law; the few that are told.
-/
import Derived.Test.YtfjgkljgfomobaaPgP
set_option linter.unusedVariables false
set_option linter.unusedSimpArgs false
namespace Go.Proofs
open Go.Sl

/-- What Alloc does. -/
def AllocL (n : Int) (l : List Run) (k : Int) (v : Value) (l' : List Run) : Prop :=
  (k < 1 ∧ v = tup 0 1 ∧ l' = l) ∨ (1 ≤ k ∧ (∀ r ∈ l, r.2 < k) ∧ v = tup 0 3 ∧ l' = l) ∨
  (1 ≤ k ∧ ∃ b ∈ l, k ≤ b.2 ∧ (∀ y ∈ l, k ≤ y.2 → lt y b = false) ∧ v = tup b.1 0 ∧ (∀ x, fr l' x ↔ fr l x ∧ ¬ (b.1 ≤ x ∧ x < b.1 + k)) ∧ leftS l' = leftS l - k)

/-- What Free does. -/
def FreeL (n : Int) (l : List Run) (first k : Int) (v : Value) (l' : List Run) : Prop :=
  (badF n first k ∧ v = .int .i64 1 ∧ l' = l) ∨
  (¬ badF n first k ∧ (∃ x, first ≤ x ∧ x < first + k ∧ fr l x) ∧ v = .int .i64 5 ∧ l' = l) ∨
  (¬ badF n first k ∧ (∀ x, first ≤ x → x < first + k → ¬ fr l x) ∧ v = .int .i64 0 ∧ (∀ x, fr l' x ↔ fr l x ∨ (first ≤ x ∧ x < first + k)) ∧ leftS l' = leftS l + k)

theorem use_alloc {a : Nat} {n : Int} {l : List Run} {k : Int} {F : Asrt} {K : Value → Hp → Prop} {h : Hp} (hw : WF n l) (hn : 0 ≤ n ∧ n ≤ 262144) (hk : k ≤ 9223372036854775807) (hh : (PG a n l * F) h)
    (hK : ∀ v l' h', AllocL n l k v l' → WF n l' → (PG a n l' * F) h' → K v h') : CallH Try.prog 9 #[pv a, .int .i64 k] K h := by
  have := WF_len hw hn.1
  refine (alloc_tr a n l k (B := n) (by omega) (WF_bd hw) (by omega) hk).use hh fun v h' hv => ?_
  obtain ⟨l', hv⟩ := ex_star.1 hv
  rw [star_assoc, pr_star] at hv
  rcases alloc_law hw hv.1 with ⟨h1, h2, rfl⟩ | ⟨h1, h2, h3, rfl⟩ | ⟨h1, b, h2, h3, h4, h5, h6, h7, h8⟩
  · exact hK v _ h' (.inl ⟨h1, h2, rfl⟩) hw hv.2
  · exact hK v _ h' (.inr (.inl ⟨h1, h2, h3, rfl⟩)) hw hv.2
  · exact hK v _ h' (.inr (.inr ⟨h1, b, h2, h3, h4, h5, h7, h8⟩)) h6 hv.2

theorem use_free {a : Nat} {n : Int} {l : List Run} {first k : Int} {F : Asrt} {K : Value → Hp → Prop} {h : Hp} (hw : WF n l) (hn : 0 ≤ n ∧ n ≤ 262144) (hk : k ≤ 9223372036854775807) (hh : (PG a n l * F) h)
    (hK : ∀ v l' h', FreeL n l first k v l' → WF n l' → (PG a n l' * F) h' → K v h') : CallH Try.prog 11 #[pv a, .int .i64 first, .int .i64 k] K h := by
  have := WF_len hw hn.1
  refine (free_tr a n l first k (B := n) (by omega) (WF_bd hw) (by omega) (by omega) hk).use hh fun v h' hv => ?_
  obtain ⟨l', hv⟩ := ex_star.1 hv
  rw [star_assoc, pr_star] at hv
  rcases free_law hw hv.1 with ⟨h1, h2, rfl⟩ | ⟨h1, h2, h3, rfl⟩ | ⟨h1, h2, h3, h6, h7, h8⟩
  · exact hK v _ h' (.inl ⟨h1, h2, rfl⟩) hw hv.2
  · exact hK v _ h' (.inr (.inl ⟨h1, h2, h3, rfl⟩)) hw hv.2
  · exact hK v _ h' (.inr (.inr ⟨h1, h2, h3, h7, h8⟩)) h6 hv.2

theorem use_new {n : Int} {F : Asrt} {K : Value → Hp → Prop} {h : Hp} (hh : F h) (hK : ∀ a h', (PG a (newN n) (newL n) * F) h' → K (pv a) h') : CallH Try.prog 8 #[.int .i64 n] K h := by
  refine (new_tr n).use (F := F) (by rw [emp_star]; exact hh) fun v h' hv => ?_
  obtain ⟨a, hv⟩ := ex_star.1 hv
  rw [star_assoc, pr_star] at hv
  rw [hv.1]
  exact hK a h' hv.2

theorem use_runs {a : Nat} {n : Int} {l : List Run} {F : Asrt} {K : Value → Hp → Prop} {h : Hp} (hw : WF n l) (hn : 0 ≤ n ∧ n ≤ 262144) (hh : (PG a n l * F) h)
    (hK : ∀ v h', (SL enc2 34 v l * (PG a n l * F)) h' → K v h') : CallH Try.prog 12 #[pv a] K h := by
  have := WF_len hw hn.1
  exact (runs_tr a n l (by omega)).use hh fun v h' hv => hK v h' (asr (star_assoc _ _ _) hv)

theorem use_left {a : Nat} {n : Int} {l : List Run} {F : Asrt} {K : Value → Hp → Prop} {h : Hp} (hw : WF n l) (hn : 0 ≤ n ∧ n ≤ 262144) (hh : (PG a n l * F) h)
    (hK : ∀ h', (PG a n l * F) h' → K (.int .i64 (leftS l)) h') : CallH Try.prog 13 #[pv a] K h := by
  have h1 := WF_len hw hn.1
  refine (left_tr a n l (by omega) (fun r hr => by have := WFf_mem hw (by omega) r hr; omega) (by omega)).use hh fun v h' hv => ?_
  rw [star_assoc, pr_star] at hv
  rw [hv.1]
  exact hK h' hv.2

theorem WF_one (n m : Int) (h : 1 ≤ m) (h' : 1 + m ≤ n) : WF n [(1, m)] := ⟨by simp only; omega, by simp only; omega, by simp only; omega, trivial⟩

theorem told_tr : Tr Try.prog 14 #[] emp (fun v => pr (v = .bool true)) := by
  refine Tr.of fun h hh => C14 ?_
  unfold D14
  rw [emp_star] at hh
  refine use_new hh fun a h1 hh1 => ?_
  have e1 : newN 6 = 6 := by decide
  have e2 : newL 6 = [(1, 5)] := by decide
  rw [e1, e2] at hh1
  have w1 : WF 6 [(1, 5)] := WF_one 6 5 (by omega) (by omega)
  simp only [pv, eq_ptr_nil, vP_some, vB_false]
  refine use_alloc w1 (by omega) (by omega) hh1 fun v l2 h2 hv w2 hh2 => ?_
  rcases hv with ⟨h, _⟩ | ⟨_, h, _⟩ | ⟨_, b, hb, hb2, _, rfl, hf2, hl2⟩
  · omega
  · have := h (1, 5) (by simp); simp only at this; omega
  obtain rfl : b = (1, 5) := by simpa using hb
  have x0 : ∀ a b, exV (tup a b) 0 = some (.int .i64 a) := fun _ _ => rfl
  have x1 : ∀ a b, exV (tup a b) 1 = some (.int .i64 b) := fun _ _ => rfl
  rw [x0, vP_some, x1, vP_some]
  refine use_alloc w2 (by omega) (by omega) hh2 fun v l3 h3 hv w3 hh3 => ?_
  rcases hv with ⟨h, _⟩ | ⟨_, h, rfl, rfl⟩ | ⟨_, b, hb, hb2, _, rfl, hf3, hl3⟩
  · omega
  · rw [x0, vP_some, x1, vP_some]
    refine use_free w2 (by omega) (by omega) hh3 fun v l4 h4 hv w4 hh4 => ?_
    rcases hv with ⟨hb, _⟩ | ⟨_, ⟨x, h1, h2, h3⟩, _⟩ | ⟨_, _, rfl, hf4, hl4⟩
    · exfalso; unfold badF at hb; omega
    · exfalso
      have := (hf2 x).1 h3
      simp only at this; omega
    · have e4 : l4 = [(1, 5)] := by
        refine WFf_unique w4 w1 fun x => ?_
        rw [hf4, hf2]
        simp only [fr, or_false]
        omega
      subst e4
      refine use_free w1 (by omega) (by omega) hh4 fun v l5 h5 hv w5 hh5 => ?_
      rcases hv with ⟨hb, _⟩ | ⟨_, _, rfl, rfl⟩ | ⟨_, h, _⟩
      · exfalso; unfold badF at hb; omega
      · refine use_runs w1 (by omega) hh5 fun v h6 hh6 => ?_
        obtain ⟨r, g1, _, _, g4, _⟩ := el hh6 (i := 0) (a := (1, 5)) rfl .i64
        have g1 : iaS 2 v (.int .i64 0) = some (.pointer (some ⟨r, 0 * 2, none⟩)) := g1
        have g5 := SL_len enc2 hh6
        have e5 : bldV #[.int .i64 0, .int .i64 0] [(0, 1, .int .i64 1), (1, 1, .int .i64 5)] = some #[.int .i64 1, .int .i64 5] := rfl
        have e6 : eqA [1, 1] false (run (1, 5)) (.agg #[.int .i64 1, .int .i64 5]) = some (.bool true) := by
          have := eqA_run (1, 5) (1, 5)
          simpa [run] using this
        have e7 : ((([(1, 5)] : List Run).length : Nat) : Int) = 1 := rfl
        have hpg : (PG a 6 [(1, 5)] * tt) h6 := drp hh6
        simp only [vP_some, vB_true, vB_false, vB_dec, gdW_true, gdW_false, gB_true, gB_false, gB_undef, ptrV, pickV_true, pickV_false, vE_true, vE_false, bin_add, bin_sub, bin_lss, bin_leq, bin_gtr, bin_geq, eq_int, ne_int, eq_ptr_nil, ne_ptr_nil, eq_nil_nil, ne_nil_nil, eq_slice_nil, eq_nil_slice, not_bool, nil_ptr, fa_mk, len_mk, cap_mk, decide_true, decide_false, decide_eq_true, decide_eq_false, if_true, if_false, Bool.not_true, Bool.not_false, Bool.false_eq_true, g1, g4, g5, e5, e6, e7, Option.map_some]
        refine use_left w1 (by omega) hpg fun h7 hh7 => ?_
        have e8 : leftS [(1, 5)] = 5 := by decide
        rw [e8]
        simp only [vP_some, vB_true, vB_false, vB_dec, gdW_true, gdW_false, gB_true, gB_false, gB_undef, ptrV, pickV_true, pickV_false, vE_true, vE_false, bin_add, bin_sub, bin_lss, bin_leq, bin_gtr, bin_geq, eq_int, ne_int, eq_ptr_nil, ne_ptr_nil, eq_nil_nil, ne_nil_nil, eq_slice_nil, eq_nil_slice, not_bool, nil_ptr, fa_mk, len_mk, cap_mk, decide_true, decide_false, decide_eq_true, decide_eq_false, if_true, if_false, Bool.not_true, Bool.not_false, Bool.false_eq_true]
        exact ret0 (by trivial) trivial
      · exfalso
        exact h 1 (by omega) (by omega) (.inl (by simp))
  · exfalso
    have := WFf_mem w2 (by omega) b hb
    omega

end Go.Proofs
