/-
  Page: clone, Runs, Left, join.
-/
import Derived.Test.YtfjgkljgfomobaaPg1
set_option linter.unusedVariables false
set_option linter.unusedSimpArgs false
namespace Go.Proofs
open Go.Sl

theorem clone_tr (sv : Value) (l : List Run) (hb : l.length ≤ 1073741824) :
    Tr Try.prog 27 #[sv] (SL enc2 34 sv l) (fun v => SL enc2 34 v l * SL enc2 34 sv l) := by
  refine Tr.of fun h hh => C27 ?_
  unfold D27
  rcases SL_elim enc2 hh with ⟨rfl, rfl, hF⟩ | ⟨r, cap, post, rfl, h2, h3, h4, hp⟩
  · simp only [eq_nil_slice, vP_some, vB_true]
    rw [star_assoc]
    exact SL_nil enc2 hh
  · simp only [eq_slice_nil, vP_some, vB_false]
    refine vA_new hh fun r1 h1 hh1 => ?_
    have hS : (SL enc2 34 (.slice (some ⟨r1, 0, none⟩) 0 0) [] * (SL enc2 34 (.slice (some ⟨r, 0, none⟩) l.length cap) l * tt)) h1 := SL_intro enc2 (post := []) rfl (by simp) (by simp) (by simp) hh1
    have hS2 : (SL enc2 34 (.slice (some ⟨r, 0, none⟩) l.length cap) l * (SL enc2 34 (.slice (some ⟨r1, 0, none⟩) 0 0) [] * tt)) h1 := asr (by ac_rfl) hS
    have hsrc := src_SL enc2 (n := l.length) hS2 (Nat.le_refl _)
    rw [List.take_length] at hsrc
    refine ap_SL elRun rfl rfl niRuns rfl (by omega) hS hsrc rfl (by simp; omega) ?_
    intro v h' hk
    rw [star_assoc]
    exact hk

/-- The pages: the struct at 'a', and the runs that it holds. -/
def PG (a : Nat) (n : Int) (l : List Run) : Asrt := ex fun sv => pt a (.cells #[.int .i64 n, sv] 47 (0, 0)) * SL enc2 34 sv l

abbrev pv (a : Nat) : Value := .pointer (some ⟨a, 0, none⟩)

theorem PG_elim {a : Nat} {n : Int} {l : List Run} {F : Asrt} {h : Hp} (hh : (PG a n l * F) h) : ∃ sv, (pt a (.cells #[.int .i64 n, sv] 47 (0, 0)) * (SL enc2 34 sv l * F)) h := by
  obtain ⟨sv, q⟩ := ex_star.1 hh
  exact ⟨sv, asr (star_assoc _ _ _) q⟩

theorem PG_intro {a : Nat} {n : Int} {l : List Run} {sv : Value} {F : Asrt} {h : Hp} (hh : (pt a (.cells #[.int .i64 n, sv] 47 (0, 0)) * (SL enc2 34 sv l * F)) h) : (PG a n l * F) h :=
  ex_star.2 ⟨sv, asr (star_assoc _ _ _).symm hh⟩

theorem pg_ld {a : Nat} {n : Int} {sv : Value} {F : Asrt} {h : Hp} (hh : (pt a (.cells #[.int .i64 n, sv] 47 (0, 0)) * F) h) :
    ld1 (.pointer (some ⟨a, 0 + 0, none⟩)) h = some (.int .i64 n) ∧ ld1 (.pointer (some ⟨a, 0 + 1, none⟩)) h = some sv := ⟨ld1_mk (pt_get hh) rfl, ld1_mk (pt_get hh) rfl⟩

theorem runs_tr (a : Nat) (n : Int) (l : List Run) (hb : l.length ≤ 1073741824) : Tr Try.prog 12 #[pv a] (PG a n l) (fun v => SL enc2 34 v l * PG a n l) := by
  refine Tr.of fun h hh => C12 ?_
  unfold D12
  obtain ⟨sv, hp⟩ := PG_elim hh
  simp only [pv, eq_ptr_nil, nil_ptr, fa_mk, vP_some, vB_false, (pg_ld hp).2]
  refine (clone_tr sv l hb).use (F := pt a (.cells #[.int .i64 n, sv] 47 (0, 0)) * tt) (asr (by ac_rfl) hp) fun v h1 hp1 => ?_
  rw [star_assoc]
  have : (PG a n l * (SL enc2 34 v l * tt)) h1 := PG_intro (sv := sv) (asr (by ac_rfl) hp1)
  exact asr (by ac_rfl) this

/-- How many pages they hold together. -/
def leftS (l : List Run) : Int := (l.map (·.2)).sum

theorem leftS_nonneg : ∀ (l : List Run), (∀ r ∈ l, 0 ≤ r.2) → 0 ≤ leftS l
  | [], _ => by simp [leftS]
  | a :: l, h => by
    have := leftS_nonneg l fun r hr => h r (by simp [hr])
    have := h a (by simp)
    simp only [leftS, List.map_cons, List.sum_cons] at *
    omega

theorem leftS_take_succ {l : List Run} {k : Nat} (hk : k < l.length) : leftS (l.take (k + 1)) = leftS (l.take k) + l[k].2 := by
  rw [List.take_succ_eq_append_getElem hk]
  simp only [leftS, List.map_append, List.sum_append, List.map_cons, List.map_nil, List.sum_cons, List.sum_nil, Int.add_zero]

theorem leftS_take_le {l : List Run} (h : ∀ r ∈ l, 0 ≤ r.2) (k : Nat) : 0 ≤ leftS (l.take k) ∧ leftS (l.take k) ≤ leftS l := by
  have h1 := leftS_nonneg (l.take k) fun r hr => h r (List.mem_of_mem_take hr)
  have h2 := leftS_nonneg (l.drop k) fun r hr => h r (List.mem_of_mem_drop hr)
  have h3 : leftS l = leftS (l.take k) + leftS (l.drop k) := by
    conv => lhs; rw [← List.take_append_drop k l]
    simp only [leftS, List.map_append, List.sum_append]
  omega

theorem left_tr (a : Nat) (n : Int) (l : List Run) (hb : l.length ≤ 1073741824) (h0 : ∀ r ∈ l, 0 ≤ r.2) (hs : leftS l ≤ 1073741824) :
    Tr Try.prog 13 #[pv a] (PG a n l) (fun v => pr (v = .int .i64 (leftS l)) * PG a n l) := by
  refine Tr.of fun h hh => C13 ?_
  unfold D13
  refine (runs_tr a n l hb).use hh fun sv h1 hp1 => ?_
  have hS : (SL enc2 34 sv l * (PG a n l * tt)) h1 := asr (by ac_rfl) hp1
  simp only [SL_len enc2 hS, vP_some]
  refine ⟨fun m xs h' => ∃ k : Nat, xs = [.int .i64 k, .int .i64 (leftS (l.take k))] ∧ k ≤ l.length ∧ m = l.length - k ∧ (SL enc2 34 sv l * (PG a n l * tt)) h',
    ⟨_, 0, by simp [leftS], by omega, rfl, hS⟩, ?_⟩
  rintro m v9 v3 h2 ⟨k, hxs, hk, hm, hh2⟩ _
  obtain ⟨rfl, rfl⟩ : v9 = .int .i64 k ∧ v3 = .int .i64 (leftS (l.take k)) := by simpa using hxs
  have hL := SL_lt enc2 hh2
  simp only [bin_lss, vP_some, vB_dec]
  by_cases hlt : k < l.length
  · rw [if_pos (by omega)]
    obtain ⟨p, hp1, hp2⟩ := ld_run (k := .i64) (x := (k : Int)) hh2 (List.getElem?_eq_getElem hlt) rfl
    simp only [hp1, hp2, vP_some]
    refine vA_new hh2 fun r h3 hh3 => ?_
    refine stN_mk hh3 rfl rfl (by simp) fun h4 hh4 => ?_
    have e : ld1 (.pointer (some ⟨r, 0 + 1, none⟩)) h4 = some (.int .i64 l[k].2) := ld1_mk (pt_get hh4) rfl
    have hq := leftS_take_le h0 (k + 1)
    have hq' := leftS_take_le h0 k
    rw [leftS_take_succ hlt] at hq
    simp only [ptrV, fa_mk, vP_some, e]
    rw [bin_add (by omega), vP_some, bin_add (by omega), vP_some]
    refine ⟨l.length - (k + 1), by omega, k + 1, by rw [leftS_take_succ hlt]; simp, by omega, rfl, ?_⟩
    have hh5 : (SL enc2 34 sv l * (PG a n l * (tt * pt r (Obj.cells (putL #[.int .i64 0, .int .i64 0] 0 (Value.cells (run l[k])).toList) 34 (0, 0))))) h4 := asr (by ac_rfl) hh4
    exact star_right (fun _ q => star_right (fun _ _ => trivial) q) hh5
  · rw [if_neg (by omega)]
    have : k = l.length := by omega
    subst this
    rw [List.take_length, star_assoc, pr_star]
    refine ⟨rfl, ?_⟩
    exact to_tt (Q := SL enc2 34 sv l * tt) (asr (by ac_rfl) hh2)

end Go.Proofs
