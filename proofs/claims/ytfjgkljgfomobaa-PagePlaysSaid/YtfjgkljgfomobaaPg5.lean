/-
  Page: join, Alloc, Free, New.
-/
import Derived.Test.YtfjgkljgfomobaaPg4
set_option linter.unusedVariables false
set_option linter.unusedSimpArgs false
namespace Go.Proofs
open Go.Sl

/-- All numbers are small. -/
def Bd (B : Int) (l : List Run) : Prop := ∀ r ∈ l, 0 ≤ r.1 ∧ r.1 ≤ B ∧ 0 ≤ r.2 ∧ r.2 ≤ B

def joinS (l : List Run) (i : Int) : List Run :=
  if i < 0 then l else
  match l[i.toNat]?, l[i.toNat + 1]? with
  | some x, some y => if x.1 + x.2 = y.1 then (l.set i.toNat (x.1, x.2 + y.2)).take (i.toNat + 1) ++ (l.set i.toNat (x.1, x.2 + y.2)).drop (i.toNat + 2) else l
  | _, _ => l

theorem join_tr (a : Nat) (n : Int) (l : List Run) (i : Int) (hi : -1 ≤ i ∧ i ≤ 1073741824) {B : Int} (hB : B ≤ 1152921504606846976) (hb : Bd B l) :
    Tr Try.prog 26 #[pv a, .int .i64 i] (PG a n l) (fun _ => PG a n (joinS l i)) := by
  refine Tr.of fun h hh => C26 ?_
  unfold D26
  obtain ⟨sv, hp⟩ := PG_elim hh
  have hS : (SL enc2 34 sv l * (pt a (.cells #[.int .i64 n, sv] 47 (0, 0)) * tt)) h := asr (by ac_rfl) hp
  have hld := (pg_ld hp).2
  have hlen := SL_len enc2 hS
  have hL := SL_lt enc2 hS
  by_cases h1 : i < 0
  · have d1 : decide (i < 0) = true := decide_eq_true h1
    simp only [vP_some, vB_true, vB_false, vB_dec, gdW_true, gdW_false, gB_true, gB_false, gB_undef, ptrV, pickV_true, pickV_false, vE_true, vE_false, bin_add, bin_sub, bin_lss, bin_leq, bin_gtr, bin_geq, eq_int, ne_int, eq_ptr_nil, ne_ptr_nil, eq_nil_nil, ne_nil_nil, eq_slice_nil, eq_nil_slice, not_bool, nil_ptr, fa_mk, len_mk, cap_mk, decide_true, decide_false, decide_eq_true, decide_eq_false, if_true, if_false, Bool.not_true, Bool.not_false, Bool.false_eq_true, d1]
    rw [joinS, if_pos h1]
    exact hh
  · obtain ⟨m, rfl⟩ : ∃ m : Nat, i = m := ⟨i.toNat, by omega⟩
    have d1 : decide ((m : Int) < 0) = false := decide_eq_false h1
    have js : joinS l (m : Int) = match l[m]?, l[m + 1]? with
      | some x, some y => if x.1 + x.2 = y.1 then (l.set m (x.1, x.2 + y.2)).take (m + 1) ++ (l.set m (x.1, x.2 + y.2)).drop (m + 2) else l
      | _, _ => l := by rw [joinS, if_neg h1, Int.toNat_natCast]
    have b1 : binV .add (.int .i64 (m : Int)) (.int .i64 1) = some (.int .i64 ((m + 1 : Nat) : Int)) := bin_add (by omega)
    by_cases h2 : l.length ≤ m + 1
    · have d2 : decide ((l.length : Int) ≤ ((m + 1 : Nat) : Int)) = true := decide_eq_true (by omega)
      simp only [vP_some, vB_true, vB_false, gdW_true, gdW_false, gB_true, gB_false, gB_undef, pickV_true, pickV_false, bin_lss, bin_geq, nil_ptr, fa_mk, Bool.not_true, Bool.not_false, pv, d1, b1, d2, hld, hlen]
      have : joinS l (m : Int) = l := by
        rw [js, List.getElem?_eq_none (i := m + 1) (by omega)]
        cases l[m]? <;> rfl
      rw [this]
      exact hh
    · have hm : m < l.length := by omega
      have hm1 : m + 1 < l.length := by omega
      have d2 : decide ((l.length : Int) ≤ ((m + 1 : Nat) : Int)) = false := decide_eq_false (by omega)
      have q0 := List.getElem?_eq_getElem hm
      have q1 := List.getElem?_eq_getElem hm1
      rw [q0, q1] at js
      generalize l[m] = x at *
      generalize l[m + 1] = y at *
      have bx := hb x (List.mem_of_getElem? q0)
      have by' := hb y (List.mem_of_getElem? q1)
      obtain ⟨r, e1, e2, e3, _, _, e6, _⟩ := el hS q0 .i64
      obtain ⟨r', f1, f2, f3, _⟩ := el hS q1 .i64
      have b3 : binV .add (.int .i64 x.1) (.int .i64 x.2) = some (.int .i64 (x.1 + x.2)) := bin_add (by omega)
      simp only [vP_some, vB_true, vB_false, gdW_true, gdW_false, gB_true, gB_false, gB_undef, pickV_true, pickV_false, bin_lss, bin_geq, nil_ptr, fa_mk, Bool.not_true, Bool.not_false, pv, d1, b1, d2, hld, hlen, e1, e2, e3, f1, f2, f3, b3, ne_int]
      by_cases h3 : x.1 + x.2 = y.1
      · have d3 : decide (x.1 + x.2 ≠ y.1) = false := decide_eq_false (by simpa using h3)
        have b4 : binV .add (.int .i64 x.2) (.int .i64 y.2) = some (.int .i64 (x.2 + y.2)) := bin_add (by omega)
        simp only [d3, vB_false, vP_some, b4]
        refine e6 _ _ fun h1' hh1 => ?_
        have hp1 : (pt a (.cells #[.int .i64 n, sv] 47 (0, 0)) * (SL enc2 34 sv (l.set m (x.1, x.2 + y.2)) * tt)) h1' := asr (by ac_rfl) hh1
        have b5 : binV .add (.int .i64 (m : Int)) (.int .i64 2) = some (.int .i64 ((m + 2 : Nat) : Int)) := bin_add (by omega)
        simp only [(pg_ld hp1).2, vP_some, b5]
        refine (del_tr sv (l.set m (x.1, x.2 + y.2)) (m + 1) (m + 2) (by omega) (by simp; omega)).use hh1 fun v h2' hh2 => ?_
        have hp2 : (pt a (.cells #[.int .i64 n, sv] 47 (0, 0)) * (SL enc2 34 v ((l.set m (x.1, x.2 + y.2)).take (m + 1) ++ (l.set m (x.1, x.2 + y.2)).drop (m + 2)) * tt)) h2' := asr (by ac_rfl) hh2
        refine st1_mk hp2 (SL_one enc2 hh2) (by simp) fun h3' hh3 => ?_
        rw [js]
        simp only [if_pos h3]
        exact PG_intro (sv := v) hh3
      · have d3 : decide (x.1 + x.2 ≠ y.1) = true := decide_eq_true h3
        simp only [d3, vB_true]
        rw [js]
        simp only [if_neg h3]
        exact hh

abbrev tup (a b : Int) : Value := .tuple #[.int .i64 a, .int .i64 b]

def AllocR (l : List Run) (k : Int) (v : Value) (l' : List Run) : Prop :=
  (k < 1 ∧ v = tup 0 1 ∧ l' = l) ∨ (1 ≤ k ∧ (∀ r ∈ l, r.2 < k) ∧ v = tup 0 3 ∧ l' = l) ∨
  (1 ≤ k ∧ ∃ (b : Run) (i : Nat), l[i]? = some b ∧ k ≤ b.2 ∧ (∀ y ∈ l, k ≤ y.2 → lt y b = false) ∧ v = tup b.1 0 ∧ l' = if b.2 = k then l.take i ++ l.drop (i + 1) else l.set i (b.1 + k, b.2 - k))

theorem alloc_tr (a : Nat) (n : Int) (l : List Run) (k : Int) {B : Int} (hB : B ≤ 1152921504606846976) (hb : Bd B l) (hlen : l.length ≤ 1073741824) (hk : k ≤ 9223372036854775807) :
    Tr Try.prog 9 #[pv a, .int .i64 k] (PG a n l) (fun v => ex fun l' => pr (AllocR l k v l') * PG a n l') := by
  refine Tr.of fun h hh => C9 ?_
  unfold D9
  by_cases hk1 : k < 1
  · have d1 : decide (k < 1) = true := decide_eq_true hk1
    simp only [pv, eq_ptr_nil, vP_some, gB_false, Bool.not_false, gdW_true, bin_lss, d1, pickV_false, vB_true]
    exact ex_star.2 ⟨l, ret (.inl ⟨hk1, rfl, rfl⟩) hh⟩
  · have d1 : decide (k < 1) = false := decide_eq_false hk1
    simp only [pv, eq_ptr_nil, vP_some, gB_false, Bool.not_false, gdW_true, bin_lss, d1, pickV_false, vB_false]
    obtain ⟨sv, hp⟩ := PG_elim hh
    refine vA_new hp fun b h1 hh1 => ?_
    have hS1 : (SL enc2 34 sv l * (pt b (.cells #[.slice none 0 0] 48 (0, 0)) * (pt a (.cells #[.int .i64 n, sv] 47 (0, 0)) * tt))) h1 := asr (by ac_rfl) hh1
    have hP1 : (pt a (.cells #[.int .i64 n, sv] 47 (0, 0)) * (SL enc2 34 sv l * (pt b (.cells #[.slice none 0 0] 48 (0, 0)) * tt))) h1 := asr (by ac_rfl) hh1
    have hL := SL_lt enc2 hS1
    simp only [nil_ptr, fa_mk, vP_some, (pg_ld hP1).2, SL_len enc2 hS1]
    refine ⟨fun m xs h' => ∃ (j : Nat) (hl : List Run), xs = [.int .i64 j] ∧ m = l.length - j ∧ j ≤ l.length ∧ (∀ y, y ∈ hl ↔ y ∈ l.take j ∧ k ≤ y.2) ∧ hl.length ≤ j ∧ (hl = [] ∨ Rt hl) ∧
        (BH b hl * (SL enc2 34 sv l * (pt a (.cells #[.int .i64 n, sv] 47 (0, 0)) * tt))) h',
      ⟨_, 0, [], rfl, rfl, by omega, by simp, by simp, .inl rfl, BH_intro (sv := .slice none 0 0) (asr (by ac_rfl) (SL_nil enc2 (E := 34) hh1))⟩, ?_⟩
    rintro m v22 h2 ⟨j, hl, hxs, rfl, hj, hmem, hhl, hrt, hh2⟩ _
    obtain rfl : v22 = .int .i64 j := by simpa using hxs
    have hS2 : (SL enc2 34 sv l * (BH b hl * (pt a (.cells #[.int .i64 n, sv] 47 (0, 0)) * tt))) h2 := asr (by ac_rfl) hh2
    simp only [bin_lss, vP_some, vB_dec]
    by_cases hjl : j < l.length
    · rw [if_pos (by omega)]
      intro J2 hJ2
      have hJ2' : ∀ (hl' : List Run) h', (∀ y, y ∈ hl' ↔ y ∈ l.take (j + 1) ∧ k ≤ y.2) → hl'.length ≤ j + 1 → (hl' = [] ∨ Rt hl') → (BH b hl' * (SL enc2 34 sv l * (pt a (.cells #[.int .i64 n, sv] 47 (0, 0)) * tt))) h' → J2 [] h' := fun hl' h' g1 g2 g3 g4 => by
        refine hJ2 _ fun _ => ?_
        rw [bin_add (by omega), vP_some]
        exact ⟨l.length - (j + 1), by omega, j + 1, hl', rfl, rfl, by omega, g1, g2, g3, g4⟩
      have q0 := List.getElem?_eq_getElem hjl
      have htk : l.take (j + 1) = l.take j ++ [l[j]] := List.take_succ_eq_append_getElem hjl
      generalize l[j] = x at *
      obtain ⟨r, e1, _, _, e4, _⟩ := el hS2 q0 .i64
      simp only [e1, e4, vP_some]
      refine vA_new hh2 fun r8 h3 hh3 => ?_
      refine stN_mk hh3 rfl rfl (by simp) fun h4 hh4 => ?_
      have e5 : ld1 (.pointer (some ⟨r8, 0 + 1, none⟩)) h4 = some (.int .i64 x.2) := ld1_mk (pt_get hh4) rfl
      have e6 : ldN 2 (.pointer (some ⟨r8, 0, none⟩)) h4 = some (run x) := ldN_mk (pt_get hh4) (by simp [putL_size])
      simp only [ptrV, fa_mk, vP_some, e5, e6, bin_geq, vB_dec]
      have hh5 : (BH b hl * (SL enc2 34 sv l * (pt a (.cells #[.int .i64 n, sv] 47 (0, 0)) * tt))) h4 := by
        have : (BH b hl * (SL enc2 34 sv l * (pt a (.cells #[.int .i64 n, sv] 47 (0, 0)) * (tt * pt r8 (.cells (putL #[.int .i64 0, .int .i64 0] 0 (Value.cells (run x)).toList) 34 (0, 0)))))) h4 := asr (by ac_rfl) hh4
        exact star_right (fun _ q => star_right (fun _ q => star_right (fun _ _ => trivial) q) q) this
      by_cases hkx : k ≤ x.2
      · rw [if_pos hkx]
        refine (push_all_tr b hl x (by omega) hrt).use hh5 fun v h6 hh6 => ?_
        obtain ⟨hl', hh6⟩ := ex_star.1 hh6
        rw [star_assoc, pr_star] at hh6
        obtain ⟨⟨g1, g2, g3⟩, hh6⟩ := hh6
        refine hJ2' hl' _ (fun y => ?_) (by omega) (.inr g3) hh6
        rw [g1, htk, List.mem_append, List.mem_append, List.mem_singleton, hmem]
        constructor
        · rintro (⟨p, q⟩ | rfl)
          · exact ⟨.inl p, q⟩
          · exact ⟨.inr rfl, hkx⟩
        · rintro ⟨p | rfl, q⟩
          · exact .inl ⟨p, q⟩
          · exact .inr rfl
      · rw [if_neg hkx]
        refine hJ2' hl _ (fun y => ?_) (by omega) hrt hh5
        rw [hmem, htk, List.mem_append, List.mem_singleton]
        constructor
        · rintro ⟨p, q⟩; exact ⟨.inl p, q⟩
        · rintro ⟨p | rfl, q⟩
          · exact ⟨p, q⟩
          · exact absurd q hkx
    · rw [if_neg (by omega)]
      have hjl' : j = l.length := by omega
      subst hjl'
      rw [List.take_length] at hmem
      obtain ⟨bv, hBv⟩ := BH_elim hh2
      have e7 : ld1 (.pointer (some ⟨b, 0, none⟩)) h2 = some bv := ld1_mk (pt_get hBv) rfl
      have hBS : (SL enc2 34 bv hl * (pt b (.cells #[bv] 48 (0, 0)) * (SL enc2 34 sv l * (pt a (.cells #[.int .i64 n, sv] 47 (0, 0)) * tt)))) h2 := asr (by ac_rfl) hBv
      simp only [ptrV, e7, SL_len enc2 hBS, vP_some, eq_int, vB_dec]
      by_cases hemp : hl = []
      · subst hemp
        rw [if_pos (by simp)]
        have h9 : (SL enc2 34 sv l * pt a (.cells #[.int .i64 n, sv] 47 (0, 0)) * tt) h2 := drp (asr (by ac_rfl) hh2 : (BH b [] * (SL enc2 34 sv l * pt a (.cells #[.int .i64 n, sv] 47 (0, 0)) * tt)) h2)
        have : (PG a n l * tt) h2 := PG_intro (sv := sv) (asr (by ac_rfl) h9)
        exact ex_star.2 ⟨l, ret (.inr (.inl ⟨by omega, fun r hr => by
          refine Int.not_le.1 fun h => ?_
          exact absurd ((hmem r).2 ⟨hr, h⟩) (by simp), rfl, rfl⟩)) this⟩
      · rw [if_neg (by
          have := List.length_pos_iff.2 hemp
          omega)]
        obtain ⟨best, hb0, hball⟩ := hrt.resolve_left hemp
        obtain ⟨hbl, hbk⟩ := (hmem best).1 (List.mem_of_getElem? hb0)
        refine (pop_all_tr b hl best (by omega) hb0).use hh2 fun v h3 hh3 => ?_
        rw [star_assoc, pr_star] at hh3
        obtain ⟨rfl, hh3⟩ := hh3
        have hta : taV 34 (Value.agg #[.int .i64 0, .int .i64 0]) false (.iface 34 (run best)) = some (run best) := rfl
        rw [hta, vP_some]
        refine vA_new hh3 fun r9 h4 hh4 => ?_
        refine stN_mk hh4 rfl rfl (by simp) fun h5 hh5 => ?_
        have hh6 : (pt a (.cells #[.int .i64 n, sv] 47 (0, 0)) * (SL enc2 34 sv l * (pt r9 (.cells #[.int .i64 best.1, .int .i64 best.2] 34 (0, 0)) * tt))) h5 := by
          have : (pt a (.cells #[.int .i64 n, sv] 47 (0, 0)) * (SL enc2 34 sv l * (pt r9 (.cells #[.int .i64 best.1, .int .i64 best.2] 34 (0, 0)) * (tt * ex fun l' => BH b l')))) h5 := asr (by ac_rfl) hh5
          exact star_right (fun _ q => star_right (fun _ q => star_right (fun _ _ => trivial) q) q) this
        have hpr9 : (pt r9 (.cells #[.int .i64 best.1, .int .i64 best.2] 34 (0, 0)) * (pt a (.cells #[.int .i64 n, sv] 47 (0, 0)) * (SL enc2 34 sv l * tt))) h5 := asr (by ac_rfl) hh6
        have e8 : ldN 2 (.pointer (some ⟨r9, 0, none⟩)) h5 = some (run best) := ldN_mk (pt_get hpr9) (by simp)
        simp only [ptrV, nil_ptr, fa_mk, vP_some, (pg_ld hh6).2, e8]
        refine (index_tr sv l best).use (F := pt a (.cells #[.int .i64 n, sv] 47 (0, 0)) * (pt r9 (.cells #[.int .i64 best.1, .int .i64 best.2] 34 (0, 0)) * tt)) (asr (by ac_rfl) hh6) fun v h7 hh7 => ?_
        rw [star_assoc, pr_star] at hh7
        obtain ⟨rfl, hh7⟩ := hh7
        have hix : idxI l best = (l.idxOf best : Int) := by rw [idxI, if_pos hbl]
        have hil : l.idxOf best < l.length := List.idxOf_lt_length_of_mem hbl
        have hig : l[l.idxOf best]? = some best := by
          rw [List.getElem?_eq_getElem hil, List.getElem_idxOf hil]
        have hpr7 : (pt r9 (.cells #[.int .i64 best.1, .int .i64 best.2] 34 (0, 0)) * (pt a (.cells #[.int .i64 n, sv] 47 (0, 0)) * (SL enc2 34 sv l * tt))) h7 := asr (by ac_rfl) hh7
        have hpa7 : (pt a (.cells #[.int .i64 n, sv] 47 (0, 0)) * (SL enc2 34 sv l * (pt r9 (.cells #[.int .i64 best.1, .int .i64 best.2] 34 (0, 0)) * tt))) h7 := asr (by ac_rfl) hh7
        have e9 : ld1 (.pointer (some ⟨r9, 0 + 1, none⟩)) h7 = some (.int .i64 best.2) := ld1_mk (pt_get hpr7) rfl
        have e10 : ld1 (.pointer (some ⟨r9, 0 + 0, none⟩)) h7 = some (.int .i64 best.1) := ld1_mk (pt_get hpr7) rfl
        intro J3 hJ3
        have hJ3' : ∀ h' l', l' = (if best.2 = k then l.take (l.idxOf best) ++ l.drop (l.idxOf best + 1) else l.set (l.idxOf best) (best.1 + k, best.2 - k)) →
            (PG a n l' * (pt r9 (.cells #[.int .i64 best.1, .int .i64 best.2] 34 (0, 0)) * tt)) h' → J3 [] h' := fun h' l' hl' q => by
          refine hJ3 _ fun _ => ?_
          have hpr : (pt r9 (.cells #[.int .i64 best.1, .int .i64 best.2] 34 (0, 0)) * (PG a n l' * tt)) h' := asr (by ac_rfl) q
          have e11 : ld1 (.pointer (some ⟨r9, 0 + 0, none⟩)) h' = some (.int .i64 best.1) := ld1_mk (pt_get hpr) rfl
          simp only [fa_mk, vP_some, e11]
          refine ex_star.2 ⟨l', ret (.inr (.inr ⟨by omega, best, l.idxOf best, hig, hbk, fun y hy hky => hball y ((hmem y).2 ⟨hy, hky⟩), rfl, hl'⟩)) (star_right (fun _ _ => trivial) q)⟩
        obtain ⟨bb1, bb2, bb3, bb4⟩ := hb best hbl
        simp only [fa_mk, vP_some, e9, eq_int, vB_dec]
        by_cases hq : best.2 = k
        · rw [if_pos hq]
          rw [hix, bin_add (by omega)]
          simp only [vP_some, (pg_ld hpa7).2]
          refine (del_tr sv l (l.idxOf best) (l.idxOf best + 1) (by omega) (by omega)).use hh7 fun v h8 hh8 => ?_
          refine st1_mk (asr (by ac_rfl) hh8 : (pt a (.cells #[.int .i64 n, sv] 47 (0, 0)) * (SL enc2 34 v (l.take (l.idxOf best) ++ l.drop (l.idxOf best + 1)) * (pt r9 (.cells #[.int .i64 best.1, .int .i64 best.2] 34 (0, 0)) * tt))) h8) (SL_one enc2 hh8) (by simp) fun h9 hh9 => ?_
          exact hJ3' h9 _ (by rw [if_pos hq]) (PG_intro (sv := v) hh9)
        · rw [if_neg hq, hix]
          obtain ⟨r, f1, _, _, _, f5, _⟩ := el hh7 hig .i64
          have hbld : bldV #[.int .i64 0, .int .i64 0] [(0, 1, .int .i64 (best.1 + k)), (1, 1, .int .i64 (best.2 - k))] = some #[.int .i64 (best.1 + k), .int .i64 (best.2 - k)] := rfl
          have b6 : binV .add (.int .i64 best.1) (.int .i64 k) = some (.int .i64 (best.1 + k)) := bin_add (by omega)
          have b7 : binV .sub (.int .i64 best.2) (.int .i64 k) = some (.int .i64 (best.2 - k)) := bin_sub (by omega)
          simp only [vP_some, (pg_ld hpa7).2, e9, e10, b6, b7, hbld, Option.map_some, f1]
          refine f5 (best.1 + k, best.2 - k) _ fun h8 hh8 => ?_
          exact hJ3' h8 _ (by rw [if_neg hq]) (PG_intro (sv := sv) (asr (by ac_rfl) hh8))

end Go.Proofs
