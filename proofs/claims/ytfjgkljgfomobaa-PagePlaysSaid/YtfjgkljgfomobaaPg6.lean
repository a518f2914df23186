/-
  Page: New, Free.
-/
import Derived.Test.YtfjgkljgfomobaaPg5
set_option linter.unusedVariables false
set_option linter.unusedSimpArgs false
namespace Go.Proofs
open Go.Sl

def newN (n : Int) : Int := min (max n 1) 262144
def newL (n : Int) : List Run := if 1 < newN n then [(1, newN n - 1)] else []

theorem new_tr (n : Int) : Tr Try.prog 8 #[.int .i64 n] emp (fun v => ex fun a => pr (v = pv a) * PG a (newN n) (newL n)) := by
  refine Tr.of fun h hh => C8 ?_
  unfold D8
  rw [emp_star] at hh
  have e1 : max2V (.int .i64 n) (.int .i64 1) = some (.int .i64 (max n 1)) := by
    show some (Value.int .i64 (if 1 > n then 1 else n)) = _
    congr 2; split <;> omega
  have e2 : min2V (.int .i64 (max n 1)) (.int .i64 262144) = some (.int .i64 (newN n)) := by
    show some (Value.int .i64 (if 262144 < max n 1 then 262144 else max n 1)) = _
    unfold newN
    congr 2; split <;> omega
  have e3 : ∀ m, bldV #[.int .i64 0, .slice none 0 0] [(0, 1, .int .i64 m)] = some #[.int .i64 m, .slice none 0 0] := fun m => rfl
  simp only [e1, e2, e3, vP_some, Option.map_some]
  have hN : 1 ≤ newN n ∧ newN n ≤ 262144 := by unfold newN; omega
  unfold newL
  generalize newN n = m at *
  refine vA_new hh fun a h1 hh1 => ?_
  have hh1 : (pt a (.cells #[.int .i64 m, .slice none 0 0] 47 (0, 0)) * tt) h1 := hh1
  intro J1 hJ1
  have hJ1' : ∀ h' sv l, l = (if 1 < m then [(1, m - 1)] else []) → (pt a (.cells #[.int .i64 m, sv] 47 (0, 0)) * (SL enc2 34 sv l * tt)) h' → J1 [] h' := fun h' sv l e q => by
    refine hJ1 _ fun _ => ?_
    refine ex_star.2 ⟨a, ret rfl ?_⟩
    rw [← e]
    exact PG_intro (sv := sv) q
  simp only [ptrV, nil_ptr, fa_mk, vP_some, (pg_ld hh1).1, bin_gtr, vB_dec]
  by_cases hm : 1 < m
  · rw [if_pos hm, bin_sub (by omega), vP_some]
    have e4 : bldV #[.int .i64 0, .int .i64 0] [(0, 1, .int .i64 1), (1, 1, .int .i64 (m - 1))] = some #[.int .i64 1, .int .i64 (m - 1)] := rfl
    have e5 : bldV #[.int .i64 0, .int .i64 0] [(0, 2, .agg #[.int .i64 1, .int .i64 (m - 1)])] = some (enc2.arr [(1, m - 1)] []) := rfl
    simp only [e4, e5, Option.map_some, vP_some]
    refine vA_new hh1 fun r h2 hh2 => ?_
    have hh3 : (pt a (.cells #[.int .i64 m, .slice none 0 0] 47 (0, 0)) * (pt r (.cells (enc2.arr [(1, m - 1)] []) 34 (0, 0)) * tt)) h2 := asr (by ac_rfl) hh2
    refine st1_mk hh3 rfl (by simp) fun h4 hh4 => ?_
    refine hJ1' h4 (.slice (some ⟨r, 0, none⟩) 1 1) [(1, m - 1)] (by rw [if_pos hm]) ?_
    have hh5 : (pt r (.cells (enc2.arr [(1, m - 1)] []) 34 (0, 0)) * (pt a (.cells #[.int .i64 m, .slice (some ⟨r, 0, none⟩) 1 1] 47 (0, 0)) * tt)) h4 := asr (by ac_rfl) hh4
    exact asr (by ac_rfl) (SL_intro enc2 (l := [(1, m - 1)]) (post := []) rfl (by simp) (by omega) (by simp) hh5)
  · rw [if_neg hm]
    exact hJ1' h1 _ [] (by rw [if_neg hm]) (asr (by ac_rfl) (SL_nil enc2 (E := 34) hh1))

/-- Below the first page, over the last one, or none. -/
def badF (n first k : Int) : Prop := k < 1 ∨ first < 1 ∨ n - 1 < first ∨ n - first < k

/-- Something of it is free. -/
def ovF (l : List Run) (p : Nat) (first k : Int) : Prop := (∃ x, 0 < p ∧ l[p - 1]? = some x ∧ first < x.1 + x.2) ∨ ∃ y, l[p]? = some y ∧ y.1 < first + k

def FreeR (l : List Run) (n first k : Int) (v : Value) (l' : List Run) : Prop :=
  (badF n first k ∧ v = .int .i64 1 ∧ l' = l) ∨
  (¬ badF n first k ∧ ∃ p : Nat, p ≤ l.length ∧ (∀ j x, j < p → l[j]? = some x → x.1 < first) ∧ (∀ y, l[p]? = some y → first ≤ y.1) ∧
    ((ovF l p first k ∧ v = .int .i64 5 ∧ l' = l) ∨ (¬ ovF l p first k ∧ v = .int .i64 0 ∧ l' = joinS (joinS (l.take p ++ (first, k) :: l.drop p) p) ((p : Int) - 1))))

theorem joinS_bd {B : Int} {l : List Run} (i : Int) (h0 : 0 ≤ B) (h : Bd B l) : Bd (2 * B) (joinS l i) := by
  have h' : Bd (2 * B) l := fun r hr => by have := h r hr; omega
  unfold joinS
  split
  · exact h'
  · split
    · rename_i x y hx hy
      split
      · intro r hr
        have hr' : r ∈ l.set i.toNat (x.1, x.2 + y.2) := by
          rw [List.mem_append] at hr
          rcases hr with hr | hr
          · exact List.mem_of_mem_take hr
          · exact List.mem_of_mem_drop hr
        rcases List.mem_or_eq_of_mem_set hr' with hr | rfl
        · exact h' r hr
        · have := h x (List.mem_of_getElem? hx)
          have := h y (List.mem_of_getElem? hy)
          simp only
          omega
      · exact h'
    · exact h'

/-- Free's end: the run is put in its place, and joined. -/
theorem free_ins (a : Nat) (n : Int) (l : List Run) (first k : Int) (p : Nat) {B : Int} (hB : B ≤ 281474976710656) (hb : Bd B l) (hB0 : 0 ≤ B) (hf : 0 ≤ first ∧ first ≤ B) (hk : 0 ≤ k ∧ k ≤ B) (hlen : l.length ≤ 268435456) (hp : p ≤ l.length) (sv : Value) (h : Hp)
    (hh : (pt a (.cells #[.int .i64 n, sv] 47 (0, 0)) * (SL enc2 34 sv l * tt)) h) (K : Value → Hp → Prop) (hK : ∀ h', (PG a n (joinS (joinS (l.take p ++ (first, k) :: l.drop p) p) ((p : Int) - 1)) * tt) h' → K (.int .i64 0) h') :
    vP ((bldV #[(Value.int .i64 0), (Value.int .i64 0)] [(0, 1, .int .i64 first), (1, 1, .int .i64 k)]).map Value.agg) fun v114 =>
    vA ((bldV #[(Value.int .i64 0), (Value.int .i64 0)] [(0, 2, v114)]).map fun c => (Obj.cells c 34 (0, 0), fun r => Value.slice (some ⟨r, 0, none⟩) 1 1)) (fun v115 h2 =>
    CallH Try.prog 25 #[sv, .int .i64 p, v115] (fun v116 h3 =>
    st1 (.pointer (some ⟨a, 0 + 1, none⟩)) v116 (fun _ h4 =>
    CallH Try.prog 26 #[.pointer (some ⟨a, 0, none⟩), .int .i64 p] (fun v121 h5 =>
    vP (binV .sub (.int .i64 p) (Value.int .i64 1)) fun v124 =>
    CallH Try.prog 26 #[.pointer (some ⟨a, 0, none⟩), v124] (fun v125 h6 =>
    K (Value.int .i64 0) h6) h5) h4) h3) h2) h := by
  have e4 : bldV #[.int .i64 0, .int .i64 0] [(0, 1, .int .i64 first), (1, 1, .int .i64 k)] = some #[.int .i64 first, .int .i64 k] := rfl
  have e5 : bldV #[.int .i64 0, .int .i64 0] [(0, 2, .agg #[.int .i64 first, .int .i64 k])] = some (enc2.arr [(first, k)] []) := rfl
  simp only [e4, e5, Option.map_some, vP_some]
  refine vA_new hh fun r h2 hh2 => ?_
  refine (ins_tr sv l p (first, k) r hp (by omega)).use (F := pt a (.cells #[.int .i64 n, sv] 47 (0, 0)) * tt) (asr (by ac_rfl) hh2) fun v h3 hh3 => ?_
  have hh4 : (pt a (.cells #[.int .i64 n, sv] 47 (0, 0)) * (SL enc2 34 v (l.take p ++ (first, k) :: l.drop p) * tt)) h3 := asr (by ac_rfl) hh3
  refine st1_mk hh4 (SL_one enc2 hh3) (by simp) fun h4 hh5 => ?_
  have hb1 : Bd B (l.take p ++ (first, k) :: l.drop p) := fun r hr => by
    rw [List.mem_append, List.mem_cons] at hr
    rcases hr with hr | rfl | hr
    · exact hb r (List.mem_of_mem_take hr)
    · exact ⟨hf.1, hf.2, hk.1, hk.2⟩
    · exact hb r (List.mem_of_mem_drop hr)
  refine (join_tr a n _ p (by omega) (by omega) hb1).use (PG_intro (sv := v) hh5) fun v h5 hh6 => ?_
  rw [bin_sub (by omega), vP_some]
  exact (join_tr a n _ ((p : Int) - 1) (by omega) (B := 2 * B) (by omega) (joinS_bd _ hB0 hb1)).use hh6 fun v h6 hh7 => hK h6 hh7

set_option maxHeartbeats 1000000 in
theorem free_tr (a : Nat) (n : Int) (l : List Run) (first k : Int) {B : Int} (hB : B ≤ 281474976710656) (hb : Bd B l) (hlen : l.length ≤ 268435456) (hn : 0 ≤ n ∧ n ≤ B) (hk : k ≤ 9223372036854775807) :
    Tr Try.prog 11 #[pv a, .int .i64 first, .int .i64 k] (PG a n l) (fun v => ex fun l' => pr (FreeR l n first k v l') * PG a n l') := by
  refine Tr.of fun h hh => C11 ?_
  unfold D11
  obtain ⟨sv, hp⟩ := PG_elim hh
  have hld := (pg_ld hp).1
  have bad : badF n first k → ((fun v h' => ((ex fun l' => pr (FreeR l n first k v l') * PG a n l') * tt) h') (.int .i64 1) h) := fun hbad => ex_star.2 ⟨l, ret (.inl ⟨hbad, rfl, rfl⟩) hh⟩
  by_cases h1 : k < 1
  · have d1 : decide (k < 1) = true := decide_eq_true h1
    simp only [vP_some, vB_true, vB_false, vB_dec, gdW_true, gdW_false, gB_true, gB_false, gB_undef, ptrV, pickV_true, pickV_false, vE_true, vE_false, bin_add, bin_sub, bin_lss, bin_leq, bin_gtr, bin_geq, eq_int, ne_int, eq_ptr_nil, ne_ptr_nil, eq_nil_nil, ne_nil_nil, eq_slice_nil, eq_nil_slice, not_bool, nil_ptr, fa_mk, len_mk, cap_mk, decide_true, decide_false, decide_eq_true, decide_eq_false, if_true, if_false, Bool.not_true, Bool.not_false, Bool.false_eq_true, d1]
    exact bad (.inl h1)
  have d1 : decide (k < 1) = false := decide_eq_false h1
  by_cases h2 : first < 1
  · have d2 : decide (first < 1) = true := decide_eq_true h2
    simp only [vP_some, vB_true, vB_false, vB_dec, gdW_true, gdW_false, gB_true, gB_false, gB_undef, ptrV, pickV_true, pickV_false, vE_true, vE_false, bin_add, bin_sub, bin_lss, bin_leq, bin_gtr, bin_geq, eq_int, ne_int, eq_ptr_nil, ne_ptr_nil, eq_nil_nil, ne_nil_nil, eq_slice_nil, eq_nil_slice, not_bool, nil_ptr, fa_mk, len_mk, cap_mk, decide_true, decide_false, decide_eq_true, decide_eq_false, if_true, if_false, Bool.not_true, Bool.not_false, Bool.false_eq_true, d1, d2]
    exact bad (.inr (.inl h2))
  have d2 : decide (first < 1) = false := decide_eq_false h2
  have b1 : binV .sub (.int .i64 n) (.int .i64 1) = some (.int .i64 (n - 1)) := bin_sub (by omega)
  by_cases h3 : n - 1 < first
  · have d3 : decide (n - 1 < first) = true := decide_eq_true h3
    simp only [vP_some, vB_true, gdW_true, gdW_false, gB_true, gB_false, gB_undef, pickV_true, pickV_false, eq_ptr_nil, nil_ptr, fa_mk, bin_lss, bin_gtr, Bool.not_true, Bool.not_false, pv, hld, b1, d1, d2, d3]
    exact bad (.inr (.inr (.inl h3)))
  have d3 : decide (n - 1 < first) = false := decide_eq_false h3
  have b2 : binV .sub (.int .i64 n) (.int .i64 first) = some (.int .i64 (n - first)) := bin_sub (by omega)
  by_cases h4 : n - first < k
  · have d4 : decide (n - first < k) = true := decide_eq_true h4
    simp only [vP_some, vB_true, gdW_true, gdW_false, gB_true, gB_false, gB_undef, pickV_true, pickV_false, eq_ptr_nil, nil_ptr, fa_mk, bin_lss, bin_gtr, Bool.not_true, Bool.not_false, pv, hld, b1, b2, d1, d2, d3, d4]
    exact bad (.inr (.inr (.inr h4)))
  have d4 : decide (n - first < k) = false := decide_eq_false h4
  have nbad : ¬ badF n first k := by unfold badF; omega
  simp only [vP_some, vB_false, gdW_true, gdW_false, gB_true, gB_false, gB_undef, pickV_true, pickV_false, eq_ptr_nil, nil_ptr, fa_mk, bin_lss, bin_gtr, Bool.not_true, Bool.not_false, pv, hld, b1, b2, d1, d2, d3, d4]
  clear bad hld hp sv
  refine ⟨fun m xs h' => ∃ p : Nat, xs = [.int .i64 p] ∧ m = l.length - p ∧ p ≤ l.length ∧ (∀ j x, j < p → l[j]? = some x → x.1 < first) ∧ (PG a n l * tt) h',
    ⟨_, 0, rfl, rfl, by omega, fun j x hj => by omega, hh⟩, ?_⟩
  rintro m v7 h1' ⟨p, hxs, rfl, hp, hlow, hh1⟩ _
  obtain rfl : v7 = .int .i64 p := by simpa using hxs
  obtain ⟨sv, hp1⟩ := PG_elim hh1
  have hS : (SL enc2 34 sv l * (pt a (.cells #[.int .i64 n, sv] 47 (0, 0)) * tt)) h1' := asr (by ac_rfl) hp1
  have hld := (pg_ld hp1).2
  have hsl := SL_len enc2 hS
  have ov : ovF l p first k → (∀ y, l[p]? = some y → first ≤ y.1) → ((ex fun l' => pr (FreeR l n first k (.int .i64 5) l') * PG a n l') * tt) h1' := fun o g =>
    ex_star.2 ⟨l, ret (.inr ⟨nbad, p, hp, hlow, g, .inl ⟨o, rfl, rfl⟩⟩) hh1⟩
  have fin := fun (o : ¬ ovF l p first k) (g : ∀ y, l[p]? = some y → first ≤ y.1) =>
    free_ins a n l first k p hB hb (by omega) (by omega) (by omega) hlen hp sv h1' hp1 (fun v h' => ((ex fun l' => pr (FreeR l n first k v l') * PG a n l') * tt) h') (fun h' q =>
      ex_star.2 ⟨_, ret (.inr ⟨nbad, p, hp, hlow, g, .inr ⟨o, rfl, rfl⟩⟩) q⟩)
  have b3 : binV .add (.int .i64 first) (.int .i64 k) = some (.int .i64 (first + k)) := bin_add (by omega)
  cases hq : l[p]? with
  | none =>
    have hpl : p = l.length := by have := List.getElem?_eq_none_iff.1 hq; omega
    have d5 : decide ((p : Int) < (l.length : Int)) = false := decide_eq_false (by omega)
    have g : ∀ y, l[p]? = some y → first ≤ y.1 := fun y e => by rw [hq] at e; cases e
    by_cases hp0 : p = 0
    · have d6 : decide (0 < (p : Int)) = false := decide_eq_false (by omega)
      simp only [vP_some, vB_true, vB_false, gdW_true, gdW_false, gB_true, gB_false, gB_undef, pickV_true, pickV_false, nil_ptr, fa_mk, bin_lss, bin_gtr, Bool.not_true, Bool.not_false, pv, hld, hsl, d5, d6]
      refine fin ?_ g
      rintro (⟨x, h, _⟩ | ⟨y, e, _⟩)
      · omega
      · rw [hq] at e; cases e
    · have d6 : decide (0 < (p : Int)) = true := decide_eq_true (by omega)
      have b4 : binV .sub (.int .i64 (p : Int)) (.int .i64 1) = some (.int .i64 ((p - 1 : Nat) : Int)) := by rw [bin_sub (by omega), show (p : Int) - 1 = ((p - 1 : Nat) : Int) by omega]
      simp only [b4, vP_some] at fin
      obtain ⟨x, hx⟩ : ∃ x, l[p - 1]? = some x := ⟨_, List.getElem?_eq_getElem (by omega)⟩
      obtain ⟨r, e1, e2, e3, _⟩ := el hS hx .i64
      have bx := hb x (List.mem_of_getElem? hx)
      have b5 : binV .add (.int .i64 x.1) (.int .i64 x.2) = some (.int .i64 (x.1 + x.2)) := bin_add (by omega)
      by_cases ho : first < x.1 + x.2
      · have d7 : decide (first < x.1 + x.2) = true := decide_eq_true ho
        simp only [vP_some, vB_true, vB_false, gdW_true, gdW_false, gB_true, gB_false, gB_undef, pickV_true, pickV_false, nil_ptr, fa_mk, bin_lss, bin_gtr, Bool.not_true, Bool.not_false, pv, hld, hsl, d5, d6, b4, e1, e2, e3, b5, d7]
        exact ov (.inl ⟨x, by omega, hx, ho⟩) g
      · have d7 : decide (first < x.1 + x.2) = false := decide_eq_false ho
        simp only [vP_some, vB_true, vB_false, gdW_true, gdW_false, gB_true, gB_false, gB_undef, pickV_true, pickV_false, nil_ptr, fa_mk, bin_lss, bin_gtr, Bool.not_true, Bool.not_false, pv, hld, hsl, d5, d6, b4, e1, e2, e3, b5, d7]
        refine fin ?_ g
        rintro (⟨x', _, e, h⟩ | ⟨y, e, _⟩)
        · rw [hx] at e; cases e; exact ho h
        · rw [hq] at e; cases e
  | some y =>
    have hpl : p < l.length := (List.getElem?_eq_some_iff.1 hq).1
    have d5 : decide ((p : Int) < (l.length : Int)) = true := decide_eq_true (by omega)
    obtain ⟨ry, f1, f2, f3, _⟩ := el hS hq .i64
    have by' := hb y (List.mem_of_getElem? hq)
    by_cases hy : y.1 < first
    · have d8 : decide (y.1 < first) = true := decide_eq_true hy
      simp only [vP_some, vB_true, vB_false, gdW_true, gdW_false, gB_true, gB_false, gB_undef, pickV_true, pickV_false, nil_ptr, fa_mk, bin_lss, bin_gtr, Bool.not_true, Bool.not_false, pv, hld, hsl, d5, f1, f2, d8]
      rw [bin_add (by omega), vP_some]
      refine ⟨l.length - (p + 1), by omega, p + 1, rfl, rfl, by omega, fun j x hj hx => ?_, hh1⟩
      by_cases hjp : j = p
      · subst hjp; rw [hq] at hx; cases hx; exact hy
      · exact hlow j x (by omega) hx
    · have d8 : decide (y.1 < first) = false := decide_eq_false hy
      have g : ∀ z, l[p]? = some z → first ≤ z.1 := fun z e => by rw [hq] at e; cases e; omega
      have tail : ∀ (c : Prop), (c ↔ ∃ x, 0 < p ∧ l[p - 1]? = some x ∧ first < x.1 + x.2) → ¬ c → (ovF l p first k ↔ y.1 < first + k) := fun c hc hn => by
        unfold ovF
        rw [← hc]
        constructor
        · rintro (h | ⟨z, e, h⟩)
          · exact absurd h hn
          · rw [hq] at e; cases e; exact h
        · exact fun h => .inr ⟨y, hq, h⟩
      by_cases hp0 : p = 0
      · have d6 : decide (0 < (p : Int)) = false := decide_eq_false (by omega)
        have tl := tail False ⟨fun h => h.elim, fun ⟨x, h, _⟩ => by omega⟩ (fun h => h)
        by_cases ho : y.1 < first + k
        · have d9 : decide (y.1 < first + k) = true := decide_eq_true ho
          simp only [vP_some, vB_true, vB_false, gdW_true, gdW_false, gB_true, gB_false, gB_undef, pickV_true, pickV_false, nil_ptr, fa_mk, bin_lss, bin_gtr, Bool.not_true, Bool.not_false, pv, hld, hsl, d5, d6, f1, f2, d8, b3, d9]
          exact ov (tl.2 ho) g
        · have d9 : decide (y.1 < first + k) = false := decide_eq_false ho
          simp only [vP_some, vB_true, vB_false, gdW_true, gdW_false, gB_true, gB_false, gB_undef, pickV_true, pickV_false, nil_ptr, fa_mk, bin_lss, bin_gtr, Bool.not_true, Bool.not_false, pv, hld, hsl, d5, d6, f1, f2, d8, b3, d9]
          exact fin (fun o => ho (tl.1 o)) g
      · have d6 : decide (0 < (p : Int)) = true := decide_eq_true (by omega)
        have b4 : binV .sub (.int .i64 (p : Int)) (.int .i64 1) = some (.int .i64 ((p - 1 : Nat) : Int)) := by rw [bin_sub (by omega), show (p : Int) - 1 = ((p - 1 : Nat) : Int) by omega]
        simp only [b4, vP_some] at fin
        obtain ⟨x, hx⟩ : ∃ x, l[p - 1]? = some x := ⟨_, List.getElem?_eq_getElem (by omega)⟩
        obtain ⟨r, e1, e2, e3, _⟩ := el hS hx .i64
        have bx := hb x (List.mem_of_getElem? hx)
        have b5 : binV .add (.int .i64 x.1) (.int .i64 x.2) = some (.int .i64 (x.1 + x.2)) := bin_add (by omega)
        by_cases ho' : first < x.1 + x.2
        · have d7 : decide (first < x.1 + x.2) = true := decide_eq_true ho'
          simp only [vP_some, vB_true, vB_false, gdW_true, gdW_false, gB_true, gB_false, gB_undef, pickV_true, pickV_false, nil_ptr, fa_mk, bin_lss, bin_gtr, Bool.not_true, Bool.not_false, pv, hld, hsl, d5, d6, b4, e1, e2, e3, b5, d7, f1, f2, d8]
          exact ov (.inl ⟨x, by omega, hx, ho'⟩) g
        · have d7 : decide (first < x.1 + x.2) = false := decide_eq_false ho'
          have tl := tail False ⟨fun h => h.elim, fun ⟨x', _, e, h⟩ => by rw [hx] at e; cases e; exact ho' h⟩ (fun h => h)
          by_cases ho : y.1 < first + k
          · have d9 : decide (y.1 < first + k) = true := decide_eq_true ho
            simp only [vP_some, vB_true, vB_false, gdW_true, gdW_false, gB_true, gB_false, gB_undef, pickV_true, pickV_false, nil_ptr, fa_mk, bin_lss, bin_gtr, Bool.not_true, Bool.not_false, pv, hld, hsl, d5, d6, b4, e1, e2, e3, b5, d7, f1, f2, d8, b3, d9]
            exact ov (tl.2 ho) g
          · have d9 : decide (y.1 < first + k) = false := decide_eq_false ho
            simp only [vP_some, vB_true, vB_false, gdW_true, gdW_false, gB_true, gB_false, gB_undef, pickV_true, pickV_false, nil_ptr, fa_mk, bin_lss, bin_gtr, Bool.not_true, Bool.not_false, pv, hld, hsl, d5, d6, b4, e1, e2, e3, b5, d7, f1, f2, d8, b3, d9]
            exact fin (fun o => ho (tl.1 o)) g

end Go.Proofs
