/-
  Page: container/heap.
-/
import Derived.Test.YtfjgkljgfomobaaPg3
set_option linter.unusedVariables false
set_option linter.unusedSimpArgs false
namespace Go.Proofs
open Go.Sl

abbrev bi (a : Nat) : Value := .iface 50 (pv a)

theorem iv_len {a : Nat} {l : List Run} {F : Asrt} {K : Value → Hp → Prop} {h : Hp} (hh : (BH a l * F) h) (hk : ∀ h', (BH a l * F) h' → K (.int .i64 l.length) h') : ivW Try.prog (bi a) "Len" #[] K h := by
  obtain ⟨sv, hp⟩ := BH_elim hh
  refine iv_val (f := 50) (e := 48) (rv := sv) (by kernel_rfl) (by kernel_rfl) (by kernel_rfl) (by kernel_rfl) (ld1_mk (pt_get hp) rfl) ?_
  show CallH Try.prog 50 #[sv] K h
  refine (len_tr sv l).use (F := pt a (.cells #[sv] 48 (0, 0)) * F) (asr (by ac_rfl) hp) fun v h' hv => ?_
  rw [star_assoc, pr_star] at hv
  rw [hv.1]
  exact hk h' (BH_intro (asr (by ac_rfl) hv.2))

theorem iv_less {a : Nat} {l : List Run} {i j : Nat} {x y : Run} {F : Asrt} {K : Value → Hp → Prop} {h : Hp} (hh : (BH a l * F) h) (hi : l[i]? = some x) (hj : l[j]? = some y) (hk : ∀ h', (BH a l * F) h' → K (.bool (lt x y)) h') :
    ivW Try.prog (bi a) "Less" #[.int .i64 i, .int .i64 j] K h := by
  obtain ⟨sv, hp⟩ := BH_elim hh
  refine iv_val (f := 51) (e := 48) (rv := sv) (by kernel_rfl) (by kernel_rfl) (by kernel_rfl) (by kernel_rfl) (ld1_mk (pt_get hp) rfl) ?_
  show CallH Try.prog 51 #[sv, .int .i64 i, .int .i64 j] K h
  refine (less_tr sv l i j x y hi hj).use (F := pt a (.cells #[sv] 48 (0, 0)) * F) (asr (by ac_rfl) hp) fun v h' hv => ?_
  rw [star_assoc, pr_star] at hv
  rw [hv.1]
  exact hk h' (BH_intro (asr (by ac_rfl) hv.2))

theorem iv_swap {a : Nat} {l : List Run} {i j : Nat} {F : Asrt} {K : Value → Hp → Prop} {h : Hp} (hh : (BH a l * F) h) (hi : i < l.length) (hj : j < l.length) (hk : ∀ v h', (BH a (swp l i j) * F) h' → K v h') :
    ivW Try.prog (bi a) "Swap" #[.int .i64 i, .int .i64 j] K h := by
  obtain ⟨sv, hp⟩ := BH_elim hh
  refine iv_val (f := 52) (e := 48) (rv := sv) (by kernel_rfl) (by kernel_rfl) (by kernel_rfl) (by kernel_rfl) (ld1_mk (pt_get hp) rfl) ?_
  show CallH Try.prog 52 #[sv, .int .i64 i, .int .i64 j] K h
  refine (swap_tr sv l i j hi hj).use (F := pt a (.cells #[sv] 48 (0, 0)) * F) (asr (by ac_rfl) hp) fun v h' hv => ?_
  exact hk v h' (BH_intro (asr (by ac_rfl) hv))

theorem iv_push {a : Nat} {l : List Run} {x : Run} {F : Asrt} {K : Value → Hp → Prop} {h : Hp} (hh : (BH a l * F) h) (hb : l.length ≤ 1073741824) (hk : ∀ v h', (BH a (l ++ [x]) * F) h' → K v h') :
    ivW Try.prog (bi a) "Push" #[.iface 34 (run x)] K h := by
  refine iv_ptr (f := 54) (e := 48) (by kernel_rfl) (by kernel_rfl) (by kernel_rfl) ?_
  show CallH Try.prog 54 #[pv a, .iface 34 (run x)] K h
  exact (push_tr a l x hb).use hh fun v h' hv => hk v h' hv

theorem iv_pop {a : Nat} {l : List Run} {x : Run} {F : Asrt} {K : Value → Hp → Prop} {h : Hp} (hh : (BH a (l ++ [x]) * F) h) (hk : ∀ h', (BH a l * F) h' → K (.iface 34 (run x)) h') :
    ivW Try.prog (bi a) "Pop" #[] K h := by
  refine iv_ptr (f := 53) (e := 48) (by kernel_rfl) (by kernel_rfl) (by kernel_rfl) ?_
  show CallH Try.prog 53 #[pv a] K h
  refine (pop_tr a l x).use hh fun v h' hv => ?_
  rw [star_assoc, pr_star] at hv
  rw [hv.1]
  exact hk h' hv.2

/-! ### The order -/

theorem lt_iff (a b : Run) : lt a b = true ↔ a.2 < b.2 ∨ (a.2 = b.2 ∧ a.1 < b.1) := by simp [lt]
theorem nlt_iff (a b : Run) : lt a b = false ↔ ¬ (a.2 < b.2 ∨ (a.2 = b.2 ∧ a.1 < b.1)) := by rw [← lt_iff]; simp

theorem lt_of_lt_nlt {x r y : Run} (h1 : lt x r = true) (h2 : lt y r = false) : lt x y = true ∧ lt y x = false := by
  rw [lt_iff] at *
  rw [nlt_iff] at *
  omega
theorem nlt_self (x : Run) : lt x x = false := by rw [nlt_iff]; omega

theorem swp_get {l : List Run} {i j : Nat} {a b : Run} (hi : l[i]? = some a) (hj : l[j]? = some b) (k : Nat) :
    (swp l i j)[k]? = if k = j then some a else if k = i then some b else l[k]? := by
  have h1 := (List.getElem?_eq_some_iff.1 hi).1
  have h2 := (List.getElem?_eq_some_iff.1 hj).1
  unfold swp
  rw [hi, hj]
  simp only [List.getElem?_set, List.length_set]
  by_cases e1 : k = j
  · subst e1
    rw [if_pos rfl, if_pos rfl, if_pos h2]
  · rw [if_neg e1, if_neg (fun e => e1 e.symm)]
    by_cases e2 : k = i
    · subst e2
      rw [if_pos rfl, if_pos rfl, if_pos h1]
    · rw [if_neg e2, if_neg (fun e => e2 e.symm)]

theorem swp_mem {l : List Run} {i j : Nat} (hi : i < l.length) (hj : j < l.length) (y : Run) : y ∈ swp l i j ↔ y ∈ l := by
  have hi' := List.getElem?_eq_getElem hi
  have hj' := List.getElem?_eq_getElem hj
  constructor
  · intro h
    obtain ⟨k, hk⟩ := List.getElem?_of_mem h
    rw [swp_get hi' hj'] at hk
    split at hk
    · cases hk; exact List.getElem_mem hi
    · split at hk
      · cases hk; exact List.getElem_mem hj
      · exact List.mem_of_getElem? hk
  · intro h
    obtain ⟨k, hk⟩ := List.getElem?_of_mem h
    by_cases e1 : k = i
    · subst e1
      refine List.mem_of_getElem? (i := j) ?_
      rw [swp_get hi' hj', if_pos rfl, ← hi', hk]
    · by_cases e2 : k = j
      · subst e2
        refine List.mem_of_getElem? (i := i) ?_
        rw [swp_get hi' hj']
        rw [if_neg (fun e => e1 e.symm), if_pos rfl, ← hj', hk]
      · refine List.mem_of_getElem? (i := k) ?_
        rw [swp_get hi' hj', if_neg e2, if_neg e1, hk]

/-- The least on top. -/
def Rt (l : List Run) : Prop := ∃ r, l[0]? = some r ∧ ∀ y ∈ l, lt y r = false

theorem up_tr (a : Nat) (l0 : List Run) (x : Run) (hb : l0.length ≤ 1073741824) (h0 : l0 = [] ∨ Rt l0) :
    Tr Try.prog 28 #[bi a, .int .i64 l0.length] (BH a (l0 ++ [x])) (fun _ => ex fun l' => pr ((∀ y, y ∈ l' ↔ y ∈ l0 ++ [x]) ∧ l'.length = l0.length + 1 ∧ Rt l') * BH a l') := by
  refine Tr.of fun h hh => C28 ?_
  unfold D28
  refine ⟨fun n xs h' => ∃ (j : Nat) (l' : List Run), xs = [.int .i64 j] ∧ n = j ∧ j < l'.length ∧ l'.length = l0.length + 1 ∧ (∀ k z, l'[k]? = some z → k ≠ j → z ∈ l0) ∧ (∀ y ∈ l0, y ∈ l') ∧ l'[j]? = some x ∧
      (j ≠ 0 → l0 ≠ [] ∧ l'[0]? = l0[0]?) ∧ (j = 0 → ∀ y ∈ l0, lt y x = false) ∧ (BH a l' * tt) h',
    ⟨_, l0.length, l0 ++ [x], rfl, rfl, by simp, by simp, fun k z hk hne => ?_, fun y hy => List.mem_append_left _ hy, by simp, fun hne => ⟨fun e => hne (by rw [e]; rfl), by rw [List.getElem?_append_left (by omega)]⟩,
      fun e y hy => (by rw [List.length_eq_zero_iff.1 e] at hy; cases hy), hh⟩, ?_⟩
  · have hlt := (List.getElem?_eq_some_iff.1 hk).1
    rw [List.length_append, List.length_singleton] at hlt
    rw [List.getElem?_append_left (by omega)] at hk
    exact List.mem_of_getElem? hk
  rintro n v1 h1 ⟨j, l', hxs, rfl, hj, hlen, hmem, hmem', hx, hroot, hz, hh1⟩ _
  obtain rfl : v1 = .int .i64 n := by simpa using hxs
  have hiff : ∀ y, y ∈ l' ↔ y ∈ l0 ++ [x] := fun y => by
    rw [List.mem_append, List.mem_singleton]
    constructor
    · intro hy
      obtain ⟨k, hk⟩ := List.getElem?_of_mem hy
      by_cases e : k = n
      · subst e; rw [hx] at hk; cases hk; exact .inr rfl
      · exact .inl (hmem k y hk e)
    · rintro (hy | rfl)
      · exact hmem' y hy
      · exact List.mem_of_getElem? hx
  have done : ∀ h', (BH a l' * tt) h' → Rt l' → ((ex fun l' => pr ((∀ y, y ∈ l' ↔ y ∈ l0 ++ [x]) ∧ l'.length = l0.length + 1 ∧ Rt l') * BH a l') * tt) h' := fun h' q hr =>
    ex_star.2 ⟨l', ret ⟨hiff, hlen, hr⟩ q⟩
  rw [bin_sub (by omega), vP_some]
  by_cases hj0 : n = 0
  · subst hj0
    rw [show binV .quo (.int .i64 (((0 : Nat) : Int) - 1)) (.int .i64 2) = some (.int .i64 0) from rfl]
    simp only [vP_some, eq_int, gB_false, gB_true, Int.natCast_zero, decide_true, Bool.not_true, gdW_false, vE_false, pickV_true, vB_true]
    refine done _ hh1 ⟨x, hx, fun y hy => ?_⟩
    rw [hiff, List.mem_append, List.mem_singleton] at hy
    rcases hy with hy | rfl
    · exact hz rfl y hy
    · exact nlt_self _
  · have hdiv : ((n : Int) - 1) / 2 = (((n - 1) / 2 : Nat) : Int) := by omega
    rw [bin_quo (by omega) (by omega) (by omega), hdiv, vP_some]
    have hne : decide ((((n - 1) / 2 : Nat) : Int) = (n : Int)) = false := decide_eq_false (by omega)
    have hp : (n - 1) / 2 < l'.length := by omega
    have hp' := List.getElem?_eq_getElem hp
    simp only [eq_int, vP_some, hne, gB_false, Bool.not_false, gdW_true, vE_true]
    refine iv_less hh1 hx hp' fun h2 hh2 => ?_
    simp only [not_bool, vP_some, pickV_false, vB_bool]
    obtain ⟨hl0, hr0⟩ := hroot hj0
    have h0' := h0.resolve_left hl0
    obtain ⟨r, hr, hall⟩ := h0'
    rw [hr] at hr0
    cases hlt : lt x l'[(n - 1) / 2] with
    | false =>
      rw [Bool.not_false, if_pos rfl]
      refine done _ hh2 ⟨r, hr0, fun y hy => ?_⟩
      rw [hiff, List.mem_append, List.mem_singleton] at hy
      rcases hy with hy | rfl
      · exact hall y hy
      · cases hxr : lt y r with
        | false => rfl
        | true =>
          have := (lt_of_lt_nlt hxr (hall _ (hmem _ _ hp' (by omega)))).1
          rw [hlt] at this; cases this
    | true =>
      rw [Bool.not_true, if_neg (by decide)]
      refine iv_swap hh2 hp hj fun v h3 hh3 => ?_
      refine ⟨(n - 1) / 2, by omega, (n - 1) / 2, swp l' ((n - 1) / 2) n, rfl, rfl, by rw [swp_length]; exact hp, by rw [swp_length]; exact hlen, fun k z hk hne' => ?_, fun y hy => (swp_mem hp hj y).2 (hmem' y hy),
        by rw [swp_get hp' hx, if_neg (by omega), if_pos rfl], fun h00 => ⟨hl0, by rw [swp_get hp' hx, if_neg (by omega), if_neg (by omega), hr0, hr]⟩, fun h00 y hy => ?_, hh3⟩
      · rw [swp_get hp' hx] at hk
        split at hk
        · cases hk; exact hmem _ _ hp' (by omega)
        · exact hmem k z hk (by omega)
      · have : l'[(n - 1) / 2]? = some r := by rw [h00]; exact hr0
        rw [hp'] at this
        cases this
        exact (lt_of_lt_nlt hlt (hall y hy)).2

/-- Down: the length and what lies beyond stay. -/
theorem down_tr (a : Nat) (l : List Run) (n : Nat) (hn : n < l.length) (hb : l.length ≤ 1073741825) :
    Tr Try.prog 29 #[bi a, .int .i64 0, .int .i64 n] (BH a l) (fun _ => ex fun l' => pr (l'.length = l.length ∧ l'[n]? = l[n]?) * BH a l') := by
  refine Tr.of fun h hh => C29 ?_
  unfold D29
  intro J1 hJ1
  have done : ∀ (i : Nat) h' l', (BH a l' * tt) h' → l'.length = l.length → l'[n]? = l[n]? → J1 [.int .i64 i] h' := fun i h' l' q hl hq => by
    refine hJ1 _ _ fun _ => ?_
    rw [bin_gtr, vP_some]
    exact ex_star.2 ⟨l', ret ⟨hl, hq⟩ q⟩
  refine ⟨fun m xs h' => ∃ (i : Nat) (l' : List Run), xs = [.int .i64 i] ∧ m = l.length - i ∧ i < l.length ∧ l'.length = l.length ∧ l'[n]? = l[n]? ∧ (BH a l' * tt) h',
    ⟨_, 0, l, rfl, rfl, by omega, rfl, rfl, hh⟩, ?_⟩
  rintro m v7 h2 ⟨i, l', hxs, rfl, hi, hlen, hq, hh2⟩ _
  obtain rfl : v7 = .int .i64 i := by simpa using hxs
  rw [bin_mul (by omega), vP_some, bin_add (by omega), vP_some, bin_geq, vP_some]
  by_cases hge : (n : Int) ≤ 2 * (i : Int) + 1
  · rw [decide_eq_true hge]
    simp only [gB_false, Bool.not_true, gdW_false, vP_some, pickV_true, vB_true]
    exact done i _ l' hh2 hlen hq
  · have h0 : ¬ 2 * (i : Int) + 1 < 0 := by omega
    rw [decide_eq_false hge]
    simp only [gB_false, Bool.not_false, gdW_true, vP_some, bin_lss, pickV_false, vB_dec, if_neg h0]
    have step : ∀ (j : Nat) h', (BH a l' * tt) h' → i < j → j < n → ivW Try.prog (bi a) "Less" #[.int .i64 j, .int .i64 i] (fun v38 h4 => vP (unV .not v38) fun v39 => vB v39 (J1 [.int .i64 i] h4)
        (ivW Try.prog (bi a) "Swap" #[.int .i64 i, .int .i64 j] (fun _ h5 => ∃ m2, m2 < l.length - i ∧ ∃ (i' : Nat) (l' : List Run), [Value.int .i64 j] = [.int .i64 i'] ∧ m2 = l.length - i' ∧ i' < l.length ∧ l'.length = l.length ∧ l'[n]? = l[n]? ∧ (BH a l' * tt) h5) h4)) h' := fun j h' q hij hjn => by
      have hj' := List.getElem?_eq_getElem (l := l') (i := j) (by omega)
      have hi' := List.getElem?_eq_getElem (l := l') (i := i) (by omega)
      refine iv_less q hj' hi' fun h4 hh4 => ?_
      rw [not_bool, vP_some, vB_bool]
      split
      · exact done i _ l' hh4 hlen hq
      · refine iv_swap hh4 (by omega) (by omega) fun v h5 hh5 => ?_
        refine ⟨l.length - j, by omega, j, swp l' i j, rfl, rfl, by omega, by rw [swp_length, hlen], ?_, hh5⟩
        rw [swp_get hi' hj', if_neg (by omega), if_neg (by omega), hq]
    intro J3 hJ3
    have hJ3' : ∀ (j : Nat) h', (BH a l' * tt) h' → i < j → j < n → J3 [.int .i64 j] h' := fun j h' q hij hjn => hJ3 _ _ fun _ => step j h' q hij hjn
    have c1 : 2 * (i : Int) + 1 = ((2 * i + 1 : Nat) : Int) := by omega
    rw [c1, bin_add (by omega), show ((2 * i + 1 : Nat) : Int) + 1 = ((2 * i + 2 : Nat) : Int) by omega, vP_some, bin_lss, vP_some]
    by_cases h3 : ((2 * i + 2 : Nat) : Int) < n
    · rw [decide_eq_true h3]
      simp only [gB_true, gdW_true, vP_some, vE_true]
      refine iv_less hh2 (List.getElem?_eq_getElem (l := l') (i := 2 * i + 2) (by omega)) (List.getElem?_eq_getElem (l := l') (i := 2 * i + 1) (by omega)) fun h4 hh4 => ?_
      rw [pickV_true, vP_some, vB_bool]
      split
      · exact hJ3' _ _ hh4 (by omega) (by omega)
      · exact hJ3' _ _ hh4 (by omega) (by omega)
    · rw [decide_eq_false h3]
      simp only [gB_true, gdW_false, vP_some, vE_false, pickV_false, vB_false]
      exact hJ3' _ _ hh2 (by omega) (by omega)

theorem push_all_tr (a : Nat) (l0 : List Run) (x : Run) (hb : l0.length < 1073741824) (h0 : l0 = [] ∨ Rt l0) :
    Tr Try.prog 21 #[bi a, .iface 34 (run x)] (BH a l0) (fun _ => ex fun l' => pr ((∀ y, y ∈ l' ↔ y ∈ l0 ++ [x]) ∧ l'.length = l0.length + 1 ∧ Rt l') * BH a l') := by
  refine Tr.of fun h hh => C21 ?_
  unfold D21
  refine iv_push hh (by omega) fun v h1 hh1 => ?_
  refine iv_len hh1 fun h2 hh2 => ?_
  rw [List.length_append, List.length_singleton, bin_sub (by omega), vP_some, show ((l0.length + 1 : Nat) : Int) - 1 = (l0.length : Int) by omega]
  exact (up_tr a l0 x (by omega) h0).use hh2 fun v h3 hh3 => hh3

theorem pop_all_tr (a : Nat) (l : List Run) (r : Run) (hb : l.length ≤ 1073741824) (hr : l[0]? = some r) :
    Tr Try.prog 22 #[bi a] (BH a l) (fun v => pr (v = .iface 34 (run r)) * ex fun l' => BH a l') := by
  refine Tr.of fun h hh => C22 ?_
  unfold D22
  have h0 := (List.getElem?_eq_some_iff.1 hr).1
  refine iv_len hh fun h1 hh1 => ?_
  rw [bin_sub (by omega), vP_some, show (l.length : Int) - 1 = ((l.length - 1 : Nat) : Int) by omega]
  refine iv_swap (i := 0) hh1 (by omega) (by omega) fun v h2 hh2 => ?_
  have hx := swp_get hr (List.getElem?_eq_getElem (l := l) (i := l.length - 1) (by omega)) (l.length - 1)
  rw [if_pos rfl] at hx
  refine (down_tr a (swp l 0 (l.length - 1)) (l.length - 1) (by rw [swp_length]; omega) (by rw [swp_length]; omega)).use hh2 fun v h3 hh3 => ?_
  obtain ⟨l', hh3⟩ := ex_star.1 hh3
  rw [star_assoc, pr_star, swp_length, hx] at hh3
  obtain ⟨⟨hl, hq⟩, hh3⟩ := hh3
  have hl' : l' = l'.take (l.length - 1) ++ [r] := by
    conv => lhs; rw [← List.take_append_drop (l.length - 1) l']
    congr 1
    obtain ⟨hlt, e⟩ := List.getElem?_eq_some_iff.1 hq
    rw [List.drop_eq_getElem_cons hlt, e, List.drop_of_length_le (by omega)]
  rw [hl'] at hh3
  refine iv_pop hh3 fun h4 hh4 => ?_
  refine ret rfl ?_
  exact ex_star.2 ⟨_, hh4⟩

end Go.Proofs
