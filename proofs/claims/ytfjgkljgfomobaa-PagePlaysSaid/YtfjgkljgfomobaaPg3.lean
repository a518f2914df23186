/-
  Page: the heap's methods.
-/
import Derived.Test.YtfjgkljgfomobaaPg2
import Derived.Test.YtfjgkljgfomobaaV12
set_option linter.unusedVariables false
set_option linter.unusedSimpArgs false
namespace Go.Proofs
open Go.Sl

/-- An element of a list of pairs: where it lies, what it reads, what a store does. -/
theorem el {E : Nat} {sv : Value} {l : List Run} {i : Nat} {a : Run} {F : Asrt} {h : Hp} (hh : (SL enc2 E sv l * F) h) (hi : l[i]? = some a) (k : IntKind) :
    ∃ r, iaS 2 sv (.int k (i : Int)) = some (.pointer (some ⟨r, i * 2, none⟩)) ∧
      ld1 (.pointer (some ⟨r, i * 2 + 0, none⟩)) h = some (.int .i64 a.1) ∧ ld1 (.pointer (some ⟨r, i * 2 + 1, none⟩)) h = some (.int .i64 a.2) ∧
      ldN 2 (.pointer (some ⟨r, i * 2, none⟩)) h = some (run a) ∧
      (∀ b K, (∀ h', (SL enc2 E sv (l.set i b) * F) h' → K undef h') → stN 2 (.pointer (some ⟨r, i * 2, none⟩)) (run b) K h) ∧
      (∀ x K, (∀ h', (SL enc2 E sv (l.set i (a.1, x)) * F) h' → K undef h') → st1 (.pointer (some ⟨r, i * 2 + 1, none⟩)) (.int .i64 x) K h) ∧
      (∀ x K, (∀ h', (SL enc2 E sv (l.set i (x, a.2)) * F) h' → K undef h') → st1 (.pointer (some ⟨r, i * 2 + 0, none⟩)) (.int .i64 x) K h) := by
  obtain ⟨hlt, ha⟩ := List.getElem?_eq_some_iff.1 hi
  rcases SL_elim enc2 hh with ⟨rfl, rfl, _⟩ | ⟨r, cap, post, rfl, h1, h1', h2, hp⟩
  · simp at hlt
  · have hb := pt_get hp
    have hsz : (enc2.arr l post).size = l.length * 2 + post.length := enc2.arr_size l post
    have hc0 := enc2.arr_cell (post := post) (j := 0) hi (by decide)
    have hc1 := enc2.arr_cell (post := post) (j := 1) hi (by decide)
    have hii : ∀ b, SL enc2 E (.slice (some ⟨r, 0, none⟩) l.length cap) (l.set i b) = SL enc2 E (.slice (some ⟨r, 0, none⟩) l.length cap) (l.set i b) := fun _ => rfl
    have key : ∀ b (h' : Hp), (pt r (.cells (enc2.arr (l.set i b) post) E (0, 0)) * F) h' → (SL enc2 E (.slice (some ⟨r, 0, none⟩) l.length cap) (l.set i b) * F) h' := fun b h' q =>
      SL_intro enc2 (by simp) (by simpa using h1) h1' (by simpa using h2) q
    refine ⟨r, ?_, ?_, ?_, ?_, ?_, ?_, ?_⟩
    · have := ia_mk (sz := 2) (b := r) (off := 0) (cap := cap) (k := k) (n := (i : Int)) (len := l.length) (by omega) (by omega)
      rwa [Int.toNat_natCast, Nat.zero_add] at this
    · exact ld1_mk hb hc0
    · exact ld1_mk hb hc1
    · rw [ldN_mk hb (by rw [hsz]; omega)]
      have := enc2.arr_elem (post := post) hi
      rw [show (enc2.arr l post).extract (i * 2) (i * 2 + 2) = _ from this]
      rfl
    · intro b K hk
      refine stN_mk hp rfl rfl (by rw [hsz]; omega) fun h' hp' => hk h' (key b h' ?_)
      have := enc2.arr_set (post := post) b hlt
      rw [show i * enc2.sz = i * 2 from rfl] at this
      rw [← this]
      exact hp'
    · intro x K hk
      refine st1_mk hp rfl (by rw [hsz]; omega) fun h' hp' => hk h' (key _ h' ?_)
      have := enc2.arr_set1 (post := post) (j := 1) (b := (a.1, x)) (v := .int .i64 x) hi (by decide) rfl
      rw [show i * enc2.sz = i * 2 from rfl] at this
      rw [← this]
      exact hp'
    · intro x K hk
      refine st1_mk hp rfl (by rw [hsz]; omega) fun h' hp' => hk h' (key _ h' ?_)
      have := enc2.arr_set1 (post := post) (j := 0) (b := (x, a.2)) (v := .int .i64 x) hi (by decide) rfl
      rw [show i * enc2.sz = i * 2 from rfl] at this
      rw [← this]
      exact hp'

theorem elBy : ElOk Try.prog 48 34 2 16 := elB_ok (by kernel_rfl)
theorem niBy : noInt Try.prog 48 := noInt_sl (e := 34) (by kernel_rfl)

/-- The heap: a variable at 'a' with a slice. -/
def BH (a : Nat) (l : List Run) : Asrt := ex fun sv => pt a (.cells #[sv] 48 (0, 0)) * SL enc2 34 sv l

theorem BH_elim {a : Nat} {l : List Run} {F : Asrt} {h : Hp} (hh : (BH a l * F) h) : ∃ sv, (pt a (.cells #[sv] 48 (0, 0)) * (SL enc2 34 sv l * F)) h := by
  obtain ⟨sv, q⟩ := ex_star.1 hh
  exact ⟨sv, asr (star_assoc _ _ _) q⟩

theorem BH_intro {a : Nat} {l : List Run} {sv : Value} {F : Asrt} {h : Hp} (hh : (pt a (.cells #[sv] 48 (0, 0)) * (SL enc2 34 sv l * F)) h) : (BH a l * F) h :=
  ex_star.2 ⟨sv, asr (star_assoc _ _ _).symm hh⟩

/-- The order of the heap: less pages, then lower. -/
def lt (a b : Run) : Bool := decide (a.2 < b.2) || (decide (a.2 = b.2) && decide (a.1 < b.1))

theorem len_tr (sv : Value) (l : List Run) : Tr Try.prog 50 #[sv] (SL enc2 34 sv l) (fun v => pr (v = .int .i64 l.length) * SL enc2 34 sv l) := by
  refine Tr.of fun h hh => C50 ?_
  unfold D50
  rw [SL_len enc2 hh, vP_some]
  exact ret rfl hh

theorem less_tr (sv : Value) (l : List Run) (i j : Nat) (a b : Run) (hi : l[i]? = some a) (hj : l[j]? = some b) :
    Tr Try.prog 51 #[sv, .int .i64 i, .int .i64 j] (SL enc2 34 sv l) (fun v => pr (v = .bool (lt a b)) * SL enc2 34 sv l) := by
  refine Tr.of fun h hh => C51 ?_
  unfold D51
  obtain ⟨r, e1, e2, e3, _⟩ := el hh hi .i64
  obtain ⟨r', e1', e2', e3', _⟩ := el hh hj .i64
  have key : ∀ v, v = lt a b → (pr (Value.bool v = .bool (lt a b)) * SL enc2 34 sv l * tt) h := fun v e => by
    rw [star_assoc, pr_star]
    exact ⟨by rw [e], hh⟩
  by_cases h1 : a.2 < b.2
  · have d1 : decide (a.2 < b.2) = true := decide_eq_true h1
    simp only [vP_some, vB_true, vB_false, vB_dec, gdW_true, gdW_false, gB_true, gB_false, gB_undef, ptrV, pickV_true, pickV_false, vE_true, vE_false, bin_add, bin_sub, bin_lss, bin_leq, bin_gtr, bin_geq, eq_int, ne_int, eq_ptr_nil, ne_ptr_nil, eq_nil_nil, ne_nil_nil, eq_slice_nil, eq_nil_slice, not_bool, nil_ptr, fa_mk, len_mk, cap_mk, decide_true, decide_false, decide_eq_true, decide_eq_false, if_true, if_false, Bool.not_true, Bool.not_false, Bool.false_eq_true, e1, e1', e3, e3', d1]
    exact key true (by simp [lt, h1])
  · have d1 : decide (a.2 < b.2) = false := decide_eq_false h1
    by_cases h2 : a.2 = b.2
    · have d2 : decide (a.2 = b.2) = true := decide_eq_true h2
      simp only [vP_some, vB_true, vB_false, vB_dec, gdW_true, gdW_false, gB_true, gB_false, gB_undef, ptrV, pickV_true, pickV_false, vE_true, vE_false, bin_add, bin_sub, bin_lss, bin_leq, bin_gtr, bin_geq, eq_int, ne_int, eq_ptr_nil, ne_ptr_nil, eq_nil_nil, ne_nil_nil, eq_slice_nil, eq_nil_slice, not_bool, nil_ptr, fa_mk, len_mk, cap_mk, decide_true, decide_false, decide_eq_true, decide_eq_false, if_true, if_false, Bool.not_true, Bool.not_false, Bool.false_eq_true, e1, e1', e2, e2', e3, e3', d1, d2]
      exact key (decide (a.1 < b.1)) (by simp [lt, h2])
    · have d2 : decide (a.2 = b.2) = false := decide_eq_false h2
      simp only [vP_some, vB_true, vB_false, vB_dec, gdW_true, gdW_false, gB_true, gB_false, gB_undef, ptrV, pickV_true, pickV_false, vE_true, vE_false, bin_add, bin_sub, bin_lss, bin_leq, bin_gtr, bin_geq, eq_int, ne_int, eq_ptr_nil, ne_ptr_nil, eq_nil_nil, ne_nil_nil, eq_slice_nil, eq_nil_slice, not_bool, nil_ptr, fa_mk, len_mk, cap_mk, decide_true, decide_false, decide_eq_true, decide_eq_false, if_true, if_false, Bool.not_true, Bool.not_false, Bool.false_eq_true, e1, e1', e3, e3', d1, d2]
      exact key false (by simp [lt, h1, h2])

/-- Two elements change places. -/
def swp (l : List Run) (i j : Nat) : List Run :=
  match l[i]?, l[j]? with
  | some a, some b => (l.set i b).set j a
  | _, _ => l

theorem swp_length (l : List Run) (i j : Nat) : (swp l i j).length = l.length := by
  unfold swp; split <;> simp

theorem swap_tr (sv : Value) (l : List Run) (i j : Nat) (hi : i < l.length) (hj : j < l.length) :
    Tr Try.prog 52 #[sv, .int .i64 i, .int .i64 j] (SL enc2 34 sv l) (fun _ => SL enc2 34 sv (swp l i j)) := by
  refine Tr.of fun h hh => C52 ?_
  unfold D52
  have hi' := List.getElem?_eq_getElem hi
  have hj' := List.getElem?_eq_getElem hj
  obtain ⟨r, e1, e2, e3, e4, e5, _⟩ := el hh hi' .i64
  obtain ⟨r', e1', e2', e3', e4', _⟩ := el hh hj' .i64
  simp only [e1, e1', vP_some, e4, e4']
  refine e5 _ _ fun h1 hh1 => ?_
  have hj2 : j < (l.set i l[j]).length := by simpa using hj
  obtain ⟨r2, g1, _, _, _, g5, _⟩ := el hh1 (List.getElem?_eq_getElem hj2) .i64
  rw [g1] at e1'
  cases e1'
  refine g5 _ _ fun h2 hh2 => ?_
  unfold swp
  rw [hi', hj']
  exact hh2

theorem pop_tr (a : Nat) (l : List Run) (x : Run) :
    Tr Try.prog 53 #[pv a] (BH a (l ++ [x])) (fun v => pr (v = .iface 34 (run x)) * BH a l) := by
  refine Tr.of fun h hh => C53 ?_
  unfold D53
  obtain ⟨sv, hp⟩ := BH_elim hh
  have hS : (SL enc2 34 sv (l ++ [x]) * (pt a (.cells #[sv] 48 (0, 0)) * tt)) h := asr (by ac_rfl) hp
  have hL := SL_lt enc2 hS
  have hlen := SL_len enc2 hS
  rw [List.length_append, List.length_singleton] at hL hlen
  have hx : (l ++ [x])[l.length]? = some x := by simp
  obtain ⟨r, e1, _, _, e4, _⟩ := el hS hx .i64
  have hl1 : ld1 (.pointer (some ⟨a, 0, none⟩)) h = some sv := ld1_mk (pt_get hp) rfl
  simp only [pv, nil_ptr, vP_some, hl1, hlen]
  rw [bin_sub (by omega), vP_some, show ((l.length + 1 : Nat) : Int) - 1 = (l.length : Int) by omega, e1, vP_some, e4, vP_some]
  refine vA_new hp fun r1 h1 hh1 => ?_
  refine stN_mk hh1 rfl rfl (by simp) fun h2 hh2 => ?_
  rcases SL_elim enc2 hS with ⟨_, hq, _⟩ | ⟨rr, cap, post, rfl, g1, g2, g3, hp3⟩
  · simp at hq
  · rw [List.length_append, List.length_singleton] at g1
    simp only [vP_some]
    rw [sl_to (by omega), vP_some]
    have hh3 : (pt a (.cells #[.slice (some ⟨rr, 0, none⟩) (l ++ [x]).length cap] 48 (0, 0)) * (SL enc2 34 (.slice (some ⟨rr, 0, none⟩) (l ++ [x]).length cap) (l ++ [x]) * (pt r1 (.cells (putL #[.int .i64 0, .int .i64 0] 0 (Value.cells (run x)).toList) 34 (0, 0)) * tt))) h2 := asr (by ac_rfl) hh2
    refine st1_mk hh3 rfl (by simp) fun h3 hh4 => ?_
    have hr1 : (pt r1 (.cells (putL #[.int .i64 0, .int .i64 0] 0 (Value.cells (run x)).toList) 34 (0, 0)) * (pt a (.cells (Array.setIfInBounds #[.slice (some ⟨rr, 0, none⟩) (l ++ [x]).length cap] 0 (.slice (some ⟨rr, 0, none⟩) l.length cap)) 48 (0, 0)) * (SL enc2 34 (.slice (some ⟨rr, 0, none⟩) (l ++ [x]).length cap) (l ++ [x]) * tt))) h3 := asr (by ac_rfl) hh4
    have hl2 : ldN 2 (.pointer (some ⟨r1, 0, none⟩)) h3 = some (run x) := ldN_mk (pt_get hr1) (by simp [putL_size])
    simp only [ptrV, hl2, vP_some]
    refine ret (by trivial) (BH_intro (sv := .slice (some ⟨rr, 0, none⟩) l.length cap) ?_)
    have hS4 : (SL enc2 34 (.slice (some ⟨rr, 0, none⟩) (l ++ [x]).length cap) (l ++ [x]) * (pt a (.cells #[.slice (some ⟨rr, 0, none⟩) l.length cap] 48 (0, 0)) * tt)) h3 :=
      star_right (fun _ q => star_right (fun _ _ => trivial) q) (asr (by ac_rfl) hh4 : (SL enc2 34 (.slice (some ⟨rr, 0, none⟩) (l ++ [x]).length cap) (l ++ [x]) * (pt a (.cells #[.slice (some ⟨rr, 0, none⟩) l.length cap] 48 (0, 0)) * (pt r1 (.cells (putL #[.int .i64 0, .int .i64 0] 0 (Value.cells (run x)).toList) 34 (0, 0)) * tt))) h3)
    rcases SL_elim enc2 hS4 with ⟨hq, _, _⟩ | ⟨rr', cap', post', hq, k1, k2, k3, hp5⟩
    · cases hq
    · cases hq
      refine asr (by ac_rfl) (SL_intro enc2 (l := l) (post := enc2.enc x ++ post') rfl (by omega) g2 ?_ ?_ : (SL enc2 34 (.slice (some ⟨rr, 0, none⟩) l.length cap) l * (pt a (.cells #[.slice (some ⟨rr, 0, none⟩) l.length cap] 48 (0, 0)) * tt)) h3)
      · rw [List.length_append, List.length_singleton] at k3
        rw [List.length_append]
        show _ * 2 ≤ 2 + _
        have : (cap - (l.length + 1)) * 2 ≤ post'.length := k3
        omega
      · have : enc2.arr (l ++ [x]) post' = enc2.arr l (enc2.enc x ++ post') := by
          unfold Enc.arr
          rw [enc2.cs_append, List.append_assoc]
          simp [Enc.cs]
        rw [← this]
        exact hp5

theorem push_tr (a : Nat) (l : List Run) (x : Run) (hb : l.length ≤ 1073741824) :
    Tr Try.prog 54 #[pv a, .iface 34 (run x)] (BH a l) (fun _ => BH a (l ++ [x])) := by
  refine Tr.of fun h hh => C54 ?_
  unfold D54
  obtain ⟨sv, hp⟩ := BH_elim hh
  have hl1 : ld1 (.pointer (some ⟨a, 0, none⟩)) h = some sv := ld1_mk (pt_get hp) rfl
  have hta : taV 34 (Value.agg #[.int .i64 0, .int .i64 0]) false (.iface 34 (run x)) = some (run x) := rfl
  have hbl : bldV #[.int .i64 0, .int .i64 0] [(0, 2, run x)] = some (enc2.arr [x] []) := rfl
  simp only [pv, nil_ptr, vP_some, hta, hl1, hbl, Option.map_some]
  refine vA_new hp fun r1 h1 hh1 => ?_
  have hS : (SL enc2 34 sv l * (pt a (.cells #[sv] 48 (0, 0)) * pt r1 (.cells (enc2.arr [x] []) 34 (0, 0)) * tt)) h1 := asr (by ac_rfl) hh1
  refine ap_SL (m := [x]) elBy rfl rfl niBy rfl (by omega) hS (src_all enc2 (l := [x]) (n := 1) (pt_get hh1) (Nat.le_refl 1) 1) rfl (by simp only [List.length_singleton]; omega) ?_
  intro v h2 hh2
  have h3 : (pt a (.cells #[sv] 48 (0, 0)) * (SL enc2 34 v (l ++ [x]) * (pt r1 (.cells (enc2.arr [x] []) 34 (0, 0)) * tt))) h2 := asr (by ac_rfl) hh2
  refine st1_mk h3 (SL_one enc2 hh2) (by simp) fun h4 hh4 => ?_
  refine BH_intro (sv := v) ?_
  exact star_right (fun _ q => star_right (fun _ _ => trivial) q) hh4

end Go.Proofs
