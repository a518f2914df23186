/-
  ViewRoots: the walk.
-/
import Derived.Test.YtdcoflglkfbpcaaLl
set_option linter.unusedVariables false
set_option linter.unusedSimpArgs false
set_option maxRecDepth 100000
set_option maxHeartbeats 2000000
namespace Go.Proofs
open Go.Sl

theorem elGr : ElOk Try.prog 23 41 3 40 := elB_ok (by kernel_rfl)
theorem niGs : noInt Try.prog 23 := noInt_sl (e := 41) (by kernel_rfl)

/-- The closure 'add'. -/
theorem use_addw {r8 : Nat} {x : Int} {l : List Int} {F : Asrt} {K : Value → Hp → Prop} {h : Hp} (hl : l.length ≤ 1000000) (hh : (OutS r8 l * (F * tt)) h)
    (hK : ∀ h', (OutS r8 (onceL l x) * (F * tt)) h' → K (.tuple #[]) h') : cvW Try.prog (.func (.func 24) #[] #[.pointer (some ⟨r8, 0, none⟩)]) #[.int .i64 x] K h := by
  refine cv_fn (by kernel_rfl) ?_
  show CallH Try.prog 24 #[.int .i64 x, .pointer (some ⟨r8, 0, none⟩)] K h
  refine C24 ?_
  unfold D24
  obtain ⟨ov, hh⟩ := OutS_elim hh
  have l8 : ld1 (.pointer (some ⟨r8, 0, none⟩)) h = some ov := ld1_mk (pt_get hh) rfl
  have hS : (SG iE 3 ov l * (pt r8 (.cells #[ov] 22 (0, 0)) * (F * tt))) h := asr (by ac_rfl) hh
  have same : x = 0 ∨ x ∈ l → K (.tuple #[]) h := fun q => by
    have e : onceL l x = l := by unfold onceL; rw [if_pos q]
    rw [e] at hK
    exact hK h (OutS_intro hh)
  by_cases h0 : x = 0
  · repeat (with_reducible first | refine vP_so ?_ | refine vB_t ?_ | refine vB_f ?_ | refine vE_tt ?_ | refine vE_ff ?_ | refine vE_tf ?_ | refine vE_ft ?_ | refine vE_u ?_ | refine vP_to (by simp (disch := omega) only [gdW_true, gdW_false, gB_true, gB_false, gB_undef, pickV_true, pickV_false, Bool.not_true, Bool.not_false, Option.map_some, bin_add, bin_sub, bin_mul, bin_quo, bin_rem, lss_t, lss_f, leq_t, leq_f, gtr_t, gtr_f, geq_t, geq_f, eqi_t, eqi_f, nei_t, nei_f, rem_uw, conv_ui, conv_iu, conv_ii, not_bool, nil_ptr, fa_mk, ptrV, len_mk, cap_mk, eq_ptr_nil, ne_ptr_nil, eq_nil_nil, ne_nil_nil, eq_slice_nil, eq_nil_slice, ia_1]; exact so_so) ?_)
    exact same (.inl h0)
  · repeat (with_reducible first | refine vP_so ?_ | refine vB_t ?_ | refine vB_f ?_ | refine vE_tt ?_ | refine vE_ff ?_ | refine vE_tf ?_ | refine vE_ft ?_ | refine vE_u ?_ | refine vP_to (by simp (disch := omega) only [gdW_true, gdW_false, gB_true, gB_false, gB_undef, pickV_true, pickV_false, Bool.not_true, Bool.not_false, Option.map_some, bin_add, bin_sub, bin_mul, bin_quo, bin_rem, lss_t, lss_f, leq_t, leq_f, gtr_t, gtr_f, geq_t, geq_f, eqi_t, eqi_f, nei_t, nei_f, rem_uw, conv_ui, conv_iu, conv_ii, not_bool, nil_ptr, fa_mk, ptrV, len_mk, cap_mk, eq_ptr_nil, ne_ptr_nil, eq_nil_nil, ne_nil_nil, eq_slice_nil, eq_nil_slice, ia_1, l8]; exact so_so) ?_)
    refine use_has (SG_ints hS) ?_
    by_cases hx : x ∈ l
    · rw [decide_eq_true hx]
      repeat (with_reducible first | refine vP_so ?_ | refine vB_t ?_ | refine vB_f ?_ | refine vE_tt ?_ | refine vE_ff ?_ | refine vE_tf ?_ | refine vE_ft ?_ | refine vE_u ?_ | refine vP_to (by simp (disch := omega) only [gdW_true, gdW_false, gB_true, gB_false, gB_undef, pickV_true, pickV_false, Bool.not_true, Bool.not_false, Option.map_some, bin_add, bin_sub, bin_mul, bin_quo, bin_rem, lss_t, lss_f, leq_t, leq_f, gtr_t, gtr_f, geq_t, geq_f, eqi_t, eqi_f, nei_t, nei_f, rem_uw, conv_ui, conv_iu, conv_ii, not_bool, nil_ptr, fa_mk, ptrV, len_mk, cap_mk, eq_ptr_nil, ne_ptr_nil, eq_nil_nil, ne_nil_nil, eq_slice_nil, eq_nil_slice, ia_1]; exact so_so) ?_)
      exact same (.inr hx)
    · rw [decide_eq_false hx]
      have e : onceL l x = l ++ [x] := by unfold onceL; rw [if_neg (by rintro (q | q); exact h0 q; exact hx q)]
      rw [e] at hK
      have eb : bldV #[.int .i64 0] [(0, 1, .int .i64 x)] = some #[.int .i64 x] := rfl
      repeat (with_reducible first | refine vP_so ?_ | refine vB_t ?_ | refine vB_f ?_ | refine vE_tt ?_ | refine vE_ff ?_ | refine vE_tf ?_ | refine vE_ft ?_ | refine vE_u ?_ | refine vP_to (by simp (disch := omega) only [gdW_true, gdW_false, gB_true, gB_false, gB_undef, pickV_true, pickV_false, Bool.not_true, Bool.not_false, Option.map_some, bin_add, bin_sub, bin_mul, bin_quo, bin_rem, lss_t, lss_f, leq_t, leq_f, gtr_t, gtr_f, geq_t, geq_f, eqi_t, eqi_f, nei_t, nei_f, rem_uw, conv_ui, conv_iu, conv_ii, not_bool, nil_ptr, fa_mk, ptrV, len_mk, cap_mk, eq_ptr_nil, ne_ptr_nil, eq_nil_nil, ne_nil_nil, eq_slice_nil, eq_nil_slice, ia_1, l8, eb]; exact so_so) ?_)
      rw [eb]
      refine vA_new (f := fun r => .slice (some ⟨r, 0, none⟩) 1 1) hh fun r13 h2 hh2 => ?_
      refine ap_new iE (l := l) (m := [x]) (F := pt r8 (.cells #[ov] 22 (0, 0)) * F) elInt rfl rfl niInts rfl (by omega) (asr (by ac_rfl) hh2) rfl rfl (by simp only [List.length_singleton]; omega) fun v14 h3 hh3 => ?_
      refine st1_mk (asr (by ac_rfl) hh3 : (pt r8 (.cells #[ov] 22 (0, 0)) * (SG iE 3 v14 (l ++ [x]) * (F * tt))) h3) (SG_one iE hh3) (by simp) fun h4 hh4 => ?_
      exact hK h4 (OutS_intro hh4)

/-- What is asked of a view without objects. -/
theorem bare_rch {w : VW} (h : w.objs = []) {x : Int} : Rch w x ↔ w.root x := by
  constructor
  · intro q
    cases q with
    | root a b => exact ⟨a, b⟩
    | step _ h2 _ _ _ =>
      unfold VW.at at h2
      rw [h] at h2
      cases h2
  · intro q
    exact .root q.1 q.2

theorem bare_at {w : VW} (h : w.objs = []) (x : Int) : w.at x = none := by
  unfold VW.at
  rw [h]; rfl

theorem bare_reach {w : VW} (h : w.objs = []) {l : List Int} (hl : ReachL w l) : l = [] := by
  cases l with
  | nil => rfl
  | cons x t =>
    have := ((hl.2 x).1 (by simp)).2
    rw [bare_at h] at this
    cases this

theorem rootsL_mem {w : VW} {x : Int} : x ∈ w.rootsL ↔ w.root x := by unfold VW.rootsL VW.root; rw [foldl_once_mem]; simp

theorem bare_lost {w : VW} (h : w.objs = []) {l : List Int} (hl : LostL w l) : l.length = w.rootsL.length := by
  have h1 : ∀ x, x ∈ l ↔ x ∈ w.rootsL := fun x => by
    rw [hl.2, rootsL_mem, bare_rch h]
    exact ⟨fun q => q.1, fun q => ⟨q, bare_at h x⟩⟩
  have hn1 : l.Nodup := hl.1.imp fun h e => by omega
  have hn2 : w.rootsL.Nodup := foldl_once_nodup (by simp)
  have a := nodup_len hn1 fun x hx => (h1 x).1 hx
  have b := nodup_len hn2 fun x hx => (h1 x).2 hx
  omega

/-- A goroutine's row, and its stack. -/
abbrev Rg := (Int × Int × SlV) × List Int
def Rg.gr (p : Rg) : Gr := ⟨p.1.1, p.1.2.1, slv p.1.2.2, p.2⟩

theorem rows_gr (L : List Rg) : (L.map (·.1)).map grE.enc = (L.map Rg.gr).map Gr.row := by
  simp only [List.map_map]
  rfl

def rootW (gv : Value) (gl : List Int) (sv : Value) (L : List Rg) : VW := ⟨0, 0, 0, gv, gl, sv, L.map Rg.gr, .slice none 0 0, [], 0, 0, 0⟩

theorem rootW_new {gv sv sv' : Value} {gl : List Int} {L : List Rg} {c : Int × Int × SlV} : (rootW gv gl sv' (L ++ [(c, [])])).rootsL = (rootW gv gl sv L).rootsL := by
  unfold VW.rootsL VW.names rootW
  simp only [List.map_append, List.filter_append, List.flatMap_append, List.map_cons, List.map_nil]
  have e : (([Rg.gr (c, [])] : List Gr).filter live).flatMap (·.stack) = [] := by
    rw [List.filter_cons]
    split <;> rfl
  rw [e, List.append_nil]

theorem rootW_put {gv sv sv' : Value} {gl : List Int} {L : List Rg} {c c' : Int × Int × SlV} {st : List Int} {x : Int} (hc : c'.1 = c.1) :
    (rootW gv gl sv' (L ++ [(c', st ++ [x])])).rootsL = if c.1 = 5 then (rootW gv gl sv (L ++ [(c, st)])).rootsL else onceL (rootW gv gl sv (L ++ [(c, st)])).rootsL x := by
  unfold VW.rootsL VW.names rootW
  simp only [List.map_append, List.filter_append, List.flatMap_append, List.map_cons, List.map_nil]
  have e1 : ∀ (d : Int × Int × SlV) (s : List Int), (([Rg.gr (d, s)] : List Gr).filter live).flatMap (·.stack) = if d.1 = 5 then [] else s := fun d s => by
    rw [List.filter_cons]
    unfold live Rg.gr
    by_cases h : d.1 = 5
    · simp [h]
    · simp [h]
  rw [e1, e1, hc]
  by_cases h : c.1 = 5
  · rw [if_pos h, if_pos h, if_pos h]
  · rw [if_neg h, if_neg h, if_neg h]
    have e : ∀ A : List Int, gl ++ (A ++ (st ++ [x])) = (gl ++ (A ++ st)) ++ [x] := fun A => by simp
    rw [e, List.foldl_append]
    rfl

theorem set_last {α : Type} {l : List α} {a c : α} {n : Nat} (h : n = l.length) : (l ++ [a]).set n c = l ++ [c] := by
  subst h
  rw [List.set_append_right _ _ (Nat.le_refl _), Nat.sub_self]
  rfl

theorem get_last {α : Type} {l : List α} {a : α} {n : Nat} (h : n = l.length) : (l ++ [a])[n]? = some a := by
  subst h
  simp

theorem shr_some {a b : Int} (h : 0 ≤ b) : ∃ c, binV .shr (.int .i64 a) (.int .u64 b) = some (.int .i64 c) := by
  refine ⟨a.fdiv (2 ^ (min b.toNat IntKind.i64.bits)), ?_⟩
  show (if b < 0 then none else _) = _
  rw [if_neg (by omega)]

theorem flat_le {L : List Rg} {c : Nat} (h : ∀ p ∈ L, p.2.length ≤ c) : (((L.map Rg.gr).filter live).flatMap (·.stack)).length ≤ L.length * c := by
  have h1 := flatMap_len (f := fun r : Gr => r.stack) (l := (L.map Rg.gr).filter live) (c := c) fun r hr => by
    obtain ⟨p, hp, rfl⟩ := List.mem_map.1 (List.mem_filter.1 hr).1
    exact h p hp
  have h2 := List.length_filter_le live (L.map Rg.gr)
  rw [List.length_map] at h2
  exact Nat.le_trans h1 (Nat.mul_le_mul_right _ h2)

/-- The stacks, in memory: all but the last in G, the last in Y. -/
def StY (G : Hp) (L : List Rg) (Y : Asrt) : Prop := (L = [] ∧ Y = emp) ∨ ∃ (L0 : List Rg) (p : Rg), L = L0 ++ [p] ∧ Y = SG iE 3 (slv p.1.2.2) p.2 ∧ ∀ q ∈ L0, IntsAt G (slv q.1.2.2) q.2

theorem StY.all {G : Hp} {L : List Rg} {Y F : Asrt} {h : Hp} (hs : StY G L Y) (hh : (Y * (own G * F)) h) : ∃ G', (own G' * F) h ∧ ∀ q ∈ L, IntsAt G' (slv q.1.2.2) q.2 := by
  rcases hs with ⟨rfl, rfl⟩ | ⟨L0, p, rfl, rfl, h0⟩
  · rw [emp_star] at hh
    exact ⟨G, hh, by simp⟩
  · obtain ⟨g1, hg1, hh⟩ := own_pick hh
    obtain ⟨G', hh, t1, t2⟩ := own_two (asr (by ac_rfl) hh : (own G * (own g1 * F)) h)
    refine ⟨G', hh, fun q hq => ?_⟩
    rcases List.mem_append.1 hq with hq | hq
    · exact t1 (h0 q hq)
    · obtain rfl := List.mem_singleton.1 hq
      exact t2 (SG_ints (star_emp hg1))

theorem roots_tr (g : Hp) (sx : Value) (xs : List Int) (sy : Value) (ys : List Int) (dead : Int) (hx : IntsAt g sx xs) (hy : IntsAt g sy ys) : Tr Try.prog 6 #[sx, sy, .int .i64 dead] (own g) (fun v => pr (v = .bool true) * own g) := by
  refine Tr.of fun h hh => C6 ?_
  unfold D6
  have hxl := hx.len
  have hyl := hy.len
  have hxt := hx.lt
  have hyt := hy.lt
  have told : ∀ h', (own g * tt) h' → CallH Try.prog 13 #[] (fun v h => ((pr (v = Value.bool true) * own g) * tt) h) h' := fun h' q =>
    use_told29 (F := own g) q fun h3 hh3 => ret rfl hh3
  by_cases h10 : 10 < xs.length
  · repeat (with_reducible first | refine vP_so ?_ | refine vB_t ?_ | refine vB_f ?_ | refine vE_tt ?_ | refine vE_ff ?_ | refine vE_tf ?_ | refine vE_ft ?_ | refine vE_u ?_ | refine vP_to (by simp (disch := omega) only [gdW_true, gdW_false, gB_true, gB_false, gB_undef, pickV_true, pickV_false, Bool.not_true, Bool.not_false, Option.map_some, bin_add, bin_sub, bin_mul, bin_quo, bin_rem, lss_t, lss_f, leq_t, leq_f, gtr_t, gtr_f, geq_t, geq_f, eqi_t, eqi_f, nei_t, nei_f, rem_uw, conv_ui, conv_iu, conv_ii, not_bool, nil_ptr, fa_mk, ptrV, len_mk, cap_mk, eq_ptr_nil, ne_ptr_nil, eq_nil_nil, ne_nil_nil, eq_slice_nil, eq_nil_slice, ia_1, hxl]; exact so_so) ?_)
    exact told h hh
  by_cases h80 : 80 < ys.length
  · repeat (with_reducible first | refine vP_so ?_ | refine vB_t ?_ | refine vB_f ?_ | refine vE_tt ?_ | refine vE_ff ?_ | refine vE_tf ?_ | refine vE_ft ?_ | refine vE_u ?_ | refine vP_to (by simp (disch := omega) only [gdW_true, gdW_false, gB_true, gB_false, gB_undef, pickV_true, pickV_false, Bool.not_true, Bool.not_false, Option.map_some, bin_add, bin_sub, bin_mul, bin_quo, bin_rem, lss_t, lss_f, leq_t, leq_f, gtr_t, gtr_f, geq_t, geq_f, eqi_t, eqi_f, nei_t, nei_f, rem_uw, conv_ui, conv_iu, conv_ii, not_bool, nil_ptr, fa_mk, ptrV, len_mk, cap_mk, eq_ptr_nil, ne_ptr_nil, eq_nil_nil, ne_nil_nil, eq_slice_nil, eq_nil_slice, ia_1, hxl, hyl]; exact so_so) ?_)
    exact told h hh
  repeat (with_reducible first | refine vP_so ?_ | refine vB_t ?_ | refine vB_f ?_ | refine vE_tt ?_ | refine vE_ff ?_ | refine vE_tf ?_ | refine vE_ft ?_ | refine vE_u ?_ | refine vP_to (by simp (disch := omega) only [gdW_true, gdW_false, gB_true, gB_false, gB_undef, pickV_true, pickV_false, Bool.not_true, Bool.not_false, Option.map_some, bin_add, bin_sub, bin_mul, bin_quo, bin_rem, lss_t, lss_f, leq_t, leq_f, gtr_t, gtr_f, geq_t, geq_f, eqi_t, eqi_f, nei_t, nei_f, rem_uw, conv_ui, conv_iu, conv_ii, not_bool, nil_ptr, fa_mk, ptrV, len_mk, cap_mk, eq_ptr_nil, ne_ptr_nil, eq_nil_nil, ne_nil_nil, eq_slice_nil, eq_nil_slice, ia_1, hxl, hyl]; exact so_so) ?_)
  have eb : ∀ x : Int, bldV #[.int .i64 0] [(0, 1, .int .i64 x)] = some #[.int .i64 x] := fun _ => rfl
  refine vA_new (f := ptrV) hh fun r7 h2 hh2 => ?_
  refine vA_new (f := ptrV) hh2 fun r8 h3 hh3 => ?_
  obtain ⟨M, hM⟩ : ∃ M : Int → Int, M = fun y => urem y 10 := ⟨_, rfl⟩
  have hh3 : (SG iE 3 (.slice none 0 0) [] * (OutS r8 [] * (pt r7 (.cells (rootW (.slice none 0 0) [] (.slice none 0 0) []).cells 26 (0, 0)) * (own g * tt)))) h3 :=
    SG_nil iE (OutS_intro (ov := .slice none 0 0) (asr (by ac_rfl) (SG_nil iE (E := 3) hh3)))
  repeat (with_reducible first | refine vP_so ?_ | refine vB_t ?_ | refine vB_f ?_ | refine vE_tt ?_ | refine vE_ff ?_ | refine vE_tf ?_ | refine vE_ft ?_ | refine vE_u ?_ | refine vP_to (by simp (disch := omega) only [gdW_true, gdW_false, gB_true, gB_false, gB_undef, pickV_true, pickV_false, Bool.not_true, Bool.not_false, Option.map_some, bin_add, bin_sub, bin_mul, bin_quo, bin_rem, lss_t, lss_f, leq_t, leq_f, gtr_t, gtr_f, geq_t, geq_f, eqi_t, eqi_f, nei_t, nei_f, rem_uw, conv_ui, conv_iu, conv_ii, not_bool, nil_ptr, fa_mk, ptrV, len_mk, cap_mk, eq_ptr_nil, ne_ptr_nil, eq_nil_nil, ne_nil_nil, eq_slice_nil, eq_nil_slice, ia_1]; exact so_so) ?_)
  refine ⟨fun m zs h' => ∃ (i : Nat) (gv : Value), zs = [.int .i64 i] ∧ m = xs.length - i ∧ i ≤ xs.length ∧
      (SG iE 3 gv ((xs.take i).map M) * (OutS r8 (((xs.take i).map M).foldl onceL []) * (pt r7 (.cells (rootW gv ((xs.take i).map M) (.slice none 0 0) []).cells 26 (0, 0)) * (own g * tt)))) h', ⟨_, 0, _, rfl, rfl, by omega, hh3⟩, ?_⟩
  rintro m v10 h4 ⟨i, gv, hzs, rfl, hi, hh4⟩ _
  obtain rfl : v10 = .int .i64 i := by simpa using hzs
  by_cases hil : i < xs.length
  · have hx4 : IntsAt h4 sx xs := own_ints (F := SG iE 3 gv ((xs.take i).map M) * (OutS r8 (((xs.take i).map M).foldl onceL []) * (pt r7 (.cells (rootW gv ((xs.take i).map M) (.slice none 0 0) []).cells 26 (0, 0)) * tt))) (asr (by ac_rfl) hh4) hx
    obtain ⟨p, f1, f2⟩ := hx4.get i _ .i64 (List.getElem?_eq_getElem hil)
    have htk := List.take_succ_eq_append_getElem hil
    generalize xs[i] = x at *
    have hu := urem_lt (x := x) (b := 10) (by omega)
    have hMx : M x = urem x 10 := by rw [hM]
    have hlt : ((xs.take i).map M).length = i := by rw [List.length_map, List.length_take]; omega
    have hol := foldl_once_len (xs := (xs.take i).map M) (l := [])
    rw [hlt] at hol
    simp only [List.length_nil] at hol
    have hnext : (xs.take (i + 1)).map M = (xs.take i).map M ++ [urem x 10] := by rw [htk, List.map_append, List.map_cons, List.map_nil, hMx]
    have hfold : ((xs.take (i + 1)).map M).foldl onceL [] = onceL (((xs.take i).map M).foldl onceL []) (urem x 10) := by rw [hnext, List.foldl_append]; rfl
    have l7 := (vw_ld (r := r7) (w := rootW gv ((xs.take i).map M) (.slice none 0 0) []) (E := 26) (F := SG iE 3 gv ((xs.take i).map M) * (OutS r8 (((xs.take i).map M).foldl onceL []) * (own g * tt))) (asr (by ac_rfl) hh4)).2.2.2.1
    have l7 : ld1 (.pointer (some ⟨r7, 0 + 3, none⟩)) h4 = some gv := l7
    repeat (with_reducible first | refine vP_so ?_ | refine vB_t ?_ | refine vB_f ?_ | refine vE_tt ?_ | refine vE_ff ?_ | refine vE_tf ?_ | refine vE_ft ?_ | refine vE_u ?_ | refine vP_to (by simp (disch := omega) only [gdW_true, gdW_false, gB_true, gB_false, gB_undef, pickV_true, pickV_false, Bool.not_true, Bool.not_false, Option.map_some, bin_add, bin_sub, bin_mul, bin_quo, bin_rem, lss_t, lss_f, leq_t, leq_f, gtr_t, gtr_f, geq_t, geq_f, eqi_t, eqi_f, nei_t, nei_f, rem_uw, conv_ui, conv_iu, conv_ii, not_bool, nil_ptr, fa_mk, ptrV, len_mk, cap_mk, eq_ptr_nil, ne_ptr_nil, eq_nil_nil, ne_nil_nil, eq_slice_nil, eq_nil_slice, ia_1, hxl, f1, f2, conv_u .i64 x, l7, eb]; exact so_so) ?_)
    rw [eb]
    refine vA_new (f := fun r => .slice (some ⟨r, 0, none⟩) 1 1) hh4 fun r40 h5 hh5 => ?_
    refine ap_new iE (l := (xs.take i).map M) (m := [urem x 10]) (F := OutS r8 (((xs.take i).map M).foldl onceL []) * (pt r7 (.cells (rootW gv ((xs.take i).map M) (.slice none 0 0) []).cells 26 (0, 0)) * own g)) elInt rfl rfl niInts rfl (by omega) (asr (by ac_rfl) hh5) rfl rfl (by rw [hlt]; simp only [List.length_singleton]; omega) fun v41 h6 hh6 => ?_
    rw [← hnext] at hh6
    have o41 := SG_one iE hh6
    repeat (with_reducible first | refine vP_so ?_ | refine vB_t ?_ | refine vB_f ?_ | refine vE_tt ?_ | refine vE_ff ?_ | refine vE_tf ?_ | refine vE_ft ?_ | refine vE_u ?_ | refine vP_to (by simp (disch := omega) only [gdW_true, gdW_false, gB_true, gB_false, gB_undef, pickV_true, pickV_false, Bool.not_true, Bool.not_false, Option.map_some, bin_add, bin_sub, bin_mul, bin_quo, bin_rem, lss_t, lss_f, leq_t, leq_f, gtr_t, gtr_f, geq_t, geq_f, eqi_t, eqi_f, nei_t, nei_f, rem_uw, conv_ui, conv_iu, conv_ii, not_bool, nil_ptr, fa_mk, ptrV, len_mk, cap_mk, eq_ptr_nil, ne_ptr_nil, eq_nil_nil, ne_nil_nil, eq_slice_nil, eq_nil_slice, ia_1]; exact so_so) ?_)
    refine st1_mk (asr (by ac_rfl) hh6 : (pt r7 (.cells (rootW gv ((xs.take i).map M) (.slice none 0 0) []).cells 26 (0, 0)) * (SG iE 3 v41 ((xs.take (i + 1)).map M) * (OutS r8 (((xs.take i).map M).foldl onceL []) * (own g * tt)))) h6) o41 (by simp [VW.cells]) fun h7 hh7 => ?_
    have hh7 := pt_cst (c' := (rootW v41 ((xs.take (i + 1)).map M) (.slice none 0 0) []).cells) rfl hh7
    repeat (with_reducible first | refine vP_so ?_ | refine vB_t ?_ | refine vB_f ?_ | refine vE_tt ?_ | refine vE_ff ?_ | refine vE_tf ?_ | refine vE_ft ?_ | refine vE_u ?_ | refine vP_to (by simp (disch := omega) only [gdW_true, gdW_false, gB_true, gB_false, gB_undef, pickV_true, pickV_false, Bool.not_true, Bool.not_false, Option.map_some, bin_add, bin_sub, bin_mul, bin_quo, bin_rem, lss_t, lss_f, leq_t, leq_f, gtr_t, gtr_f, geq_t, geq_f, eqi_t, eqi_f, nei_t, nei_f, rem_uw, conv_ui, conv_iu, conv_ii, not_bool, nil_ptr, fa_mk, ptrV, len_mk, cap_mk, eq_ptr_nil, ne_ptr_nil, eq_nil_nil, ne_nil_nil, eq_slice_nil, eq_nil_slice, ia_1]; exact so_so) ?_)
    refine use_addw (l := ((xs.take i).map M).foldl onceL []) (F := pt r7 (.cells (rootW v41 ((xs.take (i + 1)).map M) (.slice none 0 0) []).cells 26 (0, 0)) * (SG iE 3 v41 ((xs.take (i + 1)).map M) * own g)) (by omega) (asr (by ac_rfl) hh7) fun h8 hh8 => ?_
    rw [← hfold] at hh8
    repeat (with_reducible first | refine vP_so ?_ | refine vB_t ?_ | refine vB_f ?_ | refine vE_tt ?_ | refine vE_ff ?_ | refine vE_tf ?_ | refine vE_ft ?_ | refine vE_u ?_ | refine vP_to (by simp (disch := omega) only [gdW_true, gdW_false, gB_true, gB_false, gB_undef, pickV_true, pickV_false, Bool.not_true, Bool.not_false, Option.map_some, bin_add, bin_sub, bin_mul, bin_quo, bin_rem, lss_t, lss_f, leq_t, leq_f, gtr_t, gtr_f, geq_t, geq_f, eqi_t, eqi_f, nei_t, nei_f, rem_uw, conv_ui, conv_iu, conv_ii, not_bool, nil_ptr, fa_mk, ptrV, len_mk, cap_mk, eq_ptr_nil, ne_ptr_nil, eq_nil_nil, ne_nil_nil, eq_slice_nil, eq_nil_slice, ia_1]; exact so_so) ?_)
    exact ⟨xs.length - (i + 1), by omega, i + 1, v41, by simp, rfl, by omega, asr (by ac_rfl) hh8⟩
  obtain rfl : i = xs.length := by omega
  rw [List.take_length] at hh4
  obtain ⟨gl, hgl⟩ : ∃ gl, gl = xs.map M := ⟨_, rfl⟩
  have hgll : gl.length ≤ 10 := by rw [hgl, List.length_map]; omega
  rw [← hgl] at hh4
  obtain ⟨X, hX⟩ : ∃ X : Asrt, X = SG iE 3 gv gl := ⟨_, rfl⟩
  have hwz : (gl.foldl onceL []).length ≤ gl.length := by
    have := foldl_once_len (xs := gl) (l := [])
    simpa using this
  have hh4 : (emp * (own Hp.emp * (SG grE 41 (.slice none 0 0) [] * (pt r7 (.cells (rootW gv gl (.slice none 0 0) []).cells 26 (0, 0)) * (OutS r8 (rootW gv gl (.slice none 0 0) []).rootsL * (X * (own g * tt))))))) h4 := by
    have e : (rootW gv gl (.slice none 0 0) []).rootsL = gl.foldl onceL [] := by
      unfold VW.rootsL VW.names rootW
      simp
    rw [e, hX, emp_star]
    exact own_emp (SG_nil grE (asr (by ac_rfl) hh4))
  repeat (with_reducible first | refine vP_so ?_ | refine vB_t ?_ | refine vB_f ?_ | refine vE_tt ?_ | refine vE_ff ?_ | refine vE_tf ?_ | refine vE_ft ?_ | refine vE_u ?_ | refine vP_to (by simp (disch := omega) only [gdW_true, gdW_false, gB_true, gB_false, gB_undef, pickV_true, pickV_false, Bool.not_true, Bool.not_false, Option.map_some, bin_add, bin_sub, bin_mul, bin_quo, bin_rem, lss_t, lss_f, leq_t, leq_f, gtr_t, gtr_f, geq_t, geq_f, eqi_t, eqi_f, nei_t, nei_f, rem_uw, conv_ui, conv_iu, conv_ii, not_bool, nil_ptr, fa_mk, ptrV, len_mk, cap_mk, eq_ptr_nil, ne_ptr_nil, eq_nil_nil, ne_nil_nil, eq_slice_nil, eq_nil_slice, ia_1, hxl]; exact so_so) ?_)
  refine ⟨fun m zs h' => ∃ (i : Nat) (sv : Value) (L : List Rg) (G : Hp) (Y : Asrt), zs = [.int .i64 i] ∧ m = ys.length - i ∧ i ≤ ys.length ∧ L.length = (i + 15) / 16 ∧ (∀ p ∈ L, p.2.length ≤ i) ∧ (rootW gv gl sv L).rootsL.length ≤ 10 + i ∧ StY G L Y ∧
      (Y * (own G * (SG grE 41 sv (L.map (·.1)) * (pt r7 (.cells (rootW gv gl sv L).cells 26 (0, 0)) * (OutS r8 (rootW gv gl sv L).rootsL * (X * (own g * tt))))))) h',
    ⟨_, 0, .slice none 0 0, [], Hp.emp, emp, rfl, rfl, by omega, rfl, by simp, by
      have e : (rootW gv gl (.slice none 0 0) []).rootsL = gl.foldl onceL [] := by
        unfold VW.rootsL VW.names rootW
        simp
      rw [e]; omega, .inl ⟨rfl, rfl⟩, hh4⟩, ?_⟩
  clear hh4 hzs hil hi hh3 hh2 hh
  rintro m v12 h9 ⟨i, sv, L, G, Y, hzs, rfl, hi, hLl, hLs, hWl, hSt, hh9⟩ _
  obtain rfl : v12 = .int .i64 i := by simpa using hzs
  by_cases hil : i < ys.length
  · have hy0 : ys[i]? = some ys[i] := List.getElem?_eq_getElem hil
    generalize ys[i] = y at *
    repeat (with_reducible first | refine vP_so ?_ | refine vB_t ?_ | refine vB_f ?_ | refine vE_tt ?_ | refine vE_ff ?_ | refine vE_tf ?_ | refine vE_ft ?_ | refine vE_u ?_ | refine vP_to (by simp (disch := omega) only [gdW_true, gdW_false, gB_true, gB_false, gB_undef, pickV_true, pickV_false, Bool.not_true, Bool.not_false, Option.map_some, bin_add, bin_sub, bin_mul, bin_quo, bin_rem, lss_t, lss_f, leq_t, leq_f, gtr_t, gtr_f, geq_t, geq_f, eqi_t, eqi_f, nei_t, nei_f, rem_uw, conv_ui, conv_iu, conv_ii, not_bool, nil_ptr, fa_mk, ptrV, len_mk, cap_mk, eq_ptr_nil, ne_ptr_nil, eq_nil_nil, ne_nil_nil, eq_slice_nil, eq_nil_slice, ia_1, hyl]; exact so_so) ?_)
    intro J3 hJ3
    have hK3 : ∀ (sv : Value) (L : List Rg) (G : Hp) (Y : Asrt) (h' : Hp), L.length = (i + 16) / 16 → (∀ p ∈ L, p.2.length ≤ i + 1) → (rootW gv gl sv L).rootsL.length ≤ 10 + (i + 1) → StY G L Y →
        (Y * (own G * (SG grE 41 sv (L.map (·.1)) * (pt r7 (.cells (rootW gv gl sv L).cells 26 (0, 0)) * (OutS r8 (rootW gv gl sv L).rootsL * (X * (own g * tt))))))) h' → J3 [] h' := fun sv L G Y h' c1 c2 c3 c4 c5 => by
      refine hJ3 _ fun _ => ?_
      repeat (with_reducible first | refine vP_so ?_ | refine vB_t ?_ | refine vB_f ?_ | refine vE_tt ?_ | refine vE_ff ?_ | refine vE_tf ?_ | refine vE_ft ?_ | refine vE_u ?_ | refine vP_to (by simp (disch := omega) only [gdW_true, gdW_false, gB_true, gB_false, gB_undef, pickV_true, pickV_false, Bool.not_true, Bool.not_false, Option.map_some, bin_add, bin_sub, bin_mul, bin_quo, bin_rem, lss_t, lss_f, leq_t, leq_f, gtr_t, gtr_f, geq_t, geq_f, eqi_t, eqi_f, nei_t, nei_f, rem_uw, conv_ui, conv_iu, conv_ii, not_bool, nil_ptr, fa_mk, ptrV, len_mk, cap_mk, eq_ptr_nil, ne_ptr_nil, eq_nil_nil, ne_nil_nil, eq_slice_nil, eq_nil_slice, ia_1]; exact so_so) ?_)
      exact ⟨ys.length - (i + 1), by omega, i + 1, sv, L, G, Y, by simp, rfl, by omega, c1, c2, c3, c4, c5⟩
    intro J4 hJ4
    have hK4 : ∀ (sv : Value) (L0 : List Rg) (c : Int × Int × SlV) (st : List Int) (G : Hp) (h' : Hp), L0.length = i / 16 → (∀ p ∈ L0, p.2.length ≤ i) → st.length ≤ i → (rootW gv gl sv (L0 ++ [(c, st)])).rootsL.length ≤ 10 + i → (∀ q ∈ L0, IntsAt G (slv q.1.2.2) q.2) →
        (SG iE 3 (slv c.2.2) st * (own G * (SG grE 41 sv ((L0 ++ [(c, st)]).map (·.1)) * (pt r7 (.cells (rootW gv gl sv (L0 ++ [(c, st)])).cells 26 (0, 0)) * (OutS r8 (rootW gv gl sv (L0 ++ [(c, st)])).rootsL * (X * (own g * tt))))))) h' → J4 [] h' := fun sv L0 c st G h' c1 c2 c3 c4 c5 q => by
      refine hJ4 _ fun _ => ?_
      obtain ⟨W, hW⟩ : ∃ W, W = (rootW gv gl sv (L0 ++ [(c, st)])).rootsL := ⟨_, rfl⟩
      rw [← hW] at q c4
      have hmap : (L0 ++ [(c, st)]).map (·.1) = L0.map (·.1) ++ [c] := by simp
      have hn0 : L0.length = (L0.map (·.1)).length := by simp
      rw [hmap] at q
      have hdiv : ((i : Int) / 16) = (L0.length : Int) := by rw [c1]; omega
      have hyq : IntsAt h' sy ys := own_ints (F := SG iE 3 (slv c.2.2) st * (own G * (SG grE 41 sv (L0.map (·.1) ++ [c]) * (pt r7 (.cells (rootW gv gl sv (L0 ++ [(c, st)])).cells 26 (0, 0)) * (OutS r8 W * (X * tt)))))) (asr (by ac_rfl) q) hy
      obtain ⟨p, f1, f2⟩ := hyq.get i y .i64 hy0
      have hu := urem_lt (x := y) (b := 10) (by omega)
      have l7 := (vw_ld (r := r7) (w := rootW gv gl sv (L0 ++ [(c, st)])) (E := 26) (F := SG iE 3 (slv c.2.2) st * (own G * (SG grE 41 sv (L0.map (·.1) ++ [c]) * (OutS r8 W * (X * (own g * tt)))))) (asr (by ac_rfl) q)).2.2.2.2.1
      have l7 : ld1 (.pointer (some ⟨r7, 0 + 4, none⟩)) h' = some sv := l7
      have hG : (SG grE 41 sv (L0.map (·.1) ++ [c]) * (SG iE 3 (slv c.2.2) st * (own G * (pt r7 (.cells (rootW gv gl sv (L0 ++ [(c, st)])).cells 26 (0, 0)) * (OutS r8 W * (X * (own g * tt))))))) h' := asr (by ac_rfl) q
      obtain ⟨b0, o0, e1, e2, _, _, _⟩ := elG grE hG (i := L0.length) (get_last hn0) .i64
      have e1 : iaS 3 sv (.int .i64 ((i : Int) / 16)) = some (.pointer (some ⟨b0, o0, none⟩)) := by rw [hdiv]; exact e1
      have e2 : ld1 (.pointer (some ⟨b0, o0 + 2, none⟩)) h' = some (slv c.2.2) := e2 2 _ rfl
      repeat (with_reducible first | refine vP_so ?_ | refine vB_t ?_ | refine vB_f ?_ | refine vE_tt ?_ | refine vE_ff ?_ | refine vE_tf ?_ | refine vE_ft ?_ | refine vE_u ?_ | refine vP_to (by simp (disch := omega) only [gdW_true, gdW_false, gB_true, gB_false, gB_undef, pickV_true, pickV_false, Bool.not_true, Bool.not_false, Option.map_some, bin_add, bin_sub, bin_mul, bin_quo, bin_rem, lss_t, lss_f, leq_t, leq_f, gtr_t, gtr_f, geq_t, geq_f, eqi_t, eqi_f, nei_t, nei_f, rem_uw, conv_ui, conv_iu, conv_ii, not_bool, nil_ptr, fa_mk, ptrV, len_mk, cap_mk, eq_ptr_nil, ne_ptr_nil, eq_nil_nil, ne_nil_nil, eq_slice_nil, eq_nil_slice, ia_1, f1, f2, conv_u .i64 y, l7, e1, e2, eb]; exact so_so) ?_)
      rw [eb]
      refine vA_new (f := fun r => .slice (some ⟨r, 0, none⟩) 1 1) q fun r93 h12 hh12 => ?_
      refine ap_new iE (l := st) (m := [urem y 10]) (F := own G * (SG grE 41 sv (L0.map (·.1) ++ [c]) * (pt r7 (.cells (rootW gv gl sv (L0 ++ [(c, st)])).cells 26 (0, 0)) * (OutS r8 W * (X * own g))))) elInt rfl rfl niInts rfl (by omega) (asr (by ac_rfl) hh12) rfl rfl (by simp only [List.length_singleton]; omega) fun v94 h13 hh13 => ?_
      have o94 := SG_one iE hh13
      obtain ⟨s94, hs94⟩ := SG_slv hh13
      have l13 := (vw_ld (r := r7) (w := rootW gv gl sv (L0 ++ [(c, st)])) (E := 26) (F := SG iE 3 v94 (st ++ [urem y 10]) * (own G * (SG grE 41 sv (L0.map (·.1) ++ [c]) * (OutS r8 W * (X * (own g * tt)))))) (asr (by ac_rfl) hh13)).2.2.2.2.1
      have l13 : ld1 (.pointer (some ⟨r7, 0 + 4, none⟩)) h13 = some sv := l13
      refine ⟨l13, ?_⟩
      have hG : (SG grE 41 sv (L0.map (·.1) ++ [c]) * (SG iE 3 v94 (st ++ [urem y 10]) * (own G * (pt r7 (.cells (rootW gv gl sv (L0 ++ [(c, st)])).cells 26 (0, 0)) * (OutS r8 W * (X * (own g * tt))))))) h13 := asr (by ac_rfl) hh13
      obtain ⟨b1, o1, d1, _, _, _, d5⟩ := elG grE hG (i := L0.length) (get_last hn0) .i64
      have d1 : iaS 3 sv (.int .i64 ((i : Int) / 16)) = some (.pointer (some ⟨b1, o1, none⟩)) := by rw [hdiv]; exact d1
      repeat (with_reducible first | refine vP_so ?_ | refine vB_t ?_ | refine vB_f ?_ | refine vE_tt ?_ | refine vE_ff ?_ | refine vE_tf ?_ | refine vE_ft ?_ | refine vE_u ?_ | refine vP_to (by simp (disch := omega) only [gdW_true, gdW_false, gB_true, gB_false, gB_undef, pickV_true, pickV_false, Bool.not_true, Bool.not_false, Option.map_some, bin_add, bin_sub, bin_mul, bin_quo, bin_rem, lss_t, lss_f, leq_t, leq_f, gtr_t, gtr_f, geq_t, geq_f, eqi_t, eqi_f, nei_t, nei_f, rem_uw, conv_ui, conv_iu, conv_ii, not_bool, nil_ptr, fa_mk, ptrV, len_mk, cap_mk, eq_ptr_nil, ne_ptr_nil, eq_nil_nil, ne_nil_nil, eq_slice_nil, eq_nil_slice, ia_1, d1]; exact so_so) ?_)
      refine d5 2 v94 (c.1, c.2.1, s94) _ (by show 2 < 3; omega) (by rw [hs94]; rfl) o94 fun h14 hh14 => ?_
      rw [set_last hn0] at hh14
      have l14 := (vw_ld (r := r7) (w := rootW gv gl sv (L0 ++ [(c, st)])) (E := 26) (F := SG iE 3 v94 (st ++ [urem y 10]) * (own G * (SG grE 41 sv (L0.map (·.1) ++ [(c.1, c.2.1, s94)]) * (OutS r8 W * (X * (own g * tt)))))) (asr (by ac_rfl) hh14)).2.2.2.2.1
      have l14 : ld1 (.pointer (some ⟨r7, 0 + 4, none⟩)) h14 = some sv := l14
      obtain ⟨b2, o2, g1, g2, _, _, _⟩ := elG grE hh14 (i := L0.length) (get_last hn0) .i64
      have g1 : iaS 3 sv (.int .i64 ((i : Int) / 16)) = some (.pointer (some ⟨b2, o2, none⟩)) := by rw [hdiv]; exact g1
      have g2 : ld1 (.pointer (some ⟨b2, o2 + 0, none⟩)) h14 = some (.int .i64 c.1) := g2 0 _ rfl
      have hput := rootW_put (gv := gv) (sv := sv) (sv' := sv) (gl := gl) (L := L0) (c := c) (c' := (c.1, c.2.1, s94)) (st := st) (x := urem y 10) rfl
      rw [← hW] at hput
      have hmap2 : (L0 ++ [((c.1, c.2.1, s94), st ++ [urem y 10])]).map (·.1) = L0.map (·.1) ++ [(c.1, c.2.1, s94)] := by simp
      have go3 : ∀ (W' : List Int) (h' : Hp), W' = (rootW gv gl sv (L0 ++ [((c.1, c.2.1, s94), st ++ [urem y 10])])).rootsL → W'.length ≤ 10 + (i + 1) →
          (SG grE 41 sv (L0.map (·.1) ++ [(c.1, c.2.1, s94)]) * (SG iE 3 v94 (st ++ [urem y 10]) * (own G * (pt r7 (.cells (rootW gv gl sv (L0 ++ [(c, st)])).cells 26 (0, 0)) * (OutS r8 W' * (X * (own g * tt))))))) h' → J3 [] h' := fun W' h' k1 k2 k3 => by
        refine hK3 sv (L0 ++ [((c.1, c.2.1, s94), st ++ [urem y 10])]) G (SG iE 3 v94 (st ++ [urem y 10])) h' (by simp; omega) (fun p hp => ?_) (k1 ▸ k2) (.inr ⟨L0, _, rfl, by rw [hs94], c5⟩) ?_
        · rcases List.mem_append.1 hp with hp | hp
          · have := c2 p hp; omega
          · obtain rfl := List.mem_singleton.1 hp
            show (st ++ [urem y 10]).length ≤ i + 1
            simp; omega
        · rw [hmap2, ← k1]
          have e : (rootW gv gl sv (L0 ++ [((c.1, c.2.1, s94), st ++ [urem y 10])])).cells = (rootW gv gl sv (L0 ++ [(c, st)])).cells := rfl
          rw [e]
          exact asr (by ac_rfl) k3
      by_cases hc5 : c.1 = 5
      · rw [if_pos hc5] at hput
        repeat (with_reducible first | refine vP_so ?_ | refine vB_t ?_ | refine vB_f ?_ | refine vE_tt ?_ | refine vE_ff ?_ | refine vE_tf ?_ | refine vE_ft ?_ | refine vE_u ?_ | refine vP_to (by simp (disch := omega) only [gdW_true, gdW_false, gB_true, gB_false, gB_undef, pickV_true, pickV_false, Bool.not_true, Bool.not_false, Option.map_some, bin_add, bin_sub, bin_mul, bin_quo, bin_rem, lss_t, lss_f, leq_t, leq_f, gtr_t, gtr_f, geq_t, geq_f, eqi_t, eqi_f, nei_t, nei_f, rem_uw, conv_ui, conv_iu, conv_ii, not_bool, nil_ptr, fa_mk, ptrV, len_mk, cap_mk, eq_ptr_nil, ne_ptr_nil, eq_nil_nil, ne_nil_nil, eq_slice_nil, eq_nil_slice, ia_1, l14, g1, g2]; exact so_so) ?_)
        exact go3 W h14 hput.symm (by omega) hh14
      · rw [if_neg hc5] at hput
        have hol := onceL_len W (urem y 10)
        repeat (with_reducible first | refine vP_so ?_ | refine vB_t ?_ | refine vB_f ?_ | refine vE_tt ?_ | refine vE_ff ?_ | refine vE_tf ?_ | refine vE_ft ?_ | refine vE_u ?_ | refine vP_to (by simp (disch := omega) only [gdW_true, gdW_false, gB_true, gB_false, gB_undef, pickV_true, pickV_false, Bool.not_true, Bool.not_false, Option.map_some, bin_add, bin_sub, bin_mul, bin_quo, bin_rem, lss_t, lss_f, leq_t, leq_f, gtr_t, gtr_f, geq_t, geq_f, eqi_t, eqi_f, nei_t, nei_f, rem_uw, conv_ui, conv_iu, conv_ii, not_bool, nil_ptr, fa_mk, ptrV, len_mk, cap_mk, eq_ptr_nil, ne_ptr_nil, eq_nil_nil, ne_nil_nil, eq_slice_nil, eq_nil_slice, ia_1, l14, g1, g2]; exact so_so) ?_)
        refine use_addw (l := W) (F := SG grE 41 sv (L0.map (·.1) ++ [(c.1, c.2.1, s94)]) * (SG iE 3 v94 (st ++ [urem y 10]) * (own G * (pt r7 (.cells (rootW gv gl sv (L0 ++ [(c, st)])).cells 26 (0, 0)) * (X * own g))))) (by omega) (asr (by ac_rfl) hh14) fun h15 hh15 => ?_
        exact go3 (onceL W (urem y 10)) h15 hput.symm (by omega) (asr (by ac_rfl) hh15)
    by_cases h16 : i % 16 = 0
    · obtain ⟨G', hh9, hG'⟩ := hSt.all hh9
      have l9 := (vw_ld (r := r7) (w := rootW gv gl sv L) (E := 26) (F := own G' * (SG grE 41 sv (L.map (·.1)) * (OutS r8 (rootW gv gl sv L).rootsL * (X * (own g * tt))))) (asr (by ac_rfl) hh9)).2.2.2.2.1
      have l9 : ld1 (.pointer (some ⟨r7, 0 + 4, none⟩)) h9 = some sv := l9
      repeat (with_reducible first | refine vP_so ?_ | refine vB_t ?_ | refine vB_f ?_ | refine vE_tt ?_ | refine vE_ff ?_ | refine vE_tf ?_ | refine vE_ft ?_ | refine vE_u ?_ | refine vP_to (by simp (disch := omega) only [gdW_true, gdW_false, gB_true, gB_false, gB_undef, pickV_true, pickV_false, Bool.not_true, Bool.not_false, Option.map_some, bin_add, bin_sub, bin_mul, bin_quo, bin_rem, lss_t, lss_f, leq_t, leq_f, gtr_t, gtr_f, geq_t, geq_f, eqi_t, eqi_f, nei_t, nei_f, rem_uw, conv_ui, conv_iu, conv_ii, not_bool, nil_ptr, fa_mk, ptrV, len_mk, cap_mk, eq_ptr_nil, ne_ptr_nil, eq_nil_nil, ne_nil_nil, eq_slice_nil, eq_nil_slice, ia_1, l9]; exact so_so) ?_)
      refine vP_to (x := .agg #[.int .i64 1, .int .i64 (-1), .slice none 0 0]) rfl ?_
      have b2 : bldV #[(Value.int .i64 0), (Value.int .i64 0), (Value.slice none 0 0)] [(0, 3, .agg #[.int .i64 1, .int .i64 (-1), .slice none 0 0])] = some #[.int .i64 1, .int .i64 (-1), .slice none 0 0] := rfl
      rw [b2]
      refine vA_new (f := fun r => .slice (some ⟨r, 0, none⟩) 1 1) hh9 fun r58 h16' hh16 => ?_
      refine ap_new grE (l := L.map (·.1)) (m := [(1, -1, (none, 0, 0))]) (F := own G' * (pt r7 (.cells (rootW gv gl sv L).cells 26 (0, 0)) * (OutS r8 (rootW gv gl sv L).rootsL * (X * own g)))) elGr rfl rfl niGs rfl (by omega) (asr (by ac_rfl) hh16) rfl rfl (by rw [List.length_map, hLl]; simp only [List.length_singleton]; omega) fun v59 h17 hh17 => ?_
      have o59 := SG_one grE hh17
      repeat (with_reducible first | refine vP_so ?_ | refine vB_t ?_ | refine vB_f ?_ | refine vE_tt ?_ | refine vE_ff ?_ | refine vE_tf ?_ | refine vE_ft ?_ | refine vE_u ?_ | refine vP_to (by simp (disch := omega) only [gdW_true, gdW_false, gB_true, gB_false, gB_undef, pickV_true, pickV_false, Bool.not_true, Bool.not_false, Option.map_some, bin_add, bin_sub, bin_mul, bin_quo, bin_rem, lss_t, lss_f, leq_t, leq_f, gtr_t, gtr_f, geq_t, geq_f, eqi_t, eqi_f, nei_t, nei_f, rem_uw, conv_ui, conv_iu, conv_ii, not_bool, nil_ptr, fa_mk, ptrV, len_mk, cap_mk, eq_ptr_nil, ne_ptr_nil, eq_nil_nil, ne_nil_nil, eq_slice_nil, eq_nil_slice, ia_1]; exact so_so) ?_)
      refine st1_mk (asr (by ac_rfl) hh17 : (pt r7 (.cells (rootW gv gl sv L).cells 26 (0, 0)) * (SG grE 41 v59 (L.map (·.1) ++ [(1, -1, (none, 0, 0))]) * (own G' * (OutS r8 (rootW gv gl sv L).rootsL * (X * (own g * tt)))))) h17) o59 (by simp [VW.cells]) fun h18 hh18 => ?_
      have hL0 : L.length = i / 16 := by omega
      have hn0 : L.length = (L.map (·.1)).length := by simp
      have hdiv : ((i : Int) / 16) = (L.length : Int) := by rw [hL0]; omega
      have hgo : ∀ (st : Int) (h' : Hp), (pt r7 (.cells (rootW gv gl v59 (L ++ [((st, -1, (none, 0, 0)), [])])).cells 26 (0, 0)) * (SG grE 41 v59 (L.map (·.1) ++ [(st, -1, (none, 0, 0))]) * (own G' * (OutS r8 (rootW gv gl sv L).rootsL * (X * (own g * tt)))))) h' → J4 [] h' := fun st h' q => by
        refine hK4 v59 L (st, -1, (none, 0, 0)) [] G' h' hL0 hLs (by simp) (by rw [rootW_new (sv := sv)]; exact hWl) hG' ?_
        rw [rootW_new (sv := sv), show (L ++ [(((st, -1, (none, 0, 0)) : Int × Int × SlV), ([] : List Int))]).map (·.1) = L.map (·.1) ++ [(st, -1, (none, 0, 0))] by simp]
        exact SG_nil iE (asr (by ac_rfl) q)
      obtain ⟨c2, hc2⟩ := shr_some (a := dead) (b := (i : Int) / 16) (by omega)
      obtain ⟨c3, hc3⟩ : ∃ c, binV .and (.int .i64 c2) (.int .i64 1) = some (.int .i64 c) := ⟨_, rfl⟩
      by_cases h31 : c3 = 1
      · have hh18 := pt_cst (c' := (rootW gv gl v59 (L ++ [((1, -1, (none, 0, 0)), [])])).cells) rfl hh18
        have l18 := (vw_ld (r := r7) (w := rootW gv gl v59 (L ++ [((1, -1, (none, 0, 0)), [])])) (E := 26) hh18).2.2.2.2.1
        have l18 : ld1 (.pointer (some ⟨r7, 0 + 4, none⟩)) h18 = some v59 := l18
        have hG : (SG grE 41 v59 (L.map (·.1) ++ [(1, -1, (none, 0, 0))]) * (pt r7 (.cells (rootW gv gl v59 (L ++ [((1, -1, (none, 0, 0)), [])])).cells 26 (0, 0)) * (own G' * (OutS r8 (rootW gv gl sv L).rootsL * (X * (own g * tt)))))) h18 := asr (by ac_rfl) hh18
        obtain ⟨b1, o1, d1, _, _, _, d5⟩ := elG grE hG (i := L.length) (get_last hn0) .i64
        have d1 : iaS 3 v59 (.int .i64 ((i : Int) / 16)) = some (.pointer (some ⟨b1, o1, none⟩)) := by rw [hdiv]; exact d1
        repeat (with_reducible first | refine vP_so ?_ | refine vB_t ?_ | refine vB_f ?_ | refine vE_tt ?_ | refine vE_ff ?_ | refine vE_tf ?_ | refine vE_ft ?_ | refine vE_u ?_ | refine vP_to (by simp (disch := omega) only [gdW_true, gdW_false, gB_true, gB_false, gB_undef, pickV_true, pickV_false, Bool.not_true, Bool.not_false, Option.map_some, bin_add, bin_sub, bin_mul, bin_quo, bin_rem, lss_t, lss_f, leq_t, leq_f, gtr_t, gtr_f, geq_t, geq_f, eqi_t, eqi_f, nei_t, nei_f, rem_uw, conv_ui, conv_iu, conv_ii, not_bool, nil_ptr, fa_mk, ptrV, len_mk, cap_mk, eq_ptr_nil, ne_ptr_nil, eq_nil_nil, ne_nil_nil, eq_slice_nil, eq_nil_slice, ia_1, hc2, hc3, l18, d1]; exact so_so) ?_)
        refine d5 0 (.int .i64 5) (5, -1, (none, 0, 0)) _ (by show 0 < 3; omega) rfl rfl fun h19 hh19 => ?_
        rw [set_last hn0] at hh19
        exact hgo 5 h19 (asr (by ac_rfl) hh19)
      · repeat (with_reducible first | refine vP_so ?_ | refine vB_t ?_ | refine vB_f ?_ | refine vE_tt ?_ | refine vE_ff ?_ | refine vE_tf ?_ | refine vE_ft ?_ | refine vE_u ?_ | refine vP_to (by simp (disch := omega) only [gdW_true, gdW_false, gB_true, gB_false, gB_undef, pickV_true, pickV_false, Bool.not_true, Bool.not_false, Option.map_some, bin_add, bin_sub, bin_mul, bin_quo, bin_rem, lss_t, lss_f, leq_t, leq_f, gtr_t, gtr_f, geq_t, geq_f, eqi_t, eqi_f, nei_t, nei_f, rem_uw, conv_ui, conv_iu, conv_ii, not_bool, nil_ptr, fa_mk, ptrV, len_mk, cap_mk, eq_ptr_nil, ne_ptr_nil, eq_nil_nil, ne_nil_nil, eq_slice_nil, eq_nil_slice, ia_1, hc2, hc3]; exact so_so) ?_)
        exact hgo 1 h18 (pt_cst rfl hh18)
    · repeat (with_reducible first | refine vP_so ?_ | refine vB_t ?_ | refine vB_f ?_ | refine vE_tt ?_ | refine vE_ff ?_ | refine vE_tf ?_ | refine vE_ft ?_ | refine vE_u ?_ | refine vP_to (by simp (disch := omega) only [gdW_true, gdW_false, gB_true, gB_false, gB_undef, pickV_true, pickV_false, Bool.not_true, Bool.not_false, Option.map_some, bin_add, bin_sub, bin_mul, bin_quo, bin_rem, lss_t, lss_f, leq_t, leq_f, gtr_t, gtr_f, geq_t, geq_f, eqi_t, eqi_f, nei_t, nei_f, rem_uw, conv_ui, conv_iu, conv_ii, not_bool, nil_ptr, fa_mk, ptrV, len_mk, cap_mk, eq_ptr_nil, ne_ptr_nil, eq_nil_nil, ne_nil_nil, eq_slice_nil, eq_nil_slice, ia_1]; exact so_so) ?_)
      rcases hSt with ⟨rfl, _⟩ | ⟨L0, p, rfl, rfl, h0⟩
      · simp at hLl; omega
      · refine hK4 sv L0 p.1 p.2 G h9 (by simp at hLl; omega) (fun q hq => hLs q (by simp [hq])) (hLs p (by simp)) hWl h0 hh9
  · obtain rfl : i = ys.length := by omega
    obtain ⟨G', hh9, hG'⟩ := hSt.all hh9
    obtain ⟨w, hw⟩ : ∃ w, w = rootW gv gl sv L := ⟨_, rfl⟩
    rw [← hw] at hh9
    have hh9 : (OutS r8 w.rootsL * (own G' * (SG grE 41 sv (L.map (·.1)) * (pt r7 (.cells w.cells 26 (0, 0)) * (X * (own g * tt)))))) h9 := asr (by ac_rfl) hh9
    obtain ⟨ov, hh9⟩ := OutS_elim hh9
    obtain ⟨g2, hg2, hh9⟩ := own_pick (A := pt r8 (.cells #[ov] 22 (0, 0)) * (SG iE 3 ov w.rootsL * (own G' * (SG grE 41 sv (L.map (·.1)) * (pt r7 (.cells w.cells 26 (0, 0)) * (X * own g)))))) (F := emp * tt) (asr (by rw [emp_star]; ac_rfl) hh9)
    have a1 : (SG iE 3 ov w.rootsL * (pt r8 (.cells #[ov] 22 (0, 0)) * (own G' * (SG grE 41 sv (L.map (·.1)) * (pt r7 (.cells w.cells 26 (0, 0)) * (X * own g)))))) g2 := asr (by ac_rfl) hg2
    have a2 : (own G' * (pt r8 (.cells #[ov] 22 (0, 0)) * (SG iE 3 ov w.rootsL * (SG grE 41 sv (L.map (·.1)) * (pt r7 (.cells w.cells 26 (0, 0)) * (X * own g)))))) g2 := asr (by ac_rfl) hg2
    have a3 : (SG grE 41 sv (L.map (·.1)) * (pt r8 (.cells #[ov] 22 (0, 0)) * (SG iE 3 ov w.rootsL * (own G' * (pt r7 (.cells w.cells 26 (0, 0)) * (X * own g)))))) g2 := asr (by ac_rfl) hg2
    have a4 : (pt r7 (.cells w.cells 26 (0, 0)) * (pt r8 (.cells #[ov] 22 (0, 0)) * (SG iE 3 ov w.rootsL * (own G' * (SG grE 41 sv (L.map (·.1)) * (X * own g)))))) g2 := asr (by ac_rfl) hg2
    have a5 : (X * (pt r8 (.cells #[ov] 22 (0, 0)) * (SG iE 3 ov w.rootsL * (own G' * (SG grE 41 sv (L.map (·.1)) * (pt r7 (.cells w.cells 26 (0, 0)) * own g)))))) g2 := asr (by ac_rfl) hg2
    rw [hX] at a5
    have iW : IntsAt g2 ov w.rootsL := SG_ints a1
    have hv2 : VAt g2 w := by
      rw [hw]
      refine ⟨SG_ints a5, ?_, rows_nil _, by simp [rootW], fun r hr => ?_⟩
      · have := SG_rows grE a3
        rw [rows_gr] at this
        exact this
      · obtain ⟨p, hp, rfl⟩ := List.mem_map.1 hr
        exact own_ints a2 (hG' p hp)
    have hobj : w.objs = [] := by rw [hw]; rfl
    have hN2 : w.all.length ≤ 1000000 := by
      have h1 := flat_le (c := 80) (L := L) fun p hp => by have := hLs p hp; omega
      rw [hw]
      unfold VW.all VW.names rootW
      simp only [List.length_append, List.flatMap_nil, List.length_nil]
      have : L.length * 80 ≤ 5 * 80 := Nat.mul_le_mul_right _ (by omega)
      omega
    have l7 := (vw_ld (r := r7) (w := w) (E := 26) a4).2.2.2.2.2.2.2.2.2
    have l8 : ld1 (.pointer (some ⟨r8, 0, none⟩)) g2 = some ov := ld1_mk (pt_get hg2) rfl
    have fin : ∀ h', (own g2 * (emp * tt)) h' → ((pr (Value.bool true = Value.bool true) * own g) * tt) h' := fun h' q => by
      have q := own_back hg2 q
      exact ret rfl (dropL (P := pt r8 (.cells #[ov] 22 (0, 0)) * (SG iE 3 ov w.rootsL * (own G' * (SG grE 41 sv (L.map (·.1)) * (pt r7 (.cells w.cells 26 (0, 0)) * X))))) (Q := own g) (asr (by rw [emp_star]; ac_rfl) q))
    clear a1 a2 a3 a4 a5 hg2
    repeat (with_reducible first | refine vP_so ?_ | refine vB_t ?_ | refine vB_f ?_ | refine vE_tt ?_ | refine vE_ff ?_ | refine vE_tf ?_ | refine vE_ft ?_ | refine vE_u ?_ | refine vP_to (by simp (disch := omega) only [gdW_true, gdW_false, gB_true, gB_false, gB_undef, pickV_true, pickV_false, Bool.not_true, Bool.not_false, Option.map_some, bin_add, bin_sub, bin_mul, bin_quo, bin_rem, lss_t, lss_f, leq_t, leq_f, gtr_t, gtr_f, geq_t, geq_f, eqi_t, eqi_f, nei_t, nei_f, rem_uw, conv_ui, conv_iu, conv_ii, not_bool, nil_ptr, fa_mk, ptrV, len_mk, cap_mk, eq_ptr_nil, ne_ptr_nil, eq_nil_nil, ne_nil_nil, eq_slice_nil, eq_nil_slice, ia_1, hyl]; exact so_so) ?_)
    refine use_told29 (F := own g2) (asr (by rw [emp_star]) hh9) fun h20 hh20 => ?_
    have hh20 : (own g2 * (emp * tt)) h20 := asr (by rw [emp_star]) hh20
    repeat (with_reducible first | refine vP_so ?_ | refine vB_t ?_ | refine vB_f ?_ | refine vE_tt ?_ | refine vE_ff ?_ | refine vE_tf ?_ | refine vE_ft ?_ | refine vE_u ?_ | refine vP_to (by simp (disch := omega) only [gdW_true, gdW_false, gB_true, gB_false, gB_undef, pickV_true, pickV_false, Bool.not_true, Bool.not_false, Option.map_some, bin_add, bin_sub, bin_mul, bin_quo, bin_rem, lss_t, lss_f, leq_t, leq_f, gtr_t, gtr_f, geq_t, geq_f, eqi_t, eqi_f, nei_t, nei_f, rem_uw, conv_ui, conv_iu, conv_ii, not_bool, nil_ptr, fa_mk, ptrV, len_mk, cap_mk, eq_ptr_nil, ne_ptr_nil, eq_nil_nil, ne_nil_nil, eq_slice_nil, eq_nil_slice, ia_1, own_ldN hh20 l7, own_ld1 hh20 l8]; exact so_so) ?_)
    refine use_roots (F := emp) hv2 hN2 hh20 fun v111 h21 hh21 => ?_
    have i111 : IntsAt h21 v111 w.rootsL := SG_ints hh21
    have hh21 : (own g2 * (emp * tt)) h21 := dropL (P := SG iE 3 v111 w.rootsL) (Q := own g2) (asr (by rw [emp_star]) hh21) |> asr (by rw [emp_star])
    refine ⟨own_ld1 hh21 l8, ?_⟩
    repeat (with_reducible first | refine vP_so ?_ | refine vB_t ?_ | refine vB_f ?_ | refine vE_tt ?_ | refine vE_ff ?_ | refine vE_tf ?_ | refine vE_ft ?_ | refine vE_u ?_ | refine vP_to (by simp (disch := omega) only [gdW_true, gdW_false, gB_true, gB_false, gB_undef, pickV_true, pickV_false, Bool.not_true, Bool.not_false, Option.map_some, bin_add, bin_sub, bin_mul, bin_quo, bin_rem, lss_t, lss_f, leq_t, leq_f, gtr_t, gtr_f, geq_t, geq_f, eqi_t, eqi_f, nei_t, nei_f, rem_uw, conv_ui, conv_iu, conv_ii, not_bool, nil_ptr, fa_mk, ptrV, len_mk, cap_mk, eq_ptr_nil, ne_ptr_nil, eq_nil_nil, ne_nil_nil, eq_slice_nil, eq_nil_slice, ia_1]; exact so_so) ?_)
    refine use_ints i111 (own_ints hh21 iW) ?_
    rw [decide_eq_true rfl]
    repeat (with_reducible first | refine vP_so ?_ | refine vB_t ?_ | refine vB_f ?_ | refine vE_tt ?_ | refine vE_ff ?_ | refine vE_tf ?_ | refine vE_ft ?_ | refine vE_u ?_ | refine vP_to (by simp (disch := omega) only [gdW_true, gdW_false, gB_true, gB_false, gB_undef, pickV_true, pickV_false, Bool.not_true, Bool.not_false, Option.map_some, bin_add, bin_sub, bin_mul, bin_quo, bin_rem, lss_t, lss_f, leq_t, leq_f, gtr_t, gtr_f, geq_t, geq_f, eqi_t, eqi_f, nei_t, nei_f, rem_uw, conv_ui, conv_iu, conv_ii, not_bool, nil_ptr, fa_mk, ptrV, len_mk, cap_mk, eq_ptr_nil, ne_ptr_nil, eq_nil_nil, ne_nil_nil, eq_slice_nil, eq_nil_slice, ia_1, own_ldN hh21 l7]; exact so_so) ?_)
    refine use_reach hv2 hN2 hh21 fun v117 rl h23 hrl _ hh23 => ?_
    obtain rfl := bare_reach hobj hrl
    have len23 := SG_len iE hh23
    simp only [List.length_nil] at len23
    have hh23 : (own g2 * (emp * tt)) h23 := dropL (P := SG iE 3 v117 []) (Q := own g2) (asr (by rw [emp_star]) hh23) |> asr (by rw [emp_star])
    have lenW := iW.len
    repeat (with_reducible first | refine vP_so ?_ | refine vB_t ?_ | refine vB_f ?_ | refine vE_tt ?_ | refine vE_ff ?_ | refine vE_tf ?_ | refine vE_ft ?_ | refine vE_u ?_ | refine vP_to (by simp (disch := omega) only [gdW_true, gdW_false, gB_true, gB_false, gB_undef, pickV_true, pickV_false, Bool.not_true, Bool.not_false, Option.map_some, bin_add, bin_sub, bin_mul, bin_quo, bin_rem, lss_t, lss_f, leq_t, leq_f, gtr_t, gtr_f, geq_t, geq_f, eqi_t, eqi_f, nei_t, nei_f, rem_uw, conv_ui, conv_iu, conv_ii, not_bool, nil_ptr, fa_mk, ptrV, len_mk, cap_mk, eq_ptr_nil, ne_ptr_nil, eq_nil_nil, ne_nil_nil, eq_slice_nil, eq_nil_slice, ia_1, len23, own_ldN hh23 l7, own_ld1 hh23 l8, lenW]; exact so_so) ?_)
    refine use_lost hv2 hN2 hh23 fun v123 ll h24 hll _ hh24 => ?_
    have len24 := SG_len iE hh24
    have hbl := bare_lost hobj hll
    have hh24 : (own g2 * (emp * tt)) h24 := dropL (P := SG iE 3 v123 ll) (Q := own g2) (asr (by rw [emp_star]) hh24) |> asr (by rw [emp_star])
    refine ⟨own_ld1 hh24 l8, ?_⟩
    repeat (with_reducible first | refine vP_so ?_ | refine vB_t ?_ | refine vB_f ?_ | refine vE_tt ?_ | refine vE_ff ?_ | refine vE_tf ?_ | refine vE_ft ?_ | refine vE_u ?_ | refine vP_to (by simp (disch := omega) only [gdW_true, gdW_false, gB_true, gB_false, gB_undef, pickV_true, pickV_false, Bool.not_true, Bool.not_false, Option.map_some, bin_add, bin_sub, bin_mul, bin_quo, bin_rem, lss_t, lss_f, leq_t, leq_f, gtr_t, gtr_f, geq_t, geq_f, eqi_t, eqi_f, nei_t, nei_f, rem_uw, conv_ui, conv_iu, conv_ii, not_bool, nil_ptr, fa_mk, ptrV, len_mk, cap_mk, eq_ptr_nil, ne_ptr_nil, eq_nil_nil, ne_nil_nil, eq_slice_nil, eq_nil_slice, ia_1, len24]; exact so_so) ?_)
    exact fin h24 hh24

end Go.Proofs
