/-
  Texts of the proof, in one file: VwSort, Vw3, Vw4, Vr1, Vr2, A1, A2, A3, A4, Vr3.
-/
import Derived.Test.YtdcoflglkfbpcaaB6
import Derived.Test.YtdcoflglkfbpcaaB7
import Derived.Test.YtdcoflglkfbpcaaB3
import Derived.Shelf.SortG.Plain
import Derived.Shelf.SortG.SortNone
import Derived.Test.YtdcoflglkfbpcaaProg
set_option linter.unusedVariables false
set_option linter.unusedSimpArgs false
/-
  The library's contract on slices.Sort, laid at this program: the renaming and its fields were written by the kit's own command.
-/
set_option maxRecDepth 100000
namespace Go.Proofs
open Go.Sl

def sortL_ren : Go.Shelf.Ren := ⟨fun | 53 => 68 | 64 => 85 | 63 => 84 | 78 => 99 | 79 => 100 | 70 => 90 | 71 => 91 | 72 => 92 | 73 => 93 | 74 => 94 | 75 => 95 | 59 => 96 | 76 => 97 | 77 => 98 | 88 => 101 | 89 => 102 | 90 => 103 | 91 => 104 | 92 => 105 | 68 => 106 | 96 => 107 | n => n, fun | 22 => 22 | 23 => 3 | 3 => 3 | 51 => 31 | 0 => 0 | 67 => 93 | 69 => 95 | 4 => 4 | 61 => 87 | 60 => 86 | 44 => 57 | 5 => 5 | 9 => 9 | 75 => 96 | 79 => 100 | 83 => 102 | 84 => 103 | n => n, fun | n => n⟩
theorem sortL : Go.Proofs.SlLaysN.n53 Try.prog sortL_ren where
  mixed := by kernel_rfl
  f53 := ⟨ "slices.Sort[[]int,int]", by decide, Try.func68.trans (congrArg some (by kernel_rfl))⟩
  f59 := ⟨ "cmp.Less[int]", by decide, Try.func96.trans (congrArg some (by kernel_rfl))⟩
  f63 := ⟨ "slices.pdqsortOrdered[int]", by decide, Try.func84.trans (congrArg some (by kernel_rfl))⟩
  f64 := Try.func85.trans (congrArg some (by kernel_rfl))
  f68 := ⟨ "cmp.isNaN[int]", by decide, Try.func106.trans (congrArg some (by kernel_rfl))⟩
  f70 := ⟨ "slices.insertionSortOrdered[int]", by decide, Try.func90.trans (congrArg some (by kernel_rfl))⟩
  f71 := ⟨ "slices.heapSortOrdered[int]", by decide, Try.func91.trans (congrArg some (by kernel_rfl))⟩
  f72 := ⟨ "slices.breakPatternsOrdered[int]", by decide, Try.func92.trans (congrArg some (by kernel_rfl))⟩
  f73 := ⟨ "slices.choosePivotOrdered[int]", by decide, Try.func93.trans (congrArg some (by kernel_rfl))⟩
  f74 := ⟨ "slices.reverseRangeOrdered[int]", by decide, Try.func94.trans (congrArg some (by kernel_rfl))⟩
  f75 := ⟨ "slices.partialInsertionSortOrdered[int]", by decide, Try.func95.trans (congrArg some (by kernel_rfl))⟩
  f76 := ⟨ "slices.partitionEqualOrdered[int]", by decide, Try.func97.trans (congrArg some (by kernel_rfl))⟩
  f77 := ⟨ "slices.partitionOrdered[int]", by decide, Try.func98.trans (congrArg some (by kernel_rfl))⟩
  f78 := Try.func99.trans (congrArg some (by kernel_rfl))
  f79 := Try.func100.trans (congrArg some (by kernel_rfl))
  f88 := ⟨ "slices.siftDownOrdered[int]", by decide, Try.func101.trans (congrArg some (by kernel_rfl))⟩
  f89 := Try.func102.trans (congrArg some (by kernel_rfl))
  f90 := Try.func103.trans (congrArg some (by kernel_rfl))
  f91 := ⟨ "slices.medianAdjacentOrdered[int]", by decide, Try.func104.trans (congrArg some (by kernel_rfl))⟩
  f92 := ⟨ "slices.medianOrdered[int]", by decide, Try.func105.trans (congrArg some (by kernel_rfl))⟩
  f96 := ⟨ "slices.order2Ordered[int]", by decide, Try.func107.trans (congrArg some (by kernel_rfl))⟩
  t0 := Try.underlying0
  a0 := Try.isAgg0
  z0 := Try.sizeOf0
  v0 := Try.zeroValue0
  t3 := Try.underlying3
  a3 := Try.isAgg3
  z3 := Try.sizeOf3
  v3 := Try.zeroValue3
  t4 := Try.underlying4
  a4 := Try.isAgg4
  z4 := Try.sizeOf4
  v4 := Try.zeroValue4
  t5 := Try.underlying5
  a5 := Try.isAgg5
  z5 := Try.sizeOf5
  v5 := Try.zeroValue5
  t9 := Try.underlying9
  a9 := Try.isAgg9
  z9 := Try.sizeOf9
  v9 := Try.zeroValue9
  t22 := Try.underlying22
  a22 := Try.isAgg22
  z22 := Try.sizeOf22
  v22 := Try.zeroValue22
  t23 := Try.underlying3
  a23 := Try.isAgg3
  z23 := Try.sizeOf3
  v23 := Try.zeroValue3
  t44 := Try.underlying57
  a44 := Try.isAgg57
  z44 := Try.sizeOf57
  v44 := Try.zeroValue57
  t51 := Try.underlying31
  a51 := Try.isAgg31
  z51 := Try.sizeOf31
  v51 := Try.zeroValue31
  t60 := Try.underlying86
  a60 := Try.isAgg86
  z60 := Try.sizeOf86
  v60 := Try.zeroValue86
  t61 := Try.underlying87
  a61 := Try.isAgg87
  z61 := Try.sizeOf87
  v61 := Try.zeroValue87
  t67 := Try.underlying93
  a67 := Try.isAgg93
  z67 := Try.sizeOf93
  v67 := Try.zeroValue93
  t69 := Try.underlying95
  a69 := Try.isAgg95
  z69 := Try.sizeOf95
  v69 := Try.zeroValue95
  t75 := Try.underlying96
  a75 := Try.isAgg96
  z75 := Try.sizeOf96
  v75 := Try.zeroValue96
  t79 := Try.underlying100
  a79 := Try.isAgg100
  z79 := Try.sizeOf100
  v79 := Try.zeroValue100
  t83 := Try.underlying102
  a83 := Try.isAgg102
  z83 := Try.sizeOf102
  v83 := Try.zeroValue102
  t84 := Try.underlying103
  a84 := Try.isAgg103
  z84 := Try.sizeOf103
  v84 := Try.zeroValue103


theorem sortC : SortC Try.prog 68 :=
  ⟨fun blk off cap zs w hH hb hl => AnyG.slices_Sort_int sortL blk off cap zs w hH hb hl, fun p cap w => AnyG.slices_Sort_int_none sortL p cap w⟩

end Go.Proofs

/-
  Contracts of package view: walk, Reach, Lost, White.
-/
set_option maxRecDepth 100000
namespace Go.Proofs
open Go.Sl

theorem atM_at (w : VW) (x : Int) : atM w.objs x = (w.at x).map fun (i : Nat) => Value.int .i64 (i : Int) := rfl

/-- What the walk knows when i of those that were named have been looked at. -/
structure WInv (w : VW) (i : Nat) (l lost there : List Int) : Prop where
  nodup : l.Nodup
  rch : ∀ x ∈ l, Rch w x
  names : ∀ x ∈ w.names, x ≠ 0 → x ∈ l
  closed : ∀ (j : Nat) x k o y, j < i → l[j]? = some x → w.at x = some k → w.objs[k]? = some o → y ∈ o.slots → y ≠ 0 → y ∈ l
  lost : lost = (l.take i).filter fun x => (w.at x).isNone
  there : there = (l.take i).filter fun x => (w.at x).isSome

theorem WInv.done {w : VW} {l lost there : List Int} (h : WInv w l.length l lost there) : (∀ x, x ∈ l ↔ Rch w x) ∧ lost.Nodup ∧ there.Nodup ∧ (∀ x, x ∈ lost ↔ Rch w x ∧ w.at x = none) ∧ (∀ x, x ∈ there ↔ Rch w x ∧ (w.at x).isSome = true) := by
  have hl : ∀ x, x ∈ l ↔ Rch w x := fun x => ⟨h.rch x, fun hr => by
    induction hr with
    | root h1 h2 => exact h.names _ h1 h2
    | step h1 h2 h3 h4 h5 ih =>
      obtain ⟨j, hj, e⟩ := List.getElem_of_mem ih
      exact h.closed j _ _ _ _ hj (by rw [List.getElem?_eq_getElem hj, e]) h2 h3 h4 h5⟩
  have e1 := h.lost
  have e2 := h.there
  rw [List.take_length] at e1 e2
  refine ⟨hl, e1 ▸ h.nodup.filter _, e2 ▸ h.nodup.filter _, fun x => ?_, fun x => ?_⟩
  · rw [e1, List.mem_filter, hl]
    simp
  · rw [e2, List.mem_filter, hl]

theorem use_walk {g : Hp} {w : VW} {F : Asrt} {K : Value → Hp → Prop} {h : Hp} (hv : VAt g w) (hN : w.all.length ≤ 1000000) (hh : (own g * (F * tt)) h)
    (hK : ∀ v2 v3 there lost h', Rise there → Rise lost → (∀ x, x ∈ there ↔ Rch w x ∧ (w.at x).isSome = true) → (∀ x, x ∈ lost ↔ Rch w x ∧ w.at x = none) → there.length ≤ 1000000 → lost.length ≤ 1000000 →
      (SG iE 3 v2 there * (SG iE 3 v3 lost * (own g * (F * tt)))) h' → K (.tuple #[v2, v3]) h') : CallH Try.prog 46 #[w.val] K h := by
  refine C46 ?_
  unfold D46
  refine vA_new (o := .cells w.cells 26 (0, 0)) hh fun r1 h1 hh1 => ?_
  have l9 := (vw_ld (r := r1) (w := w) (E := 26) hh1).2.2.2.2.2.2.2.2.2
  repeat (with_reducible first | refine vP_so ?_ | refine vB_t ?_ | refine vB_f ?_ | refine vE_tt ?_ | refine vE_ff ?_ | refine vE_tf ?_ | refine vE_ft ?_ | refine vE_u ?_ | refine vP_to (by simp (disch := omega) only [gdW_true, gdW_false, gB_true, gB_false, gB_undef, pickV_true, pickV_false, Bool.not_true, Bool.not_false, Option.map_some, bin_add, bin_sub, bin_mul, bin_quo, bin_rem, lss_t, lss_f, leq_t, leq_f, gtr_t, gtr_f, geq_t, geq_f, eqi_t, eqi_f, nei_t, nei_f, rem_uw, conv_ui, conv_iu, conv_ii, not_bool, nil_ptr, fa_mk, ptrV, len_mk, cap_mk, eq_ptr_nil, ne_ptr_nil, eq_nil_nil, ne_nil_nil, eq_slice_nil, eq_nil_slice, ia_1, l9]; exact so_so) ?_)
  refine use_places (F := pt r1 (.cells w.cells 26 (0, 0)) * F) hv (asr (by ac_rfl) hh1) fun r15 h2 hh2 => ?_
  have l9 := (vw_ld (r := r1) (w := w) (E := 26) (F := MP r15 (atM w.objs) * (own g * (F * tt))) (asr (by ac_rfl) hh2)).2.2.2.2.2.2.2.2.2
  repeat (with_reducible first | refine vP_so ?_ | refine vB_t ?_ | refine vB_f ?_ | refine vE_tt ?_ | refine vE_ff ?_ | refine vE_tf ?_ | refine vE_ft ?_ | refine vE_u ?_ | refine vP_to (by simp (disch := omega) only [gdW_true, gdW_false, gB_true, gB_false, gB_undef, pickV_true, pickV_false, Bool.not_true, Bool.not_false, Option.map_some, bin_add, bin_sub, bin_mul, bin_quo, bin_rem, lss_t, lss_f, leq_t, leq_f, gtr_t, gtr_f, geq_t, geq_f, eqi_t, eqi_f, nei_t, nei_f, rem_uw, conv_ui, conv_iu, conv_ii, not_bool, nil_ptr, fa_mk, ptrV, len_mk, cap_mk, eq_ptr_nil, ne_ptr_nil, eq_nil_nil, ne_nil_nil, eq_slice_nil, eq_nil_slice, ia_1, l9]; exact so_so) ?_)
  refine use_roots (F := MP r15 (atM w.objs) * (pt r1 (.cells w.cells 26 (0, 0)) * F)) hv hN (asr (by ac_rfl) hh2) fun v17 h3 hh3 => ?_
  have hroots : ∀ x, x ∈ w.rootsL ↔ x ∈ w.names ∧ x ≠ 0 := fun x => by unfold VW.rootsL; rw [foldl_once_mem]; simp
  have hrnd : w.rootsL.Nodup := foldl_once_nodup (by simp)
  generalize w.rootsL = rl at *
  refine vA_new (f := fun r => .map (some r)) hh3 fun r18 h4 hh4 => ?_
  have hh4 := MP_new hh4
  refine mu_MP mapII intU hh4 fun h5 hh5 => ?_
  have hset : (fun x => if x = 0 then some (Value.int .i64 1) else (none : Option Value)) = setM (0 :: []) := by
    funext x; unfold setM; simp
  rw [hset] at hh5
  have hlen17 := SG_len iE (F := MP r18 (setM [0]) * (own g * (MP r15 (atM w.objs) * (pt r1 (.cells w.cells 26 (0, 0)) * F) * tt))) (asr (by ac_rfl) hh5 : (SG iE 3 v17 rl * _) h5)
  repeat (with_reducible first | refine vP_so ?_ | refine vB_t ?_ | refine vB_f ?_ | refine vE_tt ?_ | refine vE_ff ?_ | refine vE_tf ?_ | refine vE_ft ?_ | refine vE_u ?_ | refine vP_to (by simp (disch := omega) only [gdW_true, gdW_false, gB_true, gB_false, gB_undef, pickV_true, pickV_false, Bool.not_true, Bool.not_false, Option.map_some, bin_add, bin_sub, bin_mul, bin_quo, bin_rem, lss_t, lss_f, leq_t, leq_f, gtr_t, gtr_f, geq_t, geq_f, eqi_t, eqi_f, nei_t, nei_f, rem_uw, conv_ui, conv_iu, conv_ii, not_bool, nil_ptr, fa_mk, ptrV, len_mk, cap_mk, eq_ptr_nil, ne_ptr_nil, eq_nil_nil, ne_nil_nil, eq_slice_nil, eq_nil_slice, ia_1, hlen17]; exact so_so) ?_)
  refine ⟨fun m zs h' => ∃ i : Nat, zs = [.int .i64 i] ∧ m = rl.length - i ∧ i ≤ rl.length ∧ (MP r18 (setM (0 :: rl.take i)) * (SG iE 3 v17 rl * (own g * (MP r15 (atM w.objs) * (pt r1 (.cells w.cells 26 (0, 0)) * F) * tt)))) h', ⟨_, 0, rfl, rfl, by omega, hh5⟩, ?_⟩
  rintro m v22 h6 ⟨i, hzs, rfl, hi, hh6⟩ _
  obtain rfl : v22 = .int .i64 i := by simpa using hzs
  have hS6 : (SG iE 3 v17 rl * (MP r18 (setM (0 :: rl.take i)) * (own g * (MP r15 (atM w.objs) * (pt r1 (.cells w.cells 26 (0, 0)) * F) * tt)))) h6 := asr (by ac_rfl) hh6
  have hrlt := SG_lt iE hS6
  by_cases hil : i < rl.length
  · obtain ⟨p, f1, f2, _⟩ := el1 hS6 (List.getElem?_eq_getElem hil) .i64
    have hset : setM (rl[i] :: 0 :: rl.take i) = setM (0 :: rl.take (i + 1)) := by
      refine setM_congr fun x => ?_
      rw [List.take_succ_eq_append_getElem hil]
      simp only [List.mem_cons, List.mem_append, List.not_mem_nil, or_false]
      constructor
      · rintro (h | h | h)
        · exact .inr (.inr h)
        · exact .inl h
        · exact .inr (.inl h)
      · rintro (h | h | h)
        · exact .inr (.inl h)
        · exact .inr (.inr h)
        · exact .inl h
    generalize rl[i] = x at *
    repeat (with_reducible first | refine vP_so ?_ | refine vB_t ?_ | refine vB_f ?_ | refine vE_tt ?_ | refine vE_ff ?_ | refine vE_tf ?_ | refine vE_ft ?_ | refine vE_u ?_ | refine vP_to (by simp (disch := omega) only [gdW_true, gdW_false, gB_true, gB_false, gB_undef, pickV_true, pickV_false, Bool.not_true, Bool.not_false, Option.map_some, bin_add, bin_sub, bin_mul, bin_quo, bin_rem, lss_t, lss_f, leq_t, leq_f, gtr_t, gtr_f, geq_t, geq_f, eqi_t, eqi_f, nei_t, nei_f, rem_uw, conv_ui, conv_iu, conv_ii, not_bool, nil_ptr, fa_mk, ptrV, len_mk, cap_mk, eq_ptr_nil, ne_ptr_nil, eq_nil_nil, ne_nil_nil, eq_slice_nil, eq_nil_slice, ia_1, f1, f2]; exact so_so) ?_)
    refine mu_MP mapII intU hh6 fun h7 hh7 => ?_
    rw [setM_put, hset] at hh7
    repeat (with_reducible first | refine vP_so ?_ | refine vB_t ?_ | refine vB_f ?_ | refine vE_tt ?_ | refine vE_ff ?_ | refine vE_tf ?_ | refine vE_ft ?_ | refine vE_u ?_ | refine vP_to (by simp (disch := omega) only [gdW_true, gdW_false, gB_true, gB_false, gB_undef, pickV_true, pickV_false, Bool.not_true, Bool.not_false, Option.map_some, bin_add, bin_sub, bin_mul, bin_quo, bin_rem, lss_t, lss_f, leq_t, leq_f, gtr_t, gtr_f, geq_t, geq_f, eqi_t, eqi_f, nei_t, nei_f, rem_uw, conv_ui, conv_iu, conv_ii, not_bool, nil_ptr, fa_mk, ptrV, len_mk, cap_mk, eq_ptr_nil, ne_ptr_nil, eq_nil_nil, ne_nil_nil, eq_slice_nil, eq_nil_slice, ia_1]; exact so_so) ?_)
    exact ⟨rl.length - (i + 1), by omega, i + 1, by simp, rfl, by omega, hh7⟩
  obtain rfl : i = rl.length := by omega
  rw [List.take_length] at hh6
  repeat (with_reducible first | refine vP_so ?_ | refine vB_t ?_ | refine vB_f ?_ | refine vE_tt ?_ | refine vE_ff ?_ | refine vE_tf ?_ | refine vE_ft ?_ | refine vE_u ?_ | refine vP_to (by simp (disch := omega) only [gdW_true, gdW_false, gB_true, gB_false, gB_undef, pickV_true, pickV_false, Bool.not_true, Bool.not_false, Option.map_some, bin_add, bin_sub, bin_mul, bin_quo, bin_rem, lss_t, lss_f, leq_t, leq_f, gtr_t, gtr_f, geq_t, geq_f, eqi_t, eqi_f, nei_t, nei_f, rem_uw, conv_ui, conv_iu, conv_ii, not_bool, nil_ptr, fa_mk, ptrV, len_mk, cap_mk, eq_ptr_nil, ne_ptr_nil, eq_nil_nil, ne_nil_nil, eq_slice_nil, eq_nil_slice, ia_1]; exact so_so) ?_)
  clear hh5 hh4 hh3 hh2 hh1 hS6
  refine ⟨fun m zs h' => ∃ (i : Nat) (v5 v3 v2 : Value) (l lost there : List Int), zs = [.int .i64 i, v5, v3, v2] ∧ m = w.all.length - i ∧ i ≤ l.length ∧ l.length ≤ w.all.length ∧ WInv w i l lost there ∧
      (MP r18 (setM (0 :: l)) * (SG iE 3 v5 l * (SG iE 3 v3 lost * (SG iE 3 v2 there * (own g * (MP r15 (atM w.objs) * (pt r1 (.cells w.cells 26 (0, 0)) * F) * tt)))))) h',
    ⟨_, 0, v17, .slice none 0 0, .slice none 0 0, rl, [], [], rfl, rfl, by omega, nodup_len hrnd fun x hx => (Rch.root ((hroots x).1 hx).1 ((hroots x).1 hx).2).all,
      ⟨hrnd, fun x hx => .root ((hroots x).1 hx).1 ((hroots x).1 hx).2, fun x hx h0 => (hroots x).2 ⟨hx, h0⟩, fun j _ _ _ _ hj => by omega, by simp, by simp⟩,
      asr (by ac_rfl) (SG_nil iE (E := 3) (SG_nil iE (E := 3) hh6))⟩, ?_⟩
  clear hlen17 hh6 hroots hrnd hrlt
  rintro m v9 v5 v3 v2 h8 ⟨i, v5', v3', v2', l, lost, there, hzs, rfl, hi, hln, hI, hh8⟩ _
  obtain ⟨rfl, rfl, rfl, rfl⟩ : v9 = .int .i64 i ∧ v5 = v5' ∧ v3 = v3' ∧ v2 = v2' := by simpa using hzs
  have hS5 : (SG iE 3 v5 l * (MP r18 (setM (0 :: l)) * (SG iE 3 v3 lost * (SG iE 3 v2 there * (own g * (MP r15 (atM w.objs) * (pt r1 (.cells w.cells 26 (0, 0)) * F) * tt)))))) h8 := asr (by ac_rfl) hh8
  have hlen5 := SG_len iE hS5
  have hll : lost.length ≤ l.length := by rw [hI.lost]; exact Nat.le_trans (List.length_filter_le ..) (by rw [List.length_take]; omega)
  have hlt : there.length ≤ l.length := by rw [hI.there]; exact Nat.le_trans (List.length_filter_le ..) (by rw [List.length_take]; omega)
  by_cases hil : i < l.length
  · obtain ⟨p, f1, f2, _⟩ := el1 hS5 (List.getElem?_eq_getElem hil) .i64
    have hgx : l[i]? = some l[i] := List.getElem?_eq_getElem hil
    have htk := List.take_succ_eq_append_getElem hil
    have hrx := hI.rch _ (List.getElem_mem hil)
    generalize l[i] = x at *
    repeat (with_reducible first | refine vP_so ?_ | refine vB_t ?_ | refine vB_f ?_ | refine vE_tt ?_ | refine vE_ff ?_ | refine vE_tf ?_ | refine vE_ft ?_ | refine vE_u ?_ | refine vP_to (by simp (disch := omega) only [gdW_true, gdW_false, gB_true, gB_false, gB_undef, pickV_true, pickV_false, Bool.not_true, Bool.not_false, Option.map_some, bin_add, bin_sub, bin_mul, bin_quo, bin_rem, lss_t, lss_f, leq_t, leq_f, gtr_t, gtr_f, geq_t, geq_f, eqi_t, eqi_f, nei_t, nei_f, rem_uw, conv_ui, conv_iu, conv_ii, not_bool, nil_ptr, fa_mk, ptrV, len_mk, cap_mk, eq_ptr_nil, ne_ptr_nil, eq_nil_nil, ne_nil_nil, eq_slice_nil, eq_nil_slice, ia_1, hlen5]; exact so_so) ?_)
    intro J3 hJ3
    have hJ : ∀ v5' v3' v2' l' lost' there' h', l'.length ≤ w.all.length → l.length ≤ l'.length → WInv w (i + 1) l' lost' there' → (MP r18 (setM (0 :: l')) * (SG iE 3 v5' l' * (SG iE 3 v3' lost' * (SG iE 3 v2' there' * (own g * (MP r15 (atM w.objs) * (pt r1 (.cells w.cells 26 (0, 0)) * F) * tt)))))) h' → J3 [v5', v3', v2'] h' := by
      intro v5' v3' v2' l' lost' there' h' a1 a1' a2 a3
      refine hJ3 _ _ _ _ fun _ => ?_
      repeat (with_reducible first | refine vP_so ?_ | refine vB_t ?_ | refine vB_f ?_ | refine vE_tt ?_ | refine vE_ff ?_ | refine vE_tf ?_ | refine vE_ft ?_ | refine vE_u ?_ | refine vP_to (by simp (disch := omega) only [gdW_true, gdW_false, gB_true, gB_false, gB_undef, pickV_true, pickV_false, Bool.not_true, Bool.not_false, Option.map_some, bin_add, bin_sub, bin_mul, bin_quo, bin_rem, lss_t, lss_f, leq_t, leq_f, gtr_t, gtr_f, geq_t, geq_f, eqi_t, eqi_f, nei_t, nei_f, rem_uw, conv_ui, conv_iu, conv_ii, not_bool, nil_ptr, fa_mk, ptrV, len_mk, cap_mk, eq_ptr_nil, ne_ptr_nil, eq_nil_nil, ne_nil_nil, eq_slice_nil, eq_nil_slice, ia_1]; exact so_so) ?_)
      exact ⟨w.all.length - (i + 1), by omega, i + 1, v5', v3', v2', l', lost', there', rfl, rfl, by omega, a1, a2, a3⟩
    have hm15 : (MP r15 (atM w.objs) * (MP r18 (setM (0 :: l)) * (SG iE 3 v5 l * (SG iE 3 v3 lost * (SG iE 3 v2 there * (own g * (pt r1 (.cells w.cells 26 (0, 0)) * F * tt))))))) h8 := asr (by ac_rfl) hh8
    obtain ⟨_, hlk⟩ := lk_MP (k := x) mapII intU zInt hm15
    rw [atM_at] at hlk
    have x0 : ∀ a b : Value, exV (.tuple #[a, b]) 0 = some a := fun _ _ => rfl
    have x1 : ∀ a b : Value, exV (.tuple #[a, b]) 1 = some b := fun _ _ => rfl
    have eb : bldV #[.int .i64 0] [(0, 1, .int .i64 x)] = some #[.int .i64 x] := rfl
    cases hat : w.at x with
    | none =>
      rw [hat] at hlk
      simp only [Option.map_none, Option.getD_none, Option.isSome_none] at hlk
      repeat (with_reducible first | refine vP_so ?_ | refine vB_t ?_ | refine vB_f ?_ | refine vE_tt ?_ | refine vE_ff ?_ | refine vE_tf ?_ | refine vE_ft ?_ | refine vE_u ?_ | refine vP_to (by simp (disch := omega) only [gdW_true, gdW_false, gB_true, gB_false, gB_undef, pickV_true, pickV_false, Bool.not_true, Bool.not_false, Option.map_some, bin_add, bin_sub, bin_mul, bin_quo, bin_rem, lss_t, lss_f, leq_t, leq_f, gtr_t, gtr_f, geq_t, geq_f, eqi_t, eqi_f, nei_t, nei_f, rem_uw, conv_ui, conv_iu, conv_ii, not_bool, nil_ptr, fa_mk, ptrV, len_mk, cap_mk, eq_ptr_nil, ne_ptr_nil, eq_nil_nil, ne_nil_nil, eq_slice_nil, eq_nil_slice, ia_1, f1, f2, hlk, x0, x1, eb]; exact so_so) ?_)
      refine vA_new (f := fun r => .slice (some ⟨r, 0, none⟩) 1 1) hh8 fun r51 h10 hh10 => ?_
      refine ap_new iE (l := lost) (m := [x]) (F := MP r18 (setM (0 :: l)) * (SG iE 3 v5 l * (SG iE 3 v2 there * (own g * (MP r15 (atM w.objs) * (pt r1 (.cells w.cells 26 (0, 0)) * F)))))) elInt rfl rfl niInts rfl (by omega) (asr (by ac_rfl) hh10) rfl rfl (by simp only [List.length_singleton]; omega) fun v52 h11 hh11 => ?_
      refine hJ v5 v52 v2 l (lost ++ [x]) there h11 hln (Nat.le_refl _) ⟨hI.nodup, hI.rch, hI.names, fun j y k o z hj hy hk ho hz h0 => ?_, ?_, ?_⟩ (asr (by ac_rfl) hh11)
      · by_cases hji : j = i
        · subst hji
          obtain rfl : x = y := Option.some.inj (hgx.symm.trans hy)
          rw [hat] at hk; cases hk
        · exact hI.closed j y k o z (by omega) hy hk ho hz h0
      · rw [htk, List.filter_append, ← hI.lost]; simp [hat]
      · rw [htk, List.filter_append, ← hI.there]; simp [hat]
    | some k =>
      rw [hat] at hlk
      simp only [Option.map_some, Option.getD_some, Option.isSome_some] at hlk
      obtain ⟨o, ho, hoa⟩ := at_some hat
      repeat (with_reducible first | refine vP_so ?_ | refine vB_t ?_ | refine vB_f ?_ | refine vE_tt ?_ | refine vE_ff ?_ | refine vE_tf ?_ | refine vE_ft ?_ | refine vE_u ?_ | refine vP_to (by simp (disch := omega) only [gdW_true, gdW_false, gB_true, gB_false, gB_undef, pickV_true, pickV_false, Bool.not_true, Bool.not_false, Option.map_some, bin_add, bin_sub, bin_mul, bin_quo, bin_rem, lss_t, lss_f, leq_t, leq_f, gtr_t, gtr_f, geq_t, geq_f, eqi_t, eqi_f, nei_t, nei_f, rem_uw, conv_ui, conv_iu, conv_ii, not_bool, nil_ptr, fa_mk, ptrV, len_mk, cap_mk, eq_ptr_nil, ne_ptr_nil, eq_nil_nil, ne_nil_nil, eq_slice_nil, eq_nil_slice, ia_1, f1, f2, hlk, x0, x1, eb]; exact so_so) ?_)
      refine vA_new (f := fun r => .slice (some ⟨r, 0, none⟩) 1 1) hh8 fun r58 h12 hh12 => ?_
      refine ap_new iE (l := there) (m := [x]) (F := MP r18 (setM (0 :: l)) * (SG iE 3 v5 l * (SG iE 3 v3 lost * (own g * (MP r15 (atM w.objs) * (pt r1 (.cells w.cells 26 (0, 0)) * F)))))) elInt rfl rfl niInts rfl (by omega) (asr (by ac_rfl) hh12) rfl rfl (by simp only [List.length_singleton]; omega) fun v59 h13 hh13 => ?_
      have l5 := (vw_ld (r := r1) (w := w) (E := 26) (F := SG iE 3 v59 (there ++ [x]) * (MP r18 (setM (0 :: l)) * (SG iE 3 v5 l * (SG iE 3 v3 lost * (own g * (MP r15 (atM w.objs) * (F * tt))))))) (asr (by ac_rfl) hh13)).2.2.2.2.2.1
      have hw13 := own_vat (F := SG iE 3 v59 (there ++ [x]) * (MP r18 (setM (0 :: l)) * (SG iE 3 v5 l * (SG iE 3 v3 lost * (MP r15 (atM w.objs) * (pt r1 (.cells w.cells 26 (0, 0)) * F * tt)))))) (asr (by ac_rfl) hh13) hv
      obtain ⟨b, q, e1, _, e3, _, _⟩ := hw13.obj ho .i64
      have hsl := hv.slots o (List.mem_of_getElem? ho)
      have hsllen : ∀ y ∈ o.slots, y ∈ w.all := fun y hy => by
        unfold VW.all
        rw [List.mem_append]
        exact .inr (List.mem_flatMap.2 ⟨o, List.mem_of_getElem? ho, hy⟩)
      have hlt66 := hsl.lt
      repeat (with_reducible first | refine vP_so ?_ | refine vB_t ?_ | refine vB_f ?_ | refine vE_tt ?_ | refine vE_ff ?_ | refine vE_tf ?_ | refine vE_ft ?_ | refine vE_u ?_ | refine vP_to (by simp (disch := omega) only [gdW_true, gdW_false, gB_true, gB_false, gB_undef, pickV_true, pickV_false, Bool.not_true, Bool.not_false, Option.map_some, bin_add, bin_sub, bin_mul, bin_quo, bin_rem, lss_t, lss_f, leq_t, leq_f, gtr_t, gtr_f, geq_t, geq_f, eqi_t, eqi_f, nei_t, nei_f, rem_uw, conv_ui, conv_iu, conv_ii, not_bool, nil_ptr, fa_mk, ptrV, len_mk, cap_mk, eq_ptr_nil, ne_ptr_nil, eq_nil_nil, ne_nil_nil, eq_slice_nil, eq_nil_slice, ia_1, l5, e1, e3, hsl.len]; exact so_so) ?_)
      refine ⟨fun m zs h' => ∃ (j : Nat) (v5 : Value), zs = [.int .i64 j, v5] ∧ m = o.slots.length - j ∧ j ≤ o.slots.length ∧
          (MP r18 (setM (0 :: (o.slots.take j).foldl onceL l)) * (SG iE 3 v5 ((o.slots.take j).foldl onceL l) * (SG iE 3 v3 lost * (SG iE 3 v59 (there ++ [x]) * (own g * (MP r15 (atM w.objs) * (pt r1 (.cells w.cells 26 (0, 0)) * F) * tt)))))) h',
        ⟨_, 0, v5, rfl, rfl, by omega, asr (by ac_rfl) hh13⟩, ?_⟩
      rintro m v67 v5b h14 ⟨j, v5c, hzs, rfl, hj, hh14⟩ _
      obtain ⟨rfl, rfl⟩ : v67 = .int .i64 j ∧ v5b = v5c := by simpa using hzs
      have hfn : ((o.slots.take j).foldl onceL l).Nodup := foldl_once_nodup hI.nodup
      have hfr : ∀ y ∈ (o.slots.take j).foldl onceL l, Rch w y := fun y hy => by
        rcases foldl_once_mem.1 hy with h | ⟨h, h0⟩
        · exact hI.rch y h
        · exact .step hrx hat ho (List.mem_of_mem_take h) h0
      have hflen : ((o.slots.take j).foldl onceL l).length ≤ w.all.length := nodup_len hfn fun y hy => (hfr y hy).all
      by_cases hjl : j < o.slots.length
      · obtain ⟨p', c1, c2⟩ := hsl.get j o.slots[j] .i64 (List.getElem?_eq_getElem hjl)
        have c2 := own_ld1 (F := MP r18 (setM (0 :: (o.slots.take j).foldl onceL l)) * (SG iE 3 v5b ((o.slots.take j).foldl onceL l) * (SG iE 3 v3 lost * (SG iE 3 v59 (there ++ [x]) * (MP r15 (atM w.objs) * (pt r1 (.cells w.cells 26 (0, 0)) * F) * tt))))) (asr (by ac_rfl) hh14) c2
        have hfold : (o.slots.take (j + 1)).foldl onceL l = onceL ((o.slots.take j).foldl onceL l) o.slots[j] := by
          rw [List.take_succ_eq_append_getElem hjl, List.foldl_append]; rfl
        generalize o.slots[j] = y at *
        generalize (o.slots.take j).foldl onceL l = lj at *
        repeat (with_reducible first | refine vP_so ?_ | refine vB_t ?_ | refine vB_f ?_ | refine vE_tt ?_ | refine vE_ff ?_ | refine vE_tf ?_ | refine vE_ft ?_ | refine vE_u ?_ | refine vP_to (by simp (disch := omega) only [gdW_true, gdW_false, gB_true, gB_false, gB_undef, pickV_true, pickV_false, Bool.not_true, Bool.not_false, Option.map_some, bin_add, bin_sub, bin_mul, bin_quo, bin_rem, lss_t, lss_f, leq_t, leq_f, gtr_t, gtr_f, geq_t, geq_f, eqi_t, eqi_f, nei_t, nei_f, rem_uw, conv_ui, conv_iu, conv_ii, not_bool, nil_ptr, fa_mk, ptrV, len_mk, cap_mk, eq_ptr_nil, ne_ptr_nil, eq_nil_nil, ne_nil_nil, eq_slice_nil, eq_nil_slice, ia_1]; exact so_so) ?_)
        intro J5 hJ5
        have hJJ : ∀ v' h', (MP r18 (setM (0 :: onceL lj y)) * (SG iE 3 v' (onceL lj y) * (SG iE 3 v3 lost * (SG iE 3 v59 (there ++ [x]) * (own g * (MP r15 (atM w.objs) * (pt r1 (.cells w.cells 26 (0, 0)) * F) * tt)))))) h' → J5 [v'] h' := fun v' h' q => by
          refine hJ5 _ _ fun _ => ?_
          repeat (with_reducible first | refine vP_so ?_ | refine vB_t ?_ | refine vB_f ?_ | refine vE_tt ?_ | refine vE_ff ?_ | refine vE_tf ?_ | refine vE_ft ?_ | refine vE_u ?_ | refine vP_to (by simp (disch := omega) only [gdW_true, gdW_false, gB_true, gB_false, gB_undef, pickV_true, pickV_false, Bool.not_true, Bool.not_false, Option.map_some, bin_add, bin_sub, bin_mul, bin_quo, bin_rem, lss_t, lss_f, leq_t, leq_f, gtr_t, gtr_f, geq_t, geq_f, eqi_t, eqi_f, nei_t, nei_f, rem_uw, conv_ui, conv_iu, conv_ii, not_bool, nil_ptr, fa_mk, ptrV, len_mk, cap_mk, eq_ptr_nil, ne_ptr_nil, eq_nil_nil, ne_nil_nil, eq_slice_nil, eq_nil_slice, ia_1]; exact so_so) ?_)
          exact ⟨o.slots.length - (j + 1), by omega, j + 1, v', rfl, rfl, by omega, by rw [hfold]; exact q⟩
        obtain ⟨hlk2, _⟩ := lk_MP (k := y) mapII intU zInt hh14
        rw [setM_get] at hlk2
        by_cases hin : y = 0 ∨ y ∈ lj
        · rw [if_pos (show y ∈ 0 :: lj by rw [List.mem_cons]; exact hin)] at hlk2
          have e1 : onceL lj y = lj := by unfold onceL; rw [if_pos hin]
          rw [e1] at hJJ
          repeat (with_reducible first | refine vP_so ?_ | refine vB_t ?_ | refine vB_f ?_ | refine vE_tt ?_ | refine vE_ff ?_ | refine vE_tf ?_ | refine vE_ft ?_ | refine vE_u ?_ | refine vP_to (by simp (disch := omega) only [gdW_true, gdW_false, gB_true, gB_false, gB_undef, pickV_true, pickV_false, Bool.not_true, Bool.not_false, Option.map_some, bin_add, bin_sub, bin_mul, bin_quo, bin_rem, lss_t, lss_f, leq_t, leq_f, gtr_t, gtr_f, geq_t, geq_f, eqi_t, eqi_f, nei_t, nei_f, rem_uw, conv_ui, conv_iu, conv_ii, not_bool, nil_ptr, fa_mk, ptrV, len_mk, cap_mk, eq_ptr_nil, ne_ptr_nil, eq_nil_nil, ne_nil_nil, eq_slice_nil, eq_nil_slice, ia_1, c1, c2, hlk2]; exact so_so) ?_)
          exact hJJ v5b h14 hh14
        · rw [if_neg (show ¬ y ∈ 0 :: lj by rw [List.mem_cons]; exact hin)] at hlk2
          have e1 : onceL lj y = lj ++ [y] := by unfold onceL; rw [if_neg hin]
          have e2 : setM (0 :: onceL lj y) = setM (y :: 0 :: lj) := by rw [setM_once, if_neg hin]
          rw [e1] at e2
          rw [e1, e2] at hJJ
          have eb2 : bldV #[.int .i64 0] [(0, 1, .int .i64 y)] = some #[.int .i64 y] := rfl
          repeat (with_reducible first | refine vP_so ?_ | refine vB_t ?_ | refine vB_f ?_ | refine vE_tt ?_ | refine vE_ff ?_ | refine vE_tf ?_ | refine vE_ft ?_ | refine vE_u ?_ | refine vP_to (by simp (disch := omega) only [gdW_true, gdW_false, gB_true, gB_false, gB_undef, pickV_true, pickV_false, Bool.not_true, Bool.not_false, Option.map_some, bin_add, bin_sub, bin_mul, bin_quo, bin_rem, lss_t, lss_f, leq_t, leq_f, gtr_t, gtr_f, geq_t, geq_f, eqi_t, eqi_f, nei_t, nei_f, rem_uw, conv_ui, conv_iu, conv_ii, not_bool, nil_ptr, fa_mk, ptrV, len_mk, cap_mk, eq_ptr_nil, ne_ptr_nil, eq_nil_nil, ne_nil_nil, eq_slice_nil, eq_nil_slice, ia_1, c1, c2, hlk2]; exact so_so) ?_)
          refine mu_MP mapII intU hh14 fun h16 hh16 => ?_
          rw [setM_put] at hh16
          rw [eb2]
          refine vA_new (f := fun r => .slice (some ⟨r, 0, none⟩) 1 1) hh16 fun r79 h17 hh17 => ?_
          refine ap_new iE (l := lj) (m := [y]) (F := MP r18 (setM (y :: 0 :: lj)) * (SG iE 3 v3 lost * (SG iE 3 v59 (there ++ [x]) * (own g * (MP r15 (atM w.objs) * (pt r1 (.cells w.cells 26 (0, 0)) * F)))))) elInt rfl rfl niInts rfl (by omega) (asr (by ac_rfl) hh17) rfl rfl (by simp only [List.length_singleton]; omega) fun v80 h18 hh18 => ?_
          exact hJJ v80 h18 (asr (by ac_rfl) hh18)
      · obtain rfl : j = o.slots.length := by omega
        rw [List.take_length] at hh14 hfn hfr hflen
        repeat (with_reducible first | refine vP_so ?_ | refine vB_t ?_ | refine vB_f ?_ | refine vE_tt ?_ | refine vE_ff ?_ | refine vE_tf ?_ | refine vE_ft ?_ | refine vE_u ?_ | refine vP_to (by simp (disch := omega) only [gdW_true, gdW_false, gB_true, gB_false, gB_undef, pickV_true, pickV_false, Bool.not_true, Bool.not_false, Option.map_some, bin_add, bin_sub, bin_mul, bin_quo, bin_rem, lss_t, lss_f, leq_t, leq_f, gtr_t, gtr_f, geq_t, geq_f, eqi_t, eqi_f, nei_t, nei_f, rem_uw, conv_ui, conv_iu, conv_ii, not_bool, nil_ptr, fa_mk, ptrV, len_mk, cap_mk, eq_ptr_nil, ne_ptr_nil, eq_nil_nil, ne_nil_nil, eq_slice_nil, eq_nil_slice, ia_1]; exact so_so) ?_)
        obtain ⟨t, ht⟩ := foldl_once_pre (xs := o.slots) (l := l)
        have hgl : ∀ (j : Nat) y, j < i + 1 → (o.slots.foldl onceL l)[j]? = some y → l[j]? = some y := fun j y hj hy => by
          rw [← ht, List.getElem?_append_left (by omega)] at hy
          exact hy
        have htk2 : (o.slots.foldl onceL l).take (i + 1) = l.take (i + 1) := by rw [← ht, List.take_append_of_le_length (by omega)]
        refine hJ v5b v3 v59 (o.slots.foldl onceL l) lost (there ++ [x]) h14 hflen (by rw [← ht, List.length_append]; omega) ⟨hfn, hfr, fun y hy h0 => foldl_once_mem.2 (.inl (hI.names y hy h0)), fun j' y k' o' z hj' hy hk' ho' hz h0 => ?_, ?_, ?_⟩ hh14
        · have hy := hgl j' y hj' hy
          by_cases hji : j' = i
          · subst hji
            obtain rfl : x = y := Option.some.inj (hgx.symm.trans hy)
            obtain rfl : k = k' := Option.some.inj (hat.symm.trans hk')
            obtain rfl : o = o' := Option.some.inj (ho.symm.trans ho')
            exact foldl_once_mem.2 (.inr ⟨hz, h0⟩)
          · exact foldl_once_mem.2 (.inl (hI.closed j' y k' o' z (by omega) hy hk' ho' hz h0))
        · rw [htk2, htk, List.filter_append, ← hI.lost]; simp [hat]
        · rw [htk2, htk, List.filter_append, ← hI.there]; simp [hat]
  · obtain rfl : i = l.length := by omega
    obtain ⟨_, d2, d3, d4, d5⟩ := hI.done
    repeat (with_reducible first | refine vP_so ?_ | refine vB_t ?_ | refine vB_f ?_ | refine vE_tt ?_ | refine vE_ff ?_ | refine vE_tf ?_ | refine vE_ft ?_ | refine vE_u ?_ | refine vP_to (by simp (disch := omega) only [gdW_true, gdW_false, gB_true, gB_false, gB_undef, pickV_true, pickV_false, Bool.not_true, Bool.not_false, Option.map_some, bin_add, bin_sub, bin_mul, bin_quo, bin_rem, lss_t, lss_f, leq_t, leq_f, gtr_t, gtr_f, geq_t, geq_f, eqi_t, eqi_f, nei_t, nei_f, rem_uw, conv_ui, conv_iu, conv_ii, not_bool, nil_ptr, fa_mk, ptrV, len_mk, cap_mk, eq_ptr_nil, ne_ptr_nil, eq_nil_nil, ne_nil_nil, eq_slice_nil, eq_nil_slice, ia_1, hlen5]; exact so_so) ?_)
    refine use_sort sortC (E := 3) (l := there) (F := SG iE 3 v3 lost * (own g * (F * tt))) (by omega) (dropL (P := MP r18 (setM (0 :: l)) * (SG iE 3 v5 l * (MP r15 (atM w.objs) * pt r1 (.cells w.cells 26 (0, 0))))) (Q := SG iE 3 v2 there * (SG iE 3 v3 lost * (own g * F))) (asr (by ac_rfl) hh8) |> asr (by ac_rfl)) fun h19 hh19 => ?_
    refine use_sort sortC (E := 3) (l := lost) (F := SG iE 3 v2 (srt there) * (own g * (F * tt))) (by omega) (asr (by ac_rfl) hh19) fun h20 hh20 => ?_
    refine hK v2 v3 (srt there) (srt lost) h20 (srt_rise d3) (srt_rise d2) (fun x => by rw [srt_mem, d5]) (fun x => by rw [srt_mem, d4]) ?_ ?_ (asr (by ac_rfl) hh20)
    · rw [(srt_perm there).length_eq]; omega
    · rw [(srt_perm lost).length_eq]; omega

end Go.Proofs

/-
  Contracts of package view: Reach, Lost, White.
-/
set_option maxRecDepth 100000
namespace Go.Proofs
open Go.Sl

/-- Rising lists of what can be reached: objects, what is none, what is not marked. -/
def ReachL (w : VW) (l : List Int) : Prop := Rise l ∧ ∀ x, x ∈ l ↔ Rch w x ∧ (w.at x).isSome = true
def LostL (w : VW) (l : List Int) : Prop := Rise l ∧ ∀ x, x ∈ l ↔ Rch w x ∧ w.at x = none
def WhiteL (w : VW) (l : List Int) : Prop := Rise l ∧ ∀ x, x ∈ l ↔ Rch w x ∧ ∃ k o, w.at x = some k ∧ w.objs[k]? = some o ∧ o.marked = false

theorem tx0 (a b : Value) : exV (.tuple #[a, b]) 0 = some a := rfl
theorem tx1 (a b : Value) : exV (.tuple #[a, b]) 1 = some b := rfl

theorem use_reach {g : Hp} {w : VW} {F : Asrt} {K : Value → Hp → Prop} {h : Hp} (hv : VAt g w) (hN : w.all.length ≤ 1000000) (hh : (own g * (F * tt)) h)
    (hK : ∀ v l h', ReachL w l → l.length ≤ 1000000 → (SG iE 3 v l * (own g * (F * tt))) h' → K v h') : CallH Try.prog 17 #[w.val] K h := by
  refine C17 ?_
  unfold D17
  refine vA_new (o := .cells w.cells 26 (0, 0)) hh fun r1 h1 hh1 => ?_
  have l9 := (vw_ld (r := r1) (w := w) (E := 26) hh1).2.2.2.2.2.2.2.2.2
  repeat (with_reducible first | refine vP_so ?_ | refine vB_t ?_ | refine vB_f ?_ | refine vE_tt ?_ | refine vE_ff ?_ | refine vE_tf ?_ | refine vE_ft ?_ | refine vE_u ?_ | refine vP_to (by simp (disch := omega) only [gdW_true, gdW_false, gB_true, gB_false, gB_undef, pickV_true, pickV_false, Bool.not_true, Bool.not_false, Option.map_some, bin_add, bin_sub, bin_mul, bin_quo, bin_rem, lss_t, lss_f, leq_t, leq_f, gtr_t, gtr_f, geq_t, geq_f, eqi_t, eqi_f, nei_t, nei_f, rem_uw, conv_ui, conv_iu, conv_ii, not_bool, nil_ptr, fa_mk, ptrV, len_mk, cap_mk, eq_ptr_nil, ne_ptr_nil, eq_nil_nil, ne_nil_nil, eq_slice_nil, eq_nil_slice, ia_1, l9]; exact so_so) ?_)
  refine use_walk (F := pt r1 (.cells w.cells 26 (0, 0)) * F) hv hN (asr (by ac_rfl) hh1) fun v2 v3 there lost h2 a1 a2 a3 a4 a5 a6 hh2 => ?_
  repeat (with_reducible first | refine vP_so ?_ | refine vB_t ?_ | refine vB_f ?_ | refine vE_tt ?_ | refine vE_ff ?_ | refine vE_tf ?_ | refine vE_ft ?_ | refine vE_u ?_ | refine vP_to (by simp (disch := omega) only [gdW_true, gdW_false, gB_true, gB_false, gB_undef, pickV_true, pickV_false, Bool.not_true, Bool.not_false, Option.map_some, bin_add, bin_sub, bin_mul, bin_quo, bin_rem, lss_t, lss_f, leq_t, leq_f, gtr_t, gtr_f, geq_t, geq_f, eqi_t, eqi_f, nei_t, nei_f, rem_uw, conv_ui, conv_iu, conv_ii, not_bool, nil_ptr, fa_mk, ptrV, len_mk, cap_mk, eq_ptr_nil, ne_ptr_nil, eq_nil_nil, ne_nil_nil, eq_slice_nil, eq_nil_slice, ia_1, tx0, tx1]; exact so_so) ?_)
  exact hK v2 there h2 ⟨a1, a3⟩ a5 (dropL (P := SG iE 3 v3 lost * pt r1 (.cells w.cells 26 (0, 0))) (Q := SG iE 3 v2 there * (own g * F)) (asr (by ac_rfl) hh2) |> asr (by ac_rfl))

theorem use_lost {g : Hp} {w : VW} {F : Asrt} {K : Value → Hp → Prop} {h : Hp} (hv : VAt g w) (hN : w.all.length ≤ 1000000) (hh : (own g * (F * tt)) h)
    (hK : ∀ v l h', LostL w l → l.length ≤ 1000000 → (SG iE 3 v l * (own g * (F * tt))) h' → K v h') : CallH Try.prog 18 #[w.val] K h := by
  refine C18 ?_
  unfold D18
  refine vA_new (o := .cells w.cells 26 (0, 0)) hh fun r1 h1 hh1 => ?_
  have l9 := (vw_ld (r := r1) (w := w) (E := 26) hh1).2.2.2.2.2.2.2.2.2
  repeat (with_reducible first | refine vP_so ?_ | refine vB_t ?_ | refine vB_f ?_ | refine vE_tt ?_ | refine vE_ff ?_ | refine vE_tf ?_ | refine vE_ft ?_ | refine vE_u ?_ | refine vP_to (by simp (disch := omega) only [gdW_true, gdW_false, gB_true, gB_false, gB_undef, pickV_true, pickV_false, Bool.not_true, Bool.not_false, Option.map_some, bin_add, bin_sub, bin_mul, bin_quo, bin_rem, lss_t, lss_f, leq_t, leq_f, gtr_t, gtr_f, geq_t, geq_f, eqi_t, eqi_f, nei_t, nei_f, rem_uw, conv_ui, conv_iu, conv_ii, not_bool, nil_ptr, fa_mk, ptrV, len_mk, cap_mk, eq_ptr_nil, ne_ptr_nil, eq_nil_nil, ne_nil_nil, eq_slice_nil, eq_nil_slice, ia_1, l9]; exact so_so) ?_)
  refine use_walk (F := pt r1 (.cells w.cells 26 (0, 0)) * F) hv hN (asr (by ac_rfl) hh1) fun v2 v3 there lost h2 a1 a2 a3 a4 a5 a6 hh2 => ?_
  repeat (with_reducible first | refine vP_so ?_ | refine vB_t ?_ | refine vB_f ?_ | refine vE_tt ?_ | refine vE_ff ?_ | refine vE_tf ?_ | refine vE_ft ?_ | refine vE_u ?_ | refine vP_to (by simp (disch := omega) only [gdW_true, gdW_false, gB_true, gB_false, gB_undef, pickV_true, pickV_false, Bool.not_true, Bool.not_false, Option.map_some, bin_add, bin_sub, bin_mul, bin_quo, bin_rem, lss_t, lss_f, leq_t, leq_f, gtr_t, gtr_f, geq_t, geq_f, eqi_t, eqi_f, nei_t, nei_f, rem_uw, conv_ui, conv_iu, conv_ii, not_bool, nil_ptr, fa_mk, ptrV, len_mk, cap_mk, eq_ptr_nil, ne_ptr_nil, eq_nil_nil, ne_nil_nil, eq_slice_nil, eq_nil_slice, ia_1, tx0, tx1]; exact so_so) ?_)
  exact hK v3 lost h2 ⟨a2, a4⟩ a6 (dropL (P := SG iE 3 v2 there * pt r1 (.cells w.cells 26 (0, 0))) (Q := SG iE 3 v3 lost * (own g * F)) (asr (by ac_rfl) hh2) |> asr (by ac_rfl))

theorem use_white {g : Hp} {w : VW} {F : Asrt} {K : Value → Hp → Prop} {h : Hp} (hv : VAt g w) (hN : w.all.length ≤ 1000000) (hh : (own g * (F * tt)) h)
    (hK : ∀ v l h', WhiteL w l → l.length ≤ 1000000 → (SG iE 3 v l * (own g * (F * tt))) h' → K v h') : CallH Try.prog 23 #[w.val] K h := by
  refine C23 ?_
  unfold D23
  refine vA_new (o := .cells w.cells 26 (0, 0)) hh fun r1 h1 hh1 => ?_
  have l9 := (vw_ld (r := r1) (w := w) (E := 26) hh1).2.2.2.2.2.2.2.2.2
  repeat (with_reducible first | refine vP_so ?_ | refine vB_t ?_ | refine vB_f ?_ | refine vE_tt ?_ | refine vE_ff ?_ | refine vE_tf ?_ | refine vE_ft ?_ | refine vE_u ?_ | refine vP_to (by simp (disch := omega) only [gdW_true, gdW_false, gB_true, gB_false, gB_undef, pickV_true, pickV_false, Bool.not_true, Bool.not_false, Option.map_some, bin_add, bin_sub, bin_mul, bin_quo, bin_rem, lss_t, lss_f, leq_t, leq_f, gtr_t, gtr_f, geq_t, geq_f, eqi_t, eqi_f, nei_t, nei_f, rem_uw, conv_ui, conv_iu, conv_ii, not_bool, nil_ptr, fa_mk, ptrV, len_mk, cap_mk, eq_ptr_nil, ne_ptr_nil, eq_nil_nil, ne_nil_nil, eq_slice_nil, eq_nil_slice, ia_1, l9]; exact so_so) ?_)
  refine use_places (F := pt r1 (.cells w.cells 26 (0, 0)) * F) hv (asr (by ac_rfl) hh1) fun r8 h2 hh2 => ?_
  have l9 := (vw_ld (r := r1) (w := w) (E := 26) (F := MP r8 (atM w.objs) * (own g * (F * tt))) (asr (by ac_rfl) hh2)).2.2.2.2.2.2.2.2.2
  repeat (with_reducible first | refine vP_so ?_ | refine vB_t ?_ | refine vB_f ?_ | refine vE_tt ?_ | refine vE_ff ?_ | refine vE_tf ?_ | refine vE_ft ?_ | refine vE_u ?_ | refine vP_to (by simp (disch := omega) only [gdW_true, gdW_false, gB_true, gB_false, gB_undef, pickV_true, pickV_false, Bool.not_true, Bool.not_false, Option.map_some, bin_add, bin_sub, bin_mul, bin_quo, bin_rem, lss_t, lss_f, leq_t, leq_f, gtr_t, gtr_f, geq_t, geq_f, eqi_t, eqi_f, nei_t, nei_f, rem_uw, conv_ui, conv_iu, conv_ii, not_bool, nil_ptr, fa_mk, ptrV, len_mk, cap_mk, eq_ptr_nil, ne_ptr_nil, eq_nil_nil, ne_nil_nil, eq_slice_nil, eq_nil_slice, ia_1, l9]; exact so_so) ?_)
  refine use_reach (F := MP r8 (atM w.objs) * (pt r1 (.cells w.cells 26 (0, 0)) * F)) hv hN (asr (by ac_rfl) hh2) fun v10 rl h3 hR hrl hh3 => ?_
  have hlen := SG_len iE hh3
  let wh : Int → Bool := fun x => match (w.at x).bind (w.objs[·]?) with | some o => !o.marked | none => false
  have hwh : ∀ x k o, w.at x = some k → w.objs[k]? = some o → wh x = !o.marked := fun x k o h1 h2 => by simp only [wh, h1, Option.bind_some, h2]
  repeat (with_reducible first | refine vP_so ?_ | refine vB_t ?_ | refine vB_f ?_ | refine vE_tt ?_ | refine vE_ff ?_ | refine vE_tf ?_ | refine vE_ft ?_ | refine vE_u ?_ | refine vP_to (by simp (disch := omega) only [gdW_true, gdW_false, gB_true, gB_false, gB_undef, pickV_true, pickV_false, Bool.not_true, Bool.not_false, Option.map_some, bin_add, bin_sub, bin_mul, bin_quo, bin_rem, lss_t, lss_f, leq_t, leq_f, gtr_t, gtr_f, geq_t, geq_f, eqi_t, eqi_f, nei_t, nei_f, rem_uw, conv_ui, conv_iu, conv_ii, not_bool, nil_ptr, fa_mk, ptrV, len_mk, cap_mk, eq_ptr_nil, ne_ptr_nil, eq_nil_nil, ne_nil_nil, eq_slice_nil, eq_nil_slice, ia_1, hlen]; exact so_so) ?_)
  refine ⟨fun m zs h' => ∃ (i : Nat) (v4 : Value), zs = [.int .i64 i, v4] ∧ m = rl.length - i ∧ i ≤ rl.length ∧ (SG iE 3 v4 ((rl.take i).filter wh) * (SG iE 3 v10 rl * (MP r8 (atM w.objs) * (pt r1 (.cells w.cells 26 (0, 0)) * (own g * (F * tt)))))) h',
    ⟨_, 0, .slice none 0 0, rfl, rfl, by omega, SG_nil iE (asr (by ac_rfl) hh3)⟩, ?_⟩
  rintro m v12 v4 h4 ⟨i, v4', hzs, rfl, hi, hh4⟩ _
  obtain ⟨rfl, rfl⟩ : v12 = .int .i64 i ∧ v4 = v4' := by simpa using hzs
  by_cases hil : i < rl.length
  · have hS : (SG iE 3 v10 rl * (SG iE 3 v4 ((rl.take i).filter wh) * (MP r8 (atM w.objs) * (pt r1 (.cells w.cells 26 (0, 0)) * (own g * (F * tt)))))) h4 := asr (by ac_rfl) hh4
    obtain ⟨p, f1, f2, _⟩ := el1 hS (List.getElem?_eq_getElem hil) .i64
    have htk := List.take_succ_eq_append_getElem hil
    obtain ⟨hrx, hat⟩ := (hR.2 rl[i]).1 (List.getElem_mem hil)
    have hfl : ((rl.take i).filter wh).length ≤ 1000000 := Nat.le_trans (List.length_filter_le ..) (by rw [List.length_take]; omega)
    generalize rl[i] = x at *
    obtain ⟨k, hk⟩ := Option.isSome_iff_exists.1 hat
    obtain ⟨o, ho, hoa⟩ := at_some hk
    have hwx := hwh x k o hk ho
    have hm : (MP r8 (atM w.objs) * (SG iE 3 v10 rl * (SG iE 3 v4 ((rl.take i).filter wh) * (pt r1 (.cells w.cells 26 (0, 0)) * (own g * (F * tt)))))) h4 := asr (by ac_rfl) hh4
    obtain ⟨hlk, _⟩ := lk_MP (k := x) mapII intU zInt hm
    rw [atM_at, hk] at hlk
    simp only [Option.map_some, Option.getD_some] at hlk
    have l5 := (vw_ld (r := r1) (w := w) (E := 26) (F := MP r8 (atM w.objs) * (SG iE 3 v10 rl * (SG iE 3 v4 ((rl.take i).filter wh) * (own g * (F * tt))))) (asr (by ac_rfl) hh4)).2.2.2.2.2.1
    have hw4 := own_vat (F := MP r8 (atM w.objs) * (SG iE 3 v10 rl * (SG iE 3 v4 ((rl.take i).filter wh) * (pt r1 (.cells w.cells 26 (0, 0)) * (F * tt))))) (asr (by ac_rfl) hh4) hv
    obtain ⟨b, q, e1, _, _, e4, _⟩ := hw4.obj ho .i64
    repeat (with_reducible first | refine vP_so ?_ | refine vB_t ?_ | refine vB_f ?_ | refine vE_tt ?_ | refine vE_ff ?_ | refine vE_tf ?_ | refine vE_ft ?_ | refine vE_u ?_ | refine vP_to (by simp (disch := omega) only [gdW_true, gdW_false, gB_true, gB_false, gB_undef, pickV_true, pickV_false, Bool.not_true, Bool.not_false, Option.map_some, bin_add, bin_sub, bin_mul, bin_quo, bin_rem, lss_t, lss_f, leq_t, leq_f, gtr_t, gtr_f, geq_t, geq_f, eqi_t, eqi_f, nei_t, nei_f, rem_uw, conv_ui, conv_iu, conv_ii, not_bool, nil_ptr, fa_mk, ptrV, len_mk, cap_mk, eq_ptr_nil, ne_ptr_nil, eq_nil_nil, ne_nil_nil, eq_slice_nil, eq_nil_slice, ia_1]; exact so_so) ?_)
    intro J2 hJ2
    have hJ : ∀ v' h', (SG iE 3 v' ((rl.take (i + 1)).filter wh) * (SG iE 3 v10 rl * (MP r8 (atM w.objs) * (pt r1 (.cells w.cells 26 (0, 0)) * (own g * (F * tt)))))) h' → J2 [v'] h' := fun v' h' q => by
      refine hJ2 _ _ fun _ => ?_
      repeat (with_reducible first | refine vP_so ?_ | refine vB_t ?_ | refine vB_f ?_ | refine vE_tt ?_ | refine vE_ff ?_ | refine vE_tf ?_ | refine vE_ft ?_ | refine vE_u ?_ | refine vP_to (by simp (disch := omega) only [gdW_true, gdW_false, gB_true, gB_false, gB_undef, pickV_true, pickV_false, Bool.not_true, Bool.not_false, Option.map_some, bin_add, bin_sub, bin_mul, bin_quo, bin_rem, lss_t, lss_f, leq_t, leq_f, gtr_t, gtr_f, geq_t, geq_f, eqi_t, eqi_f, nei_t, nei_f, rem_uw, conv_ui, conv_iu, conv_ii, not_bool, nil_ptr, fa_mk, ptrV, len_mk, cap_mk, eq_ptr_nil, ne_ptr_nil, eq_nil_nil, ne_nil_nil, eq_slice_nil, eq_nil_slice, ia_1]; exact so_so) ?_)
      exact ⟨rl.length - (i + 1), by omega, i + 1, v', rfl, rfl, by omega, q⟩
    have hmk : ∀ b, o.marked = b → (rl.take (i + 1)).filter wh = (rl.take i).filter wh ++ (if b then [] else [x]) := fun b hb => by
      rw [htk, List.filter_append, List.filter_cons, hwx, hb]
      cases b <;> simp
    cases hom : o.marked with
    | true =>
      rw [hom] at e4
      have := hmk true hom
      simp only [if_true, List.append_nil] at this
      rw [this] at hJ
      repeat (with_reducible first | refine vP_so ?_ | refine vB_t ?_ | refine vB_f ?_ | refine vE_tt ?_ | refine vE_ff ?_ | refine vE_tf ?_ | refine vE_ft ?_ | refine vE_u ?_ | refine vP_to (by simp (disch := omega) only [gdW_true, gdW_false, gB_true, gB_false, gB_undef, pickV_true, pickV_false, Bool.not_true, Bool.not_false, Option.map_some, bin_add, bin_sub, bin_mul, bin_quo, bin_rem, lss_t, lss_f, leq_t, leq_f, gtr_t, gtr_f, geq_t, geq_f, eqi_t, eqi_f, nei_t, nei_f, rem_uw, conv_ui, conv_iu, conv_ii, not_bool, nil_ptr, fa_mk, ptrV, len_mk, cap_mk, eq_ptr_nil, ne_ptr_nil, eq_nil_nil, ne_nil_nil, eq_slice_nil, eq_nil_slice, ia_1, f1, f2, l5, hlk, e1, e4]; exact so_so) ?_)
      exact hJ v4 h4 hh4
    | false =>
      rw [hom] at e4
      have := hmk false hom
      simp only [Bool.false_eq_true, if_false] at this
      rw [this] at hJ
      have eb : bldV #[.int .i64 0] [(0, 1, .int .i64 x)] = some #[.int .i64 x] := rfl
      repeat (with_reducible first | refine vP_so ?_ | refine vB_t ?_ | refine vB_f ?_ | refine vE_tt ?_ | refine vE_ff ?_ | refine vE_tf ?_ | refine vE_ft ?_ | refine vE_u ?_ | refine vP_to (by simp (disch := omega) only [gdW_true, gdW_false, gB_true, gB_false, gB_undef, pickV_true, pickV_false, Bool.not_true, Bool.not_false, Option.map_some, bin_add, bin_sub, bin_mul, bin_quo, bin_rem, lss_t, lss_f, leq_t, leq_f, gtr_t, gtr_f, geq_t, geq_f, eqi_t, eqi_f, nei_t, nei_f, rem_uw, conv_ui, conv_iu, conv_ii, not_bool, nil_ptr, fa_mk, ptrV, len_mk, cap_mk, eq_ptr_nil, ne_ptr_nil, eq_nil_nil, ne_nil_nil, eq_slice_nil, eq_nil_slice, ia_1, f1, f2, l5, hlk, e1, e4]; exact so_so) ?_)
      rw [eb]
      refine vA_new (f := fun r => .slice (some ⟨r, 0, none⟩) 1 1) hh4 fun r27 h6 hh6 => ?_
      refine ap_new iE (l := (rl.take i).filter wh) (m := [x]) (F := SG iE 3 v10 rl * (MP r8 (atM w.objs) * (pt r1 (.cells w.cells 26 (0, 0)) * (own g * F)))) elInt rfl rfl niInts rfl (by omega) (asr (by ac_rfl) hh6) rfl rfl (by simp only [List.length_singleton]; omega) fun v28 h7 hh7 => ?_
      exact hJ v28 h7 (asr (by ac_rfl) hh7)
  · obtain rfl : i = rl.length := by omega
    rw [List.take_length] at hh4
    repeat (with_reducible first | refine vP_so ?_ | refine vB_t ?_ | refine vB_f ?_ | refine vE_tt ?_ | refine vE_ff ?_ | refine vE_tf ?_ | refine vE_ft ?_ | refine vE_u ?_ | refine vP_to (by simp (disch := omega) only [gdW_true, gdW_false, gB_true, gB_false, gB_undef, pickV_true, pickV_false, Bool.not_true, Bool.not_false, Option.map_some, bin_add, bin_sub, bin_mul, bin_quo, bin_rem, lss_t, lss_f, leq_t, leq_f, gtr_t, gtr_f, geq_t, geq_f, eqi_t, eqi_f, nei_t, nei_f, rem_uw, conv_ui, conv_iu, conv_ii, not_bool, nil_ptr, fa_mk, ptrV, len_mk, cap_mk, eq_ptr_nil, ne_ptr_nil, eq_nil_nil, ne_nil_nil, eq_slice_nil, eq_nil_slice, ia_1]; exact so_so) ?_)
    refine hK v4 (rl.filter wh) h4 ⟨hR.1.filter _, fun x => ?_⟩ (Nat.le_trans (List.length_filter_le ..) hrl) (dropL (P := SG iE 3 v10 rl * (MP r8 (atM w.objs) * pt r1 (.cells w.cells 26 (0, 0)))) (Q := SG iE 3 v4 (rl.filter wh) * (own g * F)) (asr (by ac_rfl) hh4) |> asr (by ac_rfl))
    rw [List.mem_filter, hR.2]
    constructor
    · rintro ⟨⟨h1, h2⟩, h3⟩
      obtain ⟨k, hk⟩ := Option.isSome_iff_exists.1 h2
      obtain ⟨o, ho, _⟩ := at_some hk
      rw [hwh x k o hk ho] at h3
      exact ⟨h1, k, o, hk, ho, by simpa using h3⟩
    · rintro ⟨h1, k, o, hk, ho, hm⟩
      exact ⟨⟨h1, by rw [hk]; rfl⟩, by rw [hwh x k o hk ho, hm]; rfl⟩

end Go.Proofs

/-
  Contracts of treadmillref29: once, Roots, walk.
-/
set_option maxRecDepth 100000
namespace Go.Proofs
open Go.Sl

/-- Two parts that are only read are one. -/
theorem own_join {g1 g2 : Hp} {F : Asrt} {h : Hp} (hh : (own g1 * (own g2 * F)) h) : Disj g1 g2 ∧ (own (g1.add g2) * F) h := by
  obtain ⟨a, b, d, rfl, rfl, c, e, d', rfl, rfl, f⟩ := hh
  obtain ⟨d1, d2⟩ := Disj.add_right.1 d
  exact ⟨d1, a.add c, e, Disj.add_left.2 ⟨d2, d'⟩, by rw [Hp.add_assoc], rfl, f⟩

theorem own_split {g1 g2 : Hp} {F : Asrt} {h : Hp} (d : Disj g1 g2) (hh : (own (g1.add g2) * F) h) : (own g1 * (own g2 * F)) h := by
  obtain ⟨a, b, d', rfl, rfl, f⟩ := hh
  obtain ⟨d1, d2⟩ := Disj.add_left.1 d'
  exact ⟨g1, g2.add b, Disj.add_right.2 ⟨d, d1⟩, by rw [Hp.add_assoc], rfl, g2, b, d2, rfl, rfl, f⟩

/-- What is owned can be held as it stands. -/
theorem own_pick {A F : Asrt} {h : Hp} (hh : (A * F) h) : ∃ g, A g ∧ (own g * F) h := by
  obtain ⟨a, b, d, rfl, p, q⟩ := hh
  exact ⟨a, p, a, b, d, rfl, rfl, q⟩

theorem own_back {A F : Asrt} {g h : Hp} (hA : A g) (hh : (own g * F) h) : (A * F) h := star_left (fun x e => by rw [show x = g from e]; exact hA) hh

theorem use_once {sv : Value} {l : List Int} {x : Int} {F : Asrt} {K : Value → Hp → Prop} {h : Hp} (hl : l.length < 1073741824) (hh : (SG iE 3 sv l * (F * tt)) h)
    (hK : ∀ v h', (SG iE 3 v (onceL l x) * (F * tt)) h' → K v h') : CallH Try.prog 58 #[sv, .int .i64 x] K h := by
  refine C58 ?_
  unfold D58
  by_cases h0 : x = 0
  · have e : onceL l x = l := by unfold onceL; rw [if_pos (.inl h0)]
    rw [e] at hK
    repeat (with_reducible first | refine vP_so ?_ | refine vB_t ?_ | refine vB_f ?_ | refine vE_tt ?_ | refine vE_ff ?_ | refine vE_tf ?_ | refine vE_ft ?_ | refine vE_u ?_ | refine vP_to (by simp (disch := omega) only [gdW_true, gdW_false, gB_true, gB_false, gB_undef, pickV_true, pickV_false, Bool.not_true, Bool.not_false, Option.map_some, bin_add, bin_sub, bin_mul, bin_quo, bin_rem, lss_t, lss_f, leq_t, leq_f, gtr_t, gtr_f, geq_t, geq_f, eqi_t, eqi_f, nei_t, nei_f, rem_uw, conv_ui, conv_iu, conv_ii, not_bool, nil_ptr, fa_mk, ptrV, len_mk, cap_mk, eq_ptr_nil, ne_ptr_nil, eq_nil_nil, ne_nil_nil, eq_slice_nil, eq_nil_slice, ia_1]; exact so_so) ?_)
    exact hK sv h hh
  · repeat (with_reducible first | refine vP_so ?_ | refine vB_t ?_ | refine vB_f ?_ | refine vE_tt ?_ | refine vE_ff ?_ | refine vE_tf ?_ | refine vE_ft ?_ | refine vE_u ?_ | refine vP_to (by simp (disch := omega) only [gdW_true, gdW_false, gB_true, gB_false, gB_undef, pickV_true, pickV_false, Bool.not_true, Bool.not_false, Option.map_some, bin_add, bin_sub, bin_mul, bin_quo, bin_rem, lss_t, lss_f, leq_t, leq_f, gtr_t, gtr_f, geq_t, geq_f, eqi_t, eqi_f, nei_t, nei_f, rem_uw, conv_ui, conv_iu, conv_ii, not_bool, nil_ptr, fa_mk, ptrV, len_mk, cap_mk, eq_ptr_nil, ne_ptr_nil, eq_nil_nil, ne_nil_nil, eq_slice_nil, eq_nil_slice, ia_1]; exact so_so) ?_)
    refine use_has (SG_ints hh) ?_
    by_cases hin : x ∈ l
    · have e : onceL l x = l := by unfold onceL; rw [if_pos (.inr hin)]
      rw [e] at hK
      rw [decide_eq_true hin]
      repeat (with_reducible first | refine vP_so ?_ | refine vB_t ?_ | refine vB_f ?_ | refine vE_tt ?_ | refine vE_ff ?_ | refine vE_tf ?_ | refine vE_ft ?_ | refine vE_u ?_ | refine vP_to (by simp (disch := omega) only [gdW_true, gdW_false, gB_true, gB_false, gB_undef, pickV_true, pickV_false, Bool.not_true, Bool.not_false, Option.map_some, bin_add, bin_sub, bin_mul, bin_quo, bin_rem, lss_t, lss_f, leq_t, leq_f, gtr_t, gtr_f, geq_t, geq_f, eqi_t, eqi_f, nei_t, nei_f, rem_uw, conv_ui, conv_iu, conv_ii, not_bool, nil_ptr, fa_mk, ptrV, len_mk, cap_mk, eq_ptr_nil, ne_ptr_nil, eq_nil_nil, ne_nil_nil, eq_slice_nil, eq_nil_slice, ia_1]; exact so_so) ?_)
      exact hK sv h hh
    · have e : onceL l x = l ++ [x] := by unfold onceL; rw [if_neg (fun q => q.elim h0 hin)]
      rw [e] at hK
      rw [decide_eq_false hin]
      have eb : bldV #[.int .i64 0] [(0, 1, .int .i64 x)] = some #[.int .i64 x] := rfl
      repeat (with_reducible first | refine vP_so ?_ | refine vB_t ?_ | refine vB_f ?_ | refine vE_tt ?_ | refine vE_ff ?_ | refine vE_tf ?_ | refine vE_ft ?_ | refine vE_u ?_ | refine vP_to (by simp (disch := omega) only [gdW_true, gdW_false, gB_true, gB_false, gB_undef, pickV_true, pickV_false, Bool.not_true, Bool.not_false, Option.map_some, bin_add, bin_sub, bin_mul, bin_quo, bin_rem, lss_t, lss_f, leq_t, leq_f, gtr_t, gtr_f, geq_t, geq_f, eqi_t, eqi_f, nei_t, nei_f, rem_uw, conv_ui, conv_iu, conv_ii, not_bool, nil_ptr, fa_mk, ptrV, len_mk, cap_mk, eq_ptr_nil, ne_ptr_nil, eq_nil_nil, ne_nil_nil, eq_slice_nil, eq_nil_slice, ia_1]; exact so_so) ?_)
      rw [eb]
      refine vA_new (f := fun r => .slice (some ⟨r, 0, none⟩) 1 1) hh fun r15 h2 hh2 => ?_
      exact ap_new iE (l := l) (m := [x]) (F := F) elInt rfl rfl niInts rfl (by omega) hh2 rfl rfl (by simp only [List.length_singleton]; omega) hK

theorem use_rroots {g : Hp} {w : VW} {F : Asrt} {K : Value → Hp → Prop} {h : Hp} (hv : VAt g w) (hN : w.all.length ≤ 1000000) (hh : (own g * (F * tt)) h)
    (hK : ∀ v h', (SG iE 3 v w.rootsL * (own g * (F * tt))) h' → K v h') : CallH Try.prog 34 #[w.val] K h := by
  refine C34 ?_
  unfold D34
  have hgl := hv.gs_len
  have hnl : w.names.length ≤ 1000000 := by unfold VW.all at hN; rw [List.length_append] at hN; omega
  have hglob : w.globals.length ≤ 1000000 := by unfold VW.names at hnl; rw [List.length_append] at hnl; omega
  refine vA_new (o := .cells w.cells 26 (0, 0)) hh fun r1 h1 hh1 => ?_
  refine ⟨fun m zs h' => ∃ (i : Nat) (v3 : Value), zs = [.int .i64 i, v3] ∧ m = w.globals.length - i ∧ i ≤ w.globals.length ∧ (SG iE 3 v3 ((w.globals.take i).foldl onceL []) * (pt r1 (.cells w.cells 26 (0, 0)) * (own g * (F * tt)))) h',
    ⟨_, 0, .slice none 0 0, rfl, rfl, by omega, SG_nil iE hh1⟩, ?_⟩
  rintro m v4 v3 h2 ⟨i, v3', hzs, rfl, hi, hh2⟩ _
  obtain ⟨rfl, rfl⟩ : v4 = .int .i64 i ∧ v3 = v3' := by simpa using hzs
  have l3 := (vw_ld (r := r1) (w := w) (E := 26) (F := SG iE 3 v3 ((w.globals.take i).foldl onceL []) * (own g * (F * tt))) (asr (by ac_rfl) hh2)).2.2.2.1
  have hgv := hv.glob
  by_cases hil : i < w.globals.length
  · obtain ⟨p, f1, f2⟩ := hgv.get i w.globals[i] .i64 (List.getElem?_eq_getElem hil)
    have f2 := own_ld1 (F := SG iE 3 v3 ((w.globals.take i).foldl onceL []) * (pt r1 (.cells w.cells 26 (0, 0)) * (F * tt))) (asr (by ac_rfl) hh2) f2
    have hfold : (w.globals.take (i + 1)).foldl onceL [] = onceL ((w.globals.take i).foldl onceL []) w.globals[i] := by
      rw [List.take_succ_eq_append_getElem hil, List.foldl_append]; rfl
    have hfl : ((w.globals.take i).foldl onceL []).length ≤ 1000000 := Nat.le_trans foldl_once_len (by rw [List.length_take]; simp only [List.length_nil]; omega)
    generalize w.globals[i] = x at *
    generalize (w.globals.take i).foldl onceL [] = o at *
    repeat (with_reducible first | refine vP_so ?_ | refine vB_t ?_ | refine vB_f ?_ | refine vE_tt ?_ | refine vE_ff ?_ | refine vE_tf ?_ | refine vE_ft ?_ | refine vE_u ?_ | refine vP_to (by simp (disch := omega) only [gdW_true, gdW_false, gB_true, gB_false, gB_undef, pickV_true, pickV_false, Bool.not_true, Bool.not_false, Option.map_some, bin_add, bin_sub, bin_mul, bin_quo, bin_rem, lss_t, lss_f, leq_t, leq_f, gtr_t, gtr_f, geq_t, geq_f, eqi_t, eqi_f, nei_t, nei_f, rem_uw, conv_ui, conv_iu, conv_ii, not_bool, nil_ptr, fa_mk, ptrV, len_mk, cap_mk, eq_ptr_nil, ne_ptr_nil, eq_nil_nil, ne_nil_nil, eq_slice_nil, eq_nil_slice, ia_1, l3, hgv.len, f1, f2]; exact so_so) ?_)
    refine use_once (l := o) (F := pt r1 (.cells w.cells 26 (0, 0)) * (own g * F)) (by omega) (asr (by ac_rfl) hh2) fun v20 h3 hh3 => ?_
    repeat (with_reducible first | refine vP_so ?_ | refine vB_t ?_ | refine vB_f ?_ | refine vE_tt ?_ | refine vE_ff ?_ | refine vE_tf ?_ | refine vE_ft ?_ | refine vE_u ?_ | refine vP_to (by simp (disch := omega) only [gdW_true, gdW_false, gB_true, gB_false, gB_undef, pickV_true, pickV_false, Bool.not_true, Bool.not_false, Option.map_some, bin_add, bin_sub, bin_mul, bin_quo, bin_rem, lss_t, lss_f, leq_t, leq_f, gtr_t, gtr_f, geq_t, geq_f, eqi_t, eqi_f, nei_t, nei_f, rem_uw, conv_ui, conv_iu, conv_ii, not_bool, nil_ptr, fa_mk, ptrV, len_mk, cap_mk, eq_ptr_nil, ne_ptr_nil, eq_nil_nil, ne_nil_nil, eq_slice_nil, eq_nil_slice, ia_1]; exact so_so) ?_)
    exact ⟨w.globals.length - (i + 1), by omega, i + 1, v20, rfl, rfl, by omega, by rw [hfold]; exact asr (by ac_rfl) hh3⟩
  obtain rfl : i = w.globals.length := by omega
  rw [List.take_length] at hh2
  repeat (with_reducible first | refine vP_so ?_ | refine vB_t ?_ | refine vB_f ?_ | refine vE_tt ?_ | refine vE_ff ?_ | refine vE_tf ?_ | refine vE_ft ?_ | refine vE_u ?_ | refine vP_to (by simp (disch := omega) only [gdW_true, gdW_false, gB_true, gB_false, gB_undef, pickV_true, pickV_false, Bool.not_true, Bool.not_false, Option.map_some, bin_add, bin_sub, bin_mul, bin_quo, bin_rem, lss_t, lss_f, leq_t, leq_f, gtr_t, gtr_f, geq_t, geq_f, eqi_t, eqi_f, nei_t, nei_f, rem_uw, conv_ui, conv_iu, conv_ii, not_bool, nil_ptr, fa_mk, ptrV, len_mk, cap_mk, eq_ptr_nil, ne_ptr_nil, eq_nil_nil, ne_nil_nil, eq_slice_nil, eq_nil_slice, ia_1, l3, hgv.len]; exact so_so) ?_)
  refine ⟨fun m zs h' => ∃ (i : Nat) (v3 : Value), zs = [.int .i64 i, v3] ∧ m = w.gs.length - i ∧ i ≤ w.gs.length ∧ (SG iE 3 v3 ((w.globals ++ ((w.gs.take i).filter live).flatMap (·.stack)).foldl onceL []) * (pt r1 (.cells w.cells 26 (0, 0)) * (own g * (F * tt)))) h',
    ⟨_, 0, v3, rfl, rfl, by omega, by simpa using hh2⟩, ?_⟩
  clear hh2 l3
  rintro m v5 v3b h4 ⟨i, v3', hzs, rfl, hi, hh4⟩ _
  obtain ⟨rfl, rfl⟩ : v5 = .int .i64 i ∧ v3b = v3' := by simpa using hzs
  have l4 := (vw_ld (r := r1) (w := w) (E := 26) (F := SG iE 3 v3b ((w.globals ++ ((w.gs.take i).filter live).flatMap (·.stack)).foldl onceL []) * (own g * (F * tt))) (asr (by ac_rfl) hh4)).2.2.2.2.1
  by_cases hil : i < w.gs.length
  · have hro : w.gs[i] ∈ w.gs := List.getElem_mem hil
    have hstk := hv.stacks w.gs[i] hro
    have hgi : w.gs[i]? = some w.gs[i] := List.getElem?_eq_getElem hil
    have hsub : ∀ r, w.gs[i] = r → live r = true → r.stack.length + (w.globals ++ ((w.gs.take i).filter live).flatMap (·.stack)).length ≤ 1000000 := fun r e hl => by
      have h2 : w.names.length = w.globals.length + ((w.gs.filter live).flatMap (·.stack)).length := by unfold VW.names; rw [List.length_append]
      have h3 : w.gs.filter live = (w.gs.take i).filter live ++ (r :: (w.gs.drop (i + 1)).filter live) := by
        have e1 : w.gs = w.gs.take i ++ r :: w.gs.drop (i + 1) := by rw [← e, ← List.drop_eq_getElem_cons hil, List.take_append_drop]
        have e2 : (w.gs.take i ++ r :: w.gs.drop (i + 1)).filter live = (w.gs.take i).filter live ++ (r :: (w.gs.drop (i + 1)).filter live) := by rw [List.filter_append, List.filter_cons, if_pos hl]
        rw [← e2, ← e1]
      rw [h3, List.flatMap_append, List.flatMap_cons, List.length_append, List.length_append] at h2
      rw [List.length_append]
      omega
    have hstep : ∀ r, w.gs[i] = r → (w.globals ++ ((w.gs.take (i + 1)).filter live).flatMap (·.stack)).foldl onceL [] = if live r then r.stack.foldl onceL ((w.globals ++ ((w.gs.take i).filter live).flatMap (·.stack)).foldl onceL []) else (w.globals ++ ((w.gs.take i).filter live).flatMap (·.stack)).foldl onceL [] := fun r e => by
      rw [List.take_succ_eq_append_getElem hil, e, List.filter_append]
      by_cases hl : live r = true
      · rw [if_pos hl, List.filter_cons, if_pos hl, List.filter_nil, List.flatMap_append, ← List.append_assoc, List.foldl_append]
        simp
      · rw [if_neg hl, List.filter_cons, if_neg hl, List.filter_nil, List.append_nil]
    have hsub := hsub _ rfl
    have hstep := hstep _ rfl
    generalize w.gs[i] = r at *
    have hflen : ((w.globals ++ ((w.gs.take i).filter live).flatMap (·.stack)).foldl onceL []).length ≤ (w.globals ++ ((w.gs.take i).filter live).flatMap (·.stack)).length := by
      have := foldl_once_len (xs := w.globals ++ ((w.gs.take i).filter live).flatMap (·.stack)) (l := [])
      simpa using this
    generalize w.globals ++ ((w.gs.take i).filter live).flatMap (·.stack) = nm at *
    generalize nm.foldl onceL [] = o at *
    repeat (with_reducible first | refine vP_so ?_ | refine vB_t ?_ | refine vB_f ?_ | refine vE_tt ?_ | refine vE_ff ?_ | refine vE_tf ?_ | refine vE_ft ?_ | refine vE_u ?_ | refine vP_to (by simp (disch := omega) only [gdW_true, gdW_false, gB_true, gB_false, gB_undef, pickV_true, pickV_false, Bool.not_true, Bool.not_false, Option.map_some, bin_add, bin_sub, bin_mul, bin_quo, bin_rem, lss_t, lss_f, leq_t, leq_f, gtr_t, gtr_f, geq_t, geq_f, eqi_t, eqi_f, nei_t, nei_f, rem_uw, conv_ui, conv_iu, conv_ii, not_bool, nil_ptr, fa_mk, ptrV, len_mk, cap_mk, eq_ptr_nil, ne_ptr_nil, eq_nil_nil, ne_nil_nil, eq_slice_nil, eq_nil_slice, ia_1, l4, hgl.1]; exact so_so) ?_)
    refine ⟨fun m zs h' => ∃ (j : Nat) (v3 : Value), zs = [.int .i64 j, v3] ∧ m = r.stack.length - j ∧ j ≤ r.stack.length ∧ (live r = false → j = 0) ∧ (SG iE 3 v3 ((r.stack.take j).foldl onceL o) * (pt r1 (.cells w.cells 26 (0, 0)) * (own g * (F * tt)))) h',
      ⟨_, 0, v3b, rfl, rfl, by omega, fun _ => rfl, hh4⟩, ?_⟩
    clear l4
    rintro m v6 v3d h5 ⟨j, v3e, hzs, rfl, hj, hj0, hh5⟩ _
    obtain ⟨rfl, rfl⟩ : v6 = .int .i64 j ∧ v3d = v3e := by simpa using hzs
    have l4 := (vw_ld (r := r1) (w := w) (E := 26) (F := SG iE 3 v3d ((r.stack.take j).foldl onceL o) * (own g * (F * tt))) (asr (by ac_rfl) hh5)).2.2.2.2.1
    have hw5 := own_vat (F := SG iE 3 v3d ((r.stack.take j).foldl onceL o) * (pt r1 (.cells w.cells 26 (0, 0)) * (F * tt))) (asr (by ac_rfl) hh5) hv
    obtain ⟨b, q, e1, e2, _, e4, _⟩ := hw5.gor hgi .i64
    have hslt := hstk.lt
    by_cases hjl : j < r.stack.length
    · by_cases hl : live r = true
      · have hst : r.st ≠ 5 := by unfold live at hl; simpa using hl
        have hsub := hsub hl
        obtain ⟨p, f1, f2⟩ := hstk.get j r.stack[j] .i64 (List.getElem?_eq_getElem hjl)
        have f2 := own_ld1 (F := SG iE 3 v3d ((r.stack.take j).foldl onceL o) * (pt r1 (.cells w.cells 26 (0, 0)) * (F * tt))) (asr (by ac_rfl) hh5) f2
        have hfold : (r.stack.take (j + 1)).foldl onceL o = onceL ((r.stack.take j).foldl onceL o) r.stack[j] := by
          rw [List.take_succ_eq_append_getElem hjl, List.foldl_append]; rfl
        have hfl2 : ((r.stack.take j).foldl onceL o).length ≤ 1000000 := Nat.le_trans foldl_once_len (by rw [List.length_take]; omega)
        generalize r.stack[j] = x at *
        generalize (r.stack.take j).foldl onceL o = o' at *
        repeat (with_reducible first | refine vP_so ?_ | refine vB_t ?_ | refine vB_f ?_ | refine vE_tt ?_ | refine vE_ff ?_ | refine vE_tf ?_ | refine vE_ft ?_ | refine vE_u ?_ | refine vP_to (by simp (disch := omega) only [gdW_true, gdW_false, gB_true, gB_false, gB_undef, pickV_true, pickV_false, Bool.not_true, Bool.not_false, Option.map_some, bin_add, bin_sub, bin_mul, bin_quo, bin_rem, lss_t, lss_f, leq_t, leq_f, gtr_t, gtr_f, geq_t, geq_f, eqi_t, eqi_f, nei_t, nei_f, rem_uw, conv_ui, conv_iu, conv_ii, not_bool, nil_ptr, fa_mk, ptrV, len_mk, cap_mk, eq_ptr_nil, ne_ptr_nil, eq_nil_nil, ne_nil_nil, eq_slice_nil, eq_nil_slice, ia_1, l4, e1, e2, e4, hstk.len, f1, f2]; exact so_so) ?_)
        refine use_once (l := o') (F := pt r1 (.cells w.cells 26 (0, 0)) * (own g * F)) (by omega) (asr (by ac_rfl) hh5) fun v58 h6 hh6 => ?_
        repeat (with_reducible first | refine vP_so ?_ | refine vB_t ?_ | refine vB_f ?_ | refine vE_tt ?_ | refine vE_ff ?_ | refine vE_tf ?_ | refine vE_ft ?_ | refine vE_u ?_ | refine vP_to (by simp (disch := omega) only [gdW_true, gdW_false, gB_true, gB_false, gB_undef, pickV_true, pickV_false, Bool.not_true, Bool.not_false, Option.map_some, bin_add, bin_sub, bin_mul, bin_quo, bin_rem, lss_t, lss_f, leq_t, leq_f, gtr_t, gtr_f, geq_t, geq_f, eqi_t, eqi_f, nei_t, nei_f, rem_uw, conv_ui, conv_iu, conv_ii, not_bool, nil_ptr, fa_mk, ptrV, len_mk, cap_mk, eq_ptr_nil, ne_ptr_nil, eq_nil_nil, ne_nil_nil, eq_slice_nil, eq_nil_slice, ia_1]; exact so_so) ?_)
        exact ⟨r.stack.length - (j + 1), by omega, j + 1, v58, rfl, rfl, by omega, (fun q => by rw [hl] at q; cases q), by rw [hfold]; exact asr (by ac_rfl) hh6⟩
      · have hst : r.st = 5 := by unfold live at hl; simpa using hl
        have hl : live r = false := by simpa using hl
        obtain rfl := hj0 hl
        repeat (with_reducible first | refine vP_so ?_ | refine vB_t ?_ | refine vB_f ?_ | refine vE_tt ?_ | refine vE_ff ?_ | refine vE_tf ?_ | refine vE_ft ?_ | refine vE_u ?_ | refine vP_to (by simp (disch := omega) only [gdW_true, gdW_false, gB_true, gB_false, gB_undef, pickV_true, pickV_false, Bool.not_true, Bool.not_false, Option.map_some, bin_add, bin_sub, bin_mul, bin_quo, bin_rem, lss_t, lss_f, leq_t, leq_f, gtr_t, gtr_f, geq_t, geq_f, eqi_t, eqi_f, nei_t, nei_f, rem_uw, conv_ui, conv_iu, conv_ii, not_bool, nil_ptr, fa_mk, ptrV, len_mk, cap_mk, eq_ptr_nil, ne_ptr_nil, eq_nil_nil, ne_nil_nil, eq_slice_nil, eq_nil_slice, ia_1, l4, e1, e2, e4, hstk.len]; exact so_so) ?_)
        rw [hl] at hstep
        exact ⟨w.gs.length - (i + 1), by omega, i + 1, v3d, rfl, rfl, by omega, by rw [hstep]; simpa using hh5⟩
    · obtain rfl : j = r.stack.length := by omega
      rw [List.take_length] at hh5
      repeat (with_reducible first | refine vP_so ?_ | refine vB_t ?_ | refine vB_f ?_ | refine vE_tt ?_ | refine vE_ff ?_ | refine vE_tf ?_ | refine vE_ft ?_ | refine vE_u ?_ | refine vP_to (by simp (disch := omega) only [gdW_true, gdW_false, gB_true, gB_false, gB_undef, pickV_true, pickV_false, Bool.not_true, Bool.not_false, Option.map_some, bin_add, bin_sub, bin_mul, bin_quo, bin_rem, lss_t, lss_f, leq_t, leq_f, gtr_t, gtr_f, geq_t, geq_f, eqi_t, eqi_f, nei_t, nei_f, rem_uw, conv_ui, conv_iu, conv_ii, not_bool, nil_ptr, fa_mk, ptrV, len_mk, cap_mk, eq_ptr_nil, ne_ptr_nil, eq_nil_nil, ne_nil_nil, eq_slice_nil, eq_nil_slice, ia_1, l4, e1, e2, e4, hstk.len]; exact so_so) ?_)
      refine ⟨w.gs.length - (i + 1), by omega, i + 1, v3d, rfl, rfl, by omega, ?_⟩
      rw [hstep]
      by_cases hl : live r = true
      · rw [if_pos hl]; exact hh5
      · rw [if_neg hl]
        have : r.stack = [] := List.length_eq_zero_iff.1 (hj0 (by simpa using hl))
        rw [this] at hh5
        exact hh5
  · obtain rfl : i = w.gs.length := by omega
    rw [List.take_length] at hh4
    repeat (with_reducible first | refine vP_so ?_ | refine vB_t ?_ | refine vB_f ?_ | refine vE_tt ?_ | refine vE_ff ?_ | refine vE_tf ?_ | refine vE_ft ?_ | refine vE_u ?_ | refine vP_to (by simp (disch := omega) only [gdW_true, gdW_false, gB_true, gB_false, gB_undef, pickV_true, pickV_false, Bool.not_true, Bool.not_false, Option.map_some, bin_add, bin_sub, bin_mul, bin_quo, bin_rem, lss_t, lss_f, leq_t, leq_f, gtr_t, gtr_f, geq_t, geq_f, eqi_t, eqi_f, nei_t, nei_f, rem_uw, conv_ui, conv_iu, conv_ii, not_bool, nil_ptr, fa_mk, ptrV, len_mk, cap_mk, eq_ptr_nil, ne_ptr_nil, eq_nil_nil, ne_nil_nil, eq_slice_nil, eq_nil_slice, ia_1, l4, hgl.1]; exact so_so) ?_)
    exact hK v3b h4 (dropL (P := pt r1 (.cells w.cells 26 (0, 0))) (Q := SG iE 3 v3b w.rootsL * (own g * F)) (asr (by ac_rfl) hh4) |> asr (by ac_rfl))

end Go.Proofs

/-
  Contracts of treadmillref29: walk.
-/
set_option maxRecDepth 100000
namespace Go.Proofs
open Go.Sl

abbrev bE : Enc Bool := enc1 (fun b => .bool b) (fun _ => rfl)

/-- The first place of each address, and 1, of the objects from i on. -/
def atD (os : List Ob) (i : Nat) : Int → Option Value := fun x => ((os.drop i).findIdx? fun o => o.addr == x).map fun (j : Nat) => Value.int .i64 ((i + j + 1 : Nat) : Int)

theorem atD_step {os : List Ob} {i : Nat} {o : Ob} (h : os[i]? = some o) : (fun x => if x = o.addr then some (Value.int .i64 ((i : Int) + 1)) else atD os (i + 1) x) = atD os i := by
  obtain ⟨hi, e⟩ := List.getElem?_eq_some_iff.1 h
  funext x
  unfold atD
  rw [List.drop_eq_getElem_cons hi, e, List.findIdx?_cons]
  by_cases hx : x = o.addr
  · subst hx; simp
  · have : (o.addr == x) = false := by simpa using fun q => hx q.symm
    rw [if_neg hx, this]
    simp only [Bool.false_eq_true, if_false]
    cases (os.drop (i + 1)).findIdx? (fun o => o.addr == x) with
    | none => rfl
    | some j => simp; omega

theorem atD_zero (w : VW) (x : Int) : atD w.objs 0 x = (w.at x).map fun (j : Nat) => Value.int .i64 ((j + 1 : Nat) : Int) := by
  unfold atD VW.at
  simp

/-- What the reference's walk knows: k lists of names behind the roots have been taken up; 'cur' are still to be looked at. -/
structure RInv (w : VW) (k : Nat) (l : List Nat) (lost cur : List Int) : Prop where
  nodup : l.Nodup
  lt : ∀ n ∈ l, n < w.objs.length
  rch : ∀ n ∈ l, ∃ x, Rch w x ∧ w.at x = some n
  rise : Rise lost
  lostOk : ∀ x ∈ lost, Rch w x ∧ w.at x = none
  roots : ∀ x ∈ w.names, x ≠ 0 → x ∈ cur ∨ ((∀ n, w.at x = some n → n ∈ l) ∧ (w.at x = none → x ∈ lost))
  slots : ∀ (j : Nat) n o x, j < k → l[j]? = some n → w.objs[n]? = some o → x ∈ o.slots → x ≠ 0 → x ∈ cur ∨ ((∀ n, w.at x = some n → n ∈ l) ∧ (w.at x = none → x ∈ lost))
  curOk : ∀ x ∈ cur, x ≠ 0 → Rch w x

theorem RInv.done {w : VW} {l : List Nat} {lost : List Int} (h : RInv w l.length l lost []) : (∀ n, n ∈ l ↔ ∃ x, Rch w x ∧ w.at x = some n) ∧ (∀ x, x ∈ lost ↔ Rch w x ∧ w.at x = none) := by
  have key : ∀ x, Rch w x → (∀ n, w.at x = some n → n ∈ l) ∧ (w.at x = none → x ∈ lost) := fun x hr => by
    induction hr with
    | root h1 h2 =>
      rcases h.roots _ h1 h2 with q | q
      · simp at q
      · exact q
    | @step x y k o h1 h2 h3 h4 h5 ih =>
      obtain ⟨j, hj, e⟩ := List.getElem_of_mem (ih.1 k h2)
      rcases h.slots j k o y hj (by rw [List.getElem?_eq_getElem hj, e]) h3 h4 h5 with q | q
      · simp at q
      · exact q
  refine ⟨fun n => ⟨h.rch n, fun ⟨x, h1, h2⟩ => (key x h1).1 n h2⟩, fun x => ⟨h.lostOk x, fun ⟨h1, h2⟩ => (key x h1).2 h2⟩⟩

/-- A name is looked at. -/
theorem RInv.next {w : VW} {k : Nat} {l l' : List Nat} {lost lost' cur : List Int} {x : Int} (h : RInv w k l lost (x :: cur)) (h1 : l'.Nodup) (h2 : ∀ n ∈ l', n ∈ l ∨ (x ≠ 0 ∧ w.at x = some n)) (h3 : ∃ t, l' = l ++ t) (h4 : Rise lost') (h5 : ∀ y, y ∈ lost' → y ∈ lost ∨ (y = x ∧ x ≠ 0 ∧ w.at x = none))
    (h6 : ∀ y ∈ lost, y ∈ lost') (h7 : x ≠ 0 → (∀ n, w.at x = some n → n ∈ l') ∧ (w.at x = none → x ∈ lost')) (hk : k ≤ l.length) : RInv w k l' lost' cur := by
  obtain ⟨t, rfl⟩ := h3
  have hr : x ≠ 0 → Rch w x := h.curOk x (by simp)
  have up : ∀ y, y ≠ 0 → (y ∈ x :: cur ∨ ((∀ n, w.at y = some n → n ∈ l) ∧ (w.at y = none → y ∈ lost))) → (y ∈ cur ∨ ((∀ n, w.at y = some n → n ∈ l ++ t) ∧ (w.at y = none → y ∈ lost'))) := fun y hy0 q => by
    rcases q with q | q
    · rw [List.mem_cons] at q
      rcases q with rfl | q
      · exact .inr (h7 hy0)
      · exact .inl q
    · exact .inr ⟨fun n hn => List.mem_append.2 (.inl (q.1 n hn)), fun hn => h6 y (q.2 hn)⟩
  refine ⟨h1, fun n hn => ?_, fun n hn => ?_, h4, fun y hy => ?_, fun y hy h0 => up y h0 (h.roots y hy h0), fun j n o y hj hn ho hy h0 => up y h0 (h.slots j n o y hj ?_ ho hy h0), fun y hy h0 => h.curOk y (by simp [hy]) h0⟩
  · rcases h2 n hn with q | ⟨_, q⟩
    · exact h.lt n q
    · obtain ⟨o, ho, _⟩ := at_some q
      exact (List.getElem?_eq_some_iff.1 ho).1
  · rcases h2 n hn with q | ⟨q0, q⟩
    · exact h.rch n q
    · exact ⟨x, hr q0, q⟩
  · rcases h5 y hy with q | ⟨rfl, q0, q⟩
    · exact h.lostOk y q
    · exact ⟨hr q0, q⟩
  · rw [List.getElem?_append_left (by omega)] at hn; exact hn

/-- An object's names are taken up. -/
theorem RInv.take {w : VW} {k : Nat} {l : List Nat} {lost : List Int} {n : Nat} {o : Ob} (h : RInv w k l lost []) (hk : l[k]? = some n) (ho : w.objs[n]? = some o) : RInv w (k + 1) l lost o.slots := by
  refine ⟨h.nodup, h.lt, h.rch, h.rise, h.lostOk, fun x hx h0 => ?_, fun j n' o' x hj hn ho' hx h0 => ?_, fun x hx h0 => ?_⟩
  · rcases h.roots x hx h0 with q | q
    · simp at q
    · exact .inr q
  · by_cases hjk : j = k
    · subst hjk
      obtain rfl : n = n' := Option.some.inj (hk.symm.trans hn)
      obtain rfl : o = o' := Option.some.inj (ho.symm.trans ho')
      exact .inl hx
    · rcases h.slots j n' o' x (by omega) hn ho' hx h0 with q | q
      · simp at q
      · exact .inr q
  · obtain ⟨y, hy, hat⟩ := h.rch n (List.mem_of_getElem? hk)
    exact .step hy hat ho hx h0

def inF (n : Nat) (l : List Nat) : List Bool := (List.range n).map fun i => decide (i ∈ l)

theorem inF_len (n : Nat) (l : List Nat) : (inF n l).length = n := by simp [inF]
theorem inF_get {n i : Nat} (l : List Nat) (h : i < n) : (inF n l)[i]? = some (decide (i ∈ l)) := by simp [inF, h]
theorem inF_set {n i : Nat} {l : List Nat} : (inF n l).set i true = inF n (l ++ [i]) := by
  apply List.ext_getElem?
  intro j
  rw [List.getElem?_set, inF_len]
  by_cases hj : j < n
  · rw [inF_get _ hj, inF_get _ hj]
    by_cases hij : i = j
    · subst hij; simp [hj]
    · rw [if_neg hij]
      have : (j ∈ l ++ [i]) ↔ j ∈ l := by
        rw [List.mem_append, List.mem_singleton]
        exact ⟨fun q => q.elim id (fun e => (hij e.symm).elim), .inl⟩
      simp [this]
  · rw [List.getElem?_eq_none (by rw [inF_len]; omega), List.getElem?_eq_none (by rw [inF_len]; omega)]
    by_cases hij : i = j
    · rw [if_pos hij, if_neg (by omega)]
    · rw [if_neg hij]

def natL (l : List Nat) : List Int := l.map fun (n : Nat) => (n : Int)

theorem use_rwalk {g : Hp} {w : VW} {F : Asrt} {K : Value → Hp → Prop} {h : Hp} (hv : VAt g w) (hN : w.all.length ≤ 1000000) (hO : w.objs.length ≤ 1000000) (hh : (own g * (F * tt)) h)
    (hK : ∀ v8 v9 l lost h', l.Nodup → (∀ n, n ∈ l ↔ ∃ x, Rch w x ∧ w.at x = some n) → LostL w lost → l.length ≤ 1000000 → lost.length ≤ 1000000 →
      (SG iE 3 v8 (natL l) * (SG iE 3 v9 lost * (own g * (F * tt)))) h' → K (.tuple #[v8, v9]) h') : CallH Try.prog 59 #[w.val] K h := by
  refine C59 ?_
  unfold D59
  have hol := hv.objs_len
  refine vA_new (o := .cells w.cells 26 (0, 0)) hh fun r1 h1 hh1 => ?_
  refine vA_new (f := fun r => .map (some r)) hh1 fun r14 h2 hh2 => ?_
  have hh2 := MP_new hh2
  have l5 := (vw_ld (r := r1) (w := w) (E := 26) (F := MP r14 (fun _ => none) * (own g * (F * tt))) (asr (by ac_rfl) hh2)).2.2.2.2.2.1
  repeat (with_reducible first | refine vP_so ?_ | refine vB_t ?_ | refine vB_f ?_ | refine vE_tt ?_ | refine vE_ff ?_ | refine vE_tf ?_ | refine vE_ft ?_ | refine vE_u ?_ | refine vP_to (by simp (disch := omega) only [gdW_true, gdW_false, gB_true, gB_false, gB_undef, pickV_true, pickV_false, Bool.not_true, Bool.not_false, Option.map_some, bin_add, bin_sub, bin_mul, bin_quo, bin_rem, lss_t, lss_f, leq_t, leq_f, gtr_t, gtr_f, geq_t, geq_f, eqi_t, eqi_f, nei_t, nei_f, rem_uw, conv_ui, conv_iu, conv_ii, not_bool, nil_ptr, fa_mk, ptrV, len_mk, cap_mk, eq_ptr_nil, ne_ptr_nil, eq_nil_nil, ne_nil_nil, eq_slice_nil, eq_nil_slice, ia_1, l5, hol.1]; exact so_so) ?_)
  have e0 : (fun _ => none : Int → Option Value) = atD w.objs w.objs.length := by funext x; unfold atD; simp
  rw [e0] at hh2
  refine ⟨fun m zs h' => ∃ i : Nat, zs = [.int .i64 ((i : Int) - 1)] ∧ m = i ∧ i ≤ w.objs.length ∧ (MP r14 (atD w.objs i) * (pt r1 (.cells w.cells 26 (0, 0)) * (own g * (F * tt)))) h', ⟨_, w.objs.length, rfl, rfl, by omega, hh2⟩, ?_⟩
  clear l5
  rintro m v5 h3 ⟨i, hzs, rfl, hi, hh3⟩ _
  obtain rfl : v5 = .int .i64 ((m : Int) - 1) := by simpa using hzs
  have l5 := (vw_ld (r := r1) (w := w) (E := 26) (F := MP r14 (atD w.objs m) * (own g * (F * tt))) (asr (by ac_rfl) hh3)).2.2.2.2.2.1
  by_cases hi0 : 0 < m
  · obtain ⟨i, rfl⟩ : ∃ i, m = i + 1 := ⟨m - 1, by omega⟩
    have hw := own_vat (F := MP r14 (atD w.objs (i + 1)) * (pt r1 (.cells w.cells 26 (0, 0)) * (F * tt))) (asr (by ac_rfl) hh3) hv
    have hoi : w.objs[i]? = some w.objs[i] := List.getElem?_eq_getElem (by omega)
    obtain ⟨b, q, e1, e2, _⟩ := hw.obj hoi .i64
    have hst := atD_step hoi
    generalize w.objs[i] = o at *
    have ei : (((i + 1 : Nat) : Int) - 1) = (i : Int) := by omega
    rw [ei]
    repeat (with_reducible first | refine vP_so ?_ | refine vB_t ?_ | refine vB_f ?_ | refine vE_tt ?_ | refine vE_ff ?_ | refine vE_tf ?_ | refine vE_ft ?_ | refine vE_u ?_ | refine vP_to (by simp (disch := omega) only [gdW_true, gdW_false, gB_true, gB_false, gB_undef, pickV_true, pickV_false, Bool.not_true, Bool.not_false, Option.map_some, bin_add, bin_sub, bin_mul, bin_quo, bin_rem, lss_t, lss_f, leq_t, leq_f, gtr_t, gtr_f, geq_t, geq_f, eqi_t, eqi_f, nei_t, nei_f, rem_uw, conv_ui, conv_iu, conv_ii, not_bool, nil_ptr, fa_mk, ptrV, len_mk, cap_mk, eq_ptr_nil, ne_ptr_nil, eq_nil_nil, ne_nil_nil, eq_slice_nil, eq_nil_slice, ia_1, l5, e1, e2]; exact so_so) ?_)
    refine mu_MP mapII intU hh3 fun h4 hh4 => ?_
    rw [hst] at hh4
    repeat (with_reducible first | refine vP_so ?_ | refine vB_t ?_ | refine vB_f ?_ | refine vE_tt ?_ | refine vE_ff ?_ | refine vE_tf ?_ | refine vE_ft ?_ | refine vE_u ?_ | refine vP_to (by simp (disch := omega) only [gdW_true, gdW_false, gB_true, gB_false, gB_undef, pickV_true, pickV_false, Bool.not_true, Bool.not_false, Option.map_some, bin_add, bin_sub, bin_mul, bin_quo, bin_rem, lss_t, lss_f, leq_t, leq_f, gtr_t, gtr_f, geq_t, geq_f, eqi_t, eqi_f, nei_t, nei_f, rem_uw, conv_ui, conv_iu, conv_ii, not_bool, nil_ptr, fa_mk, ptrV, len_mk, cap_mk, eq_ptr_nil, ne_ptr_nil, eq_nil_nil, ne_nil_nil, eq_slice_nil, eq_nil_slice, ia_1]; exact so_so) ?_)
    exact ⟨i, by omega, i, rfl, rfl, by omega, hh4⟩
  obtain rfl : m = 0 := by omega
  repeat (with_reducible first | refine vP_so ?_ | refine vB_t ?_ | refine vB_f ?_ | refine vE_tt ?_ | refine vE_ff ?_ | refine vE_tf ?_ | refine vE_ft ?_ | refine vE_u ?_ | refine vP_to (by simp (disch := omega) only [gdW_true, gdW_false, gB_true, gB_false, gB_undef, pickV_true, pickV_false, Bool.not_true, Bool.not_false, Option.map_some, bin_add, bin_sub, bin_mul, bin_quo, bin_rem, lss_t, lss_f, leq_t, leq_f, gtr_t, gtr_f, geq_t, geq_f, eqi_t, eqi_f, nei_t, nei_f, rem_uw, conv_ui, conv_iu, conv_ii, not_bool, nil_ptr, fa_mk, ptrV, len_mk, cap_mk, eq_ptr_nil, ne_ptr_nil, eq_nil_nil, ne_nil_nil, eq_slice_nil, eq_nil_slice, ia_1, l5, hol.1]; exact so_so) ?_)
  refine ms_SG bE (z := false) (n := w.objs.length) hh3 rfl rfl (by omega) (by omega) fun v35 h5 hh5 => ?_
  have l9 := (vw_ld (r := r1) (w := w) (E := 26) (F := SG bE 4 v35 (List.replicate w.objs.length false) * (MP r14 (atD w.objs 0) * (own g * (F * tt)))) (asr (by ac_rfl) hh5)).2.2.2.2.2.2.2.2.2
  repeat (with_reducible first | refine vP_so ?_ | refine vB_t ?_ | refine vB_f ?_ | refine vE_tt ?_ | refine vE_ff ?_ | refine vE_tf ?_ | refine vE_ft ?_ | refine vE_u ?_ | refine vP_to (by simp (disch := omega) only [gdW_true, gdW_false, gB_true, gB_false, gB_undef, pickV_true, pickV_false, Bool.not_true, Bool.not_false, Option.map_some, bin_add, bin_sub, bin_mul, bin_quo, bin_rem, lss_t, lss_f, leq_t, leq_f, gtr_t, gtr_f, geq_t, geq_f, eqi_t, eqi_f, nei_t, nei_f, rem_uw, conv_ui, conv_iu, conv_ii, not_bool, nil_ptr, fa_mk, ptrV, len_mk, cap_mk, eq_ptr_nil, ne_ptr_nil, eq_nil_nil, ne_nil_nil, eq_slice_nil, eq_nil_slice, ia_1, l9]; exact so_so) ?_)
  have hrep : List.replicate w.objs.length false = inF w.objs.length [] := by
    apply List.ext_getElem?
    intro j
    by_cases hj : j < w.objs.length
    · rw [inF_get _ hj, List.getElem?_replicate, if_pos hj]; simp
    · rw [List.getElem?_eq_none (by simpa using hj), List.getElem?_eq_none (by rw [inF_len]; omega)]
  rw [hrep] at hh5
  refine use_rroots (F := SG bE 4 v35 (inF w.objs.length []) * (MP r14 (atD w.objs 0) * (pt r1 (.cells w.cells 26 (0, 0)) * F))) hv hN (asr (by ac_rfl) hh5) fun v37 h6 hh6 => ?_
  clear hh5 hh3 l5 l9 hh2 hh1
  have hroots : ∀ x, x ∈ w.rootsL ↔ x ∈ w.names ∧ x ≠ 0 := fun x => by unfold VW.rootsL; rw [foldl_once_mem]; simp
  generalize w.rootsL = rl at *
  obtain ⟨g2, hg2, hh6⟩ := own_pick hh6
  have hI37 : IntsAt g2 v37 rl := SG_ints (F := emp) (by rw [star_emp]; exact hg2)
  clear hg2
  obtain ⟨hdis, hh6⟩ := own_join hh6
  have hI37 : IntsAt (g2.add g) v37 rl := hI37.mono
  have hv' : VAt (g2.add g) w := by rw [Hp.add_comm hdis]; exact hv.mono
  have hfin : ∀ {G : Asrt} {h' : Hp}, (own (g2.add g) * (G * tt)) h' → (own g * (G * tt)) h' := fun {G h'} q => by
    have q2 := own_split hdis q
    exact dropL (P := own g2) (Q := own g * G) (asr (by ac_rfl) q2) |> asr (by ac_rfl)
  generalize g2.add g = gg at *
  refine ⟨fun m zs h' => ∃ (k : Nat) (v7 v8 v9 : Value) (l : List Nat) (lost cur : List Int), zs = [v7, v8, v9, .int .i64 k] ∧ m = w.objs.length + 1 - k ∧ k ≤ l.length ∧ IntsAt gg v9 cur ∧ RInv w k l lost cur ∧
      (SG iE 3 v7 (natL l) * (SG iE 3 v8 lost * (SG bE 4 v35 (inF w.objs.length l) * (MP r14 (atD w.objs 0) * (pt r1 (.cells w.cells 26 (0, 0)) * (own gg * (F * tt))))))) h',
    ⟨_, 0, .slice none 0 0, .slice none 0 0, v37, [], [], rl, rfl, rfl, by omega, hI37,
      ⟨by simp, by simp, by simp, by simp [Rise], by simp, fun x hx h0 => .inl ((hroots x).2 ⟨hx, h0⟩), fun j _ _ _ hj => by omega, fun x hx h0 => .root ((hroots x).1 hx).1 h0⟩,
      asr (by rw [show natL [] = [] from rfl]; ac_rfl) (SG_nil iE (E := 3) (SG_nil iE (E := 3) hh6))⟩, ?_⟩
  clear hh6 hI37 hroots
  rintro m v7 v8 v9 v10 h7 ⟨k, v7', v8', v9', l, lost, cur, hzs, rfl, hk, hcur, hI, hh7⟩ _
  obtain ⟨rfl, rfl, rfl, rfl⟩ : v7 = v7' ∧ v8 = v8' ∧ v9 = v9' ∧ v10 = .int .i64 k := by simpa using hzs
  have hclt := hcur.lt
  refine ⟨fun m zs h' => ∃ (i : Nat) (v7 v8 : Value) (l : List Nat) (lost : List Int), zs = [.int .i64 i, v7, v8] ∧ m = cur.length - i ∧ i ≤ cur.length ∧ k ≤ l.length ∧ RInv w k l lost (cur.drop i) ∧
      (SG iE 3 v7 (natL l) * (SG iE 3 v8 lost * (SG bE 4 v35 (inF w.objs.length l) * (MP r14 (atD w.objs 0) * (pt r1 (.cells w.cells 26 (0, 0)) * (own gg * (F * tt))))))) h',
    ⟨_, 0, v7, v8, l, lost, rfl, rfl, by omega, hk, by rw [List.drop_zero]; exact hI, hh7⟩, ?_⟩
  clear hh7 hI hk l lost v7 v8 hzs
  rintro m v11 v7 v8 h8 ⟨i, v7', v8', l, lost, hzs, rfl, hi, hk, hI, hh8⟩ _
  obtain ⟨rfl, rfl, rfl⟩ : v11 = .int .i64 i ∧ v7 = v7' ∧ v8 = v8' := by simpa using hzs
  have hll : l.length ≤ w.objs.length := by
    have := nodup_len (l := natL l) (m := natL (List.range w.objs.length)) (by
      unfold natL
      exact List.Pairwise.map _ (fun a b hab => by omega) hI.nodup) (fun x hx => by
      unfold natL at *
      obtain ⟨n, hn, rfl⟩ := List.mem_map.1 hx
      exact List.mem_map.2 ⟨n, List.mem_range.2 (hI.lt n hn), rfl⟩)
    simpa [natL] using this
  have hlostl : lost.length ≤ w.all.length := nodup_len (hI.rise.imp fun h => by omega) fun x hx => (hI.lostOk x hx).1.all
  by_cases hil : i < cur.length
  · obtain ⟨p, f1, f2⟩ := hcur.get i cur[i] .i64 (List.getElem?_eq_getElem hil)
    have f2 := own_ld1 (F := SG iE 3 v7 (natL l) * (SG iE 3 v8 lost * (SG bE 4 v35 (inF w.objs.length l) * (MP r14 (atD w.objs 0) * (pt r1 (.cells w.cells 26 (0, 0)) * (F * tt)))))) (asr (by ac_rfl) hh8) f2
    rw [List.drop_eq_getElem_cons hil] at hI
    generalize cur[i] = x at *
    have hm : (MP r14 (atD w.objs 0) * (SG iE 3 v7 (natL l) * (SG iE 3 v8 lost * (SG bE 4 v35 (inF w.objs.length l) * (pt r1 (.cells w.cells 26 (0, 0)) * (own gg * (F * tt))))))) h8 := asr (by ac_rfl) hh8
    obtain ⟨hlk, _⟩ := lk_MP (k := x) mapII intU zInt hm
    rw [atD_zero] at hlk
    repeat (with_reducible first | refine vP_so ?_ | refine vB_t ?_ | refine vB_f ?_ | refine vE_tt ?_ | refine vE_ff ?_ | refine vE_tf ?_ | refine vE_ft ?_ | refine vE_u ?_ | refine vP_to (by simp (disch := omega) only [gdW_true, gdW_false, gB_true, gB_false, gB_undef, pickV_true, pickV_false, Bool.not_true, Bool.not_false, Option.map_some, bin_add, bin_sub, bin_mul, bin_quo, bin_rem, lss_t, lss_f, leq_t, leq_f, gtr_t, gtr_f, geq_t, geq_f, eqi_t, eqi_f, nei_t, nei_f, rem_uw, conv_ui, conv_iu, conv_ii, not_bool, nil_ptr, fa_mk, ptrV, len_mk, cap_mk, eq_ptr_nil, ne_ptr_nil, eq_nil_nil, ne_nil_nil, eq_slice_nil, eq_nil_slice, ia_1, hcur.len]; exact so_so) ?_)
    intro J4 hJ4
    have hJ : ∀ v7' v8' l' lost' h', k ≤ l'.length → RInv w k l' lost' (cur.drop (i + 1)) → (SG iE 3 v7' (natL l') * (SG iE 3 v8' lost' * (SG bE 4 v35 (inF w.objs.length l') * (MP r14 (atD w.objs 0) * (pt r1 (.cells w.cells 26 (0, 0)) * (own gg * (F * tt))))))) h' → J4 [v7', v8'] h' := fun v7' v8' l' lost' h' a1 a2 a3 => by
      refine hJ4 _ _ _ fun _ => ?_
      repeat (with_reducible first | refine vP_so ?_ | refine vB_t ?_ | refine vB_f ?_ | refine vE_tt ?_ | refine vE_ff ?_ | refine vE_tf ?_ | refine vE_ft ?_ | refine vE_u ?_ | refine vP_to (by simp (disch := omega) only [gdW_true, gdW_false, gB_true, gB_false, gB_undef, pickV_true, pickV_false, Bool.not_true, Bool.not_false, Option.map_some, bin_add, bin_sub, bin_mul, bin_quo, bin_rem, lss_t, lss_f, leq_t, leq_f, gtr_t, gtr_f, geq_t, geq_f, eqi_t, eqi_f, nei_t, nei_f, rem_uw, conv_ui, conv_iu, conv_ii, not_bool, nil_ptr, fa_mk, ptrV, len_mk, cap_mk, eq_ptr_nil, ne_ptr_nil, eq_nil_nil, ne_nil_nil, eq_slice_nil, eq_nil_slice, ia_1]; exact so_so) ?_)
      exact ⟨cur.length - (i + 1), by omega, i + 1, v7', v8', l', lost', rfl, rfl, by omega, a1, a2, a3⟩
    by_cases h0 : x = 0
    · have hsame : RInv w k l lost (cur.drop (i + 1)) := hI.next hI.nodup (fun n hn => .inl hn) ⟨[], by simp⟩ hI.rise (fun y hy => .inl hy) (fun y hy => hy) (fun q => (q h0).elim) hk
      repeat (with_reducible first | refine vP_so ?_ | refine vB_t ?_ | refine vB_f ?_ | refine vE_tt ?_ | refine vE_ff ?_ | refine vE_tf ?_ | refine vE_ft ?_ | refine vE_u ?_ | refine vP_to (by simp (disch := omega) only [gdW_true, gdW_false, gB_true, gB_false, gB_undef, pickV_true, pickV_false, Bool.not_true, Bool.not_false, Option.map_some, bin_add, bin_sub, bin_mul, bin_quo, bin_rem, lss_t, lss_f, leq_t, leq_f, gtr_t, gtr_f, geq_t, geq_f, eqi_t, eqi_f, nei_t, nei_f, rem_uw, conv_ui, conv_iu, conv_ii, not_bool, nil_ptr, fa_mk, ptrV, len_mk, cap_mk, eq_ptr_nil, ne_ptr_nil, eq_nil_nil, ne_nil_nil, eq_slice_nil, eq_nil_slice, ia_1, f1, f2, hlk]; exact so_so) ?_)
      intro J5 hJ5
      repeat (with_reducible first | refine vP_so ?_ | refine vB_t ?_ | refine vB_f ?_ | refine vE_tt ?_ | refine vE_ff ?_ | refine vE_tf ?_ | refine vE_ft ?_ | refine vE_u ?_ | refine vP_to (by simp (disch := omega) only [gdW_true, gdW_false, gB_true, gB_false, gB_undef, pickV_true, pickV_false, Bool.not_true, Bool.not_false, Option.map_some, bin_add, bin_sub, bin_mul, bin_quo, bin_rem, lss_t, lss_f, leq_t, leq_f, gtr_t, gtr_f, geq_t, geq_f, eqi_t, eqi_f, nei_t, nei_f, rem_uw, conv_ui, conv_iu, conv_ii, not_bool, nil_ptr, fa_mk, ptrV, len_mk, cap_mk, eq_ptr_nil, ne_ptr_nil, eq_nil_nil, ne_nil_nil, eq_slice_nil, eq_nil_slice, ia_1]; exact so_so) ?_)
      refine hJ5 _ _ fun _ => ?_
      repeat (with_reducible first | refine vP_so ?_ | refine vB_t ?_ | refine vB_f ?_ | refine vE_tt ?_ | refine vE_ff ?_ | refine vE_tf ?_ | refine vE_ft ?_ | refine vE_u ?_ | refine vP_to (by simp (disch := omega) only [gdW_true, gdW_false, gB_true, gB_false, gB_undef, pickV_true, pickV_false, Bool.not_true, Bool.not_false, Option.map_some, bin_add, bin_sub, bin_mul, bin_quo, bin_rem, lss_t, lss_f, leq_t, leq_f, gtr_t, gtr_f, geq_t, geq_f, eqi_t, eqi_f, nei_t, nei_f, rem_uw, conv_ui, conv_iu, conv_ii, not_bool, nil_ptr, fa_mk, ptrV, len_mk, cap_mk, eq_ptr_nil, ne_ptr_nil, eq_nil_nil, ne_nil_nil, eq_slice_nil, eq_nil_slice, ia_1]; exact so_so) ?_)
      exact hJ v7 v8 l lost h8 hk hsame hh8
    cases hat : w.at x with
    | none =>
      rw [hat] at hlk
      simp only [Option.map_none, Option.getD_none] at hlk
      repeat (with_reducible first | refine vP_so ?_ | refine vB_t ?_ | refine vB_f ?_ | refine vE_tt ?_ | refine vE_ff ?_ | refine vE_tf ?_ | refine vE_ft ?_ | refine vE_u ?_ | refine vP_to (by simp (disch := omega) only [gdW_true, gdW_false, gB_true, gB_false, gB_undef, pickV_true, pickV_false, Bool.not_true, Bool.not_false, Option.map_some, bin_add, bin_sub, bin_mul, bin_quo, bin_rem, lss_t, lss_f, leq_t, leq_f, gtr_t, gtr_f, geq_t, geq_f, eqi_t, eqi_f, nei_t, nei_f, rem_uw, conv_ui, conv_iu, conv_ii, not_bool, nil_ptr, fa_mk, ptrV, len_mk, cap_mk, eq_ptr_nil, ne_ptr_nil, eq_nil_nil, ne_nil_nil, eq_slice_nil, eq_nil_slice, ia_1, f1, f2, hlk]; exact so_so) ?_)
      intro J5 hJ5
      repeat (with_reducible first | refine vP_so ?_ | refine vB_t ?_ | refine vB_f ?_ | refine vE_tt ?_ | refine vE_ff ?_ | refine vE_tf ?_ | refine vE_ft ?_ | refine vE_u ?_ | refine vP_to (by simp (disch := omega) only [gdW_true, gdW_false, gB_true, gB_false, gB_undef, pickV_true, pickV_false, Bool.not_true, Bool.not_false, Option.map_some, bin_add, bin_sub, bin_mul, bin_quo, bin_rem, lss_t, lss_f, leq_t, leq_f, gtr_t, gtr_f, geq_t, geq_f, eqi_t, eqi_f, nei_t, nei_f, rem_uw, conv_ui, conv_iu, conv_ii, not_bool, nil_ptr, fa_mk, ptrV, len_mk, cap_mk, eq_ptr_nil, ne_ptr_nil, eq_nil_nil, ne_nil_nil, eq_slice_nil, eq_nil_slice, ia_1]; exact so_so) ?_)
      refine use_put (l := lost) (F := SG iE 3 v7 (natL l) * (SG bE 4 v35 (inF w.objs.length l) * (MP r14 (atD w.objs 0) * (pt r1 (.cells w.cells 26 (0, 0)) * (own gg * F))))) (by omega) hI.rise (asr (by ac_rfl) hh8) fun v61 lost' h14 b1 b2 b3 hh14 => ?_
      refine hJ5 _ _ fun _ => ?_
      repeat (with_reducible first | refine vP_so ?_ | refine vB_t ?_ | refine vB_f ?_ | refine vE_tt ?_ | refine vE_ff ?_ | refine vE_tf ?_ | refine vE_ft ?_ | refine vE_u ?_ | refine vP_to (by simp (disch := omega) only [gdW_true, gdW_false, gB_true, gB_false, gB_undef, pickV_true, pickV_false, Bool.not_true, Bool.not_false, Option.map_some, bin_add, bin_sub, bin_mul, bin_quo, bin_rem, lss_t, lss_f, leq_t, leq_f, gtr_t, gtr_f, geq_t, geq_f, eqi_t, eqi_f, nei_t, nei_f, rem_uw, conv_ui, conv_iu, conv_ii, not_bool, nil_ptr, fa_mk, ptrV, len_mk, cap_mk, eq_ptr_nil, ne_ptr_nil, eq_nil_nil, ne_nil_nil, eq_slice_nil, eq_nil_slice, ia_1]; exact so_so) ?_)
      refine hJ v7 v61 l lost' h14 hk (hI.next hI.nodup (fun n hn => .inl hn) ⟨[], by simp⟩ b1 (fun y hy => ?_) (fun y hy => (b2 y).2 (.inl hy)) (fun _ => ⟨(fun n hn => by rw [hat] at hn; cases hn), fun _ => (b2 x).2 (.inr rfl)⟩) hk) (asr (by ac_rfl) hh14)
      rcases (b2 y).1 hy with q | q
      · exact .inl q
      · exact .inr ⟨q, h0, hat⟩
    | some n =>
      rw [hat] at hlk
      simp only [Option.map_some, Option.getD_some] at hlk
      obtain ⟨o, ho, _⟩ := at_some hat
      have hnl : n < w.objs.length := (List.getElem?_eq_some_iff.1 ho).1
      have hS35 : (SG bE 4 v35 (inF w.objs.length l) * (SG iE 3 v7 (natL l) * (SG iE 3 v8 lost * (MP r14 (atD w.objs 0) * (pt r1 (.cells w.cells 26 (0, 0)) * (own gg * (F * tt))))))) h8 := asr (by ac_rfl) hh8
      obtain ⟨p5, c1, c2, c3⟩ := el1 hS35 (inF_get l hnl) .i64
      have en : ((n + 1 : Nat) : Int) - 1 = (n : Int) := by omega
      repeat (with_reducible first | refine vP_so ?_ | refine vB_t ?_ | refine vB_f ?_ | refine vE_tt ?_ | refine vE_ff ?_ | refine vE_tf ?_ | refine vE_ft ?_ | refine vE_u ?_ | refine vP_to (by simp (disch := omega) only [gdW_true, gdW_false, gB_true, gB_false, gB_undef, pickV_true, pickV_false, Bool.not_true, Bool.not_false, Option.map_some, bin_add, bin_sub, bin_mul, bin_quo, bin_rem, lss_t, lss_f, leq_t, leq_f, gtr_t, gtr_f, geq_t, geq_f, eqi_t, eqi_f, nei_t, nei_f, rem_uw, conv_ui, conv_iu, conv_ii, not_bool, nil_ptr, fa_mk, ptrV, len_mk, cap_mk, eq_ptr_nil, ne_ptr_nil, eq_nil_nil, ne_nil_nil, eq_slice_nil, eq_nil_slice, ia_1, f1, f2, hlk]; exact so_so) ?_)
      intro J5 hJ5
      repeat (with_reducible first | refine vP_so ?_ | refine vB_t ?_ | refine vB_f ?_ | refine vE_tt ?_ | refine vE_ff ?_ | refine vE_tf ?_ | refine vE_ft ?_ | refine vE_u ?_ | refine vP_to (by simp (disch := omega) only [gdW_true, gdW_false, gB_true, gB_false, gB_undef, pickV_true, pickV_false, Bool.not_true, Bool.not_false, Option.map_some, bin_add, bin_sub, bin_mul, bin_quo, bin_rem, lss_t, lss_f, leq_t, leq_f, gtr_t, gtr_f, geq_t, geq_f, eqi_t, eqi_f, nei_t, nei_f, rem_uw, conv_ui, conv_iu, conv_ii, not_bool, nil_ptr, fa_mk, ptrV, len_mk, cap_mk, eq_ptr_nil, ne_ptr_nil, eq_nil_nil, ne_nil_nil, eq_slice_nil, eq_nil_slice, ia_1]; exact so_so) ?_)
      refine hJ5 _ _ fun _ => ?_
      by_cases hin : n ∈ l
      · rw [decide_eq_true hin] at c2
        repeat (with_reducible first | refine vP_so ?_ | refine vB_t ?_ | refine vB_f ?_ | refine vE_tt ?_ | refine vE_ff ?_ | refine vE_tf ?_ | refine vE_ft ?_ | refine vE_u ?_ | refine vP_to (by simp (disch := omega) only [gdW_true, gdW_false, gB_true, gB_false, gB_undef, pickV_true, pickV_false, Bool.not_true, Bool.not_false, Option.map_some, bin_add, bin_sub, bin_mul, bin_quo, bin_rem, lss_t, lss_f, leq_t, leq_f, gtr_t, gtr_f, geq_t, geq_f, eqi_t, eqi_f, nei_t, nei_f, rem_uw, conv_ui, conv_iu, conv_ii, not_bool, nil_ptr, fa_mk, ptrV, len_mk, cap_mk, eq_ptr_nil, ne_ptr_nil, eq_nil_nil, ne_nil_nil, eq_slice_nil, eq_nil_slice, ia_1, en, c1, c2]; exact so_so) ?_)
        exact hJ v7 v8 l lost h8 hk (hI.next hI.nodup (fun n hn => .inl hn) ⟨[], by simp⟩ hI.rise (fun y hy => .inl hy) (fun y hy => hy) (fun _ => ⟨(fun n' hn' => by rw [hat] at hn'; cases hn'; exact hin), (fun q => by rw [hat] at q; cases q)⟩) hk) hh8
      · rw [decide_eq_false hin] at c2
        have eb : bldV #[.int .i64 0] [(0, 1, .int .i64 (n : Int))] = some #[.int .i64 (n : Int)] := rfl
        repeat (with_reducible first | refine vP_so ?_ | refine vB_t ?_ | refine vB_f ?_ | refine vE_tt ?_ | refine vE_ff ?_ | refine vE_tf ?_ | refine vE_ft ?_ | refine vE_u ?_ | refine vP_to (by simp (disch := omega) only [gdW_true, gdW_false, gB_true, gB_false, gB_undef, pickV_true, pickV_false, Bool.not_true, Bool.not_false, Option.map_some, bin_add, bin_sub, bin_mul, bin_quo, bin_rem, lss_t, lss_f, leq_t, leq_f, gtr_t, gtr_f, geq_t, geq_f, eqi_t, eqi_f, nei_t, nei_f, rem_uw, conv_ui, conv_iu, conv_ii, not_bool, nil_ptr, fa_mk, ptrV, len_mk, cap_mk, eq_ptr_nil, ne_ptr_nil, eq_nil_nil, ne_nil_nil, eq_slice_nil, eq_nil_slice, ia_1, en, c1, c2]; exact so_so) ?_)
        refine c3 true _ fun h11 hh11 => ?_
        rw [inF_set] at hh11
        repeat (with_reducible first | refine vP_so ?_ | refine vB_t ?_ | refine vB_f ?_ | refine vE_tt ?_ | refine vE_ff ?_ | refine vE_tf ?_ | refine vE_ft ?_ | refine vE_u ?_ | refine vP_to (by simp (disch := omega) only [gdW_true, gdW_false, gB_true, gB_false, gB_undef, pickV_true, pickV_false, Bool.not_true, Bool.not_false, Option.map_some, bin_add, bin_sub, bin_mul, bin_quo, bin_rem, lss_t, lss_f, leq_t, leq_f, gtr_t, gtr_f, geq_t, geq_f, eqi_t, eqi_f, nei_t, nei_f, rem_uw, conv_ui, conv_iu, conv_ii, not_bool, nil_ptr, fa_mk, ptrV, len_mk, cap_mk, eq_ptr_nil, ne_ptr_nil, eq_nil_nil, ne_nil_nil, eq_slice_nil, eq_nil_slice, ia_1, en]; exact so_so) ?_)
        rw [eb]
        refine vA_new (f := fun r => .slice (some ⟨r, 0, none⟩) 1 1) hh11 fun r83 h12 hh12 => ?_
        refine ap_new iE (l := natL l) (m := [(n : Int)]) (F := SG bE 4 v35 (inF w.objs.length (l ++ [n])) * (SG iE 3 v8 lost * (MP r14 (atD w.objs 0) * (pt r1 (.cells w.cells 26 (0, 0)) * (own gg * F))))) elInt rfl rfl niInts rfl (by omega) (asr (by ac_rfl) hh12) rfl rfl (by simp only [natL, List.length_map, List.length_singleton]; omega) fun v84 h13 hh13 => ?_
        have e : natL l ++ [(n : Int)] = natL (l ++ [n]) := by simp [natL]
        rw [e] at hh13
        refine hJ v84 v8 (l ++ [n]) lost h13 (by simp; omega) (hI.next ?_ (fun n' hn' => ?_) ⟨[n], rfl⟩ hI.rise (fun y hy => .inl hy) (fun y hy => hy) (fun _ => ⟨(fun n' hn' => by rw [hat] at hn'; cases hn'; simp), (fun q => by rw [hat] at q; cases q)⟩) hk) (asr (by ac_rfl) hh13)
        · rw [List.nodup_append]
          exact ⟨hI.nodup, by simp, fun a ha b hb => by simp at hb; subst hb; exact fun e => hin (e ▸ ha)⟩
        · rw [List.mem_append, List.mem_singleton] at hn'
          rcases hn' with q | rfl
          · exact .inl q
          · exact .inr ⟨h0, hat⟩
  · obtain rfl : i = cur.length := by omega
    rw [List.drop_length] at hI
    have hlen7 := SG_len iE hh8
    rw [show (natL l).length = l.length by simp [natL]] at hlen7
    by_cases hkl : k < l.length
    · have hkg : l[k]? = some l[k] := List.getElem?_eq_getElem hkl
      have hnl := hI.lt l[k] (List.getElem_mem hkl)
      generalize l[k] = n at *
      have ho : w.objs[n]? = some w.objs[n] := List.getElem?_eq_getElem hnl
      have hmem := List.getElem_mem hnl
      generalize w.objs[n] = o at *
      have l5 := (vw_ld (r := r1) (w := w) (E := 26) (F := SG iE 3 v7 (natL l) * (SG iE 3 v8 lost * (SG bE 4 v35 (inF w.objs.length l) * (MP r14 (atD w.objs 0) * (own gg * (F * tt)))))) (asr (by ac_rfl) hh8)).2.2.2.2.2.1
      obtain ⟨p7, c1, c2, _⟩ := el1 (i := k) (a := (n : Int)) hh8 (by simp [natL, hkg]) .i64
      have hw := own_vat (F := SG iE 3 v7 (natL l) * (SG iE 3 v8 lost * (SG bE 4 v35 (inF w.objs.length l) * (MP r14 (atD w.objs 0) * (pt r1 (.cells w.cells 26 (0, 0)) * (F * tt)))))) (asr (by ac_rfl) hh8) hv'
      obtain ⟨b, q, e1, _, e3, _⟩ := hw.obj ho .i64
      repeat (with_reducible first | refine vP_so ?_ | refine vB_t ?_ | refine vB_f ?_ | refine vE_tt ?_ | refine vE_ff ?_ | refine vE_tf ?_ | refine vE_ft ?_ | refine vE_u ?_ | refine vP_to (by simp (disch := omega) only [gdW_true, gdW_false, gB_true, gB_false, gB_undef, pickV_true, pickV_false, Bool.not_true, Bool.not_false, Option.map_some, bin_add, bin_sub, bin_mul, bin_quo, bin_rem, lss_t, lss_f, leq_t, leq_f, gtr_t, gtr_f, geq_t, geq_f, eqi_t, eqi_f, nei_t, nei_f, rem_uw, conv_ui, conv_iu, conv_ii, not_bool, nil_ptr, fa_mk, ptrV, len_mk, cap_mk, eq_ptr_nil, ne_ptr_nil, eq_nil_nil, ne_nil_nil, eq_slice_nil, eq_nil_slice, ia_1, hcur.len, hlen7, l5, c1, c2, e1, e3]; exact so_so) ?_)
      exact ⟨w.objs.length + 1 - (k + 1), by omega, k + 1, v7, v8, o.sv, l, lost, o.slots, rfl, rfl, by omega, hv'.slots o hmem, hI.take hkg ho, hh8⟩
    · obtain rfl : k = l.length := by omega
      obtain ⟨d1, d2⟩ := hI.done
      repeat (with_reducible first | refine vP_so ?_ | refine vB_t ?_ | refine vB_f ?_ | refine vE_tt ?_ | refine vE_ff ?_ | refine vE_tf ?_ | refine vE_ft ?_ | refine vE_u ?_ | refine vP_to (by simp (disch := omega) only [gdW_true, gdW_false, gB_true, gB_false, gB_undef, pickV_true, pickV_false, Bool.not_true, Bool.not_false, Option.map_some, bin_add, bin_sub, bin_mul, bin_quo, bin_rem, lss_t, lss_f, leq_t, leq_f, gtr_t, gtr_f, geq_t, geq_f, eqi_t, eqi_f, nei_t, nei_f, rem_uw, conv_ui, conv_iu, conv_ii, not_bool, nil_ptr, fa_mk, ptrV, len_mk, cap_mk, eq_ptr_nil, ne_ptr_nil, eq_nil_nil, ne_nil_nil, eq_slice_nil, eq_nil_slice, ia_1, hcur.len, hlen7]; exact so_so) ?_)
      have hh9 : (own g * (SG iE 3 v7 (natL l) * (SG iE 3 v8 lost * F) * tt)) h8 := hfin (dropL (P := SG bE 4 v35 (inF w.objs.length l) * (MP r14 (atD w.objs 0) * pt r1 (.cells w.cells 26 (0, 0)))) (Q := own gg * (SG iE 3 v7 (natL l) * (SG iE 3 v8 lost * F))) (asr (by ac_rfl) hh8) |> asr (by ac_rfl))
      exact hK v7 v8 l lost h8 hI.nodup d1 ⟨hI.rise, d2⟩ (by omega) (by omega) (asr (by ac_rfl) hh9)

end Go.Proofs

/-
  Which rules of chapter 30 a view breaks, plainly; sizes of objects.
-/
set_option maxRecDepth 100000
namespace Go.Proofs
open Go.Sl

/-- A proposition as a truth value. -/
noncomputable def cb (p : Prop) : Bool := @decide p (Classical.propDecidable p)
theorem cb_t {p : Prop} (h : p) : cb p = true := by unfold cb; exact @decide_eq_true p (Classical.propDecidable p) h
theorem cb_f {p : Prop} (h : ¬ p) : cb p = false := by unfold cb; exact @decide_eq_false p (Classical.propDecidable p) h
theorem cb_of {p : Prop} {b : Bool} (h : b = true ↔ p) : b = cb p := by
  cases b with
  | true => exact (cb_t (h.1 rfl)).symm
  | false => exact (cb_f fun q => by have := h.2 q; cases this).symm

def szO (o : Ob) : Int := szS (ofS o.slots.length)

def B1 (w : VW) : Prop := ∃ x, Rch w x ∧ w.at x = none
def badO (w : VW) (i : Nat) (o : Ob) : Prop := o.addr < 64 ∨ szO o = 0 ∨ (0 < i ∧ ∃ p, w.objs[i - 1]? = some p ∧ (o.addr ≤ p.addr ∨ o.addr - p.addr < szO p))
def B2 (w : VW) : Prop := ∃ (i : Nat) (o : Ob), w.objs[i]? = some o ∧ badO w i o
def B3 (w : VW) : Prop := ∃ (i k : Nat) (a b : Gr), k < i ∧ w.gs[i]? = some a ∧ w.gs[k]? = some b ∧ a.st = 2 ∧ b.st = 2 ∧ a.p = b.p
def okG (ps : Int) (r : Gr) : Prop := (r.st = 2 ∧ 0 ≤ r.p ∧ r.p < ps) ∨ (r.st = 1 ∧ -1 ≤ r.p ∧ r.p < ps) ∨ (r.st ≠ 2 ∧ r.st ≠ 1 ∧ r.p = -1)
def B4 (w : VW) (ps : Int) : Prop := ∃ (i : Nat) (r : Gr), w.gs[i]? = some r ∧ ¬ okG ps r
def B5 (w : VW) : Prop := w.grey < 0 ∨ w.notes < 0 ∨ w.roots < 0 ∨ (w.phase ≠ 1 ∧ (w.grey ≠ 0 ∨ w.notes ≠ 0 ∨ w.roots ≠ 0))
def B6 (w : VW) : Prop := w.phase = 2 ∧ ∃ x, Rch w x ∧ ∃ k o, w.at x = some k ∧ w.objs[k]? = some o ∧ o.marked = false
def B7 (w : VW) : Prop := (∃ (i : Nat) (r : Gr), w.gs[i]? = some r ∧ r.stack.length ≠ 16) ∨ w.phase < 0 ∨ 3 < w.phase ∨ w.cycle < 0 ∨ w.clock < 0
def B8 (w : VW) : Prop := w.phase = 0 ∧ ∃ (i : Nat) (o : Ob), w.objs[i]? = some o ∧ o.marked = true

theorem ob_val (o : Ob) : (Value.agg #[.int .i64 o.addr, o.sv, .bool o.marked]) = .agg #[.int .i64 o.addr, o.sv, .bool o.marked] := rfl

theorem use_asize {o : Ob} {g : Hp} {F : Asrt} {K : Value → Hp → Prop} {h : Hp} (hs : IntsAt g o.sv o.slots) (hh : (F * tt) h)
    (hK : ∀ h', (F * tt) h' → K (.int .i64 (szO o)) h') : CallH Try.prog 86 #[.agg #[.int .i64 o.addr, o.sv, .bool o.marked]] K h := by
  refine C86 ?_
  unfold D86
  refine vA_new (o := .cells #[.int .i64 o.addr, o.sv, .bool o.marked] 30 (0, 0)) hh fun r1 h1 hh1 => ?_
  have l1 : ld1 (.pointer (some ⟨r1, 0 + 1, none⟩)) h1 = some o.sv := ld1_mk (pt_get hh1) rfl
  repeat (with_reducible first | refine vP_so ?_ | refine vB_t ?_ | refine vB_f ?_ | refine vE_tt ?_ | refine vE_ff ?_ | refine vE_tf ?_ | refine vE_ft ?_ | refine vE_u ?_ | refine vP_to (by simp (disch := omega) only [gdW_true, gdW_false, gB_true, gB_false, gB_undef, pickV_true, pickV_false, Bool.not_true, Bool.not_false, Option.map_some, bin_add, bin_sub, bin_mul, bin_quo, bin_rem, lss_t, lss_f, leq_t, leq_f, gtr_t, gtr_f, geq_t, geq_f, eqi_t, eqi_f, nei_t, nei_f, rem_uw, conv_ui, conv_iu, conv_ii, not_bool, nil_ptr, fa_mk, ptrV, len_mk, cap_mk, eq_ptr_nil, ne_ptr_nil, eq_nil_nil, ne_nil_nil, eq_slice_nil, eq_nil_slice, ia_1, l1, hs.len]; exact so_so) ?_)
  refine use_of (F := F) (dropL hh1) fun h2 hh2 => ?_
  by_cases hk : 0 ≤ ofS o.slots.length
  · repeat (with_reducible first | refine vP_so ?_ | refine vB_t ?_ | refine vB_f ?_ | refine vE_tt ?_ | refine vE_ff ?_ | refine vE_tf ?_ | refine vE_ft ?_ | refine vE_u ?_ | refine vP_to (by simp (disch := omega) only [gdW_true, gdW_false, gB_true, gB_false, gB_undef, pickV_true, pickV_false, Bool.not_true, Bool.not_false, Option.map_some, bin_add, bin_sub, bin_mul, bin_quo, bin_rem, lss_t, lss_f, leq_t, leq_f, gtr_t, gtr_f, geq_t, geq_f, eqi_t, eqi_f, nei_t, nei_f, rem_uw, conv_ui, conv_iu, conv_ii, not_bool, nil_ptr, fa_mk, ptrV, len_mk, cap_mk, eq_ptr_nil, ne_ptr_nil, eq_nil_nil, ne_nil_nil, eq_slice_nil, eq_nil_slice, ia_1]; exact so_so) ?_)
    exact use_size hh2 fun h3 hh3 => hK h3 hh3
  · repeat (with_reducible first | refine vP_so ?_ | refine vB_t ?_ | refine vB_f ?_ | refine vE_tt ?_ | refine vE_ff ?_ | refine vE_tf ?_ | refine vE_ft ?_ | refine vE_u ?_ | refine vP_to (by simp (disch := omega) only [gdW_true, gdW_false, gB_true, gB_false, gB_undef, pickV_true, pickV_false, Bool.not_true, Bool.not_false, Option.map_some, bin_add, bin_sub, bin_mul, bin_quo, bin_rem, lss_t, lss_f, leq_t, leq_f, gtr_t, gtr_f, geq_t, geq_f, eqi_t, eqi_f, nei_t, nei_f, rem_uw, conv_ui, conv_iu, conv_ii, not_bool, nil_ptr, fa_mk, ptrV, len_mk, cap_mk, eq_ptr_nil, ne_ptr_nil, eq_nil_nil, ne_nil_nil, eq_slice_nil, eq_nil_slice, ia_1]; exact so_so) ?_)
    have : szO o = 0 := by unfold szO; exact szS_out (by omega)
    rw [this] at hK
    exact hK h2 hh2

theorem use_rsizeO {o : Ob} {g : Hp} {F : Asrt} {K : Value → Hp → Prop} {h : Hp} (hs : IntsAt g o.sv o.slots) (hh : (F * tt) h)
    (hK : ∀ h', (F * tt) h' → K (.int .i64 (szO o)) h') : CallH Try.prog 61 #[.agg #[.int .i64 o.addr, o.sv, .bool o.marked]] K h := by
  refine C61 ?_
  unfold D61
  refine vA_new (o := .cells #[.int .i64 o.addr, o.sv, .bool o.marked] 30 (0, 0)) hh fun r1 h1 hh1 => ?_
  have l1 : ld1 (.pointer (some ⟨r1, 0 + 1, none⟩)) h1 = some o.sv := ld1_mk (pt_get hh1) rfl
  repeat (with_reducible first | refine vP_so ?_ | refine vB_t ?_ | refine vB_f ?_ | refine vE_tt ?_ | refine vE_ff ?_ | refine vE_tf ?_ | refine vE_ft ?_ | refine vE_u ?_ | refine vP_to (by simp (disch := omega) only [gdW_true, gdW_false, gB_true, gB_false, gB_undef, pickV_true, pickV_false, Bool.not_true, Bool.not_false, Option.map_some, bin_add, bin_sub, bin_mul, bin_quo, bin_rem, lss_t, lss_f, leq_t, leq_f, gtr_t, gtr_f, geq_t, geq_f, eqi_t, eqi_f, nei_t, nei_f, rem_uw, conv_ui, conv_iu, conv_ii, not_bool, nil_ptr, fa_mk, ptrV, len_mk, cap_mk, eq_ptr_nil, ne_ptr_nil, eq_nil_nil, ne_nil_nil, eq_slice_nil, eq_nil_slice, ia_1, l1, hs.len]; exact so_so) ?_)
  refine use_rof (F := F) (dropL hh1) fun h2 hh2 => ?_
  exact use_rsize hh2 fun h3 hh3 => hK h3 hh3

theorem use_index {sv : Value} {xs : List Int} {x : Int} {K : Value → Hp → Prop} {h : Hp} (hx : IntsAt h sv xs) (hK : ∀ i : Int, (0 ≤ i ↔ x ∈ xs) → K (.int .i64 i) h) : CallH Try.prog 70 #[sv, .int .i64 x] K h := by
  refine C70 ?_
  unfold D70
  have h1 := hx.lt
  repeat (with_reducible first | refine vP_so ?_ | refine vB_t ?_ | refine vB_f ?_ | refine vE_tt ?_ | refine vE_ff ?_ | refine vE_tf ?_ | refine vE_ft ?_ | refine vE_u ?_ | refine vP_to (by simp (disch := omega) only [gdW_true, gdW_false, gB_true, gB_false, gB_undef, pickV_true, pickV_false, Bool.not_true, Bool.not_false, Option.map_some, bin_add, bin_sub, bin_mul, bin_quo, bin_rem, lss_t, lss_f, leq_t, leq_f, gtr_t, gtr_f, geq_t, geq_f, eqi_t, eqi_f, nei_t, nei_f, rem_uw, conv_ui, conv_iu, conv_ii, not_bool, nil_ptr, fa_mk, ptrV, len_mk, cap_mk, eq_ptr_nil, ne_ptr_nil, eq_nil_nil, ne_nil_nil, eq_slice_nil, eq_nil_slice, ia_1, hx.len]; exact so_so) ?_)
  refine ⟨fun m zs h' => ∃ i : Nat, zs = [.int .i64 i] ∧ m = xs.length - i ∧ i ≤ xs.length ∧ x ∉ xs.take i ∧ h' = h, ⟨_, 0, rfl, rfl, by omega, by simp, rfl⟩, ?_⟩
  rintro m v5 h3 ⟨i, hzs, rfl, hi, ht, rfl⟩ _
  obtain rfl : v5 = .int .i64 i := by simpa using hzs
  by_cases hil : i < xs.length
  · obtain ⟨p, f1, f2⟩ := hx.get i xs[i] .i64 (List.getElem?_eq_getElem hil)
    have hmem : xs[i] ∈ xs := List.getElem_mem hil
    have h4 : x ∉ xs.take (i + 1) ↔ x ≠ xs[i] := by
      rw [List.take_succ_eq_append_getElem hil, List.mem_append, List.mem_singleton]
      exact ⟨fun q e => q (.inr e), fun q r => r.elim ht q⟩
    generalize xs[i] = y at *
    by_cases hxy : x = y
    · repeat (with_reducible first | refine vP_so ?_ | refine vB_t ?_ | refine vB_f ?_ | refine vE_tt ?_ | refine vE_ff ?_ | refine vE_tf ?_ | refine vE_ft ?_ | refine vE_u ?_ | refine vP_to (by simp (disch := omega) only [gdW_true, gdW_false, gB_true, gB_false, gB_undef, pickV_true, pickV_false, Bool.not_true, Bool.not_false, Option.map_some, bin_add, bin_sub, bin_mul, bin_quo, bin_rem, lss_t, lss_f, leq_t, leq_f, gtr_t, gtr_f, geq_t, geq_f, eqi_t, eqi_f, nei_t, nei_f, rem_uw, conv_ui, conv_iu, conv_ii, not_bool, nil_ptr, fa_mk, ptrV, len_mk, cap_mk, eq_ptr_nil, ne_ptr_nil, eq_nil_nil, ne_nil_nil, eq_slice_nil, eq_nil_slice, ia_1, f1, f2]; exact so_so) ?_)
      exact hK i ⟨fun _ => hxy ▸ hmem, fun _ => by omega⟩
    · repeat (with_reducible first | refine vP_so ?_ | refine vB_t ?_ | refine vB_f ?_ | refine vE_tt ?_ | refine vE_ff ?_ | refine vE_tf ?_ | refine vE_ft ?_ | refine vE_u ?_ | refine vP_to (by simp (disch := omega) only [gdW_true, gdW_false, gB_true, gB_false, gB_undef, pickV_true, pickV_false, Bool.not_true, Bool.not_false, Option.map_some, bin_add, bin_sub, bin_mul, bin_quo, bin_rem, lss_t, lss_f, leq_t, leq_f, gtr_t, gtr_f, geq_t, geq_f, eqi_t, eqi_f, nei_t, nei_f, rem_uw, conv_ui, conv_iu, conv_ii, not_bool, nil_ptr, fa_mk, ptrV, len_mk, cap_mk, eq_ptr_nil, ne_ptr_nil, eq_nil_nil, ne_nil_nil, eq_slice_nil, eq_nil_slice, ia_1, f1, f2]; exact so_so) ?_)
      exact ⟨xs.length - (i + 1), by omega, i + 1, by simp, rfl, by omega, h4.2 hxy, rfl⟩
  · repeat (with_reducible first | refine vP_so ?_ | refine vB_t ?_ | refine vB_f ?_ | refine vE_tt ?_ | refine vE_ff ?_ | refine vE_tf ?_ | refine vE_ft ?_ | refine vE_u ?_ | refine vP_to (by simp (disch := omega) only [gdW_true, gdW_false, gB_true, gB_false, gB_undef, pickV_true, pickV_false, Bool.not_true, Bool.not_false, Option.map_some, bin_add, bin_sub, bin_mul, bin_quo, bin_rem, lss_t, lss_f, leq_t, leq_f, gtr_t, gtr_f, geq_t, geq_f, eqi_t, eqi_f, nei_t, nei_f, rem_uw, conv_ui, conv_iu, conv_ii, not_bool, nil_ptr, fa_mk, ptrV, len_mk, cap_mk, eq_ptr_nil, ne_ptr_nil, eq_nil_nil, ne_nil_nil, eq_slice_nil, eq_nil_slice, ia_1]; exact so_so) ?_)
    obtain rfl : i = xs.length := by omega
    rw [List.take_length] at ht
    exact hK (-1) ⟨fun q => by omega, fun q => (ht q).elim⟩

theorem use_contains {sv : Value} {xs : List Int} {x : Int} {K : Value → Hp → Prop} {h : Hp} (hx : IntsAt h sv xs) (hK : K (.bool (decide (x ∈ xs))) h) : CallH Try.prog 44 #[sv, .int .i64 x] K h := by
  refine C44 ?_
  unfold D44
  refine use_index hx fun i hi => ?_
  by_cases hin : x ∈ xs
  · rw [decide_eq_true hin] at hK
    have := hi.2 hin
    repeat (with_reducible first | refine vP_so ?_ | refine vB_t ?_ | refine vB_f ?_ | refine vE_tt ?_ | refine vE_ff ?_ | refine vE_tf ?_ | refine vE_ft ?_ | refine vE_u ?_ | refine vP_to (by simp (disch := omega) only [gdW_true, gdW_false, gB_true, gB_false, gB_undef, pickV_true, pickV_false, Bool.not_true, Bool.not_false, Option.map_some, bin_add, bin_sub, bin_mul, bin_quo, bin_rem, lss_t, lss_f, leq_t, leq_f, gtr_t, gtr_f, geq_t, geq_f, eqi_t, eqi_f, nei_t, nei_f, rem_uw, conv_ui, conv_iu, conv_ii, not_bool, nil_ptr, fa_mk, ptrV, len_mk, cap_mk, eq_ptr_nil, ne_ptr_nil, eq_nil_nil, ne_nil_nil, eq_slice_nil, eq_nil_slice, ia_1]; exact so_so) ?_)
    exact hK
  · rw [decide_eq_false hin] at hK
    have : ¬ 0 ≤ i := fun q => hin (hi.1 q)
    repeat (with_reducible first | refine vP_so ?_ | refine vB_t ?_ | refine vB_f ?_ | refine vE_tt ?_ | refine vE_ff ?_ | refine vE_tf ?_ | refine vE_ft ?_ | refine vE_u ?_ | refine vP_to (by simp (disch := omega) only [gdW_true, gdW_false, gB_true, gB_false, gB_undef, pickV_true, pickV_false, Bool.not_true, Bool.not_false, Option.map_some, bin_add, bin_sub, bin_mul, bin_quo, bin_rem, lss_t, lss_f, leq_t, leq_f, gtr_t, gtr_f, geq_t, geq_f, eqi_t, eqi_f, nei_t, nei_f, rem_uw, conv_ui, conv_iu, conv_ii, not_bool, nil_ptr, fa_mk, ptrV, len_mk, cap_mk, eq_ptr_nil, ne_ptr_nil, eq_nil_nil, ne_nil_nil, eq_slice_nil, eq_nil_slice, ia_1]; exact so_so) ?_)
    exact hK

theorem use_idxf {g : Hp} {w : VW} {p : Ob → Bool} {fv : Value} {F : Asrt} {K : Value → Hp → Prop} {h : Hp} (hv : VAt g w) (hh : (own g * (F * tt)) h)
    (hf : ∀ o ∈ w.objs, ∀ (h : Hp) (K : Value → Hp → Prop), (own g * (F * tt)) h → (∀ h', (own g * (F * tt)) h' → K (.bool (p o)) h') → cvW Try.prog fv #[.agg #[.int .i64 o.addr, o.sv, .bool o.marked]] K h)
    (hK : ∀ h', (own g * (F * tt)) h' → K (.int .i64 (match w.objs.findIdx? p with | some i => (i : Int) | none => -1)) h') : CallH Try.prog 48 #[w.ov, fv] K h := by
  refine C48 ?_
  unfold D48
  have hol := hv.objs_len
  repeat (with_reducible first | refine vP_so ?_ | refine vB_t ?_ | refine vB_f ?_ | refine vE_tt ?_ | refine vE_ff ?_ | refine vE_tf ?_ | refine vE_ft ?_ | refine vE_u ?_ | refine vP_to (by simp (disch := omega) only [gdW_true, gdW_false, gB_true, gB_false, gB_undef, pickV_true, pickV_false, Bool.not_true, Bool.not_false, Option.map_some, bin_add, bin_sub, bin_mul, bin_quo, bin_rem, lss_t, lss_f, leq_t, leq_f, gtr_t, gtr_f, geq_t, geq_f, eqi_t, eqi_f, nei_t, nei_f, rem_uw, conv_ui, conv_iu, conv_ii, not_bool, nil_ptr, fa_mk, ptrV, len_mk, cap_mk, eq_ptr_nil, ne_ptr_nil, eq_nil_nil, ne_nil_nil, eq_slice_nil, eq_nil_slice, ia_1, hol.1]; exact so_so) ?_)
  refine ⟨fun m zs h' => ∃ i : Nat, zs = [.int .i64 i] ∧ m = w.objs.length - i ∧ i ≤ w.objs.length ∧ (∀ (j : Nat) o, j < i → w.objs[j]? = some o → p o = false) ∧ (own g * (F * tt)) h', ⟨_, 0, rfl, rfl, by omega, fun j o hj => by omega, hh⟩, ?_⟩
  rintro m v5 h3 ⟨i, hzs, rfl, hi, hno, hh3⟩ _
  obtain rfl : v5 = .int .i64 i := by simpa using hzs
  by_cases hil : i < w.objs.length
  · have hw := own_vat hh3 hv
    have hoi : w.objs[i]? = some w.objs[i] := List.getElem?_eq_getElem hil
    obtain ⟨b, q, e1, _, _, _, e5⟩ := hw.obj hoi .i64
    have hmem := List.getElem_mem hil
    generalize w.objs[i] = o at *
    repeat (with_reducible first | refine vP_so ?_ | refine vB_t ?_ | refine vB_f ?_ | refine vE_tt ?_ | refine vE_ff ?_ | refine vE_tf ?_ | refine vE_ft ?_ | refine vE_u ?_ | refine vP_to (by simp (disch := omega) only [gdW_true, gdW_false, gB_true, gB_false, gB_undef, pickV_true, pickV_false, Bool.not_true, Bool.not_false, Option.map_some, bin_add, bin_sub, bin_mul, bin_quo, bin_rem, lss_t, lss_f, leq_t, leq_f, gtr_t, gtr_f, geq_t, geq_f, eqi_t, eqi_f, nei_t, nei_f, rem_uw, conv_ui, conv_iu, conv_ii, not_bool, nil_ptr, fa_mk, ptrV, len_mk, cap_mk, eq_ptr_nil, ne_ptr_nil, eq_nil_nil, ne_nil_nil, eq_slice_nil, eq_nil_slice, ia_1, e1, e5]; exact so_so) ?_)
    refine hf o hmem h3 _ hh3 fun h4 hh4 => ?_
    cases hp : p o with
    | true =>
      repeat (with_reducible first | refine vP_so ?_ | refine vB_t ?_ | refine vB_f ?_ | refine vE_tt ?_ | refine vE_ff ?_ | refine vE_tf ?_ | refine vE_ft ?_ | refine vE_u ?_ | refine vP_to (by simp (disch := omega) only [gdW_true, gdW_false, gB_true, gB_false, gB_undef, pickV_true, pickV_false, Bool.not_true, Bool.not_false, Option.map_some, bin_add, bin_sub, bin_mul, bin_quo, bin_rem, lss_t, lss_f, leq_t, leq_f, gtr_t, gtr_f, geq_t, geq_f, eqi_t, eqi_f, nei_t, nei_f, rem_uw, conv_ui, conv_iu, conv_ii, not_bool, nil_ptr, fa_mk, ptrV, len_mk, cap_mk, eq_ptr_nil, ne_ptr_nil, eq_nil_nil, ne_nil_nil, eq_slice_nil, eq_nil_slice, ia_1]; exact so_so) ?_)
      have : w.objs.findIdx? p = some i := by
        rw [List.findIdx?_eq_some_iff_getElem]
        obtain ⟨hlt, he⟩ := List.getElem?_eq_some_iff.1 hoi
        refine ⟨hlt, by rw [he]; exact hp, fun j hj => ?_⟩
        have := hno j w.objs[j] hj (List.getElem?_eq_getElem (by omega))
        simp [this]
      rw [this] at hK
      exact hK h4 hh4
    | false =>
      repeat (with_reducible first | refine vP_so ?_ | refine vB_t ?_ | refine vB_f ?_ | refine vE_tt ?_ | refine vE_ff ?_ | refine vE_tf ?_ | refine vE_ft ?_ | refine vE_u ?_ | refine vP_to (by simp (disch := omega) only [gdW_true, gdW_false, gB_true, gB_false, gB_undef, pickV_true, pickV_false, Bool.not_true, Bool.not_false, Option.map_some, bin_add, bin_sub, bin_mul, bin_quo, bin_rem, lss_t, lss_f, leq_t, leq_f, gtr_t, gtr_f, geq_t, geq_f, eqi_t, eqi_f, nei_t, nei_f, rem_uw, conv_ui, conv_iu, conv_ii, not_bool, nil_ptr, fa_mk, ptrV, len_mk, cap_mk, eq_ptr_nil, ne_ptr_nil, eq_nil_nil, ne_nil_nil, eq_slice_nil, eq_nil_slice, ia_1]; exact so_so) ?_)
      refine ⟨w.objs.length - (i + 1), by omega, i + 1, by simp, rfl, by omega, fun j o' hj ho' => ?_, hh4⟩
      by_cases hji : j = i
      · subst hji
        obtain rfl : o = o' := Option.some.inj (hoi.symm.trans ho')
        exact hp
      · exact hno j o' (by omega) ho'
  · obtain rfl : i = w.objs.length := by omega
    repeat (with_reducible first | refine vP_so ?_ | refine vB_t ?_ | refine vB_f ?_ | refine vE_tt ?_ | refine vE_ff ?_ | refine vE_tf ?_ | refine vE_ft ?_ | refine vE_u ?_ | refine vP_to (by simp (disch := omega) only [gdW_true, gdW_false, gB_true, gB_false, gB_undef, pickV_true, pickV_false, Bool.not_true, Bool.not_false, Option.map_some, bin_add, bin_sub, bin_mul, bin_quo, bin_rem, lss_t, lss_f, leq_t, leq_f, gtr_t, gtr_f, geq_t, geq_f, eqi_t, eqi_f, nei_t, nei_f, rem_uw, conv_ui, conv_iu, conv_ii, not_bool, nil_ptr, fa_mk, ptrV, len_mk, cap_mk, eq_ptr_nil, ne_ptr_nil, eq_nil_nil, ne_nil_nil, eq_slice_nil, eq_nil_slice, ia_1]; exact so_so) ?_)
    have : w.objs.findIdx? p = none := by
      rw [List.findIdx?_eq_none_iff]
      intro o ho
      obtain ⟨j, hj, e⟩ := List.getElem_of_mem ho
      exact hno j o hj (by rw [List.getElem?_eq_getElem hj, e])
    rw [this] at hK
    exact hK h3 hh3

end Go.Proofs

/-
  Contracts of package audit: the eight rules.
-/
set_option maxRecDepth 100000
namespace Go.Proofs
open Go.Sl

theorem use_alost {g : Hp} {w : VW} {ps : Int} {F : Asrt} {K : Value → Hp → Prop} {h : Hp} (hv : VAt g w) (hN : w.all.length ≤ 1000000) (hh : (own g * (F * tt)) h)
    (hK : ∀ h', (own g * (F * tt)) h' → K (.bool (cb (B1 w))) h') : CallH Try.prog 73 #[w.val, .int .i64 ps] K h := by
  refine C73 ?_
  unfold D73
  refine vA_new (o := .cells w.cells 26 (0, 0)) hh fun r1 h1 hh1 => ?_
  have l9 := (vw_ld (r := r1) (w := w) (E := 26) hh1).2.2.2.2.2.2.2.2.2
  repeat (with_reducible first | refine vP_so ?_ | refine vB_t ?_ | refine vB_f ?_ | refine vE_tt ?_ | refine vE_ff ?_ | refine vE_tf ?_ | refine vE_ft ?_ | refine vE_u ?_ | refine vP_to (by simp (disch := omega) only [gdW_true, gdW_false, gB_true, gB_false, gB_undef, pickV_true, pickV_false, Bool.not_true, Bool.not_false, Option.map_some, bin_add, bin_sub, bin_mul, bin_quo, bin_rem, lss_t, lss_f, leq_t, leq_f, gtr_t, gtr_f, geq_t, geq_f, eqi_t, eqi_f, nei_t, nei_f, rem_uw, conv_ui, conv_iu, conv_ii, not_bool, nil_ptr, fa_mk, ptrV, len_mk, cap_mk, eq_ptr_nil, ne_ptr_nil, eq_nil_nil, ne_nil_nil, eq_slice_nil, eq_nil_slice, ia_1, l9]; exact so_so) ?_)
  refine use_lost (F := pt r1 (.cells w.cells 26 (0, 0)) * F) hv hN (asr (by ac_rfl) hh1) fun v l h2 hL hl hh2 => ?_
  have hlen := SG_len iE hh2
  have hh2 : (own g * (F * tt)) h2 := dropL (P := SG iE 3 v l * pt r1 (.cells w.cells 26 (0, 0))) (Q := own g * F) (asr (by ac_rfl) hh2) |> asr (by ac_rfl)
  by_cases h0 : 0 < l.length
  · have hb : B1 w := ⟨l[0], (hL.2 _).1 (List.getElem_mem h0)⟩
    rw [cb_t hb] at hK
    repeat (with_reducible first | refine vP_so ?_ | refine vB_t ?_ | refine vB_f ?_ | refine vE_tt ?_ | refine vE_ff ?_ | refine vE_tf ?_ | refine vE_ft ?_ | refine vE_u ?_ | refine vP_to (by simp (disch := omega) only [gdW_true, gdW_false, gB_true, gB_false, gB_undef, pickV_true, pickV_false, Bool.not_true, Bool.not_false, Option.map_some, bin_add, bin_sub, bin_mul, bin_quo, bin_rem, lss_t, lss_f, leq_t, leq_f, gtr_t, gtr_f, geq_t, geq_f, eqi_t, eqi_f, nei_t, nei_f, rem_uw, conv_ui, conv_iu, conv_ii, not_bool, nil_ptr, fa_mk, ptrV, len_mk, cap_mk, eq_ptr_nil, ne_ptr_nil, eq_nil_nil, ne_nil_nil, eq_slice_nil, eq_nil_slice, ia_1, hlen]; exact so_so) ?_)
    exact hK h2 hh2
  · have hb : ¬ B1 w := fun ⟨x, hx⟩ => by
      have := List.length_pos_of_mem ((hL.2 x).2 hx); omega
    rw [cb_f hb] at hK
    repeat (with_reducible first | refine vP_so ?_ | refine vB_t ?_ | refine vB_f ?_ | refine vE_tt ?_ | refine vE_ff ?_ | refine vE_tf ?_ | refine vE_ft ?_ | refine vE_u ?_ | refine vP_to (by simp (disch := omega) only [gdW_true, gdW_false, gB_true, gB_false, gB_undef, pickV_true, pickV_false, Bool.not_true, Bool.not_false, Option.map_some, bin_add, bin_sub, bin_mul, bin_quo, bin_rem, lss_t, lss_f, leq_t, leq_f, gtr_t, gtr_f, geq_t, geq_f, eqi_t, eqi_f, nei_t, nei_f, rem_uw, conv_ui, conv_iu, conv_ii, not_bool, nil_ptr, fa_mk, ptrV, len_mk, cap_mk, eq_ptr_nil, ne_ptr_nil, eq_nil_nil, ne_nil_nil, eq_slice_nil, eq_nil_slice, ia_1, hlen]; exact so_so) ?_)
    exact hK h2 hh2

theorem use_awhite {g : Hp} {w : VW} {ps : Int} {F : Asrt} {K : Value → Hp → Prop} {h : Hp} (hv : VAt g w) (hN : w.all.length ≤ 1000000) (hh : (own g * (F * tt)) h)
    (hK : ∀ h', (own g * (F * tt)) h' → K (.bool (cb (B6 w))) h') : CallH Try.prog 78 #[w.val, .int .i64 ps] K h := by
  refine C78 ?_
  unfold D78
  refine vA_new (o := .cells w.cells 26 (0, 0)) hh fun r1 h1 hh1 => ?_
  have l0 := (vw_ld (r := r1) (w := w) (E := 26) hh1).1
  have l9 := (vw_ld (r := r1) (w := w) (E := 26) hh1).2.2.2.2.2.2.2.2.2
  by_cases hp : w.phase = 2
  · repeat (with_reducible first | refine vP_so ?_ | refine vB_t ?_ | refine vB_f ?_ | refine vE_tt ?_ | refine vE_ff ?_ | refine vE_tf ?_ | refine vE_ft ?_ | refine vE_u ?_ | refine vP_to (by simp (disch := omega) only [gdW_true, gdW_false, gB_true, gB_false, gB_undef, pickV_true, pickV_false, Bool.not_true, Bool.not_false, Option.map_some, bin_add, bin_sub, bin_mul, bin_quo, bin_rem, lss_t, lss_f, leq_t, leq_f, gtr_t, gtr_f, geq_t, geq_f, eqi_t, eqi_f, nei_t, nei_f, rem_uw, conv_ui, conv_iu, conv_ii, not_bool, nil_ptr, fa_mk, ptrV, len_mk, cap_mk, eq_ptr_nil, ne_ptr_nil, eq_nil_nil, ne_nil_nil, eq_slice_nil, eq_nil_slice, ia_1, l0, l9]; exact so_so) ?_)
    refine use_white (F := pt r1 (.cells w.cells 26 (0, 0)) * F) hv hN (asr (by ac_rfl) hh1) fun v l h2 hL hl hh2 => ?_
    have hlen := SG_len iE hh2
    have hh2 : (own g * (F * tt)) h2 := dropL (P := SG iE 3 v l * pt r1 (.cells w.cells 26 (0, 0))) (Q := own g * F) (asr (by ac_rfl) hh2) |> asr (by ac_rfl)
    by_cases h0 : 0 < l.length
    · have hb : B6 w := ⟨hp, l[0], (hL.2 _).1 (List.getElem_mem h0)⟩
      rw [cb_t hb] at hK
      repeat (with_reducible first | refine vP_so ?_ | refine vB_t ?_ | refine vB_f ?_ | refine vE_tt ?_ | refine vE_ff ?_ | refine vE_tf ?_ | refine vE_ft ?_ | refine vE_u ?_ | refine vP_to (by simp (disch := omega) only [gdW_true, gdW_false, gB_true, gB_false, gB_undef, pickV_true, pickV_false, Bool.not_true, Bool.not_false, Option.map_some, bin_add, bin_sub, bin_mul, bin_quo, bin_rem, lss_t, lss_f, leq_t, leq_f, gtr_t, gtr_f, geq_t, geq_f, eqi_t, eqi_f, nei_t, nei_f, rem_uw, conv_ui, conv_iu, conv_ii, not_bool, nil_ptr, fa_mk, ptrV, len_mk, cap_mk, eq_ptr_nil, ne_ptr_nil, eq_nil_nil, ne_nil_nil, eq_slice_nil, eq_nil_slice, ia_1, hlen]; exact so_so) ?_)
      exact hK h2 hh2
    · have hb : ¬ B6 w := fun ⟨_, x, hx⟩ => by
        have := List.length_pos_of_mem ((hL.2 x).2 hx); omega
      rw [cb_f hb] at hK
      repeat (with_reducible first | refine vP_so ?_ | refine vB_t ?_ | refine vB_f ?_ | refine vE_tt ?_ | refine vE_ff ?_ | refine vE_tf ?_ | refine vE_ft ?_ | refine vE_u ?_ | refine vP_to (by simp (disch := omega) only [gdW_true, gdW_false, gB_true, gB_false, gB_undef, pickV_true, pickV_false, Bool.not_true, Bool.not_false, Option.map_some, bin_add, bin_sub, bin_mul, bin_quo, bin_rem, lss_t, lss_f, leq_t, leq_f, gtr_t, gtr_f, geq_t, geq_f, eqi_t, eqi_f, nei_t, nei_f, rem_uw, conv_ui, conv_iu, conv_ii, not_bool, nil_ptr, fa_mk, ptrV, len_mk, cap_mk, eq_ptr_nil, ne_ptr_nil, eq_nil_nil, ne_nil_nil, eq_slice_nil, eq_nil_slice, ia_1, hlen]; exact so_so) ?_)
      exact hK h2 hh2
  · repeat (with_reducible first | refine vP_so ?_ | refine vB_t ?_ | refine vB_f ?_ | refine vE_tt ?_ | refine vE_ff ?_ | refine vE_tf ?_ | refine vE_ft ?_ | refine vE_u ?_ | refine vP_to (by simp (disch := omega) only [gdW_true, gdW_false, gB_true, gB_false, gB_undef, pickV_true, pickV_false, Bool.not_true, Bool.not_false, Option.map_some, bin_add, bin_sub, bin_mul, bin_quo, bin_rem, lss_t, lss_f, leq_t, leq_f, gtr_t, gtr_f, geq_t, geq_f, eqi_t, eqi_f, nei_t, nei_f, rem_uw, conv_ui, conv_iu, conv_ii, not_bool, nil_ptr, fa_mk, ptrV, len_mk, cap_mk, eq_ptr_nil, ne_ptr_nil, eq_nil_nil, ne_nil_nil, eq_slice_nil, eq_nil_slice, ia_1, l0, l9]; exact so_so) ?_)
    have hb : ¬ B6 w := fun q => hp q.1
    rw [cb_f hb] at hK
    exact hK h1 (dropL (P := pt r1 (.cells w.cells 26 (0, 0))) (Q := own g * F) (asr (by ac_rfl) hh1) |> asr (by ac_rfl))

theorem use_awork {g : Hp} {w : VW} {ps : Int} {F : Asrt} {K : Value → Hp → Prop} {h : Hp} (hh : (own g * (F * tt)) h)
    (hK : ∀ h', (own g * (F * tt)) h' → K (.bool (cb (B5 w))) h') : CallH Try.prog 77 #[w.val, .int .i64 ps] K h := by
  refine C77 ?_
  unfold D77
  refine vA_new (o := .cells w.cells 26 (0, 0)) hh fun r1 h1 hh1 => ?_
  obtain ⟨l0, _, _, _, _, _, l6, l7, l8, _⟩ := vw_ld (r := r1) (w := w) (E := 26) hh1
  have fin : ∀ b, (b = true ↔ B5 w) → K (.bool b) h1 := fun b hb => by
    rw [cb_of hb]
    exact hK h1 (dropL (P := pt r1 (.cells w.cells 26 (0, 0))) (Q := own g * F) (asr (by ac_rfl) hh1) |> asr (by ac_rfl))
  have ft : B5 w → K (.bool true) h1 := fun q => fin true ⟨fun _ => q, fun _ => rfl⟩
  have ff : ¬ B5 w → K (.bool false) h1 := fun q => fin false ⟨fun e => by (cases e), fun e => (q e).elim⟩
  clear fin hK
  unfold B5 at ft ff
  by_cases a1 : w.grey < 0 <;> by_cases a2 : w.notes < 0 <;> by_cases a3 : w.roots < 0 <;> by_cases a4 : w.phase = 1 <;> by_cases a5 : w.grey = 0 <;> by_cases a6 : w.notes = 0 <;> by_cases a7 : w.roots = 0 <;>
    first
      | (exfalso; omega)
      | (repeat (with_reducible first | refine vP_so ?_ | refine vB_t ?_ | refine vB_f ?_ | refine vE_tt ?_ | refine vE_ff ?_ | refine vE_tf ?_ | refine vE_ft ?_ | refine vE_u ?_ | refine vP_to (by simp (disch := omega) only [gdW_true, gdW_false, gB_true, gB_false, gB_undef, pickV_true, pickV_false, Bool.not_true, Bool.not_false, Option.map_some, bin_add, bin_sub, bin_mul, bin_quo, bin_rem, lss_t, lss_f, leq_t, leq_f, gtr_t, gtr_f, geq_t, geq_f, eqi_t, eqi_f, nei_t, nei_f, rem_uw, conv_ui, conv_iu, conv_ii, not_bool, nil_ptr, fa_mk, ptrV, len_mk, cap_mk, eq_ptr_nil, ne_ptr_nil, eq_nil_nil, ne_nil_nil, eq_slice_nil, eq_nil_slice, ia_1, l0, l6, l7, l8]; exact so_so) ?_)
         first
           | exact ft (by omega)
           | exact ff (by omega))

theorem use_anumbers {g : Hp} {w : VW} {ps : Int} {F : Asrt} {K : Value → Hp → Prop} {h : Hp} (hv : VAt g w) (hh : (own g * (F * tt)) h)
    (hK : ∀ h', (own g * (F * tt)) h' → K (.bool (cb (B7 w))) h') : CallH Try.prog 79 #[w.val, .int .i64 ps] K h := by
  refine C79 ?_
  unfold D79
  have hgl := hv.gs_len
  refine vA_new (o := .cells w.cells 26 (0, 0)) hh fun r1 h1 hh1 => ?_
  have l4 := (vw_ld (r := r1) (w := w) (E := 26) hh1).2.2.2.2.1
  repeat (with_reducible first | refine vP_so ?_ | refine vB_t ?_ | refine vB_f ?_ | refine vE_tt ?_ | refine vE_ff ?_ | refine vE_tf ?_ | refine vE_ft ?_ | refine vE_u ?_ | refine vP_to (by simp (disch := omega) only [gdW_true, gdW_false, gB_true, gB_false, gB_undef, pickV_true, pickV_false, Bool.not_true, Bool.not_false, Option.map_some, bin_add, bin_sub, bin_mul, bin_quo, bin_rem, lss_t, lss_f, leq_t, leq_f, gtr_t, gtr_f, geq_t, geq_f, eqi_t, eqi_f, nei_t, nei_f, rem_uw, conv_ui, conv_iu, conv_ii, not_bool, nil_ptr, fa_mk, ptrV, len_mk, cap_mk, eq_ptr_nil, ne_ptr_nil, eq_nil_nil, ne_nil_nil, eq_slice_nil, eq_nil_slice, ia_1, l4, hgl.1]; exact so_so) ?_)
  refine ⟨fun m zs h' => ∃ i : Nat, zs = [.int .i64 i] ∧ m = w.gs.length - i ∧ i ≤ w.gs.length ∧ (∀ (j : Nat) r, j < i → w.gs[j]? = some r → r.stack.length = 16) ∧ (pt r1 (.cells w.cells 26 (0, 0)) * (own g * (F * tt))) h', ⟨_, 0, rfl, rfl, by omega, fun j r hj => by omega, hh1⟩, ?_⟩
  rintro m v10 h2 ⟨i, hzs, rfl, hi, hok, hh2⟩ _
  obtain rfl : v10 = .int .i64 i := by simpa using hzs
  have hdrop : ∀ {h}, (pt r1 (.cells w.cells 26 (0, 0)) * (own g * (F * tt))) h → (own g * (F * tt)) h := fun q => dropL (P := pt r1 (.cells w.cells 26 (0, 0))) (Q := own g * F) (asr (by ac_rfl) q) |> asr (by ac_rfl)
  by_cases hil : i < w.gs.length
  · have hw := own_vat (F := pt r1 (.cells w.cells 26 (0, 0)) * (F * tt)) (asr (by ac_rfl) hh2) hv
    have hgi : w.gs[i]? = some w.gs[i] := List.getElem?_eq_getElem hil
    obtain ⟨b, q, e1, _, _, _, e5⟩ := hw.gor hgi .i64
    have hstk := hv.stacks w.gs[i] (List.getElem_mem hil)
    generalize w.gs[i] = r at *
    repeat (with_reducible first | refine vP_so ?_ | refine vB_t ?_ | refine vB_f ?_ | refine vE_tt ?_ | refine vE_ff ?_ | refine vE_tf ?_ | refine vE_ft ?_ | refine vE_u ?_ | refine vP_to (by simp (disch := omega) only [gdW_true, gdW_false, gB_true, gB_false, gB_undef, pickV_true, pickV_false, Bool.not_true, Bool.not_false, Option.map_some, bin_add, bin_sub, bin_mul, bin_quo, bin_rem, lss_t, lss_f, leq_t, leq_f, gtr_t, gtr_f, geq_t, geq_f, eqi_t, eqi_f, nei_t, nei_f, rem_uw, conv_ui, conv_iu, conv_ii, not_bool, nil_ptr, fa_mk, ptrV, len_mk, cap_mk, eq_ptr_nil, ne_ptr_nil, eq_nil_nil, ne_nil_nil, eq_slice_nil, eq_nil_slice, ia_1, e1, e5]; exact so_so) ?_)
    refine vA_new hh2 fun r6 h3 hh3 => ?_
    refine stN_mk (cs := #[.int .i64 r.st, .int .i64 r.p, r.sv]) hh3 (one_gr hstk) rfl (by simp) fun h4 hh4 => ?_
    have hc2 : ld1 (.pointer (some ⟨r6, 0 + 2, none⟩)) h4 = some r.sv := ld1_mk (pt_get hh4) rfl
    have hh4 : (pt r1 (.cells w.cells 26 (0, 0)) * (own g * (F * tt))) h4 := dropL (P := pt r6 (.cells #[.int .i64 r.st, .int .i64 r.p, r.sv] 41 (0, 0))) (Q := pt r1 (.cells w.cells 26 (0, 0)) * (own g * F)) (asr (by ac_rfl) hh4) |> asr (by ac_rfl)
    have hslt := hstk.lt
    by_cases h16 : r.stack.length = 16
    · repeat (with_reducible first | refine vP_so ?_ | refine vB_t ?_ | refine vB_f ?_ | refine vE_tt ?_ | refine vE_ff ?_ | refine vE_tf ?_ | refine vE_ft ?_ | refine vE_u ?_ | refine vP_to (by simp (disch := omega) only [gdW_true, gdW_false, gB_true, gB_false, gB_undef, pickV_true, pickV_false, Bool.not_true, Bool.not_false, Option.map_some, bin_add, bin_sub, bin_mul, bin_quo, bin_rem, lss_t, lss_f, leq_t, leq_f, gtr_t, gtr_f, geq_t, geq_f, eqi_t, eqi_f, nei_t, nei_f, rem_uw, conv_ui, conv_iu, conv_ii, not_bool, nil_ptr, fa_mk, ptrV, len_mk, cap_mk, eq_ptr_nil, ne_ptr_nil, eq_nil_nil, ne_nil_nil, eq_slice_nil, eq_nil_slice, ia_1, hc2, hstk.len]; exact so_so) ?_)
      refine ⟨w.gs.length - (i + 1), by omega, i + 1, by simp, rfl, by omega, fun j r' hj hr' => ?_, hh4⟩
      by_cases hji : j = i
      · subst hji
        obtain rfl : r = r' := Option.some.inj (hgi.symm.trans hr')
        exact h16
      · exact hok j r' (by omega) hr'
    · have hb : B7 w := .inl ⟨i, r, hgi, h16⟩
      rw [cb_t hb] at hK
      repeat (with_reducible first | refine vP_so ?_ | refine vB_t ?_ | refine vB_f ?_ | refine vE_tt ?_ | refine vE_ff ?_ | refine vE_tf ?_ | refine vE_ft ?_ | refine vE_u ?_ | refine vP_to (by simp (disch := omega) only [gdW_true, gdW_false, gB_true, gB_false, gB_undef, pickV_true, pickV_false, Bool.not_true, Bool.not_false, Option.map_some, bin_add, bin_sub, bin_mul, bin_quo, bin_rem, lss_t, lss_f, leq_t, leq_f, gtr_t, gtr_f, geq_t, geq_f, eqi_t, eqi_f, nei_t, nei_f, rem_uw, conv_ui, conv_iu, conv_ii, not_bool, nil_ptr, fa_mk, ptrV, len_mk, cap_mk, eq_ptr_nil, ne_ptr_nil, eq_nil_nil, ne_nil_nil, eq_slice_nil, eq_nil_slice, ia_1, hc2, hstk.len]; exact so_so) ?_)
      exact hK h4 (hdrop hh4)
  · obtain rfl : i = w.gs.length := by omega
    obtain ⟨l0, l1, l2, _⟩ := vw_ld (r := r1) (w := w) (E := 26) hh2
    have hn : ¬ ∃ (i : Nat) (r : Gr), w.gs[i]? = some r ∧ r.stack.length ≠ 16 := fun ⟨i, r, h1, h2⟩ => h2 (hok i r (List.getElem?_eq_some_iff.1 h1).1 h1)
    have fin : ∀ b, (b = true ↔ B7 w) → K (.bool b) h2 := fun b hb => by
      rw [cb_of hb]; exact hK h2 (hdrop hh2)
    have hB : B7 w ↔ w.phase < 0 ∨ 3 < w.phase ∨ w.cycle < 0 ∨ w.clock < 0 := ⟨fun q => q.resolve_left hn, .inr⟩
    have ft : (w.phase < 0 ∨ 3 < w.phase ∨ w.cycle < 0 ∨ w.clock < 0) → K (.bool true) h2 := fun q => fin true ⟨fun _ => hB.2 q, fun _ => rfl⟩
    have ff : ¬ (w.phase < 0 ∨ 3 < w.phase ∨ w.cycle < 0 ∨ w.clock < 0) → K (.bool false) h2 := fun q => fin false ⟨fun e => by (cases e), fun e => (q (hB.1 e)).elim⟩
    clear fin hK hB
    by_cases a1 : w.phase < 0 <;> by_cases a2 : 3 < w.phase <;> by_cases a3 : w.cycle < 0 <;> by_cases a4 : w.clock < 0 <;>
      first
        | (exfalso; omega)
        | (repeat (with_reducible first | refine vP_so ?_ | refine vB_t ?_ | refine vB_f ?_ | refine vE_tt ?_ | refine vE_ff ?_ | refine vE_tf ?_ | refine vE_ft ?_ | refine vE_u ?_ | refine vP_to (by simp (disch := omega) only [gdW_true, gdW_false, gB_true, gB_false, gB_undef, pickV_true, pickV_false, Bool.not_true, Bool.not_false, Option.map_some, bin_add, bin_sub, bin_mul, bin_quo, bin_rem, lss_t, lss_f, leq_t, leq_f, gtr_t, gtr_f, geq_t, geq_f, eqi_t, eqi_f, nei_t, nei_f, rem_uw, conv_ui, conv_iu, conv_ii, not_bool, nil_ptr, fa_mk, ptrV, len_mk, cap_mk, eq_ptr_nil, ne_ptr_nil, eq_nil_nil, ne_nil_nil, eq_slice_nil, eq_nil_slice, ia_1, l0, l1, l2]; exact so_so) ?_)
           first
             | exact ft (by omega)
             | exact ff (by omega))

theorem use_amarked {g : Hp} {w : VW} {ps : Int} {F : Asrt} {K : Value → Hp → Prop} {h : Hp} (hv : VAt g w) (hh : (own g * (F * tt)) h)
    (hK : ∀ h', (own g * (F * tt)) h' → K (.bool (cb (B8 w))) h') : CallH Try.prog 80 #[w.val, .int .i64 ps] K h := by
  refine C80 ?_
  unfold D80
  refine vA_new (o := .cells w.cells 26 (0, 0)) hh fun r1 h1 hh1 => ?_
  have l0 := (vw_ld (r := r1) (w := w) (E := 26) hh1).1
  have l5 := (vw_ld (r := r1) (w := w) (E := 26) hh1).2.2.2.2.2.1
  have hh1 : (own g * (F * tt)) h1 := dropL (P := pt r1 (.cells w.cells 26 (0, 0))) (Q := own g * F) (asr (by ac_rfl) hh1) |> asr (by ac_rfl)
  by_cases hp : w.phase = 0
  · repeat (with_reducible first | refine vP_so ?_ | refine vB_t ?_ | refine vB_f ?_ | refine vE_tt ?_ | refine vE_ff ?_ | refine vE_tf ?_ | refine vE_ft ?_ | refine vE_u ?_ | refine vP_to (by simp (disch := omega) only [gdW_true, gdW_false, gB_true, gB_false, gB_undef, pickV_true, pickV_false, Bool.not_true, Bool.not_false, Option.map_some, bin_add, bin_sub, bin_mul, bin_quo, bin_rem, lss_t, lss_f, leq_t, leq_f, gtr_t, gtr_f, geq_t, geq_f, eqi_t, eqi_f, nei_t, nei_f, rem_uw, conv_ui, conv_iu, conv_ii, not_bool, nil_ptr, fa_mk, ptrV, len_mk, cap_mk, eq_ptr_nil, ne_ptr_nil, eq_nil_nil, ne_nil_nil, eq_slice_nil, eq_nil_slice, ia_1, l0, l5]; exact so_so) ?_)
    refine C87 ?_
    unfold D87
    refine use_idxf (p := fun o => o.marked) hv hh1 (fun o ho h K hh hK => ?_) fun h2 hh2 => ?_
    · refine cv_fn (by kernel_rfl) ?_
      show CallH Try.prog 88 #[.agg #[.int .i64 o.addr, o.sv, .bool o.marked]] K h
      refine C88 ?_
      unfold D88
      refine vA_new (o := .cells #[.int .i64 o.addr, o.sv, .bool o.marked] 30 (0, 0)) hh fun r h' hh' => ?_
      have lm : ld1 (.pointer (some ⟨r, 0 + 2, none⟩)) h' = some (.bool o.marked) := ld1_mk (pt_get hh') rfl
      repeat (with_reducible first | refine vP_so ?_ | refine vB_t ?_ | refine vB_f ?_ | refine vE_tt ?_ | refine vE_ff ?_ | refine vE_tf ?_ | refine vE_ft ?_ | refine vE_u ?_ | refine vP_to (by simp (disch := omega) only [gdW_true, gdW_false, gB_true, gB_false, gB_undef, pickV_true, pickV_false, Bool.not_true, Bool.not_false, Option.map_some, bin_add, bin_sub, bin_mul, bin_quo, bin_rem, lss_t, lss_f, leq_t, leq_f, gtr_t, gtr_f, geq_t, geq_f, eqi_t, eqi_f, nei_t, nei_f, rem_uw, conv_ui, conv_iu, conv_ii, not_bool, nil_ptr, fa_mk, ptrV, len_mk, cap_mk, eq_ptr_nil, ne_ptr_nil, eq_nil_nil, ne_nil_nil, eq_slice_nil, eq_nil_slice, ia_1, lm]; exact so_so) ?_)
      exact hK h' (dropL (P := pt r (.cells #[.int .i64 o.addr, o.sv, .bool o.marked] 30 (0, 0))) (Q := own g * F) (asr (by ac_rfl) hh') |> asr (by ac_rfl))
    · cases hi : w.objs.findIdx? (fun o => o.marked) with
      | none =>
        simp only
        have hb : ¬ B8 w := fun ⟨_, i, o, ho, hm⟩ => by
          rw [List.findIdx?_eq_none_iff] at hi
          have := hi o (List.mem_of_getElem? ho)
          rw [hm] at this; cases this
        rw [cb_f hb] at hK
        repeat (with_reducible first | refine vP_so ?_ | refine vB_t ?_ | refine vB_f ?_ | refine vE_tt ?_ | refine vE_ff ?_ | refine vE_tf ?_ | refine vE_ft ?_ | refine vE_u ?_ | refine vP_to (by simp (disch := omega) only [gdW_true, gdW_false, gB_true, gB_false, gB_undef, pickV_true, pickV_false, Bool.not_true, Bool.not_false, Option.map_some, bin_add, bin_sub, bin_mul, bin_quo, bin_rem, lss_t, lss_f, leq_t, leq_f, gtr_t, gtr_f, geq_t, geq_f, eqi_t, eqi_f, nei_t, nei_f, rem_uw, conv_ui, conv_iu, conv_ii, not_bool, nil_ptr, fa_mk, ptrV, len_mk, cap_mk, eq_ptr_nil, ne_ptr_nil, eq_nil_nil, ne_nil_nil, eq_slice_nil, eq_nil_slice, ia_1]; exact so_so) ?_)
        exact hK h2 hh2
      | some i =>
        simp only
        obtain ⟨h3, h4, _⟩ := List.findIdx?_eq_some_iff_getElem.1 hi
        have hb : B8 w := ⟨hp, i, _, List.getElem?_eq_getElem h3, h4⟩
        rw [cb_t hb] at hK
        repeat (with_reducible first | refine vP_so ?_ | refine vB_t ?_ | refine vB_f ?_ | refine vE_tt ?_ | refine vE_ff ?_ | refine vE_tf ?_ | refine vE_ft ?_ | refine vE_u ?_ | refine vP_to (by simp (disch := omega) only [gdW_true, gdW_false, gB_true, gB_false, gB_undef, pickV_true, pickV_false, Bool.not_true, Bool.not_false, Option.map_some, bin_add, bin_sub, bin_mul, bin_quo, bin_rem, lss_t, lss_f, leq_t, leq_f, gtr_t, gtr_f, geq_t, geq_f, eqi_t, eqi_f, nei_t, nei_f, rem_uw, conv_ui, conv_iu, conv_ii, not_bool, nil_ptr, fa_mk, ptrV, len_mk, cap_mk, eq_ptr_nil, ne_ptr_nil, eq_nil_nil, ne_nil_nil, eq_slice_nil, eq_nil_slice, ia_1]; exact so_so) ?_)
        exact hK h2 hh2
  · repeat (with_reducible first | refine vP_so ?_ | refine vB_t ?_ | refine vB_f ?_ | refine vE_tt ?_ | refine vE_ff ?_ | refine vE_tf ?_ | refine vE_ft ?_ | refine vE_u ?_ | refine vP_to (by simp (disch := omega) only [gdW_true, gdW_false, gB_true, gB_false, gB_undef, pickV_true, pickV_false, Bool.not_true, Bool.not_false, Option.map_some, bin_add, bin_sub, bin_mul, bin_quo, bin_rem, lss_t, lss_f, leq_t, leq_f, gtr_t, gtr_f, geq_t, geq_f, eqi_t, eqi_f, nei_t, nei_f, rem_uw, conv_ui, conv_iu, conv_ii, not_bool, nil_ptr, fa_mk, ptrV, len_mk, cap_mk, eq_ptr_nil, ne_ptr_nil, eq_nil_nil, ne_nil_nil, eq_slice_nil, eq_nil_slice, ia_1, l0, l5]; exact so_so) ?_)
    have hb : ¬ B8 w := fun q => hp q.1
    rw [cb_f hb] at hK
    exact hK h1 hh1

theorem use_aplaces {g : Hp} {w : VW} {ps : Int} {F : Asrt} {K : Value → Hp → Prop} {h : Hp} (hv : VAt g w) (hh : (own g * (F * tt)) h)
    (hK : ∀ h', (own g * (F * tt)) h' → K (.bool (cb (B4 w ps))) h') : CallH Try.prog 76 #[w.val, .int .i64 ps] K h := by
  refine C76 ?_
  unfold D76
  have hgl := hv.gs_len
  refine vA_new (o := .cells w.cells 26 (0, 0)) hh fun r1 h1 hh1 => ?_
  have l4 := (vw_ld (r := r1) (w := w) (E := 26) hh1).2.2.2.2.1
  have hdrop : ∀ {h}, (pt r1 (.cells w.cells 26 (0, 0)) * (own g * (F * tt))) h → (own g * (F * tt)) h := fun q => dropL (P := pt r1 (.cells w.cells 26 (0, 0))) (Q := own g * F) (asr (by ac_rfl) q) |> asr (by ac_rfl)
  repeat (with_reducible first | refine vP_so ?_ | refine vB_t ?_ | refine vB_f ?_ | refine vE_tt ?_ | refine vE_ff ?_ | refine vE_tf ?_ | refine vE_ft ?_ | refine vE_u ?_ | refine vP_to (by simp (disch := omega) only [gdW_true, gdW_false, gB_true, gB_false, gB_undef, pickV_true, pickV_false, Bool.not_true, Bool.not_false, Option.map_some, bin_add, bin_sub, bin_mul, bin_quo, bin_rem, lss_t, lss_f, leq_t, leq_f, gtr_t, gtr_f, geq_t, geq_f, eqi_t, eqi_f, nei_t, nei_f, rem_uw, conv_ui, conv_iu, conv_ii, not_bool, nil_ptr, fa_mk, ptrV, len_mk, cap_mk, eq_ptr_nil, ne_ptr_nil, eq_nil_nil, ne_nil_nil, eq_slice_nil, eq_nil_slice, ia_1, l4, hgl.1]; exact so_so) ?_)
  refine ⟨fun m zs h' => ∃ i : Nat, zs = [.int .i64 i] ∧ m = w.gs.length - i ∧ i ≤ w.gs.length ∧ (∀ (j : Nat) r, j < i → w.gs[j]? = some r → okG ps r) ∧ (own g * (F * tt)) h', ⟨_, 0, rfl, rfl, by omega, fun j r hj => by omega, hdrop hh1⟩, ?_⟩
  rintro m v11 h2 ⟨i, hzs, rfl, hi, hok, hh2⟩ _
  obtain rfl : v11 = .int .i64 i := by simpa using hzs
  by_cases hil : i < w.gs.length
  · have hw := own_vat hh2 hv
    have hgi : w.gs[i]? = some w.gs[i] := List.getElem?_eq_getElem hil
    obtain ⟨b, q, e1, _, _, _, e5⟩ := hw.gor hgi .i64
    have hstk := hv.stacks w.gs[i] (List.getElem_mem hil)
    generalize w.gs[i] = r at *
    repeat (with_reducible first | refine vP_so ?_ | refine vB_t ?_ | refine vB_f ?_ | refine vE_tt ?_ | refine vE_ff ?_ | refine vE_tf ?_ | refine vE_ft ?_ | refine vE_u ?_ | refine vP_to (by simp (disch := omega) only [gdW_true, gdW_false, gB_true, gB_false, gB_undef, pickV_true, pickV_false, Bool.not_true, Bool.not_false, Option.map_some, bin_add, bin_sub, bin_mul, bin_quo, bin_rem, lss_t, lss_f, leq_t, leq_f, gtr_t, gtr_f, geq_t, geq_f, eqi_t, eqi_f, nei_t, nei_f, rem_uw, conv_ui, conv_iu, conv_ii, not_bool, nil_ptr, fa_mk, ptrV, len_mk, cap_mk, eq_ptr_nil, ne_ptr_nil, eq_nil_nil, ne_nil_nil, eq_slice_nil, eq_nil_slice, ia_1, e1, e5]; exact so_so) ?_)
    refine vA_new hh2 fun r6 h3 hh3 => ?_
    refine stN_mk (cs := #[.int .i64 r.st, .int .i64 r.p, r.sv]) hh3 (one_gr hstk) rfl (by simp) fun h4 hh4 => ?_
    have hc0 : ld1 (.pointer (some ⟨r6, 0 + 0, none⟩)) h4 = some (.int .i64 r.st) := ld1_mk (pt_get hh4) rfl
    have hc1 : ld1 (.pointer (some ⟨r6, 0 + 1, none⟩)) h4 = some (.int .i64 r.p) := ld1_mk (pt_get hh4) rfl
    have hh4 : (own g * (F * tt)) h4 := dropL (P := pt r6 (.cells #[.int .i64 r.st, .int .i64 r.p, r.sv] 41 (0, 0))) (Q := own g * F) (asr (by ac_rfl) hh4) |> asr (by ac_rfl)
    by_cases hP : r.p = -1
    all_goals
      repeat (with_reducible first | refine vP_so ?_ | refine vB_t ?_ | refine vB_f ?_ | refine vE_tt ?_ | refine vE_ff ?_ | refine vE_tf ?_ | refine vE_ft ?_ | refine vE_u ?_ | refine vP_to (by simp (disch := omega) only [gdW_true, gdW_false, gB_true, gB_false, gB_undef, pickV_true, pickV_false, Bool.not_true, Bool.not_false, Option.map_some, bin_add, bin_sub, bin_mul, bin_quo, bin_rem, lss_t, lss_f, leq_t, leq_f, gtr_t, gtr_f, geq_t, geq_f, eqi_t, eqi_f, nei_t, nei_f, rem_uw, conv_ui, conv_iu, conv_ii, not_bool, nil_ptr, fa_mk, ptrV, len_mk, cap_mk, eq_ptr_nil, ne_ptr_nil, eq_nil_nil, ne_nil_nil, eq_slice_nil, eq_nil_slice, ia_1, hc1]; exact so_so) ?_)
      intro J2 hJ2
      have jt : okG ps r → J2 [.bool true] h4 := fun hq => by
        refine hJ2 _ _ fun _ => ?_
        repeat (with_reducible first | refine vP_so ?_ | refine vB_t ?_ | refine vB_f ?_ | refine vE_tt ?_ | refine vE_ff ?_ | refine vE_tf ?_ | refine vE_ft ?_ | refine vE_u ?_ | refine vP_to (by simp (disch := omega) only [gdW_true, gdW_false, gB_true, gB_false, gB_undef, pickV_true, pickV_false, Bool.not_true, Bool.not_false, Option.map_some, bin_add, bin_sub, bin_mul, bin_quo, bin_rem, lss_t, lss_f, leq_t, leq_f, gtr_t, gtr_f, geq_t, geq_f, eqi_t, eqi_f, nei_t, nei_f, rem_uw, conv_ui, conv_iu, conv_ii, not_bool, nil_ptr, fa_mk, ptrV, len_mk, cap_mk, eq_ptr_nil, ne_ptr_nil, eq_nil_nil, ne_nil_nil, eq_slice_nil, eq_nil_slice, ia_1]; exact so_so) ?_)
        refine ⟨w.gs.length - (i + 1), by omega, i + 1, by simp, rfl, by omega, fun j r' hj hr' => ?_, hh4⟩
        by_cases hji : j = i
        · subst hji
          obtain rfl : r = r' := Option.some.inj (hgi.symm.trans hr')
          exact hq
        · exact hok j r' (by omega) hr'
      have jf : ¬ okG ps r → J2 [.bool false] h4 := fun hq => by
        refine hJ2 _ _ fun _ => ?_
        have hb : B4 w ps := ⟨i, r, hgi, hq⟩
        rw [cb_t hb] at hK
        repeat (with_reducible first | refine vP_so ?_ | refine vB_t ?_ | refine vB_f ?_ | refine vE_tt ?_ | refine vE_ff ?_ | refine vE_tf ?_ | refine vE_ft ?_ | refine vE_u ?_ | refine vP_to (by simp (disch := omega) only [gdW_true, gdW_false, gB_true, gB_false, gB_undef, pickV_true, pickV_false, Bool.not_true, Bool.not_false, Option.map_some, bin_add, bin_sub, bin_mul, bin_quo, bin_rem, lss_t, lss_f, leq_t, leq_f, gtr_t, gtr_f, geq_t, geq_f, eqi_t, eqi_f, nei_t, nei_f, rem_uw, conv_ui, conv_iu, conv_ii, not_bool, nil_ptr, fa_mk, ptrV, len_mk, cap_mk, eq_ptr_nil, ne_ptr_nil, eq_nil_nil, ne_nil_nil, eq_slice_nil, eq_nil_slice, ia_1]; exact so_so) ?_)
        exact hK h4 hh4
      unfold okG at jt jf
      by_cases s2 : r.st = 2
      · by_cases c1 : 0 ≤ r.p <;> by_cases c2 : r.p < ps <;>
          (repeat (with_reducible first | refine vP_so ?_ | refine vB_t ?_ | refine vB_f ?_ | refine vE_tt ?_ | refine vE_ff ?_ | refine vE_tf ?_ | refine vE_ft ?_ | refine vE_u ?_ | refine vP_to (by simp (disch := omega) only [gdW_true, gdW_false, gB_true, gB_false, gB_undef, pickV_true, pickV_false, Bool.not_true, Bool.not_false, Option.map_some, bin_add, bin_sub, bin_mul, bin_quo, bin_rem, lss_t, lss_f, leq_t, leq_f, gtr_t, gtr_f, geq_t, geq_f, eqi_t, eqi_f, nei_t, nei_f, rem_uw, conv_ui, conv_iu, conv_ii, not_bool, nil_ptr, fa_mk, ptrV, len_mk, cap_mk, eq_ptr_nil, ne_ptr_nil, eq_nil_nil, ne_nil_nil, eq_slice_nil, eq_nil_slice, ia_1, hc0, hc1]; exact so_so) ?_)
           first
             | exact jt (by omega)
             | exact jf (by omega))
      · by_cases s1 : r.st = 1
        · by_cases c1 : -1 ≤ r.p <;> by_cases c2 : r.p < ps <;>
            (repeat (with_reducible first | refine vP_so ?_ | refine vB_t ?_ | refine vB_f ?_ | refine vE_tt ?_ | refine vE_ff ?_ | refine vE_tf ?_ | refine vE_ft ?_ | refine vE_u ?_ | refine vP_to (by simp (disch := omega) only [gdW_true, gdW_false, gB_true, gB_false, gB_undef, pickV_true, pickV_false, Bool.not_true, Bool.not_false, Option.map_some, bin_add, bin_sub, bin_mul, bin_quo, bin_rem, lss_t, lss_f, leq_t, leq_f, gtr_t, gtr_f, geq_t, geq_f, eqi_t, eqi_f, nei_t, nei_f, rem_uw, conv_ui, conv_iu, conv_ii, not_bool, nil_ptr, fa_mk, ptrV, len_mk, cap_mk, eq_ptr_nil, ne_ptr_nil, eq_nil_nil, ne_nil_nil, eq_slice_nil, eq_nil_slice, ia_1, hc0, hc1]; exact so_so) ?_)
             first
               | exact jt (by omega)
               | exact jf (by omega))
        · repeat (with_reducible first | refine vP_so ?_ | refine vB_t ?_ | refine vB_f ?_ | refine vE_tt ?_ | refine vE_ff ?_ | refine vE_tf ?_ | refine vE_ft ?_ | refine vE_u ?_ | refine vP_to (by simp (disch := omega) only [gdW_true, gdW_false, gB_true, gB_false, gB_undef, pickV_true, pickV_false, Bool.not_true, Bool.not_false, Option.map_some, bin_add, bin_sub, bin_mul, bin_quo, bin_rem, lss_t, lss_f, leq_t, leq_f, gtr_t, gtr_f, geq_t, geq_f, eqi_t, eqi_f, nei_t, nei_f, rem_uw, conv_ui, conv_iu, conv_ii, not_bool, nil_ptr, fa_mk, ptrV, len_mk, cap_mk, eq_ptr_nil, ne_ptr_nil, eq_nil_nil, ne_nil_nil, eq_slice_nil, eq_nil_slice, ia_1, hc0, hc1]; exact so_so) ?_)
          first
            | exact jt (by omega)
            | exact jf (by omega)
  · obtain rfl : i = w.gs.length := by omega
    have hb : ¬ B4 w ps := fun ⟨i, r, h1, h2⟩ => h2 (hok i r (List.getElem?_eq_some_iff.1 h1).1 h1)
    rw [cb_f hb] at hK
    repeat (with_reducible first | refine vP_so ?_ | refine vB_t ?_ | refine vB_f ?_ | refine vE_tt ?_ | refine vE_ff ?_ | refine vE_tf ?_ | refine vE_ft ?_ | refine vE_u ?_ | refine vP_to (by simp (disch := omega) only [gdW_true, gdW_false, gB_true, gB_false, gB_undef, pickV_true, pickV_false, Bool.not_true, Bool.not_false, Option.map_some, bin_add, bin_sub, bin_mul, bin_quo, bin_rem, lss_t, lss_f, leq_t, leq_f, gtr_t, gtr_f, geq_t, geq_f, eqi_t, eqi_f, nei_t, nei_f, rem_uw, conv_ui, conv_iu, conv_ii, not_bool, nil_ptr, fa_mk, ptrV, len_mk, cap_mk, eq_ptr_nil, ne_ptr_nil, eq_nil_nil, ne_nil_nil, eq_slice_nil, eq_nil_slice, ia_1]; exact so_so) ?_)
    exact hK h2 hh2

end Go.Proofs

/-
  Contracts of package audit: objects, twice; all rules, the first one, their words.
-/
set_option maxRecDepth 100000
namespace Go.Proofs
open Go.Sl

theorem use_aobjects {g : Hp} {w : VW} {ps : Int} {F : Asrt} {K : Value → Hp → Prop} {h : Hp} (hv : VAt g w) (hA : ∀ o ∈ w.objs, o.addr ≤ 9223372036854775807) (hh : (own g * (F * tt)) h)
    (hK : ∀ h', (own g * (F * tt)) h' → K (.bool (cb (B2 w))) h') : CallH Try.prog 74 #[w.val, .int .i64 ps] K h := by
  refine C74 ?_
  unfold D74
  have hol := hv.objs_len
  refine vA_new (o := .cells w.cells 26 (0, 0)) hh fun r1 h1 hh1 => ?_
  have l5 := (vw_ld (r := r1) (w := w) (E := 26) hh1).2.2.2.2.2.1
  have hdrop : ∀ {h}, (pt r1 (.cells w.cells 26 (0, 0)) * (own g * (F * tt))) h → (own g * (F * tt)) h := fun q => dropL (P := pt r1 (.cells w.cells 26 (0, 0))) (Q := own g * F) (asr (by ac_rfl) q) |> asr (by ac_rfl)
  repeat (with_reducible first | refine vP_so ?_ | refine vB_t ?_ | refine vB_f ?_ | refine vE_tt ?_ | refine vE_ff ?_ | refine vE_tf ?_ | refine vE_ft ?_ | refine vE_u ?_ | refine vP_to (by simp (disch := omega) only [gdW_true, gdW_false, gB_true, gB_false, gB_undef, pickV_true, pickV_false, Bool.not_true, Bool.not_false, Option.map_some, bin_add, bin_sub, bin_mul, bin_quo, bin_rem, lss_t, lss_f, leq_t, leq_f, gtr_t, gtr_f, geq_t, geq_f, eqi_t, eqi_f, nei_t, nei_f, rem_uw, conv_ui, conv_iu, conv_ii, not_bool, nil_ptr, fa_mk, ptrV, len_mk, cap_mk, eq_ptr_nil, ne_ptr_nil, eq_nil_nil, ne_nil_nil, eq_slice_nil, eq_nil_slice, ia_1, l5, hol.1]; exact so_so) ?_)
  clear l5
  refine ⟨fun m zs h' => ∃ i : Nat, zs = [.int .i64 i] ∧ m = w.objs.length - i ∧ i ≤ w.objs.length ∧ (∀ (j : Nat) o, j < i → w.objs[j]? = some o → ¬ badO w j o) ∧ (pt r1 (.cells w.cells 26 (0, 0)) * (own g * (F * tt))) h', ⟨_, 0, rfl, rfl, by omega, fun j r hj => by omega, hh1⟩, ?_⟩
  rintro m v10 h2 ⟨i, hzs, rfl, hi, hok, hh2⟩ _
  obtain rfl : v10 = .int .i64 i := by simpa using hzs
  by_cases hil : i < w.objs.length
  · have hw := own_vat (F := pt r1 (.cells w.cells 26 (0, 0)) * (F * tt)) (asr (by ac_rfl) hh2) hv
    have hoi : w.objs[i]? = some w.objs[i] := List.getElem?_eq_getElem hil
    obtain ⟨b, q, e1, _, _, _, e5⟩ := hw.obj hoi .i64
    have hsl := hv.slots w.objs[i] (List.getElem_mem hil)
    have hoa := hA w.objs[i] (List.getElem_mem hil)
    generalize w.objs[i] = o at *
    have fin : badO w i o → ∀ h', (own g * (F * tt)) h' → K (.bool true) h' := fun hb h' hq => by
      have hb : B2 w := ⟨i, o, hoi, hb⟩
      rw [cb_t hb] at hK
      exact hK h' hq
    have nxt : ¬ badO w i o → ∀ h', (pt r1 (.cells w.cells 26 (0, 0)) * (own g * (F * tt))) h' → ∃ m1, m1 < w.objs.length - i ∧ ∃ i' : Nat, [Value.int .i64 ((i : Int) + 1)] = [.int .i64 i'] ∧ m1 = w.objs.length - i' ∧ i' ≤ w.objs.length ∧ (∀ (j : Nat) o, j < i' → w.objs[j]? = some o → ¬ badO w j o) ∧ (pt r1 (.cells w.cells 26 (0, 0)) * (own g * (F * tt))) h' := fun hn h' hq => by
      refine ⟨w.objs.length - (i + 1), by omega, i + 1, by simp, rfl, by omega, fun j o' hj ho' => ?_, hq⟩
      by_cases hji : j = i
      · subst hji
        obtain rfl : o = o' := Option.some.inj (hoi.symm.trans ho')
        exact hn
      · exact hok j o' (by omega) ho'
    repeat (with_reducible first | refine vP_so ?_ | refine vB_t ?_ | refine vB_f ?_ | refine vE_tt ?_ | refine vE_ff ?_ | refine vE_tf ?_ | refine vE_ft ?_ | refine vE_u ?_ | refine vP_to (by simp (disch := omega) only [gdW_true, gdW_false, gB_true, gB_false, gB_undef, pickV_true, pickV_false, Bool.not_true, Bool.not_false, Option.map_some, bin_add, bin_sub, bin_mul, bin_quo, bin_rem, lss_t, lss_f, leq_t, leq_f, gtr_t, gtr_f, geq_t, geq_f, eqi_t, eqi_f, nei_t, nei_f, rem_uw, conv_ui, conv_iu, conv_ii, not_bool, nil_ptr, fa_mk, ptrV, len_mk, cap_mk, eq_ptr_nil, ne_ptr_nil, eq_nil_nil, ne_nil_nil, eq_slice_nil, eq_nil_slice, ia_1, e1, e5]; exact so_so) ?_)
    refine vA_new hh2 fun r6 h3 hh3 => ?_
    refine stN_mk (cs := #[.int .i64 o.addr, o.sv, .bool o.marked]) hh3 (one_ob hsl) rfl (by simp) fun h4 hh4 => ?_
    have hh4 : (pt r6 (.cells #[.int .i64 o.addr, o.sv, .bool o.marked] 30 (0, 0)) * (pt r1 (.cells w.cells 26 (0, 0)) * (own g * (F * tt)))) h4 := hh4
    have hc : ∀ {h : Hp} {G : Asrt}, (pt r6 (.cells #[.int .i64 o.addr, o.sv, .bool o.marked] 30 (0, 0)) * G) h → ld1 (.pointer (some ⟨r6, 0 + 0, none⟩)) h = some (.int .i64 o.addr) ∧ ldN 3 (.pointer (some ⟨r6, 0, none⟩)) h = some (.agg #[.int .i64 o.addr, o.sv, .bool o.marked]) := fun q => ⟨ld1_mk (pt_get q) rfl, by rw [ldN_mk (pt_get q) (by simp)]; rfl⟩
    have d6 : ∀ {h}, (pt r6 (.cells #[.int .i64 o.addr, o.sv, .bool o.marked] 30 (0, 0)) * (pt r1 (.cells w.cells 26 (0, 0)) * (own g * (F * tt)))) h → (pt r1 (.cells w.cells 26 (0, 0)) * (own g * (F * tt))) h := fun q =>
      dropL (P := pt r6 (.cells #[.int .i64 o.addr, o.sv, .bool o.marked] 30 (0, 0))) (Q := pt r1 (.cells w.cells 26 (0, 0)) * (own g * F)) (asr (by ac_rfl) q) |> asr (by ac_rfl)
    by_cases h64 : o.addr < 64
    · repeat (with_reducible first | refine vP_so ?_ | refine vB_t ?_ | refine vB_f ?_ | refine vE_tt ?_ | refine vE_ff ?_ | refine vE_tf ?_ | refine vE_ft ?_ | refine vE_u ?_ | refine vP_to (by simp (disch := omega) only [gdW_true, gdW_false, gB_true, gB_false, gB_undef, pickV_true, pickV_false, Bool.not_true, Bool.not_false, Option.map_some, bin_add, bin_sub, bin_mul, bin_quo, bin_rem, lss_t, lss_f, leq_t, leq_f, gtr_t, gtr_f, geq_t, geq_f, eqi_t, eqi_f, nei_t, nei_f, rem_uw, conv_ui, conv_iu, conv_ii, not_bool, nil_ptr, fa_mk, ptrV, len_mk, cap_mk, eq_ptr_nil, ne_ptr_nil, eq_nil_nil, ne_nil_nil, eq_slice_nil, eq_nil_slice, ia_1, (hc hh4).1]; exact so_so) ?_)
      exact fin (.inl h64) h4 (hdrop (d6 hh4))
    repeat (with_reducible first | refine vP_so ?_ | refine vB_t ?_ | refine vB_f ?_ | refine vE_tt ?_ | refine vE_ff ?_ | refine vE_tf ?_ | refine vE_ft ?_ | refine vE_u ?_ | refine vP_to (by simp (disch := omega) only [gdW_true, gdW_false, gB_true, gB_false, gB_undef, pickV_true, pickV_false, Bool.not_true, Bool.not_false, Option.map_some, bin_add, bin_sub, bin_mul, bin_quo, bin_rem, lss_t, lss_f, leq_t, leq_f, gtr_t, gtr_f, geq_t, geq_f, eqi_t, eqi_f, nei_t, nei_f, rem_uw, conv_ui, conv_iu, conv_ii, not_bool, nil_ptr, fa_mk, ptrV, len_mk, cap_mk, eq_ptr_nil, ne_ptr_nil, eq_nil_nil, ne_nil_nil, eq_slice_nil, eq_nil_slice, ia_1, (hc hh4).1, (hc hh4).2]; exact so_so) ?_)
    refine use_asize (F := pt r6 (.cells #[.int .i64 o.addr, o.sv, .bool o.marked] 30 (0, 0)) * (pt r1 (.cells w.cells 26 (0, 0)) * (own g * F))) hsl (asr (by ac_rfl) hh4) fun h5 hh5 => ?_
    have hh5 : (pt r6 (.cells #[.int .i64 o.addr, o.sv, .bool o.marked] 30 (0, 0)) * (pt r1 (.cells w.cells 26 (0, 0)) * (own g * (F * tt)))) h5 := asr (by ac_rfl) hh5
    by_cases hs0 : szO o = 0
    · repeat (with_reducible first | refine vP_so ?_ | refine vB_t ?_ | refine vB_f ?_ | refine vE_tt ?_ | refine vE_ff ?_ | refine vE_tf ?_ | refine vE_ft ?_ | refine vE_u ?_ | refine vP_to (by simp (disch := omega) only [gdW_true, gdW_false, gB_true, gB_false, gB_undef, pickV_true, pickV_false, Bool.not_true, Bool.not_false, Option.map_some, bin_add, bin_sub, bin_mul, bin_quo, bin_rem, lss_t, lss_f, leq_t, leq_f, gtr_t, gtr_f, geq_t, geq_f, eqi_t, eqi_f, nei_t, nei_f, rem_uw, conv_ui, conv_iu, conv_ii, not_bool, nil_ptr, fa_mk, ptrV, len_mk, cap_mk, eq_ptr_nil, ne_ptr_nil, eq_nil_nil, ne_nil_nil, eq_slice_nil, eq_nil_slice, ia_1]; exact so_so) ?_)
      exact fin (.inr (.inl hs0)) h5 (hdrop (d6 hh5))
    by_cases hi0 : i = 0
    · subst hi0
      repeat (with_reducible first | refine vP_so ?_ | refine vB_t ?_ | refine vB_f ?_ | refine vE_tt ?_ | refine vE_ff ?_ | refine vE_tf ?_ | refine vE_ft ?_ | refine vE_u ?_ | refine vP_to (by simp (disch := omega) only [gdW_true, gdW_false, gB_true, gB_false, gB_undef, pickV_true, pickV_false, Bool.not_true, Bool.not_false, Option.map_some, bin_add, bin_sub, bin_mul, bin_quo, bin_rem, lss_t, lss_f, leq_t, leq_f, gtr_t, gtr_f, geq_t, geq_f, eqi_t, eqi_f, nei_t, nei_f, rem_uw, conv_ui, conv_iu, conv_ii, not_bool, nil_ptr, fa_mk, ptrV, len_mk, cap_mk, eq_ptr_nil, ne_ptr_nil, eq_nil_nil, ne_nil_nil, eq_slice_nil, eq_nil_slice, ia_1]; exact so_so) ?_)
      refine ⟨rfl, rfl, rfl, ?_⟩
      repeat (with_reducible first | refine vP_so ?_ | refine vB_t ?_ | refine vB_f ?_ | refine vE_tt ?_ | refine vE_ff ?_ | refine vE_tf ?_ | refine vE_ft ?_ | refine vE_u ?_ | refine vP_to (by simp (disch := omega) only [gdW_true, gdW_false, gB_true, gB_false, gB_undef, pickV_true, pickV_false, Bool.not_true, Bool.not_false, Option.map_some, bin_add, bin_sub, bin_mul, bin_quo, bin_rem, lss_t, lss_f, leq_t, leq_f, gtr_t, gtr_f, geq_t, geq_f, eqi_t, eqi_f, nei_t, nei_f, rem_uw, conv_ui, conv_iu, conv_ii, not_bool, nil_ptr, fa_mk, ptrV, len_mk, cap_mk, eq_ptr_nil, ne_ptr_nil, eq_nil_nil, ne_nil_nil, eq_slice_nil, eq_nil_slice, ia_1]; exact so_so) ?_)
      exact nxt (fun q => by rcases q with q | q | ⟨q, _⟩ <;> omega) h5 (d6 hh5)
    · have hpg : w.objs[i - 1]? = some w.objs[i - 1] := List.getElem?_eq_getElem (by omega)
      have hpl := hv.slots w.objs[i - 1] (List.getElem_mem (by omega))
      have hpok := hok (i - 1) _ (by omega) hpg
      have hw5 := own_vat (F := pt r6 (.cells #[.int .i64 o.addr, o.sv, .bool o.marked] 30 (0, 0)) * (pt r1 (.cells w.cells 26 (0, 0)) * (F * tt))) (asr (by ac_rfl) hh5) hv
      obtain ⟨b', q', f1, f2, _, _, f5⟩ := hw5.obj hpg .i64
      rw [show ((i - 1 : Nat) : Int) = (i : Int) - 1 by omega] at f1
      generalize w.objs[i - 1] = p at *
      have hp64 : 64 ≤ p.addr := by
        rcases Int.lt_or_le p.addr 64 with q | q
        · exact (hpok (.inl q)).elim
        · exact q
      have l5 := (vw_ld (r := r1) (w := w) (E := 26) (F := pt r6 (.cells #[.int .i64 o.addr, o.sv, .bool o.marked] 30 (0, 0)) * (own g * (F * tt))) (asr (by ac_rfl) hh5)).2.2.2.2.2.1
      by_cases hle : o.addr ≤ p.addr
      · repeat (with_reducible first | refine vP_so ?_ | refine vB_t ?_ | refine vB_f ?_ | refine vE_tt ?_ | refine vE_ff ?_ | refine vE_tf ?_ | refine vE_ft ?_ | refine vE_u ?_ | refine vP_to (by simp (disch := omega) only [gdW_true, gdW_false, gB_true, gB_false, gB_undef, pickV_true, pickV_false, Bool.not_true, Bool.not_false, Option.map_some, bin_add, bin_sub, bin_mul, bin_quo, bin_rem, lss_t, lss_f, leq_t, leq_f, gtr_t, gtr_f, geq_t, geq_f, eqi_t, eqi_f, nei_t, nei_f, rem_uw, conv_ui, conv_iu, conv_ii, not_bool, nil_ptr, fa_mk, ptrV, len_mk, cap_mk, eq_ptr_nil, ne_ptr_nil, eq_nil_nil, ne_nil_nil, eq_slice_nil, eq_nil_slice, ia_1, (hc hh5).1, l5, f1, f2]; exact so_so) ?_)
        have l5 := (vw_ld (r := r1) (w := w) (E := 26) (F := pt r6 (.cells #[.int .i64 o.addr, o.sv, .bool o.marked] 30 (0, 0)) * (own g * (F * tt))) (asr (by ac_rfl) hh5)).2.2.2.2.2.1
        refine ⟨rfl, rfl, rfl, ?_⟩
        repeat (with_reducible first | refine vP_so ?_ | refine vB_t ?_ | refine vB_f ?_ | refine vE_tt ?_ | refine vE_ff ?_ | refine vE_tf ?_ | refine vE_ft ?_ | refine vE_u ?_ | refine vP_to (by simp (disch := omega) only [gdW_true, gdW_false, gB_true, gB_false, gB_undef, pickV_true, pickV_false, Bool.not_true, Bool.not_false, Option.map_some, bin_add, bin_sub, bin_mul, bin_quo, bin_rem, lss_t, lss_f, leq_t, leq_f, gtr_t, gtr_f, geq_t, geq_f, eqi_t, eqi_f, nei_t, nei_f, rem_uw, conv_ui, conv_iu, conv_ii, not_bool, nil_ptr, fa_mk, ptrV, len_mk, cap_mk, eq_ptr_nil, ne_ptr_nil, eq_nil_nil, ne_nil_nil, eq_slice_nil, eq_nil_slice, ia_1]; exact so_so) ?_)
        exact fin (.inr (.inr ⟨by omega, p, hpg, .inl hle⟩)) h5 (hdrop (d6 hh5))
      repeat (with_reducible first | refine vP_so ?_ | refine vB_t ?_ | refine vB_f ?_ | refine vE_tt ?_ | refine vE_ff ?_ | refine vE_tf ?_ | refine vE_ft ?_ | refine vE_u ?_ | refine vP_to (by simp (disch := omega) only [gdW_true, gdW_false, gB_true, gB_false, gB_undef, pickV_true, pickV_false, Bool.not_true, Bool.not_false, Option.map_some, bin_add, bin_sub, bin_mul, bin_quo, bin_rem, lss_t, lss_f, leq_t, leq_f, gtr_t, gtr_f, geq_t, geq_f, eqi_t, eqi_f, nei_t, nei_f, rem_uw, conv_ui, conv_iu, conv_ii, not_bool, nil_ptr, fa_mk, ptrV, len_mk, cap_mk, eq_ptr_nil, ne_ptr_nil, eq_nil_nil, ne_nil_nil, eq_slice_nil, eq_nil_slice, ia_1, (hc hh5).1, l5, f1, f2, f5]; exact so_so) ?_)
      refine use_asize (F := pt r6 (.cells #[.int .i64 o.addr, o.sv, .bool o.marked] 30 (0, 0)) * (pt r1 (.cells w.cells 26 (0, 0)) * (own g * F))) hpl (asr (by ac_rfl) hh5) fun h6 hh6 => ?_
      have hh6 : (pt r6 (.cells #[.int .i64 o.addr, o.sv, .bool o.marked] 30 (0, 0)) * (pt r1 (.cells w.cells 26 (0, 0)) * (own g * (F * tt)))) h6 := asr (by ac_rfl) hh6
      have l5' := (vw_ld (r := r1) (w := w) (E := 26) (F := pt r6 (.cells #[.int .i64 o.addr, o.sv, .bool o.marked] 30 (0, 0)) * (own g * (F * tt))) (asr (by ac_rfl) hh6)).2.2.2.2.2.1
      have hw6 := own_vat (F := pt r6 (.cells #[.int .i64 o.addr, o.sv, .bool o.marked] 30 (0, 0)) * (pt r1 (.cells w.cells 26 (0, 0)) * (F * tt))) (asr (by ac_rfl) hh6) hv
      obtain ⟨b2, q2, g1, g2, _⟩ := hw6.obj hpg .i64
      rw [show ((i - 1 : Nat) : Int) = (i : Int) - 1 by omega] at g1
      obtain ⟨rfl, rfl⟩ : b' = b2 ∧ q' = q2 := by
        have := f1.symm.trans g1
        simp only [Option.some.injEq, Value.pointer.injEq, Addr.mk.injEq] at this
        exact ⟨this.1, this.2.1⟩
      refine ⟨?_, ?_, ?_, ?_⟩
      · rw [show gB (.bool false) false = true from rfl, gdW_true]; exact g2
      · rw [show gB (.bool false) false = true from rfl, gdW_true]; exact l5'
      · rw [show gB (.bool false) false = true from rfl, gdW_true]; exact (hc hh6).1
      by_cases hlt : o.addr - p.addr < szO p
      · repeat (with_reducible first | refine vP_so ?_ | refine vB_t ?_ | refine vB_f ?_ | refine vE_tt ?_ | refine vE_ff ?_ | refine vE_tf ?_ | refine vE_ft ?_ | refine vE_u ?_ | refine vP_to (by simp (disch := omega) only [gdW_true, gdW_false, gB_true, gB_false, gB_undef, pickV_true, pickV_false, Bool.not_true, Bool.not_false, Option.map_some, bin_add, bin_sub, bin_mul, bin_quo, bin_rem, lss_t, lss_f, leq_t, leq_f, gtr_t, gtr_f, geq_t, geq_f, eqi_t, eqi_f, nei_t, nei_f, rem_uw, conv_ui, conv_iu, conv_ii, not_bool, nil_ptr, fa_mk, ptrV, len_mk, cap_mk, eq_ptr_nil, ne_ptr_nil, eq_nil_nil, ne_nil_nil, eq_slice_nil, eq_nil_slice, ia_1]; exact so_so) ?_)
        exact fin (.inr (.inr ⟨by omega, p, hpg, .inr hlt⟩)) h6 (hdrop (d6 hh6))
      · repeat (with_reducible first | refine vP_so ?_ | refine vB_t ?_ | refine vB_f ?_ | refine vE_tt ?_ | refine vE_ff ?_ | refine vE_tf ?_ | refine vE_ft ?_ | refine vE_u ?_ | refine vP_to (by simp (disch := omega) only [gdW_true, gdW_false, gB_true, gB_false, gB_undef, pickV_true, pickV_false, Bool.not_true, Bool.not_false, Option.map_some, bin_add, bin_sub, bin_mul, bin_quo, bin_rem, lss_t, lss_f, leq_t, leq_f, gtr_t, gtr_f, geq_t, geq_f, eqi_t, eqi_f, nei_t, nei_f, rem_uw, conv_ui, conv_iu, conv_ii, not_bool, nil_ptr, fa_mk, ptrV, len_mk, cap_mk, eq_ptr_nil, ne_ptr_nil, eq_nil_nil, ne_nil_nil, eq_slice_nil, eq_nil_slice, ia_1]; exact so_so) ?_)
        refine nxt (fun q => ?_) h6 (d6 hh6)
        rcases q with q | q | ⟨_, p', hp', q⟩
        · exact h64 q
        · exact hs0 q
        · obtain rfl : p = p' := Option.some.inj (hpg.symm.trans hp')
          omega
  · obtain rfl : i = w.objs.length := by omega
    have hb : ¬ B2 w := fun ⟨i, o, h1, h2⟩ => hok i o (List.getElem?_eq_some_iff.1 h1).1 h1 h2
    rw [cb_f hb] at hK
    repeat (with_reducible first | refine vP_so ?_ | refine vB_t ?_ | refine vB_f ?_ | refine vE_tt ?_ | refine vE_ff ?_ | refine vE_tf ?_ | refine vE_ft ?_ | refine vE_u ?_ | refine vP_to (by simp (disch := omega) only [gdW_true, gdW_false, gB_true, gB_false, gB_undef, pickV_true, pickV_false, Bool.not_true, Bool.not_false, Option.map_some, bin_add, bin_sub, bin_mul, bin_quo, bin_rem, lss_t, lss_f, leq_t, leq_f, gtr_t, gtr_f, geq_t, geq_f, eqi_t, eqi_f, nei_t, nei_f, rem_uw, conv_ui, conv_iu, conv_ii, not_bool, nil_ptr, fa_mk, ptrV, len_mk, cap_mk, eq_ptr_nil, ne_ptr_nil, eq_nil_nil, ne_nil_nil, eq_slice_nil, eq_nil_slice, ia_1]; exact so_so) ?_)
    exact hK h2 (hdrop hh2)

theorem use_atwice {g : Hp} {w : VW} {ps : Int} {F : Asrt} {K : Value → Hp → Prop} {h : Hp} (hv : VAt g w) (hG : w.gs.length ≤ 1000000) (hh : (own g * (F * tt)) h)
    (hK : ∀ h', (own g * (F * tt)) h' → K (.bool (cb (B3 w))) h') : CallH Try.prog 75 #[w.val, .int .i64 ps] K h := by
  refine C75 ?_
  unfold D75
  have hgl := hv.gs_len
  refine vA_new (o := .cells w.cells 26 (0, 0)) hh fun r1 h1 hh1 => ?_
  have l4 := (vw_ld (r := r1) (w := w) (E := 26) hh1).2.2.2.2.1
  have hh1 : (own g * (F * tt)) h1 := dropL (P := pt r1 (.cells w.cells 26 (0, 0))) (Q := own g * F) (asr (by ac_rfl) hh1) |> asr (by ac_rfl)
  repeat (with_reducible first | refine vP_so ?_ | refine vB_t ?_ | refine vB_f ?_ | refine vE_tt ?_ | refine vE_ff ?_ | refine vE_tf ?_ | refine vE_ft ?_ | refine vE_u ?_ | refine vP_to (by simp (disch := omega) only [gdW_true, gdW_false, gB_true, gB_false, gB_undef, pickV_true, pickV_false, Bool.not_true, Bool.not_false, Option.map_some, bin_add, bin_sub, bin_mul, bin_quo, bin_rem, lss_t, lss_f, leq_t, leq_f, gtr_t, gtr_f, geq_t, geq_f, eqi_t, eqi_f, nei_t, nei_f, rem_uw, conv_ui, conv_iu, conv_ii, not_bool, nil_ptr, fa_mk, ptrV, len_mk, cap_mk, eq_ptr_nil, ne_ptr_nil, eq_nil_nil, ne_nil_nil, eq_slice_nil, eq_nil_slice, ia_1, l4, hgl.1]; exact so_so) ?_)
  refine ⟨fun m zs h' => ∃ (i : Nat) (v5 : Value) (l : List Int), zs = [.int .i64 i, v5] ∧ m = w.gs.length - i ∧ i ≤ w.gs.length ∧ l.length ≤ i ∧ (∀ x, x ∈ l ↔ ∃ (j : Nat) (r : Gr), j < i ∧ w.gs[j]? = some r ∧ r.st = 2 ∧ r.p = x) ∧
      (∀ (j k : Nat) (a b : Gr), j < i → k < j → w.gs[j]? = some a → w.gs[k]? = some b → a.st = 2 → b.st = 2 → a.p ≠ b.p) ∧ (SG iE 3 v5 l * (own g * (F * tt))) h',
    ⟨_, 0, .slice none 0 0, [], rfl, rfl, by omega, by simp, fun x => ⟨fun q => by simp at q, fun ⟨j, _, hj, _⟩ => by omega⟩, fun j k a b hj => by omega, SG_nil iE hh1⟩, ?_⟩
  rintro m v11 v5 h2 ⟨i, v5', l, hzs, rfl, hi, hll, hmem, hno, hh2⟩ _
  obtain ⟨rfl, rfl⟩ : v11 = .int .i64 i ∧ v5 = v5' := by simpa using hzs
  by_cases hil : i < w.gs.length
  · have hw := own_vat (F := SG iE 3 v5 l * (F * tt)) (asr (by ac_rfl) hh2) hv
    have hgi : w.gs[i]? = some w.gs[i] := List.getElem?_eq_getElem hil
    obtain ⟨b, q, e1, _, _, _, e5⟩ := hw.gor hgi .i64
    have hstk := hv.stacks w.gs[i] (List.getElem_mem hil)
    generalize w.gs[i] = r at *
    repeat (with_reducible first | refine vP_so ?_ | refine vB_t ?_ | refine vB_f ?_ | refine vE_tt ?_ | refine vE_ff ?_ | refine vE_tf ?_ | refine vE_ft ?_ | refine vE_u ?_ | refine vP_to (by simp (disch := omega) only [gdW_true, gdW_false, gB_true, gB_false, gB_undef, pickV_true, pickV_false, Bool.not_true, Bool.not_false, Option.map_some, bin_add, bin_sub, bin_mul, bin_quo, bin_rem, lss_t, lss_f, leq_t, leq_f, gtr_t, gtr_f, geq_t, geq_f, eqi_t, eqi_f, nei_t, nei_f, rem_uw, conv_ui, conv_iu, conv_ii, not_bool, nil_ptr, fa_mk, ptrV, len_mk, cap_mk, eq_ptr_nil, ne_ptr_nil, eq_nil_nil, ne_nil_nil, eq_slice_nil, eq_nil_slice, ia_1]; exact so_so) ?_)
    intro J2 hJ2
    have hJ : ∀ v' l' h', l'.length ≤ i + 1 → (∀ x, x ∈ l' ↔ ∃ (j : Nat) (r : Gr), j < i + 1 ∧ w.gs[j]? = some r ∧ r.st = 2 ∧ r.p = x) →
      (∀ (j k : Nat) (a b : Gr), j < i + 1 → k < j → w.gs[j]? = some a → w.gs[k]? = some b → a.st = 2 → b.st = 2 → a.p ≠ b.p) → (SG iE 3 v' l' * (own g * (F * tt))) h' → J2 [v'] h' := fun v' l' h' a1 a2 a3 a4 => by
      refine hJ2 _ _ fun _ => ?_
      repeat (with_reducible first | refine vP_so ?_ | refine vB_t ?_ | refine vB_f ?_ | refine vE_tt ?_ | refine vE_ff ?_ | refine vE_tf ?_ | refine vE_ft ?_ | refine vE_u ?_ | refine vP_to (by simp (disch := omega) only [gdW_true, gdW_false, gB_true, gB_false, gB_undef, pickV_true, pickV_false, Bool.not_true, Bool.not_false, Option.map_some, bin_add, bin_sub, bin_mul, bin_quo, bin_rem, lss_t, lss_f, leq_t, leq_f, gtr_t, gtr_f, geq_t, geq_f, eqi_t, eqi_f, nei_t, nei_f, rem_uw, conv_ui, conv_iu, conv_ii, not_bool, nil_ptr, fa_mk, ptrV, len_mk, cap_mk, eq_ptr_nil, ne_ptr_nil, eq_nil_nil, ne_nil_nil, eq_slice_nil, eq_nil_slice, ia_1]; exact so_so) ?_)
      exact ⟨w.gs.length - (i + 1), by omega, i + 1, v', l', rfl, rfl, by omega, a1, a2, a3, a4⟩
    repeat (with_reducible first | refine vP_so ?_ | refine vB_t ?_ | refine vB_f ?_ | refine vE_tt ?_ | refine vE_ff ?_ | refine vE_tf ?_ | refine vE_ft ?_ | refine vE_u ?_ | refine vP_to (by simp (disch := omega) only [gdW_true, gdW_false, gB_true, gB_false, gB_undef, pickV_true, pickV_false, Bool.not_true, Bool.not_false, Option.map_some, bin_add, bin_sub, bin_mul, bin_quo, bin_rem, lss_t, lss_f, leq_t, leq_f, gtr_t, gtr_f, geq_t, geq_f, eqi_t, eqi_f, nei_t, nei_f, rem_uw, conv_ui, conv_iu, conv_ii, not_bool, nil_ptr, fa_mk, ptrV, len_mk, cap_mk, eq_ptr_nil, ne_ptr_nil, eq_nil_nil, ne_nil_nil, eq_slice_nil, eq_nil_slice, ia_1, e1, e5]; exact so_so) ?_)
    refine vA_new hh2 fun r6 h3 hh3 => ?_
    refine stN_mk (cs := #[.int .i64 r.st, .int .i64 r.p, r.sv]) hh3 (one_gr hstk) rfl (by simp) fun h4 hh4 => ?_
    have hh4 : (pt r6 (.cells #[.int .i64 r.st, .int .i64 r.p, r.sv] 41 (0, 0)) * (SG iE 3 v5 l * (own g * (F * tt)))) h4 := hh4
    have hc0 : ld1 (.pointer (some ⟨r6, 0 + 0, none⟩)) h4 = some (.int .i64 r.st) := ld1_mk (pt_get hh4) rfl
    have hc1 : ld1 (.pointer (some ⟨r6, 0 + 1, none⟩)) h4 = some (.int .i64 r.p) := ld1_mk (pt_get hh4) rfl
    have hS4 : (SG iE 3 v5 l * (own g * (F * tt))) h4 := dropL (P := pt r6 (.cells #[.int .i64 r.st, .int .i64 r.p, r.sv] 41 (0, 0))) (Q := SG iE 3 v5 l * (own g * F)) (asr (by ac_rfl) hh4) |> asr (by ac_rfl)
    by_cases hst : r.st = 2
    · repeat (with_reducible first | refine vP_so ?_ | refine vB_t ?_ | refine vB_f ?_ | refine vE_tt ?_ | refine vE_ff ?_ | refine vE_tf ?_ | refine vE_ft ?_ | refine vE_u ?_ | refine vP_to (by simp (disch := omega) only [gdW_true, gdW_false, gB_true, gB_false, gB_undef, pickV_true, pickV_false, Bool.not_true, Bool.not_false, Option.map_some, bin_add, bin_sub, bin_mul, bin_quo, bin_rem, lss_t, lss_f, leq_t, leq_f, gtr_t, gtr_f, geq_t, geq_f, eqi_t, eqi_f, nei_t, nei_f, rem_uw, conv_ui, conv_iu, conv_ii, not_bool, nil_ptr, fa_mk, ptrV, len_mk, cap_mk, eq_ptr_nil, ne_ptr_nil, eq_nil_nil, ne_nil_nil, eq_slice_nil, eq_nil_slice, ia_1, hc0, hc1]; exact so_so) ?_)
      refine use_contains (SG_ints hS4) ?_
      by_cases hin : r.p ∈ l
      · rw [decide_eq_true hin]
        obtain ⟨j, r', hj, hr', hs', hp'⟩ := (hmem r.p).1 hin
        have hb : B3 w := ⟨i, j, r, r', hj, hgi, hr', hst, hs', hp'.symm⟩
        rw [cb_t hb] at hK
        repeat (with_reducible first | refine vP_so ?_ | refine vB_t ?_ | refine vB_f ?_ | refine vE_tt ?_ | refine vE_ff ?_ | refine vE_tf ?_ | refine vE_ft ?_ | refine vE_u ?_ | refine vP_to (by simp (disch := omega) only [gdW_true, gdW_false, gB_true, gB_false, gB_undef, pickV_true, pickV_false, Bool.not_true, Bool.not_false, Option.map_some, bin_add, bin_sub, bin_mul, bin_quo, bin_rem, lss_t, lss_f, leq_t, leq_f, gtr_t, gtr_f, geq_t, geq_f, eqi_t, eqi_f, nei_t, nei_f, rem_uw, conv_ui, conv_iu, conv_ii, not_bool, nil_ptr, fa_mk, ptrV, len_mk, cap_mk, eq_ptr_nil, ne_ptr_nil, eq_nil_nil, ne_nil_nil, eq_slice_nil, eq_nil_slice, ia_1]; exact so_so) ?_)
        exact hK h4 (dropL (P := SG iE 3 v5 l) (Q := own g * F) (asr (by ac_rfl) hS4) |> asr (by ac_rfl))
      · rw [decide_eq_false hin]
        have eb : bldV #[.int .i64 0] [(0, 1, .int .i64 r.p)] = some #[.int .i64 r.p] := rfl
        repeat (with_reducible first | refine vP_so ?_ | refine vB_t ?_ | refine vB_f ?_ | refine vE_tt ?_ | refine vE_ff ?_ | refine vE_tf ?_ | refine vE_ft ?_ | refine vE_u ?_ | refine vP_to (by simp (disch := omega) only [gdW_true, gdW_false, gB_true, gB_false, gB_undef, pickV_true, pickV_false, Bool.not_true, Bool.not_false, Option.map_some, bin_add, bin_sub, bin_mul, bin_quo, bin_rem, lss_t, lss_f, leq_t, leq_f, gtr_t, gtr_f, geq_t, geq_f, eqi_t, eqi_f, nei_t, nei_f, rem_uw, conv_ui, conv_iu, conv_ii, not_bool, nil_ptr, fa_mk, ptrV, len_mk, cap_mk, eq_ptr_nil, ne_ptr_nil, eq_nil_nil, ne_nil_nil, eq_slice_nil, eq_nil_slice, ia_1, hc1]; exact so_so) ?_)
        rw [eb]
        refine vA_new (f := fun r => .slice (some ⟨r, 0, none⟩) 1 1) hS4 fun r25 h7 hh7 => ?_
        refine ap_new iE (l := l) (m := [r.p]) (F := own g * F) elInt rfl rfl niInts rfl (by omega) (asr (by ac_rfl) hh7) rfl rfl (by simp only [List.length_singleton]; omega) fun v26 h8 hh8 => ?_
        refine hJ v26 (l ++ [r.p]) h8 (by simp; omega) (fun x => ?_) (fun j k a b hj hk ha hb sa sb => ?_) (asr (by ac_rfl) hh8)
        · rw [List.mem_append, List.mem_singleton, hmem]
          constructor
          · rintro (⟨j, r', hj, hr', hs', hp'⟩ | rfl)
            · exact ⟨j, r', by omega, hr', hs', hp'⟩
            · exact ⟨i, r, by omega, hgi, hst, rfl⟩
          · rintro ⟨j, r', hj, hr', hs', hp'⟩
            by_cases hji : j = i
            · subst hji
              obtain rfl : r = r' := Option.some.inj (hgi.symm.trans hr')
              exact .inr hp'.symm
            · exact .inl ⟨j, r', by omega, hr', hs', hp'⟩
        · by_cases hji : j = i
          · subst hji
            obtain rfl : r = a := Option.some.inj (hgi.symm.trans ha)
            exact fun e => hin ((hmem _).2 ⟨k, b, hk, hb, sb, e.symm⟩)
          · exact hno j k a b (by omega) hk ha hb sa sb
    · repeat (with_reducible first | refine vP_so ?_ | refine vB_t ?_ | refine vB_f ?_ | refine vE_tt ?_ | refine vE_ff ?_ | refine vE_tf ?_ | refine vE_ft ?_ | refine vE_u ?_ | refine vP_to (by simp (disch := omega) only [gdW_true, gdW_false, gB_true, gB_false, gB_undef, pickV_true, pickV_false, Bool.not_true, Bool.not_false, Option.map_some, bin_add, bin_sub, bin_mul, bin_quo, bin_rem, lss_t, lss_f, leq_t, leq_f, gtr_t, gtr_f, geq_t, geq_f, eqi_t, eqi_f, nei_t, nei_f, rem_uw, conv_ui, conv_iu, conv_ii, not_bool, nil_ptr, fa_mk, ptrV, len_mk, cap_mk, eq_ptr_nil, ne_ptr_nil, eq_nil_nil, ne_nil_nil, eq_slice_nil, eq_nil_slice, ia_1, hc0]; exact so_so) ?_)
      refine hJ v5 l h4 (by omega) (fun x => ?_) (fun j k a b hj hk ha hb sa sb => ?_) hS4
      · rw [hmem]
        constructor
        · rintro ⟨j, r', hj, hr', hs', hp'⟩
          exact ⟨j, r', by omega, hr', hs', hp'⟩
        · rintro ⟨j, r', hj, hr', hs', hp'⟩
          by_cases hji : j = i
          · subst hji
            obtain rfl : r = r' := Option.some.inj (hgi.symm.trans hr')
            exact (hst hs').elim
          · exact ⟨j, r', by omega, hr', hs', hp'⟩
      · by_cases hji : j = i
        · subst hji
          obtain rfl : r = a := Option.some.inj (hgi.symm.trans ha)
          exact (hst sa).elim
        · exact hno j k a b (by omega) hk ha hb sa sb
  · obtain rfl : i = w.gs.length := by omega
    have hb : ¬ B3 w := fun ⟨i, k, a, b, h1, h2, h3, h4, h5, h6⟩ => hno i k a b (List.getElem?_eq_some_iff.1 h2).1 h1 h2 h3 h4 h5 h6
    rw [cb_f hb] at hK
    repeat (with_reducible first | refine vP_so ?_ | refine vB_t ?_ | refine vB_f ?_ | refine vE_tt ?_ | refine vE_ff ?_ | refine vE_tf ?_ | refine vE_ft ?_ | refine vE_u ?_ | refine vP_to (by simp (disch := omega) only [gdW_true, gdW_false, gB_true, gB_false, gB_undef, pickV_true, pickV_false, Bool.not_true, Bool.not_false, Option.map_some, bin_add, bin_sub, bin_mul, bin_quo, bin_rem, lss_t, lss_f, leq_t, leq_f, gtr_t, gtr_f, geq_t, geq_f, eqi_t, eqi_f, nei_t, nei_f, rem_uw, conv_ui, conv_iu, conv_ii, not_bool, nil_ptr, fa_mk, ptrV, len_mk, cap_mk, eq_ptr_nil, ne_ptr_nil, eq_nil_nil, ne_nil_nil, eq_slice_nil, eq_nil_slice, ia_1]; exact so_so) ?_)
    exact hK h2 (dropL (P := SG iE 3 v5 l) (Q := own g * F) (asr (by ac_rfl) hh2) |> asr (by ac_rfl))

end Go.Proofs

/-
  Contracts of package audit: All, Check, Text.
-/
set_option maxRecDepth 100000
namespace Go.Proofs
open Go.Sl

noncomputable def brkF (w : VW) (ps : Int) : Nat → Bool
  | 0 => cb (B1 w)
  | 1 => cb (B2 w)
  | 2 => cb (B3 w)
  | 3 => cb (B4 w ps)
  | 4 => cb (B5 w)
  | 5 => cb (B6 w)
  | 6 => cb (B7 w)
  | _ => cb (B8 w)

def outN (f : Nat → Bool) : Nat → List Int
  | 0 => []
  | i + 1 => outN f i ++ (if f i then [(i : Int) + 1] else [])

theorem outN_len (f : Nat → Bool) : ∀ i, (outN f i).length ≤ i
  | 0 => by simp [outN]
  | i + 1 => by
    have := outN_len f i
    unfold outN
    split <;> simp <;> omega

def wordsV : List Value := [.string ⟨#[108, 111, 115, 116]⟩, .string ⟨#[111, 98, 106, 101, 99, 116, 115]⟩, .string ⟨#[116, 119, 105, 99, 101]⟩, .string ⟨#[112, 108, 97, 99, 101, 115]⟩, .string ⟨#[119, 111, 114, 107]⟩, .string ⟨#[119, 104, 105, 116, 101]⟩, .string ⟨#[110, 117, 109, 98, 101, 114, 115]⟩, .string ⟨#[109, 97, 114, 107, 101, 100]⟩]

def txtV (c : Int) : Value := if 1 ≤ c ∧ c ≤ 8 then wordsV.getD (c - 1).toNat (.string ⟨#[]⟩) else .string ⟨#[]⟩

theorem txtV_str (c : Int) : ∃ s, txtV c = .string s := by
  unfold txtV
  split
  · rename_i h
    obtain ⟨k, rfl⟩ : ∃ k : Nat, c = k := ⟨c.toNat, by omega⟩
    have : k = 1 ∨ k = 2 ∨ k = 3 ∨ k = 4 ∨ k = 5 ∨ k = 6 ∨ k = 7 ∨ k = 8 := by omega
    rcases this with rfl | rfl | rfl | rfl | rfl | rfl | rfl | rfl <;> exact ⟨_, rfl⟩
  · exact ⟨_, rfl⟩

theorem eq_str (a : ByteArray) : eqV 3 false (.string a) (.string a) = some (.bool true) := by
  have e : eqS 3 (.string a) (.string a) = some true := by
    show some (a.toList == a.toList) = _
    simp
  unfold eqV
  rw [e]; rfl

theorem eq_txt (c : Int) : eqV 3 false (txtV c) (txtV c) = some (.bool true) := by
  obtain ⟨s, hs⟩ := txtV_str c
  rw [hs]; exact eq_str s

def rulesC : Array Value := #[.string ⟨#[108, 111, 115, 116]⟩, .func (.func 73) #[] #[], .string ⟨#[111, 98, 106, 101, 99, 116, 115]⟩, .func (.func 74) #[] #[], .string ⟨#[116, 119, 105, 99, 101]⟩, .func (.func 75) #[] #[], .string ⟨#[112, 108, 97, 99, 101, 115]⟩, .func (.func 76) #[] #[],
  .string ⟨#[119, 111, 114, 107]⟩, .func (.func 77) #[] #[], .string ⟨#[119, 104, 105, 116, 101]⟩, .func (.func 78) #[] #[], .string ⟨#[110, 117, 109, 98, 101, 114, 115]⟩, .func (.func 79) #[] #[], .string ⟨#[109, 97, 114, 107, 101, 100]⟩, .func (.func 80) #[] #[]]

theorem use_rules {F : Asrt} {K : Value → Hp → Prop} {h : Hp} (hh : F h) (hK : ∀ r h', (pt r (.cells rulesC 69 (0, 0)) * F) h' → K (.slice (some ⟨r, 0, none⟩) 8 8) h') : CallH Try.prog 57 #[] K h := by
  refine C57 ?_
  unfold D57
  have eb : ∀ s f, bldV #[.string ⟨#[]⟩, .nilFunc] [(0, 1, .string s), (1, 1, .func f #[] #[])] = some #[.string s, .func f #[] #[]] := fun _ _ => rfl
  repeat (with_reducible first | refine vP_so ?_ | refine vB_t ?_ | refine vB_f ?_ | refine vE_tt ?_ | refine vE_ff ?_ | refine vE_tf ?_ | refine vE_ft ?_ | refine vE_u ?_ | refine vP_to (by simp (disch := omega) only [gdW_true, gdW_false, gB_true, gB_false, gB_undef, pickV_true, pickV_false, Bool.not_true, Bool.not_false, Option.map_some, bin_add, bin_sub, bin_mul, bin_quo, bin_rem, lss_t, lss_f, leq_t, leq_f, gtr_t, gtr_f, geq_t, geq_f, eqi_t, eqi_f, nei_t, nei_f, rem_uw, conv_ui, conv_iu, conv_ii, not_bool, nil_ptr, fa_mk, ptrV, len_mk, cap_mk, eq_ptr_nil, ne_ptr_nil, eq_nil_nil, ne_nil_nil, eq_slice_nil, eq_nil_slice, ia_1, eb]; exact so_so) ?_)
  have eb2 : bldV #[.string ⟨#[]⟩, .nilFunc, .string ⟨#[]⟩, .nilFunc, .string ⟨#[]⟩, .nilFunc, .string ⟨#[]⟩, .nilFunc, .string ⟨#[]⟩, .nilFunc, .string ⟨#[]⟩, .nilFunc, .string ⟨#[]⟩, .nilFunc, .string ⟨#[]⟩, .nilFunc]
    [(0, 2, .agg #[.string ⟨#[108, 111, 115, 116]⟩, .func (.func 73) #[] #[]]), (2, 2, .agg #[.string ⟨#[111, 98, 106, 101, 99, 116, 115]⟩, .func (.func 74) #[] #[]]), (4, 2, .agg #[.string ⟨#[116, 119, 105, 99, 101]⟩, .func (.func 75) #[] #[]]), (6, 2, .agg #[.string ⟨#[112, 108, 97, 99, 101, 115]⟩, .func (.func 76) #[] #[]]),
     (8, 2, .agg #[.string ⟨#[119, 111, 114, 107]⟩, .func (.func 77) #[] #[]]), (10, 2, .agg #[.string ⟨#[119, 104, 105, 116, 101]⟩, .func (.func 78) #[] #[]]), (12, 2, .agg #[.string ⟨#[110, 117, 109, 98, 101, 114, 115]⟩, .func (.func 79) #[] #[]]), (14, 2, .agg #[.string ⟨#[109, 97, 114, 107, 101, 100]⟩, .func (.func 80) #[] #[]])] = some rulesC := rfl
  rw [eb2]
  exact vA_new (f := fun r => .slice (some ⟨r, 0, none⟩) 8 8) hh hK

/-- What a view is to be, so that all sums and lists stay within bounds. -/
structure Small (w : VW) : Prop where
  all : w.all.length ≤ 1000000
  objs : w.objs.length ≤ 1000000
  gs : w.gs.length ≤ 1000000
  addr : ∀ o ∈ w.objs, o.addr ≤ 9223372036854775807

theorem use_aall {g : Hp} {w : VW} {ps : Int} {F : Asrt} {K : Value → Hp → Prop} {h : Hp} (hv : VAt g w) (hs : Small w) (hh : (own g * (F * tt)) h)
    (hK : ∀ v h', (SG iE 3 v (outN (brkF w ps) 8) * (own g * (F * tt))) h' → K v h') : CallH Try.prog 28 #[w.val, .int .i64 ps] K h := by
  refine C28 ?_
  unfold D28
  refine vA_new (o := .cells w.cells 26 (0, 0)) hh fun r1 h1 hh1 => ?_
  refine use_rules hh1 fun r8 h2 hh2 => ?_
  repeat (with_reducible first | refine vP_so ?_ | refine vB_t ?_ | refine vB_f ?_ | refine vE_tt ?_ | refine vE_ff ?_ | refine vE_tf ?_ | refine vE_ft ?_ | refine vE_u ?_ | refine vP_to (by simp (disch := omega) only [gdW_true, gdW_false, gB_true, gB_false, gB_undef, pickV_true, pickV_false, Bool.not_true, Bool.not_false, Option.map_some, bin_add, bin_sub, bin_mul, bin_quo, bin_rem, lss_t, lss_f, leq_t, leq_f, gtr_t, gtr_f, geq_t, geq_f, eqi_t, eqi_f, nei_t, nei_f, rem_uw, conv_ui, conv_iu, conv_ii, not_bool, nil_ptr, fa_mk, ptrV, len_mk, cap_mk, eq_ptr_nil, ne_ptr_nil, eq_nil_nil, ne_nil_nil, eq_slice_nil, eq_nil_slice, ia_1]; exact so_so) ?_)
  refine ⟨fun m zs h' => ∃ (i : Nat) (v5 : Value), zs = [.int .i64 i, v5] ∧ m = 8 - i ∧ i ≤ 8 ∧ (SG iE 3 v5 (outN (brkF w ps) i) * (pt r8 (.cells rulesC 69 (0, 0)) * (pt r1 (.cells w.cells 26 (0, 0)) * (own g * (F * tt))))) h', ⟨_, 0, .slice none 0 0, rfl, rfl, by omega, SG_nil iE hh2⟩, ?_⟩
  rintro m v10 v5 h3 ⟨i, v5', hzs, rfl, hi, hh3⟩ _
  obtain ⟨rfl, rfl⟩ : v10 = .int .i64 i ∧ v5 = v5' := by simpa using hzs
  by_cases hil : i < 8
  · have hlen := outN_len (brkF w ps) i
    repeat (with_reducible first | refine vP_so ?_ | refine vB_t ?_ | refine vB_f ?_ | refine vE_tt ?_ | refine vE_ff ?_ | refine vE_tf ?_ | refine vE_ft ?_ | refine vE_u ?_ | refine vP_to (by simp (disch := omega) only [gdW_true, gdW_false, gB_true, gB_false, gB_undef, pickV_true, pickV_false, Bool.not_true, Bool.not_false, Option.map_some, bin_add, bin_sub, bin_mul, bin_quo, bin_rem, lss_t, lss_f, leq_t, leq_f, gtr_t, gtr_f, geq_t, geq_f, eqi_t, eqi_f, nei_t, nei_f, rem_uw, conv_ui, conv_iu, conv_ii, not_bool, nil_ptr, fa_mk, ptrV, len_mk, cap_mk, eq_ptr_nil, ne_ptr_nil, eq_nil_nil, ne_nil_nil, eq_slice_nil, eq_nil_slice, ia_1]; exact so_so) ?_)
    intro J2 hJ2
    have hJ : ∀ v' h', (SG iE 3 v' (outN (brkF w ps) (i + 1)) * (pt r8 (.cells rulesC 69 (0, 0)) * (pt r1 (.cells w.cells 26 (0, 0)) * (own g * (F * tt))))) h' → J2 [v'] h' := fun v' h' q => by
      refine hJ2 _ _ fun _ => ?_
      repeat (with_reducible first | refine vP_so ?_ | refine vB_t ?_ | refine vB_f ?_ | refine vE_tt ?_ | refine vE_ff ?_ | refine vE_tf ?_ | refine vE_ft ?_ | refine vE_u ?_ | refine vP_to (by simp (disch := omega) only [gdW_true, gdW_false, gB_true, gB_false, gB_undef, pickV_true, pickV_false, Bool.not_true, Bool.not_false, Option.map_some, bin_add, bin_sub, bin_mul, bin_quo, bin_rem, lss_t, lss_f, leq_t, leq_f, gtr_t, gtr_f, geq_t, geq_f, eqi_t, eqi_f, nei_t, nei_f, rem_uw, conv_ui, conv_iu, conv_ii, not_bool, nil_ptr, fa_mk, ptrV, len_mk, cap_mk, eq_ptr_nil, ne_ptr_nil, eq_nil_nil, ne_nil_nil, eq_slice_nil, eq_nil_slice, ia_1]; exact so_so) ?_)
      exact ⟨8 - (i + 1), by omega, i + 1, v', rfl, rfl, by omega, q⟩
    have hR : (pt r8 (.cells rulesC 69 (0, 0)) * (SG iE 3 v5 (outN (brkF w ps) i) * (pt r1 (.cells w.cells 26 (0, 0)) * (own g * (F * tt))))) h3 := asr (by ac_rfl) hh3
    -- behind the rule's own answer
    have tail : ∀ h', (own g * (SG iE 3 v5 (outN (brkF w ps) i) * (pt r8 (.cells rulesC 69 (0, 0)) * (pt r1 (.cells w.cells 26 (0, 0)) * F)) * tt)) h' →
        vB (.bool (brkF w ps i)) (vP (binV .add (.int .i64 (i : Int)) (.int .i64 1)) fun v22 =>
          vA ((bldV #[.int .i64 0] [(0, 1, v22)]).map fun c => (Obj.cells c 3 (0, 0), fun r => Value.slice (some ⟨r, 0, none⟩) 1 1)) (fun v23 h8 =>
          apW Try.prog #[22, 22] 22 v5 v23 (fun v24 h9 => J2 [v24] h9) h8) h')
        (J2 [v5] h') := fun h' q => by
      cases hb : brkF w ps i with
      | true =>
        have e : outN (brkF w ps) (i + 1) = outN (brkF w ps) i ++ [(i : Int) + 1] := by show _ ++ (if brkF w ps i then _ else _) = _; rw [hb]; rfl
        rw [e] at hJ
        have eb : bldV #[.int .i64 0] [(0, 1, .int .i64 ((i : Int) + 1))] = some #[.int .i64 ((i : Int) + 1)] := rfl
        repeat (with_reducible first | refine vP_so ?_ | refine vB_t ?_ | refine vB_f ?_ | refine vE_tt ?_ | refine vE_ff ?_ | refine vE_tf ?_ | refine vE_ft ?_ | refine vE_u ?_ | refine vP_to (by simp (disch := omega) only [gdW_true, gdW_false, gB_true, gB_false, gB_undef, pickV_true, pickV_false, Bool.not_true, Bool.not_false, Option.map_some, bin_add, bin_sub, bin_mul, bin_quo, bin_rem, lss_t, lss_f, leq_t, leq_f, gtr_t, gtr_f, geq_t, geq_f, eqi_t, eqi_f, nei_t, nei_f, rem_uw, conv_ui, conv_iu, conv_ii, not_bool, nil_ptr, fa_mk, ptrV, len_mk, cap_mk, eq_ptr_nil, ne_ptr_nil, eq_nil_nil, ne_nil_nil, eq_slice_nil, eq_nil_slice, ia_1]; exact so_so) ?_)
        rw [eb]
        refine vA_new (f := fun r => .slice (some ⟨r, 0, none⟩) 1 1) q fun r23 h8 hh8 => ?_
        refine ap_new iE (l := outN (brkF w ps) i) (m := [(i : Int) + 1]) (F := pt r8 (.cells rulesC 69 (0, 0)) * (pt r1 (.cells w.cells 26 (0, 0)) * (own g * F))) elInt rfl rfl niInts rfl (by omega) (asr (by ac_rfl) hh8) rfl rfl (by simp only [List.length_singleton]; omega) fun v24 h9 hh9 => ?_
        exact hJ v24 h9 (asr (by ac_rfl) hh9)
      | false =>
        have e : outN (brkF w ps) (i + 1) = outN (brkF w ps) i := by show _ ++ (if brkF w ps i then _ else _) = _; rw [hb]; simp
        rw [e] at hJ
        repeat (with_reducible first | refine vP_so ?_ | refine vB_t ?_ | refine vB_f ?_ | refine vE_tt ?_ | refine vE_ff ?_ | refine vE_tf ?_ | refine vE_ft ?_ | refine vE_u ?_ | refine vP_to (by simp (disch := omega) only [gdW_true, gdW_false, gB_true, gB_false, gB_undef, pickV_true, pickV_false, Bool.not_true, Bool.not_false, Option.map_some, bin_add, bin_sub, bin_mul, bin_quo, bin_rem, lss_t, lss_f, leq_t, leq_f, gtr_t, gtr_f, geq_t, geq_f, eqi_t, eqi_f, nei_t, nei_f, rem_uw, conv_ui, conv_iu, conv_ii, not_bool, nil_ptr, fa_mk, ptrV, len_mk, cap_mk, eq_ptr_nil, ne_ptr_nil, eq_nil_nil, ne_nil_nil, eq_slice_nil, eq_nil_slice, ia_1]; exact so_so) ?_)
        exact hJ v5 h' (asr (by ac_rfl) q)
    -- the call of the rule
    have call : ∀ (s : ByteArray) (fn : Nat), (rulesC[i * 2]? = some (.string s) ∧ rulesC[i * 2 + 1]? = some (.func (.func fn) #[] #[])) → bodied Try.prog fn = true →
        (∀ (G : Asrt) (h : Hp) (K : Value → Hp → Prop), (own g * (G * tt)) h → (∀ h', (own g * (G * tt)) h' → K (.bool (brkF w ps i)) h') → CallH Try.prog fn #[w.val, .int .i64 ps] K h) →
        vP (iaS 2 (.slice (some ⟨r8, 0, none⟩) 8 8) (.int .i64 (i : Int))) fun v13 =>
        vP (ldN 2 v13 h3) fun v14 =>
        vA (some (Obj.cells #[.string ⟨#[]⟩, .nilFunc] 69 (0, 0), ptrV)) (fun v7 h5 =>
        stN 2 v7 v14 (fun _ h6 =>
        vP (faV 1 v7) fun v15 =>
        vP (ld1 v15 h6) fun v16 =>
        vP (ldN 9 (ptrV r1) h6) fun v17 =>
        cvW Try.prog v16 #[v17, .int .i64 ps] (fun v19 h7 =>
        vB v19 (vP (binV .add (.int .i64 (i : Int)) (.int .i64 1)) fun v22 =>
          vA ((bldV #[.int .i64 0] [(0, 1, v22)]).map fun c => (Obj.cells c 3 (0, 0), fun r => Value.slice (some ⟨r, 0, none⟩) 1 1)) (fun v23 h8 =>
          apW Try.prog #[22, 22] 22 v5 v23 (fun v24 h9 => J2 [v24] h9) h8) h7)
        (J2 [v5] h7)) h6) h5) h3 := by
      intro s fn ⟨c1, c2⟩ hbd hfn
      have hld : ldN 2 (.pointer (some ⟨r8, 0 + (i : Int).toNat * 2, none⟩)) h3 = some (.agg #[.string s, .func (.func fn) #[] #[]]) := by
        rw [ldN_mk (pt_get hR) (by rw [show rulesC.size = 16 from rfl]; omega)]
        congr 2
        rw [Int.toNat_natCast, Nat.zero_add]
        apply Array.ext_getElem?
        intro j
        rw [Array.getElem?_extract]
        rcases Nat.lt_or_ge j 2 with hj | hj
        · have : j = 0 ∨ j = 1 := by omega
          rcases this with rfl | rfl
          · rw [if_pos (by rw [show rulesC.size = 16 from rfl]; omega), Nat.add_zero, c1]; rfl
          · rw [if_pos (by rw [show rulesC.size = 16 from rfl]; omega), c2]; rfl
        · rw [if_neg (by rw [show rulesC.size = 16 from rfl]; omega), Array.getElem?_eq_none (by simpa using hj)]
      repeat (with_reducible first | refine vP_so ?_ | refine vB_t ?_ | refine vB_f ?_ | refine vE_tt ?_ | refine vE_ff ?_ | refine vE_tf ?_ | refine vE_ft ?_ | refine vE_u ?_ | refine vP_to (by simp (disch := omega) only [gdW_true, gdW_false, gB_true, gB_false, gB_undef, pickV_true, pickV_false, Bool.not_true, Bool.not_false, Option.map_some, bin_add, bin_sub, bin_mul, bin_quo, bin_rem, lss_t, lss_f, leq_t, leq_f, gtr_t, gtr_f, geq_t, geq_f, eqi_t, eqi_f, nei_t, nei_f, rem_uw, conv_ui, conv_iu, conv_ii, not_bool, nil_ptr, fa_mk, ptrV, len_mk, cap_mk, eq_ptr_nil, ne_ptr_nil, eq_nil_nil, ne_nil_nil, eq_slice_nil, eq_nil_slice, ia_1, hld]; exact so_so) ?_)
      refine vA_new hh3 fun r7 h5 hh5 => ?_
      refine stN_mk (cs := #[.string s, .func (.func fn) #[] #[]]) hh5 rfl rfl (by simp) fun h6 hh6 => ?_
      have hc1 : ld1 (.pointer (some ⟨r7, 0 + 1, none⟩)) h6 = some (.func (.func fn) #[] #[]) := ld1_mk (pt_get hh6) rfl
      have hh6 : (SG iE 3 v5 (outN (brkF w ps) i) * (pt r8 (.cells rulesC 69 (0, 0)) * (pt r1 (.cells w.cells 26 (0, 0)) * (own g * (F * tt))))) h6 :=
        dropL (P := pt r7 (.cells #[.string s, .func (.func fn) #[] #[]] 69 (0, 0))) (Q := SG iE 3 v5 (outN (brkF w ps) i) * (pt r8 (.cells rulesC 69 (0, 0)) * (pt r1 (.cells w.cells 26 (0, 0)) * (own g * F)))) (asr (by ac_rfl) hh6) |> asr (by ac_rfl)
      have l9 := (vw_ld (r := r1) (w := w) (E := 26) (F := SG iE 3 v5 (outN (brkF w ps) i) * (pt r8 (.cells rulesC 69 (0, 0)) * (own g * (F * tt)))) (asr (by ac_rfl) hh6)).2.2.2.2.2.2.2.2.2
      repeat (with_reducible first | refine vP_so ?_ | refine vB_t ?_ | refine vB_f ?_ | refine vE_tt ?_ | refine vE_ff ?_ | refine vE_tf ?_ | refine vE_ft ?_ | refine vE_u ?_ | refine vP_to (by simp (disch := omega) only [gdW_true, gdW_false, gB_true, gB_false, gB_undef, pickV_true, pickV_false, Bool.not_true, Bool.not_false, Option.map_some, bin_add, bin_sub, bin_mul, bin_quo, bin_rem, lss_t, lss_f, leq_t, leq_f, gtr_t, gtr_f, geq_t, geq_f, eqi_t, eqi_f, nei_t, nei_f, rem_uw, conv_ui, conv_iu, conv_ii, not_bool, nil_ptr, fa_mk, ptrV, len_mk, cap_mk, eq_ptr_nil, ne_ptr_nil, eq_nil_nil, ne_nil_nil, eq_slice_nil, eq_nil_slice, ia_1, hc1, l9]; exact so_so) ?_)
      refine cv_fn hbd ?_
      exact hfn (SG iE 3 v5 (outN (brkF w ps) i) * (pt r8 (.cells rulesC 69 (0, 0)) * (pt r1 (.cells w.cells 26 (0, 0)) * F))) h6 _ (asr (by ac_rfl) hh6) tail
    have : i = 0 ∨ i = 1 ∨ i = 2 ∨ i = 3 ∨ i = 4 ∨ i = 5 ∨ i = 6 ∨ i = 7 := by omega
    rcases this with rfl | rfl | rfl | rfl | rfl | rfl | rfl | rfl
    · exact call _ 73 ⟨rfl, rfl⟩ (by kernel_rfl) fun G h K q k => use_alost hv hs.all q k
    · exact call _ 74 ⟨rfl, rfl⟩ (by kernel_rfl) fun G h K q k => use_aobjects hv hs.addr q k
    · exact call _ 75 ⟨rfl, rfl⟩ (by kernel_rfl) fun G h K q k => use_atwice hv hs.gs q k
    · exact call _ 76 ⟨rfl, rfl⟩ (by kernel_rfl) fun G h K q k => use_aplaces hv q k
    · exact call _ 77 ⟨rfl, rfl⟩ (by kernel_rfl) fun G h K q k => use_awork q k
    · exact call _ 78 ⟨rfl, rfl⟩ (by kernel_rfl) fun G h K q k => use_awhite hv hs.all q k
    · exact call _ 79 ⟨rfl, rfl⟩ (by kernel_rfl) fun G h K q k => use_anumbers hv q k
    · exact call _ 80 ⟨rfl, rfl⟩ (by kernel_rfl) fun G h K q k => use_amarked hv q k
  · obtain rfl : i = 8 := by omega
    repeat (with_reducible first | refine vP_so ?_ | refine vB_t ?_ | refine vB_f ?_ | refine vE_tt ?_ | refine vE_ff ?_ | refine vE_tf ?_ | refine vE_ft ?_ | refine vE_u ?_ | refine vP_to (by simp (disch := omega) only [gdW_true, gdW_false, gB_true, gB_false, gB_undef, pickV_true, pickV_false, Bool.not_true, Bool.not_false, Option.map_some, bin_add, bin_sub, bin_mul, bin_quo, bin_rem, lss_t, lss_f, leq_t, leq_f, gtr_t, gtr_f, geq_t, geq_f, eqi_t, eqi_f, nei_t, nei_f, rem_uw, conv_ui, conv_iu, conv_ii, not_bool, nil_ptr, fa_mk, ptrV, len_mk, cap_mk, eq_ptr_nil, ne_ptr_nil, eq_nil_nil, ne_nil_nil, eq_slice_nil, eq_nil_slice, ia_1]; exact so_so) ?_)
    exact hK v5 h3 (dropL (P := pt r8 (.cells rulesC 69 (0, 0)) * pt r1 (.cells w.cells 26 (0, 0))) (Q := SG iE 3 v5 (outN (brkF w ps) 8) * (own g * F)) (asr (by ac_rfl) hh3) |> asr (by ac_rfl))

def firstL : List Int → Int
  | [] => 0
  | x :: _ => x

theorem use_acheck {g : Hp} {w : VW} {ps : Int} {F : Asrt} {K : Value → Hp → Prop} {h : Hp} (hv : VAt g w) (hs : Small w) (hh : (own g * (F * tt)) h)
    (hK : ∀ h', (own g * (F * tt)) h' → K (.int .i64 (firstL (outN (brkF w ps) 8))) h') : CallH Try.prog 29 #[w.val, .int .i64 ps] K h := by
  refine C29 ?_
  unfold D29
  refine vA_new (o := .cells w.cells 26 (0, 0)) hh fun r1 h1 hh1 => ?_
  have l9 := (vw_ld (r := r1) (w := w) (E := 26) hh1).2.2.2.2.2.2.2.2.2
  repeat (with_reducible first | refine vP_so ?_ | refine vB_t ?_ | refine vB_f ?_ | refine vE_tt ?_ | refine vE_ff ?_ | refine vE_tf ?_ | refine vE_ft ?_ | refine vE_u ?_ | refine vP_to (by simp (disch := omega) only [gdW_true, gdW_false, gB_true, gB_false, gB_undef, pickV_true, pickV_false, Bool.not_true, Bool.not_false, Option.map_some, bin_add, bin_sub, bin_mul, bin_quo, bin_rem, lss_t, lss_f, leq_t, leq_f, gtr_t, gtr_f, geq_t, geq_f, eqi_t, eqi_f, nei_t, nei_f, rem_uw, conv_ui, conv_iu, conv_ii, not_bool, nil_ptr, fa_mk, ptrV, len_mk, cap_mk, eq_ptr_nil, ne_ptr_nil, eq_nil_nil, ne_nil_nil, eq_slice_nil, eq_nil_slice, ia_1, l9]; exact so_so) ?_)
  refine use_aall (F := pt r1 (.cells w.cells 26 (0, 0)) * F) hv hs (asr (by ac_rfl) hh1) fun v8 h2 hh2 => ?_
  have hlen := SG_len iE hh2
  have hd : (own g * (F * tt)) h2 := dropL (P := SG iE 3 v8 (outN (brkF w ps) 8) * pt r1 (.cells w.cells 26 (0, 0))) (Q := own g * F) (asr (by ac_rfl) hh2) |> asr (by ac_rfl)
  cases hl : outN (brkF w ps) 8 with
  | nil =>
    rw [hl] at hlen hK
    simp only [List.length_nil] at hlen
    repeat (with_reducible first | refine vP_so ?_ | refine vB_t ?_ | refine vB_f ?_ | refine vE_tt ?_ | refine vE_ff ?_ | refine vE_tf ?_ | refine vE_ft ?_ | refine vE_u ?_ | refine vP_to (by simp (disch := omega) only [gdW_true, gdW_false, gB_true, gB_false, gB_undef, pickV_true, pickV_false, Bool.not_true, Bool.not_false, Option.map_some, bin_add, bin_sub, bin_mul, bin_quo, bin_rem, lss_t, lss_f, leq_t, leq_f, gtr_t, gtr_f, geq_t, geq_f, eqi_t, eqi_f, nei_t, nei_f, rem_uw, conv_ui, conv_iu, conv_ii, not_bool, nil_ptr, fa_mk, ptrV, len_mk, cap_mk, eq_ptr_nil, ne_ptr_nil, eq_nil_nil, ne_nil_nil, eq_slice_nil, eq_nil_slice, ia_1, hlen]; exact so_so) ?_)
    exact hK h2 hd
  | cons x l =>
    rw [hl] at hlen hK hh2
    obtain ⟨p, f1, f2, _⟩ := el1 hh2 (i := 0) (a := x) rfl .i64
    have f1 : iaS 1 v8 (.int .i64 0) = some p := f1
    have hp : 0 < (x :: l).length := by simp
    repeat (with_reducible first | refine vP_so ?_ | refine vB_t ?_ | refine vB_f ?_ | refine vE_tt ?_ | refine vE_ff ?_ | refine vE_tf ?_ | refine vE_ft ?_ | refine vE_u ?_ | refine vP_to (by simp (disch := omega) only [gdW_true, gdW_false, gB_true, gB_false, gB_undef, pickV_true, pickV_false, Bool.not_true, Bool.not_false, Option.map_some, bin_add, bin_sub, bin_mul, bin_quo, bin_rem, lss_t, lss_f, leq_t, leq_f, gtr_t, gtr_f, geq_t, geq_f, eqi_t, eqi_f, nei_t, nei_f, rem_uw, conv_ui, conv_iu, conv_ii, not_bool, nil_ptr, fa_mk, ptrV, len_mk, cap_mk, eq_ptr_nil, ne_ptr_nil, eq_nil_nil, ne_nil_nil, eq_slice_nil, eq_nil_slice, ia_1, hlen, f1, f2]; exact so_so) ?_)
    exact hK h2 hd

theorem use_atext {c : Int} {F : Asrt} {K : Value → Hp → Prop} {h : Hp} (hh : (F * tt) h) (hK : ∀ h', (F * tt) h' → K (txtV c) h') : CallH Try.prog 30 #[.int .i64 c] K h := by
  refine C30 ?_
  unfold D30
  refine use_rules hh fun r h1 hh1 => ?_
  by_cases h1' : 1 ≤ c
  · by_cases h8 : c ≤ 8
    · have : c = 1 ∨ c = 2 ∨ c = 3 ∨ c = 4 ∨ c = 5 ∨ c = 6 ∨ c = 7 ∨ c = 8 := by omega
      have hb := pt_get hh1
      rcases this with rfl | rfl | rfl | rfl | rfl | rfl | rfl | rfl
      all_goals
        repeat (with_reducible first | refine vP_so ?_ | refine vB_t ?_ | refine vB_f ?_ | refine vE_tt ?_ | refine vE_ff ?_ | refine vE_tf ?_ | refine vE_ft ?_ | refine vE_u ?_ | refine vP_to (by simp (disch := omega) only [gdW_true, gdW_false, gB_true, gB_false, gB_undef, pickV_true, pickV_false, Bool.not_true, Bool.not_false, Option.map_some, bin_add, bin_sub, bin_mul, bin_quo, bin_rem, lss_t, lss_f, leq_t, leq_f, gtr_t, gtr_f, geq_t, geq_f, eqi_t, eqi_f, nei_t, nei_f, rem_uw, conv_ui, conv_iu, conv_ii, not_bool, nil_ptr, fa_mk, ptrV, len_mk, cap_mk, eq_ptr_nil, ne_ptr_nil, eq_nil_nil, ne_nil_nil, eq_slice_nil, eq_nil_slice, ia_1]; exact so_so) ?_)
        refine vP_to (ld1_mk hb rfl) ?_
        exact hK h1 (dropL hh1)
    · have e : txtV c = .string ⟨#[]⟩ := by unfold txtV; rw [if_neg (by omega)]
      rw [e] at hK
      repeat (with_reducible first | refine vP_so ?_ | refine vB_t ?_ | refine vB_f ?_ | refine vE_tt ?_ | refine vE_ff ?_ | refine vE_tf ?_ | refine vE_ft ?_ | refine vE_u ?_ | refine vP_to (by simp (disch := omega) only [gdW_true, gdW_false, gB_true, gB_false, gB_undef, pickV_true, pickV_false, Bool.not_true, Bool.not_false, Option.map_some, bin_add, bin_sub, bin_mul, bin_quo, bin_rem, lss_t, lss_f, leq_t, leq_f, gtr_t, gtr_f, geq_t, geq_f, eqi_t, eqi_f, nei_t, nei_f, rem_uw, conv_ui, conv_iu, conv_ii, not_bool, nil_ptr, fa_mk, ptrV, len_mk, cap_mk, eq_ptr_nil, ne_ptr_nil, eq_nil_nil, ne_nil_nil, eq_slice_nil, eq_nil_slice, ia_1]; exact so_so) ?_)
      exact hK h1 (dropL hh1)
  · have e : txtV c = .string ⟨#[]⟩ := by unfold txtV; rw [if_neg (by omega)]
    rw [e] at hK
    repeat (with_reducible first | refine vP_so ?_ | refine vB_t ?_ | refine vB_f ?_ | refine vE_tt ?_ | refine vE_ff ?_ | refine vE_tf ?_ | refine vE_ft ?_ | refine vE_u ?_ | refine vP_to (by simp (disch := omega) only [gdW_true, gdW_false, gB_true, gB_false, gB_undef, pickV_true, pickV_false, Bool.not_true, Bool.not_false, Option.map_some, bin_add, bin_sub, bin_mul, bin_quo, bin_rem, lss_t, lss_f, leq_t, leq_f, gtr_t, gtr_f, geq_t, geq_f, eqi_t, eqi_f, nei_t, nei_f, rem_uw, conv_ui, conv_iu, conv_ii, not_bool, nil_ptr, fa_mk, ptrV, len_mk, cap_mk, eq_ptr_nil, ne_ptr_nil, eq_nil_nil, ne_nil_nil, eq_slice_nil, eq_nil_slice, ia_1]; exact so_so) ?_)
    exact hK h1 (dropL hh1)

end Go.Proofs

/-
  Contracts of treadmillref29: Lost, White, Reach.
-/
set_option maxRecDepth 100000
namespace Go.Proofs
open Go.Sl

theorem use_rlost {g : Hp} {w : VW} {F : Asrt} {K : Value → Hp → Prop} {h : Hp} (hv : VAt g w) (hs : Small w) (hh : (own g * (F * tt)) h)
    (hK : ∀ v l h', LostL w l → l.length ≤ 1000000 → (SG iE 3 v l * (own g * (F * tt))) h' → K v h') : CallH Try.prog 37 #[w.val] K h := by
  refine C37 ?_
  unfold D37
  refine vA_new (o := .cells w.cells 26 (0, 0)) hh fun r1 h1 hh1 => ?_
  have l9 := (vw_ld (r := r1) (w := w) (E := 26) hh1).2.2.2.2.2.2.2.2.2
  repeat (with_reducible first | refine vP_so ?_ | refine vB_t ?_ | refine vB_f ?_ | refine vE_tt ?_ | refine vE_ff ?_ | refine vE_tf ?_ | refine vE_ft ?_ | refine vE_u ?_ | refine vP_to (by simp (disch := omega) only [gdW_true, gdW_false, gB_true, gB_false, gB_undef, pickV_true, pickV_false, Bool.not_true, Bool.not_false, Option.map_some, bin_add, bin_sub, bin_mul, bin_quo, bin_rem, lss_t, lss_f, leq_t, leq_f, gtr_t, gtr_f, geq_t, geq_f, eqi_t, eqi_f, nei_t, nei_f, rem_uw, conv_ui, conv_iu, conv_ii, not_bool, nil_ptr, fa_mk, ptrV, len_mk, cap_mk, eq_ptr_nil, ne_ptr_nil, eq_nil_nil, ne_nil_nil, eq_slice_nil, eq_nil_slice, ia_1, l9]; exact so_so) ?_)
  refine use_rwalk (F := pt r1 (.cells w.cells 26 (0, 0)) * F) hv hs.all hs.objs (asr (by ac_rfl) hh1) fun v8 v9 l lost h2 a1 a2 a3 a4 a5 hh2 => ?_
  repeat (with_reducible first | refine vP_so ?_ | refine vB_t ?_ | refine vB_f ?_ | refine vE_tt ?_ | refine vE_ff ?_ | refine vE_tf ?_ | refine vE_ft ?_ | refine vE_u ?_ | refine vP_to (by simp (disch := omega) only [gdW_true, gdW_false, gB_true, gB_false, gB_undef, pickV_true, pickV_false, Bool.not_true, Bool.not_false, Option.map_some, bin_add, bin_sub, bin_mul, bin_quo, bin_rem, lss_t, lss_f, leq_t, leq_f, gtr_t, gtr_f, geq_t, geq_f, eqi_t, eqi_f, nei_t, nei_f, rem_uw, conv_ui, conv_iu, conv_ii, not_bool, nil_ptr, fa_mk, ptrV, len_mk, cap_mk, eq_ptr_nil, ne_ptr_nil, eq_nil_nil, ne_nil_nil, eq_slice_nil, eq_nil_slice, ia_1, tx0, tx1]; exact so_so) ?_)
  exact hK v9 lost h2 a3 a5 (dropL (P := SG iE 3 v8 (natL l) * pt r1 (.cells w.cells 26 (0, 0))) (Q := SG iE 3 v9 lost * (own g * F)) (asr (by ac_rfl) hh2) |> asr (by ac_rfl))

theorem use_rwhite {g : Hp} {w : VW} {F : Asrt} {K : Value → Hp → Prop} {h : Hp} (hv : VAt g w) (hs : Small w) (hh : (own g * (F * tt)) h)
    (hK : ∀ v l h', WhiteL w l → l.length ≤ 1000000 → (SG iE 3 v l * (own g * (F * tt))) h' → K v h') : CallH Try.prog 36 #[w.val] K h := by
  refine C36 ?_
  unfold D36
  refine vA_new (o := .cells w.cells 26 (0, 0)) hh fun r1 h1 hh1 => ?_
  have l9 := (vw_ld (r := r1) (w := w) (E := 26) hh1).2.2.2.2.2.2.2.2.2
  repeat (with_reducible first | refine vP_so ?_ | refine vB_t ?_ | refine vB_f ?_ | refine vE_tt ?_ | refine vE_ff ?_ | refine vE_tf ?_ | refine vE_ft ?_ | refine vE_u ?_ | refine vP_to (by simp (disch := omega) only [gdW_true, gdW_false, gB_true, gB_false, gB_undef, pickV_true, pickV_false, Bool.not_true, Bool.not_false, Option.map_some, bin_add, bin_sub, bin_mul, bin_quo, bin_rem, lss_t, lss_f, leq_t, leq_f, gtr_t, gtr_f, geq_t, geq_f, eqi_t, eqi_f, nei_t, nei_f, rem_uw, conv_ui, conv_iu, conv_ii, not_bool, nil_ptr, fa_mk, ptrV, len_mk, cap_mk, eq_ptr_nil, ne_ptr_nil, eq_nil_nil, ne_nil_nil, eq_slice_nil, eq_nil_slice, ia_1, l9]; exact so_so) ?_)
  refine use_rwalk (F := pt r1 (.cells w.cells 26 (0, 0)) * F) hv hs.all hs.objs (asr (by ac_rfl) hh1) fun v10 v11 l lost h2 a1 a2 a3 a4 a5 hh2 => ?_
  have hh2 : (SG iE 3 v10 (natL l) * (pt r1 (.cells w.cells 26 (0, 0)) * (own g * (F * tt)))) h2 := dropL (P := SG iE 3 v11 lost) (Q := SG iE 3 v10 (natL l) * (pt r1 (.cells w.cells 26 (0, 0)) * (own g * F))) (asr (by ac_rfl) hh2) |> asr (by ac_rfl)
  repeat (with_reducible first | refine vP_so ?_ | refine vB_t ?_ | refine vB_f ?_ | refine vE_tt ?_ | refine vE_ff ?_ | refine vE_tf ?_ | refine vE_ft ?_ | refine vE_u ?_ | refine vP_to (by simp (disch := omega) only [gdW_true, gdW_false, gB_true, gB_false, gB_undef, pickV_true, pickV_false, Bool.not_true, Bool.not_false, Option.map_some, bin_add, bin_sub, bin_mul, bin_quo, bin_rem, lss_t, lss_f, leq_t, leq_f, gtr_t, gtr_f, geq_t, geq_f, eqi_t, eqi_f, nei_t, nei_f, rem_uw, conv_ui, conv_iu, conv_ii, not_bool, nil_ptr, fa_mk, ptrV, len_mk, cap_mk, eq_ptr_nil, ne_ptr_nil, eq_nil_nil, ne_nil_nil, eq_slice_nil, eq_nil_slice, ia_1, tx0, tx1]; exact so_so) ?_)
  refine ⟨fun m zs h' => ∃ (i : Nat) (v5 : Value) (out : List Int), zs = [.int .i64 i, v5] ∧ m = l.length - i ∧ i ≤ l.length ∧ Rise out ∧ out.length ≤ i ∧ (∀ x, x ∈ out ↔ ∃ n o, n ∈ l.take i ∧ w.objs[n]? = some o ∧ o.marked = false ∧ o.addr = x) ∧
      (SG iE 3 v5 out * (SG iE 3 v10 (natL l) * (pt r1 (.cells w.cells 26 (0, 0)) * (own g * (F * tt))))) h',
    ⟨_, 0, .slice none 0 0, [], rfl, rfl, by omega, by simp [Rise], by simp, by simp, SG_nil iE hh2⟩, ?_⟩
  clear hh2
  rintro m v6 v5 h3 ⟨i, v5', out, hzs, rfl, hi, hri, hol, hmem, hh3⟩ _
  obtain ⟨rfl, rfl⟩ : v6 = .int .i64 i ∧ v5 = v5' := by simpa using hzs
  have hS : (SG iE 3 v10 (natL l) * (SG iE 3 v5 out * (pt r1 (.cells w.cells 26 (0, 0)) * (own g * (F * tt))))) h3 := asr (by ac_rfl) hh3
  have hlen := SG_len iE hS
  rw [show (natL l).length = l.length by simp [natL]] at hlen
  by_cases hil : i < l.length
  · have hkg : l[i]? = some l[i] := List.getElem?_eq_getElem hil
    obtain ⟨x, hrx, hat⟩ := (a2 l[i]).1 (List.getElem_mem hil)
    have htk := List.take_succ_eq_append_getElem hil
    generalize l[i] = n at *
    obtain ⟨o, ho, hoa⟩ := at_some hat
    obtain ⟨p7, c1, c2, _⟩ := el1 (i := i) (a := (n : Int)) hS (by simp [natL, hkg]) .i64
    have l5 := (vw_ld (r := r1) (w := w) (E := 26) (F := SG iE 3 v5 out * (SG iE 3 v10 (natL l) * (own g * (F * tt)))) (asr (by ac_rfl) hh3)).2.2.2.2.2.1
    have hw := own_vat (F := SG iE 3 v5 out * (SG iE 3 v10 (natL l) * (pt r1 (.cells w.cells 26 (0, 0)) * (F * tt)))) (asr (by ac_rfl) hh3) hv
    obtain ⟨b, q, e1, e2, _, e4, _⟩ := hw.obj ho .i64
    repeat (with_reducible first | refine vP_so ?_ | refine vB_t ?_ | refine vB_f ?_ | refine vE_tt ?_ | refine vE_ff ?_ | refine vE_tf ?_ | refine vE_ft ?_ | refine vE_u ?_ | refine vP_to (by simp (disch := omega) only [gdW_true, gdW_false, gB_true, gB_false, gB_undef, pickV_true, pickV_false, Bool.not_true, Bool.not_false, Option.map_some, bin_add, bin_sub, bin_mul, bin_quo, bin_rem, lss_t, lss_f, leq_t, leq_f, gtr_t, gtr_f, geq_t, geq_f, eqi_t, eqi_f, nei_t, nei_f, rem_uw, conv_ui, conv_iu, conv_ii, not_bool, nil_ptr, fa_mk, ptrV, len_mk, cap_mk, eq_ptr_nil, ne_ptr_nil, eq_nil_nil, ne_nil_nil, eq_slice_nil, eq_nil_slice, ia_1, hlen]; exact so_so) ?_)
    intro J2 hJ2
    have hJ : ∀ v' out' h', Rise out' → out'.length ≤ i + 1 → (∀ x, x ∈ out' ↔ ∃ n o, n ∈ l.take (i + 1) ∧ w.objs[n]? = some o ∧ o.marked = false ∧ o.addr = x) → (SG iE 3 v' out' * (SG iE 3 v10 (natL l) * (pt r1 (.cells w.cells 26 (0, 0)) * (own g * (F * tt))))) h' → J2 [v'] h' := fun v' out' h' b1 b2 b3 b4 => by
      refine hJ2 _ _ fun _ => ?_
      repeat (with_reducible first | refine vP_so ?_ | refine vB_t ?_ | refine vB_f ?_ | refine vE_tt ?_ | refine vE_ff ?_ | refine vE_tf ?_ | refine vE_ft ?_ | refine vE_u ?_ | refine vP_to (by simp (disch := omega) only [gdW_true, gdW_false, gB_true, gB_false, gB_undef, pickV_true, pickV_false, Bool.not_true, Bool.not_false, Option.map_some, bin_add, bin_sub, bin_mul, bin_quo, bin_rem, lss_t, lss_f, leq_t, leq_f, gtr_t, gtr_f, geq_t, geq_f, eqi_t, eqi_f, nei_t, nei_f, rem_uw, conv_ui, conv_iu, conv_ii, not_bool, nil_ptr, fa_mk, ptrV, len_mk, cap_mk, eq_ptr_nil, ne_ptr_nil, eq_nil_nil, ne_nil_nil, eq_slice_nil, eq_nil_slice, ia_1]; exact so_so) ?_)
      exact ⟨l.length - (i + 1), by omega, i + 1, v', out', rfl, rfl, by omega, b1, b2, b3, b4⟩
    have hstep : ∀ y, (∃ n' o, n' ∈ l.take (i + 1) ∧ w.objs[n']? = some o ∧ o.marked = false ∧ o.addr = y) ↔ y ∈ out ∨ (o.marked = false ∧ o.addr = y) := fun y => by
      rw [htk, hmem]
      constructor
      · rintro ⟨n', o', h1, h2, h3, h4⟩
        rw [List.mem_append, List.mem_singleton] at h1
        rcases h1 with h1 | rfl
        · exact .inl ⟨n', o', h1, h2, h3, h4⟩
        · obtain rfl : o = o' := Option.some.inj (ho.symm.trans h2)
          exact .inr ⟨h3, h4⟩
      · rintro (⟨n', o', h1, h2, h3, h4⟩ | ⟨h3, h4⟩)
        · exact ⟨n', o', List.mem_append.2 (.inl h1), h2, h3, h4⟩
        · exact ⟨n, o, by simp, ho, h3, h4⟩
    cases hom : o.marked with
    | true =>
      rw [hom] at e4
      repeat (with_reducible first | refine vP_so ?_ | refine vB_t ?_ | refine vB_f ?_ | refine vE_tt ?_ | refine vE_ff ?_ | refine vE_tf ?_ | refine vE_ft ?_ | refine vE_u ?_ | refine vP_to (by simp (disch := omega) only [gdW_true, gdW_false, gB_true, gB_false, gB_undef, pickV_true, pickV_false, Bool.not_true, Bool.not_false, Option.map_some, bin_add, bin_sub, bin_mul, bin_quo, bin_rem, lss_t, lss_f, leq_t, leq_f, gtr_t, gtr_f, geq_t, geq_f, eqi_t, eqi_f, nei_t, nei_f, rem_uw, conv_ui, conv_iu, conv_ii, not_bool, nil_ptr, fa_mk, ptrV, len_mk, cap_mk, eq_ptr_nil, ne_ptr_nil, eq_nil_nil, ne_nil_nil, eq_slice_nil, eq_nil_slice, ia_1, l5, c1, c2, e1, e4]; exact so_so) ?_)
      refine hJ v5 out h3 hri (by omega) (fun y => ?_) hh3
      rw [hstep, hom]; simp
    | false =>
      rw [hom] at e4
      repeat (with_reducible first | refine vP_so ?_ | refine vB_t ?_ | refine vB_f ?_ | refine vE_tt ?_ | refine vE_ff ?_ | refine vE_tf ?_ | refine vE_ft ?_ | refine vE_u ?_ | refine vP_to (by simp (disch := omega) only [gdW_true, gdW_false, gB_true, gB_false, gB_undef, pickV_true, pickV_false, Bool.not_true, Bool.not_false, Option.map_some, bin_add, bin_sub, bin_mul, bin_quo, bin_rem, lss_t, lss_f, leq_t, leq_f, gtr_t, gtr_f, geq_t, geq_f, eqi_t, eqi_f, nei_t, nei_f, rem_uw, conv_ui, conv_iu, conv_ii, not_bool, nil_ptr, fa_mk, ptrV, len_mk, cap_mk, eq_ptr_nil, ne_ptr_nil, eq_nil_nil, ne_nil_nil, eq_slice_nil, eq_nil_slice, ia_1, l5, c1, c2, e1, e2, e4]; exact so_so) ?_)
      refine use_put (l := out) (F := SG iE 3 v10 (natL l) * (pt r1 (.cells w.cells 26 (0, 0)) * (own g * F))) (by omega) hri (asr (by ac_rfl) hh3) fun v38 out' h5 b1 b2 b3 hh5 => ?_
      refine hJ v38 out' h5 b1 (by omega) (fun y => ?_) (asr (by ac_rfl) hh5)
      rw [hstep, hom, b2]
      simp [eq_comm]
  · obtain rfl : i = l.length := by omega
    rw [List.take_length] at hmem
    repeat (with_reducible first | refine vP_so ?_ | refine vB_t ?_ | refine vB_f ?_ | refine vE_tt ?_ | refine vE_ff ?_ | refine vE_tf ?_ | refine vE_ft ?_ | refine vE_u ?_ | refine vP_to (by simp (disch := omega) only [gdW_true, gdW_false, gB_true, gB_false, gB_undef, pickV_true, pickV_false, Bool.not_true, Bool.not_false, Option.map_some, bin_add, bin_sub, bin_mul, bin_quo, bin_rem, lss_t, lss_f, leq_t, leq_f, gtr_t, gtr_f, geq_t, geq_f, eqi_t, eqi_f, nei_t, nei_f, rem_uw, conv_ui, conv_iu, conv_ii, not_bool, nil_ptr, fa_mk, ptrV, len_mk, cap_mk, eq_ptr_nil, ne_ptr_nil, eq_nil_nil, ne_nil_nil, eq_slice_nil, eq_nil_slice, ia_1, hlen]; exact so_so) ?_)
    refine hK v5 out h3 ⟨hri, fun x => ?_⟩ (by omega) (dropL (P := SG iE 3 v10 (natL l) * pt r1 (.cells w.cells 26 (0, 0))) (Q := SG iE 3 v5 out * (own g * F)) (asr (by ac_rfl) hh3) |> asr (by ac_rfl))
    rw [hmem]
    constructor
    · rintro ⟨n, o, h1, h2, h3, rfl⟩
      obtain ⟨x, hx, hat⟩ := (a2 n).1 h1
      obtain ⟨o', ho', hoa⟩ := at_some hat
      obtain rfl : o = o' := Option.some.inj (h2.symm.trans ho')
      rw [hoa]
      exact ⟨hx, n, o, hat, h2, h3⟩
    · rintro ⟨hx, n, o, hat, h2, h3⟩
      obtain ⟨o', ho', hoa⟩ := at_some hat
      obtain rfl : o = o' := Option.some.inj (h2.symm.trans ho')
      exact ⟨n, o, (a2 n).2 ⟨x, hx, hat⟩, h2, h3, hoa⟩

end Go.Proofs
