/-
  Texts of the proof, in one file: OpsIn, KyS, KySp, AwPlays.
-/
import Derived.Test.YtampdifeblndfaaGreatDoorB13
import Derived.Test.YtampdifeblndfaaGreatDoorB5
import Derived.Test.YtampdifeblndfaaGreatDoorProg
set_option linter.unusedVariables false
set_option linter.unusedSimpArgs false
/-
  Ops as they came in.
-/
set_option maxRecDepth 100000
namespace Go.Proofs
open Go.Sl Go.ChangeShapes Go.WideShapes Go.ChangeAt Go.RowKit
structure OpsAt (g : Hp) (sv : Value) (os : List OpV) : Prop where
  len : lenV sv = some (.int .i64 os.length)
  lt : os.length < 9223372036854775808
  get : ∀ (j : Nat) o k, os[j]? = some o → ∃ p, iaS 9 sv (.int k (j : Int)) = some p ∧ ldN 9 p g = some (.agg o.cells)
theorem ops_in {H : Type} {enc : TypeId × Value → H} {W : World} {base : Nat} {held : Bool} {r : Reach} {v : Value} {d : DataW H} {p : List MemPlace}
    (hv : Value.okWide Tryz.prog W r base 43 v) (h : DataW.Trod enc Tryz.prog W 0 (fun _ => true) held 43 v d p) : ∃ os, OpsAt W.hp v os := by
  have ht := Tryz.underlying43
  have he := Tryz.underlying48
  have hi := Tryz.underlying3
  have hb := Tryz.underlying4
  have hc : Tryz.prog.cellsOf 48 = 9 := by kernel_rfl
  have hci : Tryz.prog.cellsOf 3 = 1 := by kernel_rfl
  have hcb : Tryz.prog.cellsOf 4 = 1 := by kernel_rfl
  obtain ⟨a0, len0, cap0, rfl⟩ := okWide_slice ht hv
  obtain ⟨f, hF⟩ := okF_of h
  rcases okF_slice ht hF with hcs | ⟨a, len, cap, hcs, hl, hm, f', hel⟩
  · simp [Value.cells] at hcs
    obtain ⟨rfl, rfl, rfl⟩ := hcs
    exact ⟨[], ⟨rfl, by simp, fun j x k h => by simp at h⟩⟩
  · simp [Value.cells] at hcs
    obtain ⟨rfl, rfl, rfl⟩ := hcs
    rw [hc] at hel
    have hex : ∀ i, i < len0 → ∃ o : OpV, ldN 9 (.pointer (some (a.add (i * 9)))) W.hp = some (.agg o.cells) := fun i hi' => by
      obtain ⟨c, h1, h2, h3⟩ := hel i hi'
      obtain ⟨_, g, hg⟩ := okF_struct he h3
      obtain ⟨x0, e0, _⟩ := okF_int hi (hci ▸ hg 0 _ rfl)
      obtain ⟨x1, e1, _⟩ := okF_int hi (hci ▸ hg 1 _ rfl)
      obtain ⟨x2, e2, _⟩ := okF_int hi (hci ▸ hg 2 _ rfl)
      obtain ⟨x3, e3, _⟩ := okF_int hi (hci ▸ hg 3 _ rfl)
      obtain ⟨x4, e4, _⟩ := okF_int hi (hci ▸ hg 4 _ rfl)
      obtain ⟨x5, e5, _⟩ := okF_int hi (hci ▸ hg 5 _ rfl)
      obtain ⟨x6, e6, _⟩ := okF_int hi (hci ▸ hg 6 _ rfl)
      obtain ⟨x7, e7⟩ := okF_bool hb (hcb ▸ hg 7 _ rfl)
      obtain ⟨x8, e8⟩ := okF_bool hb (hcb ▸ hg 8 _ rfl)
      match c, h1 with
      | [c0, c1, c2, c3, c4, c5, c6, c7, c8], _ =>
        simp at e0 e1 e2 e3 e4 e5 e6 e7 e8
        subst e0; subst e1; subst e2; subst e3; subst e4; subst e5; subst e6; subst e7; subst e8
        have hrow := row_of_cells (n := 9) (by omega) rfl h2
        refine ⟨⟨x0, x1, x2, x3, x4, x5, x6, x7, x8⟩, ?_⟩
        show (W.hp.row _ 9).map Value.agg = _
        rw [hrow]
        rfl
    obtain ⟨os, ho1, ho2⟩ := list_of hex
    subst ho1
    exact ⟨os, ⟨rfl, by unfold maxLen at hm; omega, fun j o k hj => ⟨_, iaS_at (List.getElem?_eq_some_iff.1 hj).1, ho2 j o hj⟩⟩⟩
end Go.Proofs

/-
  The spans' keys, in order: as the objects' keys (Ky), at the map of spans.
-/
set_option maxRecDepth 100000
namespace Go.Proofs
open Go.Sl Go.RowKit Go.Shelf
def keysS_ren : Ren := ⟨fun | 10 => 90 | n => n, fun | 0 => 0 | 4 => 4 | 23 => 60 | 26 => 3 | 3 => 64 | 33 => 31 | n => n, fun | n => n⟩
theorem keysS : SlLaysZI.n10 Tryz.prog keysS_ren where
  mixed := by kernel_rfl
  f10 := ⟨"maps.Keys[map[int]*treadmill/span.Span,int,*treadmill/span.Span]$1", by decide, Tryz.func90.trans (congrArg some (by kernel_rfl))⟩
  t0 := Tryz.underlying0
  a0 := Tryz.isAgg0
  z0 := Tryz.sizeOf0
  v0 := Tryz.zeroValue0
  t4 := Tryz.underlying4
  a4 := Tryz.isAgg4
  z4 := Tryz.sizeOf4
  v4 := Tryz.zeroValue4
  t23 := Tryz.underlying60
  a23 := Tryz.isAgg60
  z23 := Tryz.sizeOf60
  v23 := Tryz.zeroValue60
  t26 := Tryz.underlying3
  a26 := Tryz.isAgg3
  z26 := Tryz.sizeOf3
  v26 := Tryz.zeroValue3
  t33 := Tryz.underlying31
  a33 := Tryz.isAgg31
  z33 := Tryz.sizeOf31
  v33 := Tryz.zeroValue31
theorem use_keysS {rb : Nat} {f : Int → Option Value} {l : List Int} {F : Asrt} {K : Value → Hp → Prop} {h : Hp} (hl : Rise l) (hm : ∀ k, k ∈ l ↔ (f k).isSome = true) (hbd : ∀ k ∈ l, -9223372036854775808 ≤ k ∧ k ≤ 9223372036854775807) (hlen : l.length ≤ 1000000)
    (hh : (MP rb f * (F * tt)) h) (hK : ∀ v h', (SG iE 3 v l * (MP rb f * (F * tt))) h' → K v h') :
    CallH Tryz.prog 47 #[.map (some rb)] (fun v1 h1 => CallH Tryz.prog 46 #[v1] K h1) h := by
  refine C47 ?_
  unfold D47
  refine vA_new (o := .cells #[.map (some rb)] 60 (0, 0)) (f := ptrV) hh fun r h1 hh1 => ?_
  repeat (with_reducible first | refine vP_so ?_ | refine vB_t ?_ | refine vB_f ?_ | refine vE_tt ?_ | refine vE_ff ?_ | refine vE_tf ?_ | refine vE_ft ?_ | refine vE_u ?_ | refine vP_to (by simp (disch := omega) only [gdW_true, gdW_false, gB_true, gB_false, gB_undef, pickV_true, pickV_false, Bool.not_true, Bool.not_false, Option.map_some, bin_add, bin_sub, bin_mul, bin_quo, bin_rem, lss_t, lss_f, leq_t, leq_f, gtr_t, gtr_f, geq_t, geq_f, eqi_t, eqi_f, nei_t, nei_f, rem_uw, conv_ui, conv_iu, conv_ii, not_bool, nil_ptr, fa_mk, ptrV, len_mk, cap_mk, eq_ptr_nil, ne_ptr_nil, eq_nil_nil, ne_nil_nil, eq_slice_nil, eq_nil_slice, ia_1]; exact so_so) ?_)
  refine C46 ?_
  unfold D46
  refine C88 ?_
  unfold D88
  have hh2 : (MP rb f * (pt r (.cells #[.map (some rb)] 60 (0, 0)) * (F * tt))) h1 := asr (by ac_rfl) hh1
  obtain ⟨es, c, hok, hf, hp⟩ := MP_elim hh2
  have hkeys : ∀ x, x ∈ es.map Ent.key ↔ x ∈ l := fun x => by
    rw [hm, ← hf x, List.mem_map]
    unfold mget
    constructor
    · rintro ⟨e, he, rfl⟩
      cases hq : es.find? (fun q => q.key == e.key) with
      | some q => rfl
      | none => have := List.find?_eq_none.1 hq e he; simp at this
    · intro hs
      cases hq : es.find? (fun q => q.key == x) with
      | none => rw [hq] at hs; cases hs
      | some q =>
        have h1 := List.find?_some hq
        exact ⟨q, List.mem_of_find?_eq_some hq, by simpa using h1⟩
  have hnd : (es.map Ent.key).Nodup := List.pairwise_map.2 hok.keys
  have hlk : es.length ≤ 1000000 := by
    have h1 : (es.map Ent.key).Perm l := (List.perm_ext_iff_of_nodup hnd (hl.imp fun h => by omega)).2 hkeys
    have := h1.length_eq
    rw [List.length_map] at this
    omega
  refine callH_ownS (E := 3) (S := fun xs => xs.Perm (es.map Ent.key)) hh2 (fun w fr e => ?_) fun v xs h2 hS hh3 => ?_
  · have hbm : w.heap[rb]? = some (.map (es.map Ent.mk').toArray c) := by
      have : w.hp rb = some (.map (es.map Ent.mk').toArray c) := by rw [e]; exact Hp.add_of_left (pt_get hp)
      exact this
    have hbr : w.heap[r]? = some (.cells #[.map (some rb)] 60 (0, 0)) := by
      have : w.hp r = some (.cells #[.map (some rb)] 60 (0, 0)) := by rw [e]; exact Hp.add_of_left (pt_get hh1)
      exact this
    have hcr : w.cell? ⟨r, 0, none⟩ = some (.map (some rb)) := by
      rw [cell?_hp]
      unfold Hp.cell
      have : w.hp r = some (.cells #[.map (some rb)] 60 (0, 0)) := hbr
      simp only [this, Option.bind_some]
      rfl
    obtain ⟨D, hown, hperm, hsize⟩ := owns_of (P := Tryz.prog) (tk := 3) Tryz.underlying3 hbm hok (fun x hx => hbd _ ((hkeys _).1 (List.mem_map_of_mem hx))) hlk
    have hg := AnyZI.keys_gives keysS Fence.wide 1 trivial rfl (Nat.le_refl 1) r rb es.length D (R := anyR) w (Array.getElem?_eq_some_iff.1 hbr).1 hcr hown
    refine (callsIn_wide.1 (AnyZI.appendSeq_in appQ Fence.wide 2 trivial rfl (Nat.le_refl 2) 90 #[.pointer (some ⟨r, 0, none⟩)] trivial (enters_of Tryz.func90 (by kernel_rfl) rfl) _ (Maps.size D) (by rw [hsize]; unfold maxLen; omega) (by rw [hsize]; omega) w hg)).mono ?_
    rintro e' w' ⟨v, ss, rfl, hS, hrow, _, hb⟩
    exact ⟨v, ss, rfl, hS.trans hperm, hrow, hb⟩
  · have hxl : xs.length ≤ 1000000 := by rw [hS.length_eq, List.length_map]; exact hlk
    refine use_sort sortC (by omega) hh3 fun h4 hh4 => ?_
    rw [srt_of_perm hS hnd hl fun x => (hkeys x).symm] at hh4
    exact hK v h4 (dropL (P := pt r (.cells #[.map (some rb)] 60 (0, 0))) (Q := SG iE 3 v l * (MP rb f * F)) (asr (by ac_rfl) hh4) |> asr (by ac_rfl))
end Go.Proofs

/-
  The spans' numbers, in order.
-/
set_option maxRecDepth 100000
set_option maxHeartbeats 1000000
namespace Go.Proofs
open Go.Sl
theorem use_aspans {g : Hp} {a : Nat} {st : Ar} {N : Nat} {l : List Int} (ok : AOk st N) (hl : Rise l) (hm : ∀ k, k ∈ l ↔ (st.sp k).isSome = true) (hlen : l.length ≤ 1000000) (hN : N ≤ 1000000) {F : Asrt} {K : Value → Hp → Prop} {h : Hp} (hh : (AR a st * (own g * (F * tt))) h)
    (hK : ∀ v h', (SG iE 3 v l * (AR a st * (own g * (F * tt)))) h' → K v h') : CallH Tryz.prog 18 #[pB a] K h := by
  refine C18 ?_
  unfold D18
  obtain ⟨ap, rs, ro, rb, hp⟩ := AR_elim hh
  have l1 := ar_ld hp
  obtain ⟨f, H, e1, hq, c1⟩ := MPO_map (show (MPO rs spA st.sp * (pt a (.cells #[pv ap, .map (some rs), .map (some ro), .map (some rb), .int .i64 st.live] 63 (0, 0)) * (PG ap st.n st.runs * (MPO rb obA st.ob * (MP ro (owF st.ow) * (own g * (F * tt))))))) h from asr (by ac_rfl) hp)
  repeat (with_reducible first | refine vP_so ?_ | refine vB_t ?_ | refine vB_f ?_ | refine vE_tt ?_ | refine vE_ff ?_ | refine vE_tf ?_ | refine vE_ft ?_ | refine vE_u ?_ | refine vP_to (by simp (disch := omega) only [gdW_true, gdW_false, gB_true, gB_false, gB_undef, pickV_true, pickV_false, Bool.not_true, Bool.not_false, Option.map_some, bin_add, bin_sub, bin_mul, bin_quo, bin_rem, lss_t, lss_f, leq_t, leq_f, gtr_t, gtr_f, geq_t, geq_f, eqi_t, eqi_f, nei_t, nei_f, rem_uw, conv_ui, conv_iu, conv_ii, not_bool, nil_ptr, fa_mk, ptrV, len_mk, cap_mk, eq_ptr_nil, ne_ptr_nil, eq_nil_nil, ne_nil_nil, eq_slice_nil, eq_nil_slice, ia_1, nilP, l1.2.1]; exact so_so) ?_)
  refine use_keysS (l := l) (F := H * (pt a (.cells #[pv ap, .map (some rs), .map (some ro), .map (some rb), .int .i64 st.live] 63 (0, 0)) * (PG ap st.n st.runs * (MPO rb obA st.ob * (MP ro (owF st.ow) * (own g * F)))))) hl (fun k => by rw [hm, e1]) (fun k hk => ?_) hlen (asr (by ac_rfl) hq) fun v h1 hh1 => ?_
  · have h1 := (hm k).1 hk
    cases hs : st.sp k with
    | none => rw [hs] at h1; cases h1
    | some s => have := ok.sp k s hs; omega
  have hh2 := c1 (SG iE 3 v l * (pt a (.cells #[pv ap, .map (some rs), .map (some ro), .map (some rb), .int .i64 st.live] 63 (0, 0)) * (PG ap st.n st.runs * (MPO rb obA st.ob * (MP ro (owF st.ow) * (own g * (F * tt))))))) h1 (asr (by ac_rfl) hh1)
  have hh3 : (AR a st * (SG iE 3 v l * (own g * (F * tt)))) h1 := AR_intro (asr (by ac_rfl) hh2)
  exact hK v h1 (asr (by ac_rfl) hh3)
end Go.Proofs

/-
  ArenaPlays returns true.
-/
set_option maxRecDepth 100000
set_option maxHeartbeats 4000000
namespace Go.Proofs
open Go.Sl
theorem rise_insert {l : List Int} (hr : Rise l) (x : Int) : ∃ l', Rise l' ∧ (∀ y, y ∈ l' ↔ y ∈ l ∨ y = x) ∧ l'.length ≤ l.length + 1 := by
  unfold Rise at *
  induction l with
  | nil => exact ⟨[x], by simp, fun y => by simp, by simp⟩
  | cons a l ih =>
    rw [List.pairwise_cons] at hr
    rcases Int.lt_trichotomy x a with q | q | q
    · refine ⟨x :: a :: l, ?_, fun y => ?_, by simp⟩
      · rw [List.pairwise_cons, List.pairwise_cons]
        refine ⟨fun y hy => ?_, hr⟩
        rcases List.mem_cons.1 hy with rfl | hy
        · exact q
        · have := hr.1 y hy; omega
      · rw [List.mem_cons]
        exact ⟨fun h => h.elim .inr .inl, fun h => h.elim .inr .inl⟩
    · subst q
      exact ⟨x :: l, by rw [List.pairwise_cons]; exact hr, fun y => ⟨.inl, fun h => h.elim id fun e => by rw [e]; simp⟩, by simp⟩
    · obtain ⟨l', h1, h2, h3⟩ := ih hr.2
      refine ⟨a :: l', ?_, fun y => ?_, by simp only [List.length_cons]; omega⟩
      · rw [List.pairwise_cons]
        refine ⟨fun y hy => ?_, h1⟩
        rcases (h2 y).1 hy with hy | rfl
        · exact hr.1 y hy
        · exact q
      · rw [List.mem_cons, List.mem_cons, h2]
        constructor
        · rintro (h | h | h)
          · exact .inl (.inl h)
          · exact .inl (.inr h)
          · exact .inr h
        · rintro ((h | h) | h)
          · exact .inl h
          · exact .inr (.inl h)
          · exact .inr (.inr h)
theorem rise_of : ∀ A : List Int, ∃ l, Rise l ∧ (∀ y, y ∈ l ↔ y ∈ A) ∧ l.length ≤ A.length
  | [] => ⟨[], by simp [Rise], fun y => Iff.rfl, Nat.le_refl 0⟩
  | a :: A => by
    obtain ⟨l, h1, h2, h3⟩ := rise_of A
    obtain ⟨l', k1, k2, k3⟩ := rise_insert h1 a
    refine ⟨l', k1, fun y => ?_, by simp only [List.length_cons]; omega⟩
    rw [k2, h2, List.mem_cons]
    exact ⟨fun h => h.elim .inr .inl, fun h => h.elim .inr .inl⟩
theorem objs_some {st : Ar} {N : Nat} (ok : AOk st N) : ∃ l, Rise l ∧ (∀ y, y ∈ l ↔ (st.ob y).isSome = true) ∧ l.length ≤ 64 * N := by
  have key : ∀ M : Nat, M ≤ N → ∃ A : List Int, (∀ y, y ∈ A ↔ ∃ (j : Nat) (s : Sp) (i : Nat), j < M ∧ st.sp (j : Int) = some s ∧ s.used[i]? = some true ∧ y = s.addr i) ∧ A.length ≤ 64 * M := by
    intro M
    induction M with
    | zero => exact fun _ => ⟨[], fun y => by simp, by simp⟩
    | succ M ih =>
      intro hM
      obtain ⟨A, h1, h2⟩ := ih (by omega)
      cases hs : st.sp (M : Int) with
      | none =>
        refine ⟨A, fun y => ?_, by omega⟩
        rw [h1]
        constructor
        · rintro ⟨j, s, i, k1, k2⟩; exact ⟨j, s, i, by omega, k2⟩
        · rintro ⟨j, s, i, k1, k2, k3⟩
          rcases Nat.lt_or_ge j M with q | q
          · exact ⟨j, s, i, q, k2, k3⟩
          · obtain rfl : j = M := by omega
            rw [hs] at k2; cases k2
      | some t =>
        have hso := (ok.sp _ _ hs).2.2.1
        have hid : (ids t.used).length ≤ 64 := by
          rw [ids_len]
          have := List.count_le_length (l := t.used) (a := true)
          have := hso.len
          omega
        refine ⟨A ++ (ids t.used).map t.addr, fun y => ?_, by rw [List.length_append, List.length_map]; omega⟩
        rw [List.mem_append, h1, List.mem_map]
        constructor
        · rintro (⟨j, s, i, k1, k2⟩ | ⟨i, k1, rfl⟩)
          · exact ⟨j, s, i, by omega, k2⟩
          · exact ⟨M, t, i, by omega, hs, ids_mem.1 k1, rfl⟩
        · rintro ⟨j, s, i, k1, k2, k3, k4⟩
          rcases Nat.lt_or_ge j M with q | q
          · exact .inl ⟨j, s, i, q, k2, k3, k4⟩
          · obtain rfl : j = M := by omega
            rw [hs] at k2
            obtain rfl := Option.some.inj k2
            exact .inr ⟨i, ids_mem.2 k3, k4.symm⟩
  obtain ⟨A, h1, h2⟩ := key N (Nat.le_refl N)
  obtain ⟨l, k1, k2, k3⟩ := rise_of A
  refine ⟨l, k1, fun y => ?_, by omega⟩
  rw [k2, h1, ok.ob]
  constructor
  · rintro ⟨j, s, i, k1, k2, k3, k4⟩; exact ⟨j, s, i, k2, k3, k4⟩
  · rintro ⟨id, s, i, k2, k3, k4⟩
    have := ok.sp id s k2
    obtain ⟨j, rfl⟩ : ∃ j : Nat, id = j := ⟨id.toNat, by omega⟩
    exact ⟨j, s, i, by omega, k2, k3, k4⟩
theorem aplays_tr (g : Hp) (w : Int) (sv : Value) (os : List OpV) (hg : TabG 0 g) (hx : OpsAt g sv os) : Tr Tryz.prog 4 #[.int .i64 w, sv] (own g) (fun v => pr (v = .bool true) * own g) := by
  refine Tr.of fun h hh => C4 ?_
  unfold D4
  have hlt := hx.lt
  have hh : (own g * (emp * tt)) h := asr (by rw [emp_star]) hh
  have nil0 : eqV 4 false (.pointer none) (.pointer none) = some (.bool true) := rfl
  have one1 : eqV 1 false (.int .i64 1) (.int .i64 1) = some (.bool true) := rfl
  intro J1 hJ1
  have main : ∀ w' : Int, (goodW w' → w' ≤ 2048) → J1 [.int .i64 w'] h := by
    intro w' hw'
    refine hJ1 _ _ fun _ => ?_
    clear hJ1
    refine use_anew (w := w') (F := own g * emp) (asr (by ac_rfl) hh) (fun hb => ?_) fun a h2 hgw hh2 => ?_
    · repeat (with_reducible first | refine vP_so ?_ | refine vB_t ?_ | refine vB_f ?_ | refine vE_tt ?_ | refine vE_ff ?_ | refine vE_tf ?_ | refine vE_ft ?_ | refine vE_u ?_ | refine vP_to (by simp (disch := omega) only [gdW_true, gdW_false, gB_true, gB_false, gB_undef, pickV_true, pickV_false, Bool.not_true, Bool.not_false, Option.map_some, bin_add, bin_sub, bin_mul, bin_quo, bin_rem, lss_t, lss_f, leq_t, leq_f, gtr_t, gtr_f, geq_t, geq_f, eqi_t, eqi_f, nei_t, nei_f, rem_uw, conv_ui, conv_iu, conv_ii, not_bool, nil_ptr, fa_mk, ptrV, len_mk, cap_mk, eq_ptr_nil, ne_ptr_nil, eq_nil_nil, ne_nil_nil, eq_slice_nil, eq_nil_slice, ia_1, exT0, exT1]; exact so_so) ?_)
      refine use_renew (w := w') (F := own g * emp) (asr (by ac_rfl) hh) (fun _ => ?_) fun x h3 hgw _ => (hb hgw).elim
      repeat (with_reducible first | refine vP_so ?_ | refine vB_t ?_ | refine vB_f ?_ | refine vE_tt ?_ | refine vE_ff ?_ | refine vE_tf ?_ | refine vE_ft ?_ | refine vE_u ?_ | refine vP_to (by simp (disch := omega) only [gdW_true, gdW_false, gB_true, gB_false, gB_undef, pickV_true, pickV_false, Bool.not_true, Bool.not_false, Option.map_some, bin_add, bin_sub, bin_mul, bin_quo, bin_rem, lss_t, lss_f, leq_t, leq_f, gtr_t, gtr_f, geq_t, geq_f, eqi_t, eqi_f, nei_t, nei_f, rem_uw, conv_ui, conv_iu, conv_ii, not_bool, nil_ptr, fa_mk, ptrV, len_mk, cap_mk, eq_ptr_nil, ne_ptr_nil, eq_nil_nil, ne_nil_nil, eq_slice_nil, eq_nil_slice, ia_1, nil0]; exact so_so) ?_)
      refine use_told7 hg hh fun h4 hh4 => ?_
      repeat (with_reducible first | refine vP_so ?_ | refine vB_t ?_ | refine vB_f ?_ | refine vE_tt ?_ | refine vE_ff ?_ | refine vE_tf ?_ | refine vE_ft ?_ | refine vE_u ?_ | refine vP_to (by simp (disch := omega) only [gdW_true, gdW_false, gB_true, gB_false, gB_undef, pickV_true, pickV_false, Bool.not_true, Bool.not_false, Option.map_some, bin_add, bin_sub, bin_mul, bin_quo, bin_rem, lss_t, lss_f, leq_t, leq_f, gtr_t, gtr_f, geq_t, geq_f, eqi_t, eqi_f, nei_t, nei_f, rem_uw, conv_ui, conv_iu, conv_ii, not_bool, nil_ptr, fa_mk, ptrV, len_mk, cap_mk, eq_ptr_nil, ne_ptr_nil, eq_nil_nil, ne_nil_nil, eq_slice_nil, eq_nil_slice, ia_1, nil0, one1]; exact so_so) ?_)
      exact ret rfl (asr (by rw [emp_star]) hh4)
    have hwl := hw' hgw
    have hwg := hgw
    unfold goodW at hwg
    repeat (with_reducible first | refine vP_so ?_ | refine vB_t ?_ | refine vB_f ?_ | refine vE_tt ?_ | refine vE_ff ?_ | refine vE_tf ?_ | refine vE_ft ?_ | refine vE_u ?_ | refine vP_to (by simp (disch := omega) only [gdW_true, gdW_false, gB_true, gB_false, gB_undef, pickV_true, pickV_false, Bool.not_true, Bool.not_false, Option.map_some, bin_add, bin_sub, bin_mul, bin_quo, bin_rem, lss_t, lss_f, leq_t, leq_f, gtr_t, gtr_f, geq_t, geq_f, eqi_t, eqi_f, nei_t, nei_f, rem_uw, conv_ui, conv_iu, conv_ii, not_bool, nil_ptr, fa_mk, ptrV, len_mk, cap_mk, eq_ptr_nil, ne_ptr_nil, eq_nil_nil, ne_nil_nil, eq_slice_nil, eq_nil_slice, ia_1, exT0, exT1]; exact so_so) ?_)
    refine use_renew (w := w') (F := AR a (newAr (w' / 64)) * (own g * emp)) (asr (by ac_rfl) hh2) (fun hb => (hb hgw).elim) fun x h3 _ hh3 => ?_
    repeat (with_reducible first | refine vP_so ?_ | refine vB_t ?_ | refine vB_f ?_ | refine vE_tt ?_ | refine vE_ff ?_ | refine vE_tf ?_ | refine vE_ft ?_ | refine vE_u ?_ | refine vP_to (by simp (disch := omega) only [gdW_true, gdW_false, gB_true, gB_false, gB_undef, pickV_true, pickV_false, Bool.not_true, Bool.not_false, Option.map_some, bin_add, bin_sub, bin_mul, bin_quo, bin_rem, lss_t, lss_f, leq_t, leq_f, gtr_t, gtr_f, geq_t, geq_f, eqi_t, eqi_f, nei_t, nei_f, rem_uw, conv_ui, conv_iu, conv_ii, not_bool, nil_ptr, fa_mk, ptrV, len_mk, cap_mk, eq_ptr_nil, ne_ptr_nil, eq_nil_nil, ne_nil_nil, eq_slice_nil, eq_nil_slice, ia_1, nilP, ne_refl]; exact so_so) ?_)
    refine ⟨fun m zs h' => ∃ (i N : Nat) (st : Ar), zs = [.int .i64 i] ∧ m = os.length - i ∧ i ≤ os.length ∧ i ≤ 60 ∧ N ≤ i ∧ AOk st N ∧ (Two a x st g emp) h', ⟨_, 0, 0, newAr (w' / 64), rfl, rfl, by omega, by omega, by omega, newAr_ok (by omega), asr (by unfold Two; ac_rfl) hh3⟩, ?_⟩
    clear hh3 hh2 hh
    rintro m v8 h5 ⟨i, N, st, hzs, rfl, hi, hi60, hNi, ok, hh5⟩ _
    obtain rfl : v8 = .int .i64 i := by simpa using hzs
    by_cases hil : i < os.length ∧ i < 60
    · have hown : (own g * (AR a st * (RA x st * (emp * tt)))) h5 := asr (by unfold Two; ac_rfl) hh5
      obtain ⟨p, f1, f2⟩ := hx.get i os[i] .i64 (List.getElem?_eq_getElem hil.1)
      have f2 := own_ldN hown f2
      generalize os[i] = o at *
      obtain ⟨hil1, hil2⟩ := hil
      repeat (with_reducible first | refine vP_so ?_ | refine vB_t ?_ | refine vB_f ?_ | refine vE_tt ?_ | refine vE_ff ?_ | refine vE_tf ?_ | refine vE_ft ?_ | refine vE_u ?_ | refine vP_to (by simp (disch := omega) only [gdW_true, gdW_false, gB_true, gB_false, gB_undef, pickV_true, pickV_false, Bool.not_true, Bool.not_false, Option.map_some, bin_add, bin_sub, bin_mul, bin_quo, bin_rem, lss_t, lss_f, leq_t, leq_f, gtr_t, gtr_f, geq_t, geq_f, eqi_t, eqi_f, nei_t, nei_f, rem_uw, conv_ui, conv_iu, conv_ii, not_bool, nil_ptr, fa_mk, ptrV, len_mk, cap_mk, eq_ptr_nil, ne_ptr_nil, eq_nil_nil, ne_nil_nil, eq_slice_nil, eq_nil_slice, ia_1, hx.len, f1, f2]; exact so_so) ?_)
      refine use_both hg ok (by omega) hh5 fun st' N' h6 hN' ok' hh6 => ?_
      repeat (with_reducible first | refine vP_so ?_ | refine vB_t ?_ | refine vB_f ?_ | refine vE_tt ?_ | refine vE_ff ?_ | refine vE_tf ?_ | refine vE_ft ?_ | refine vE_u ?_ | refine vP_to (by simp (disch := omega) only [gdW_true, gdW_false, gB_true, gB_false, gB_undef, pickV_true, pickV_false, Bool.not_true, Bool.not_false, Option.map_some, bin_add, bin_sub, bin_mul, bin_quo, bin_rem, lss_t, lss_f, leq_t, leq_f, gtr_t, gtr_f, geq_t, geq_f, eqi_t, eqi_f, nei_t, nei_f, rem_uw, conv_ui, conv_iu, conv_ii, not_bool, nil_ptr, fa_mk, ptrV, len_mk, cap_mk, eq_ptr_nil, ne_ptr_nil, eq_nil_nil, ne_nil_nil, eq_slice_nil, eq_nil_slice, ia_1]; exact so_so) ?_)
      exact ⟨os.length - (i + 1), by omega, i + 1, N', st', rfl, rfl, by omega, by omega, by omega, ok', hh6⟩
    have fin : CallH Tryz.prog 5 #[] (fun v57 h7 => v57 = .bool true ∧ (AR a st * (own g * (RA x st * (emp * tt)))) h7) h5 := by
      refine use_told7 hg (F := AR a st * (RA x st * emp)) (asr (by unfold Two; ac_rfl) hh5) fun h7 hh7 => ⟨rfl, asr (by ac_rfl) hh7⟩
    have rest : ∀ h7, (AR a st * (own g * (RA x st * (emp * tt)))) h7 →
      vP (gdW (gB (Value.bool true) true) (some (pB a))) fun v59 =>
      vP (gdW (gB (Value.bool true) true) (some (pB x))) fun v61 =>
      vP (gdW (gB (Value.bool true) true) (nilV v61)) fun v62 =>
      vP (gdW (gB (Value.bool true) true) (faV 1 v62)) fun v63 =>
      vP (gdW (gB (Value.bool true) true) (ld1 v63 h7)) fun v64 =>
      vE (gB (Value.bool true) true) (CallH Tryz.prog 18 #[v59]) (fun v60 h8 =>
      gdW (gB (Value.bool true) true) (ld1 v63 h8) = some v64 ∧ (vE (gB (Value.bool true) true) (CallH Tryz.prog 15 #[v60, v64]) (fun v65 h9 =>
      vP (pickV (Value.bool true) v65 (Value.bool false)) fun v66 =>
      vP (gdW (gB v66 true) (some (pB a))) fun v68 =>
      vP (gdW (gB v66 true) (some (pB x))) fun v70 =>
      vE (gB v66 true) (CallH Tryz.prog 22 #[v68]) (fun v69 h10 =>
      vE (gB v66 true) (CallH Tryz.prog 23 #[v70]) (fun v71 h11 =>
      vE (gB v66 true) (CallH Tryz.prog 15 #[v69, v71]) (fun v72 h12 =>
      vP (pickV v66 v72 (Value.bool false)) fun v73 =>
      vP (gdW (gB v73 true) (some (pB a))) fun v75 =>
      vP (gdW (gB v73 true) (some (pB x))) fun v77 =>
      vE (gB v73 true) (CallH Tryz.prog 19 #[v75]) (fun v76 h13 =>
      vE (gB v73 true) (CallH Tryz.prog 24 #[v77]) (fun v78 h14 =>
      vP (gdW (gB v73 true) (eqV 1 false v76 v78)) fun v79 =>
      vP (pickV v73 v79 (Value.bool false)) fun v80 =>
      vP (gdW (gB v80 true) (some (pB a))) fun v82 =>
      vP (gdW (gB v80 true) (some (pB x))) fun v84 =>
      vP (gdW (gB v80 true) (nilV v84)) fun v85 =>
      vP (gdW (gB v80 true) (faV 0 v85)) fun v86 =>
      vP (gdW (gB v80 true) (ld1 v86 h14)) fun v87 =>
      vE (gB v80 true) (CallH Tryz.prog 11 #[v82]) (fun v83 h15 =>
      gdW (gB v80 true) (ld1 v86 h15) = some v87 ∧ (vE (gB v80 true) (CallH Tryz.prog 25 #[v87]) (fun v88 h16 =>
      vP (gdW (gB v80 true) (eqV 1 false v83 v88)) fun v89 =>
      vP (pickV v80 v89 (Value.bool false)) fun v90 =>
      ((pr (v90 = Value.bool true) * own g) * tt) h16) h15)) h14) h13) h12) h11) h10) h9) h8)) h7 := by
      intro h7 hh7
      obtain ⟨ap, rw', vi, vs, vl, E, wf, ro, hp⟩ := RA_elim (show (RA x st * (AR a st * (own g * (emp * tt)))) h7 from asr (by ac_rfl) hh7)
      have hEN := ro.len_le ok
      have l7 := rao_ld hp
      have hmI : ∀ k, k ∈ E.map (·.num) ↔ (st.sp k).isSome = true := fun k => by
        rw [List.mem_map]
        constructor
        · rintro ⟨e, he, rfl⟩
          rw [(ro.mem _ _).2 ⟨e, he, rfl, rfl⟩]; rfl
        · intro q
          cases hs : st.sp k with
          | none => rw [hs] at q; cases q
          | some s =>
            obtain ⟨e, he, h1, _⟩ := (ro.mem _ _).1 hs
            exact ⟨e, he, h1⟩
      repeat (with_reducible first | refine vP_so ?_ | refine vB_t ?_ | refine vB_f ?_ | refine vE_tt ?_ | refine vE_ff ?_ | refine vE_tf ?_ | refine vE_ft ?_ | refine vE_u ?_ | refine vP_to (by simp (disch := omega) only [gdW_true, gdW_false, gB_true, gB_false, gB_undef, pickV_true, pickV_false, Bool.not_true, Bool.not_false, Option.map_some, bin_add, bin_sub, bin_mul, bin_quo, bin_rem, lss_t, lss_f, leq_t, leq_f, gtr_t, gtr_f, geq_t, geq_f, eqi_t, eqi_f, nei_t, nei_f, rem_uw, conv_ui, conv_iu, conv_ii, not_bool, nil_ptr, fa_mk, ptrV, len_mk, cap_mk, eq_ptr_nil, ne_ptr_nil, eq_nil_nil, ne_nil_nil, eq_slice_nil, eq_nil_slice, ia_1, l7.2.1]; exact so_so) ?_)
      refine use_aspans (F := RAO x ap rw' vi vs vl st.n st.runs E wf * emp) ok ro.rise hmI (by rw [List.length_map]; omega) (by omega) (asr (by ac_rfl) hp) fun v60 h8 hh8 => ?_
      have hp8 : (RAO x ap rw' vi vs vl st.n st.runs E wf * (SG iE 3 v60 (E.map (·.num)) * (AR a st * (own g * (emp * tt))))) h8 := asr (by ac_rfl) hh8
      refine ⟨(rao_ld hp8).2.1, ?_⟩
      obtain ⟨R, hI⟩ := rao_i hp8
      refine use_ints (SG_ints hh8) (SG_ints hI) ?_
      rw [decide_eq_true rfl]
      have hh9 : (RA x st * (SG iE 3 v60 (E.map (·.num)) * (AR a st * (own g * (emp * tt))))) h8 := RA_intro ro hp8
      have hh9 : (AR a st * (own g * (RA x st * emp * tt))) h8 := dropL (P := SG iE 3 v60 (E.map (·.num))) (Q := AR a st * (own g * (RA x st * emp))) (asr (by ac_rfl) hh9) |> asr (by ac_rfl)
      clear hp8 hI hp hh8
      obtain ⟨l, o1, o2, o3⟩ := objs_some ok
      repeat (with_reducible first | refine vP_so ?_ | refine vB_t ?_ | refine vB_f ?_ | refine vE_tt ?_ | refine vE_ff ?_ | refine vE_tf ?_ | refine vE_ft ?_ | refine vE_u ?_ | refine vP_to (by simp (disch := omega) only [gdW_true, gdW_false, gB_true, gB_false, gB_undef, pickV_true, pickV_false, Bool.not_true, Bool.not_false, Option.map_some, bin_add, bin_sub, bin_mul, bin_quo, bin_rem, lss_t, lss_f, leq_t, leq_f, gtr_t, gtr_f, geq_t, geq_f, eqi_t, eqi_f, nei_t, nei_f, rem_uw, conv_ui, conv_iu, conv_ii, not_bool, nil_ptr, fa_mk, ptrV, len_mk, cap_mk, eq_ptr_nil, ne_ptr_nil, eq_nil_nil, ne_nil_nil, eq_slice_nil, eq_nil_slice, ia_1]; exact so_so) ?_)
      refine use_aobjects (l := l) ok o1 o2 (by omega) hh9 fun v69 h10 hh10 => ?_
      refine use_reobjects (F := SG iE 3 v69 l * (AR a st * (own g * emp))) ok (by omega) (asr (by ac_rfl) hh10) fun v71 l2 h11 p1 p2 p3 hh11 => ?_
      obtain rfl : l2 = l := Rise_ext p1 o1 fun y => by rw [p2, o2]
      refine use_ints (SG_ints (E := 3) (l := l2) (F := SG iE 3 v71 l2 * (RA x st * (AR a st * (own g * (emp * tt))))) (asr (by ac_rfl) hh11)) (SG_ints hh11) ?_
      rw [decide_eq_true rfl]
      have hh12 : (AR a st * (own g * (RA x st * emp * tt))) h11 := dropL (P := SG iE 3 v69 l2 * SG iE 3 v71 l2) (Q := AR a st * (own g * (RA x st * emp))) (asr (by ac_rfl) hh11) |> asr (by ac_rfl)
      repeat (with_reducible first | refine vP_so ?_ | refine vB_t ?_ | refine vB_f ?_ | refine vE_tt ?_ | refine vE_ff ?_ | refine vE_tf ?_ | refine vE_ft ?_ | refine vE_u ?_ | refine vP_to (by simp (disch := omega) only [gdW_true, gdW_false, gB_true, gB_false, gB_undef, pickV_true, pickV_false, Bool.not_true, Bool.not_false, Option.map_some, bin_add, bin_sub, bin_mul, bin_quo, bin_rem, lss_t, lss_f, leq_t, leq_f, gtr_t, gtr_f, geq_t, geq_f, eqi_t, eqi_f, nei_t, nei_f, rem_uw, conv_ui, conv_iu, conv_ii, not_bool, nil_ptr, fa_mk, ptrV, len_mk, cap_mk, eq_ptr_nil, ne_ptr_nil, eq_nil_nil, ne_nil_nil, eq_slice_nil, eq_nil_slice, ia_1]; exact so_so) ?_)
      refine use_alive hh12 ?_
      refine use_relive (F := AR a st * (own g * emp)) ok (by omega) (asr (by ac_rfl) hh12) fun h14 hh14 => ?_
      obtain ⟨ap, rw', vi, vs, vl, E, wf, ro, hp⟩ := RA_elim hh14
      have l14 := rao_ld hp
      repeat (with_reducible first | refine vP_so ?_ | refine vB_t ?_ | refine vB_f ?_ | refine vE_tt ?_ | refine vE_ff ?_ | refine vE_tf ?_ | refine vE_ft ?_ | refine vE_u ?_ | refine vP_to (by simp (disch := omega) only [gdW_true, gdW_false, gB_true, gB_false, gB_undef, pickV_true, pickV_false, Bool.not_true, Bool.not_false, Option.map_some, bin_add, bin_sub, bin_mul, bin_quo, bin_rem, lss_t, lss_f, leq_t, leq_f, gtr_t, gtr_f, geq_t, geq_f, eqi_t, eqi_f, nei_t, nei_f, rem_uw, conv_ui, conv_iu, conv_ii, not_bool, nil_ptr, fa_mk, ptrV, len_mk, cap_mk, eq_ptr_nil, ne_ptr_nil, eq_nil_nil, ne_nil_nil, eq_slice_nil, eq_nil_slice, ia_1, eq_refl', l14.1]; exact so_so) ?_)
      refine use_aleft (F := RAO x ap rw' vi vs vl st.n st.runs E wf * emp) ok (asr (by ac_rfl) hp) fun h15 hh15 => ?_
      have hp15 : (RAO x ap rw' vi vs vl st.n st.runs E wf * (AR a st * (own g * (emp * tt)))) h15 := asr (by ac_rfl) hh15
      refine ⟨(rao_ld hp15).1, ?_⟩
      have hFL : (FLs ap st.n st.runs * (pt x (.cells #[pB ap, vi, vs, vl, .map (some rw')] 54 (0, 0)) * (SG iE 3 vi (E.map (·.num)) * (SG pE 80 vs (E.map (·.p)) * (SG sE 22 vl (E.map (·.lv)) * (starL E entA * (MP rw' wf * (AR a st * (own g * (emp * tt)))))))))) h15 := by
        unfold RAO at hp15
        exact asr (by ac_rfl) hp15
      refine use_rleft ok.wf (by have := ok.n; omega) hFL fun h16 hh16 => ?_
      repeat (with_reducible first | refine vP_so ?_ | refine vB_t ?_ | refine vB_f ?_ | refine vE_tt ?_ | refine vE_ff ?_ | refine vE_tf ?_ | refine vE_ft ?_ | refine vE_u ?_ | refine vP_to (by simp (disch := omega) only [gdW_true, gdW_false, gB_true, gB_false, gB_undef, pickV_true, pickV_false, Bool.not_true, Bool.not_false, Option.map_some, bin_add, bin_sub, bin_mul, bin_quo, bin_rem, lss_t, lss_f, leq_t, leq_f, gtr_t, gtr_f, geq_t, geq_f, eqi_t, eqi_f, nei_t, nei_f, rem_uw, conv_ui, conv_iu, conv_ii, not_bool, nil_ptr, fa_mk, ptrV, len_mk, cap_mk, eq_ptr_nil, ne_ptr_nil, eq_nil_nil, ne_nil_nil, eq_slice_nil, eq_nil_slice, ia_1, eq_refl']; exact so_so) ?_)
      refine ret rfl (dropL (P := FLs ap st.n st.runs * (pt x (.cells #[pB ap, vi, vs, vl, .map (some rw')] 54 (0, 0)) * (SG iE 3 vi (E.map (·.num)) * (SG pE 80 vs (E.map (·.p)) * (SG sE 22 vl (E.map (·.lv)) * (starL E entA * (MP rw' wf * AR a st))))))) (Q := own g) (asr (by rw [emp_star]; ac_rfl) hh16))
    by_cases hil1 : i < os.length
    · have hil2 : ¬ i < 60 := fun q => hil ⟨hil1, q⟩
      repeat (with_reducible first | refine vP_so ?_ | refine vB_t ?_ | refine vB_f ?_ | refine vE_tt ?_ | refine vE_ff ?_ | refine vE_tf ?_ | refine vE_ft ?_ | refine vE_u ?_ | refine vP_to (by simp (disch := omega) only [gdW_true, gdW_false, gB_true, gB_false, gB_undef, pickV_true, pickV_false, Bool.not_true, Bool.not_false, Option.map_some, bin_add, bin_sub, bin_mul, bin_quo, bin_rem, lss_t, lss_f, leq_t, leq_f, gtr_t, gtr_f, geq_t, geq_f, eqi_t, eqi_f, nei_t, nei_f, rem_uw, conv_ui, conv_iu, conv_ii, not_bool, nil_ptr, fa_mk, ptrV, len_mk, cap_mk, eq_ptr_nil, ne_ptr_nil, eq_nil_nil, ne_nil_nil, eq_slice_nil, eq_nil_slice, ia_1, hx.len]; exact so_so) ?_)
      exact CallH.mono fin fun v57 h7 ⟨e, q⟩ => by subst e; exact rest h7 q
    · repeat (with_reducible first | refine vP_so ?_ | refine vB_t ?_ | refine vB_f ?_ | refine vE_tt ?_ | refine vE_ff ?_ | refine vE_tf ?_ | refine vE_ft ?_ | refine vE_u ?_ | refine vP_to (by simp (disch := omega) only [gdW_true, gdW_false, gB_true, gB_false, gB_undef, pickV_true, pickV_false, Bool.not_true, Bool.not_false, Option.map_some, bin_add, bin_sub, bin_mul, bin_quo, bin_rem, lss_t, lss_f, leq_t, leq_f, gtr_t, gtr_f, geq_t, geq_f, eqi_t, eqi_f, nei_t, nei_f, rem_uw, conv_ui, conv_iu, conv_ii, not_bool, nil_ptr, fa_mk, ptrV, len_mk, cap_mk, eq_ptr_nil, ne_ptr_nil, eq_nil_nil, ne_nil_nil, eq_slice_nil, eq_nil_slice, ia_1, hx.len]; exact so_so) ?_)
      exact CallH.mono fin fun v57 h7 ⟨e, q⟩ => by subst e; exact rest h7 q
  by_cases c1 : 2048 < w
  · by_cases c2 : w ≤ 16777216
    · repeat (with_reducible first | refine vP_so ?_ | refine vB_t ?_ | refine vB_f ?_ | refine vE_tt ?_ | refine vE_ff ?_ | refine vE_tf ?_ | refine vE_ft ?_ | refine vE_u ?_ | refine vP_to (by simp (disch := omega) only [gdW_true, gdW_false, gB_true, gB_false, gB_undef, pickV_true, pickV_false, Bool.not_true, Bool.not_false, Option.map_some, bin_add, bin_sub, bin_mul, bin_quo, bin_rem, lss_t, lss_f, leq_t, leq_f, gtr_t, gtr_f, geq_t, geq_f, eqi_t, eqi_f, nei_t, nei_f, rem_uw, conv_ui, conv_iu, conv_ii, not_bool, nil_ptr, fa_mk, ptrV, len_mk, cap_mk, eq_ptr_nil, ne_ptr_nil, eq_nil_nil, ne_nil_nil, eq_slice_nil, eq_nil_slice, ia_1]; exact so_so) ?_)
      exact main 2048 (fun _ => by omega)
    · repeat (with_reducible first | refine vP_so ?_ | refine vB_t ?_ | refine vB_f ?_ | refine vE_tt ?_ | refine vE_ff ?_ | refine vE_tf ?_ | refine vE_ft ?_ | refine vE_u ?_ | refine vP_to (by simp (disch := omega) only [gdW_true, gdW_false, gB_true, gB_false, gB_undef, pickV_true, pickV_false, Bool.not_true, Bool.not_false, Option.map_some, bin_add, bin_sub, bin_mul, bin_quo, bin_rem, lss_t, lss_f, leq_t, leq_f, gtr_t, gtr_f, geq_t, geq_f, eqi_t, eqi_f, nei_t, nei_f, rem_uw, conv_ui, conv_iu, conv_ii, not_bool, nil_ptr, fa_mk, ptrV, len_mk, cap_mk, eq_ptr_nil, ne_ptr_nil, eq_nil_nil, ne_nil_nil, eq_slice_nil, eq_nil_slice, ia_1]; exact so_so) ?_)
      exact main w (fun q => by unfold goodW at q; omega)
  · repeat (with_reducible first | refine vP_so ?_ | refine vB_t ?_ | refine vB_f ?_ | refine vE_tt ?_ | refine vE_ff ?_ | refine vE_tf ?_ | refine vE_ft ?_ | refine vE_u ?_ | refine vP_to (by simp (disch := omega) only [gdW_true, gdW_false, gB_true, gB_false, gB_undef, pickV_true, pickV_false, Bool.not_true, Bool.not_false, Option.map_some, bin_add, bin_sub, bin_mul, bin_quo, bin_rem, lss_t, lss_f, leq_t, leq_f, gtr_t, gtr_f, geq_t, geq_f, eqi_t, eqi_f, nei_t, nei_f, rem_uw, conv_ui, conv_iu, conv_ii, not_bool, nil_ptr, fa_mk, ptrV, len_mk, cap_mk, eq_ptr_nil, ne_ptr_nil, eq_nil_nil, ne_nil_nil, eq_slice_nil, eq_nil_slice, ia_1]; exact so_so) ?_)
    exact main w (fun _ => by omega)
end Go.Proofs
