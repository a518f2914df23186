/-
  Texts of the proof, in one file: Ky, Ar4, Ra3, Ra4, Ra5, Ra6, Ra7, Aw, Aw2, Bo.
-/
import Derived.Test.YtampdifeblndfaaGreatDoorB12
import Derived.Test.YtampdifeblndfaaGreatDoorB8
import Derived.Test.YtampdifeblndfaaGreatDoorB9
import Derived.Test.YtampdifeblndfaaGreatDoorB11
import Derived.Test.YtampdifeblndfaaGreatDoorB5
import Derived.Test.YtampdifeblndfaaGreatDoorB4
import Derived.Shelf.SlIterI.Collect
set_option linter.unusedVariables false
set_option linter.unusedSimpArgs false
/-
  slices.Sorted(maps.Keys(m)) at keys that are numbers: the library's own contracts, at memory that is owned.
-/
set_option maxRecDepth 100000
namespace Go.Sl
open Go.RowKit Go.Shelf Go.WideElems
theorem callH_ownS {P : Program} {f : FuncId} {args : Array Value} {K : Value → Hp → Prop} {h : Hp} {E : Nat} {S : List Int → Prop} {F : Asrt} (hF : F h)
    (hc : ∀ (w : World) (fr : Hp), w.hp = h.add fr → Calls P f args w fun e w' => ∃ (v : Value) (xs : List Int), e = .returned v ∧ S xs ∧ w'.ownsRow w.heap.size E 1 v xs.length (xs.map (Value.int .i64)) ∧ Below w.heap.size w w')
    (hK : ∀ v xs h', S xs → (SG iE E v xs * F) h' → K v h') : CallH P f args K h := by
  intro w fr tg d ⟨e, et⟩
  refine (hc w fr e).mono ?_
  rintro e' w' ⟨v, xs, rfl, hS, hrow, hb⟩
  have hkeep : ∀ b o, w.hp b = some o → w'.hp b = some o := fun b o hq => by
    have hlt : b < w.heap.size := (Array.getElem?_eq_some_iff.1 hq).1
    exact (hb.block b hlt).trans hq
  have hh : ∀ b o, h b = some o → w.hp b = some o := fun b o q => by rw [e]; exact Hp.add_of_left q
  have main : ∀ h' : Hp, (∀ b o, h' b = some o → w'.hp b = some o) → (∀ b x, fr b = some x → h' b = none) → K v h' → ∃ v' h'' fr', Ending.returned v = .returned v' ∧ Disj h'' fr' ∧ w'.At tg (h''.add fr') ∧ Grows fr fr' ∧ K v' h'' := fun h' h1 h2 hk => by
    refine ⟨v, h', w'.hp.minus h', rfl, ?_, ⟨?_, ?_⟩, ?_, hk⟩
    · intro b
      rw [Hp.minus_apply]
      cases hq : h' b with
      | none => exact .inl rfl
      | some x => exact .inr (by simp)
    · apply Hp.ext'
      intro b
      rw [Hp.add_apply, Hp.minus_apply]
      cases hq : h' b with
      | none => simp
      | some x => simp [h1 b x hq]
    · rw [hb.os, hb.output, hb.tape]; exact et
    · intro b x hx
      rw [Hp.minus_apply, h2 b x hx]
      simp only [Option.isSome_none, Bool.false_eq_true, if_false]
      refine hkeep b x ?_
      rw [e, Hp.add_apply]
      have hn : h b = none := by
        rcases d b with q | q
        · exact q
        · rw [hx] at q; cases q
      rw [hn]
      simpa using hx
  have hfr : ∀ b x, fr b = some x → h b = none := fun b x hx => by
    rcases d b with q | q
    · exact q
    · rw [hx] at q; cases q
  rcases hrow.2 with ⟨rfl, hn⟩ | ⟨g, cap, cur, rfl, hg, hgb, h1, h2, h3, h4⟩
  · obtain rfl : xs = [] := List.length_eq_zero_iff.1 hn
    exact main h (fun b o q => hkeep b o (hh b o q)) hfr (hK _ _ _ hS (SG_nil iE hF))
  · have hgn : w.hp g = none := by
      show w.heap[g]? = none
      exact Array.getElem?_eq_none hg
    have hng : h g = none := by
      cases hq : h g with
      | none => rfl
      | some x => rw [hh g x hq] at hgn; cases hgn
    have hnf : fr g = none := by
      cases hq : fr g with
      | none => rfl
      | some x =>
        have : w.hp g = some x := by rw [e, Hp.add_apply, hng]; simpa using hq
        rw [this] at hgn; cases hgn
    refine main (h.upd g (.cells cur E (0, 0))) (fun b o q => ?_) (fun b x hx => ?_) (hK _ xs _ hS ?_)
    · by_cases hbg : b = g
      · subst hbg
        rw [Hp.upd_self] at q
        cases q
        exact hgb
      · rw [Hp.upd_ne hbg] at q
        exact hkeep b o (hh b o q)
    · have hbg : b ≠ g := fun q => by rw [q, hnf] at hx; cases hx
      rw [Hp.upd_ne hbg]
      exact hfr b x hx
    · have hcur : cur = ([] ++ (iE.cs xs ++ cur.toList.drop (xs.length * 1))).toArray := by
        apply Array.ext'
        rw [List.nil_append, iE_cs]
        show cur.toList = xs.map _ ++ cur.toList.drop (xs.length * 1)
        rw [← h4, List.take_append_drop]
      have hp := pt_new (o := .cells cur E (0, 0)) hF hng
      have hp : (pt g (.cells ([] ++ (iE.cs xs ++ cur.toList.drop (xs.length * 1))).toArray E (0, 0)) * F) (h.upd g (.cells cur E (0, 0))) := by rw [← hcur]; exact hp
      refine SG_intro iE (pre := []) rfl rfl h1 (by unfold maxLen at h2; omega) ?_ hp
      show (cap - xs.length) * 1 ≤ (cur.toList.drop (xs.length * 1)).length
      have hz : cur.toList.length = cap * 1 := h3
      rw [List.length_drop, hz]
      omega
def anyR : Value → Option (DataW Unit × List MemPlace) := fun _ => some (.nil, [])
def entL (e : Ent) : Lit × DataW Unit := (.int .i64 e.key, .nil)
theorem keyOf_int {P : Program} {k : TypeId} (hk : P.underlying k = some (.int .i64)) {x : Int} (hx : -9223372036854775808 ≤ x ∧ x ≤ 9223372036854775807) : keyOf P k (.int .i64 x) = some (.int .i64 x) := by
  have hw : (Lit.int .i64 x).wf = true := by
    simp only [Lit.wf, Bool.and_eq_true, decide_eq_true_eq]
    exact ⟨hx.1, hx.2⟩
  unfold keyOf
  rw [hk]
  simp only [mapKey, hk, hw]
  simp
theorem owns_of {P : Program} {tk : TypeId} (hk : P.underlying tk = some (.int .i64)) {w : World} {r : Nat} {es : List Ent} {c : Nat} (hb : w.heap[r]? = some (.map (es.map Ent.mk').toArray c)) (hok : MapOk es c)
    (hx : ∀ e ∈ es, -9223372036854775808 ≤ e.key ∧ e.key ≤ 9223372036854775807) (hl : es.length ≤ 1000000) :
    ∃ D : DataW Unit, w.ownsMap P tk anyR r es.length D ∧ (intKeys D).Perm (es.map Ent.key) ∧ Maps.size D = es.length := by
  have hrd : ∀ e ∈ es, rd P tk anyR e.mk' = some (entL e) := fun e he => rd_mk (yv := (.nil, [])) (key := .int .i64 e.key) (val := e.val) (born := e.born) (keyOf_int hk (hx e he)) rfl
  have hmap : (es.map Ent.mk').map (rg P tk anyR) = es.map entL := by
    rw [List.map_map]
    apply List.map_congr_left
    intro e he
    exact rg_of (hrd e he)
  refine ⟨.map ((es.map entL).foldr DataW.insert []), ⟨(es.map Ent.mk').toArray, c, hb, ⟨by simp; unfold maxLen; omega, ⟨?_, ?_, ?_⟩, ?_⟩, by simp, by simp only [List.toList_toArray]; rw [hmap]⟩, ?_, ?_⟩
  · intro x h
    simp only [List.toList_toArray, List.mem_map] at h
    obtain ⟨e, he, rfl⟩ := h
    exact hok.lt e he
  · simp only [List.toList_toArray, List.map_map]
    exact List.pairwise_map.2 (hok.borns.imp fun h => h)
  · simp only [List.toList_toArray, List.map_map]
    refine List.pairwise_map.2 (hok.keys.imp fun {a b} h q => h ?_)
    have : Value.int .i64 a.key = Value.int .i64 b.key := q
    simpa using this
  · intro x h
    simp only [List.toList_toArray, List.mem_map] at h
    obtain ⟨e, he, rfl⟩ := h
    exact ⟨_, hrd e he⟩
  · have h1 : ((es.map entL).foldr DataW.insert []).Perm (es.map entL) := WideShapes.sorted_perm _
    have h2 := h1.map fun p : Lit × DataW Unit => intOf p.1
    rw [List.map_map] at h2
    exact h2
  · have h1 : ((es.map entL).foldr DataW.insert []).Perm (es.map entL) := WideShapes.sorted_perm _
    have := h1.length_eq
    rw [List.length_map] at this
    exact this
end Go.Sl
namespace Go.Proofs
open Go.Sl Go.RowKit Go.Shelf
def keysO_ren : Ren := ⟨fun | 10 => 100 | n => n, fun | 0 => 0 | 4 => 4 | 23 => 61 | 26 => 3 | 3 => 22 | 33 => 31 | n => n, fun | n => n⟩
theorem keysO : SlLaysZI.n10 Tryz.prog keysO_ren where
  mixed := by kernel_rfl
  f10 := ⟨"maps.Keys[map[int][]int,int,[]int]$1", by decide, Tryz.func100.trans (congrArg some (by kernel_rfl))⟩
  t0 := Tryz.underlying0
  a0 := Tryz.isAgg0
  z0 := Tryz.sizeOf0
  v0 := Tryz.zeroValue0
  t4 := Tryz.underlying4
  a4 := Tryz.isAgg4
  z4 := Tryz.sizeOf4
  v4 := Tryz.zeroValue4
  t23 := Tryz.underlying61
  a23 := Tryz.isAgg61
  z23 := Tryz.sizeOf61
  v23 := Tryz.zeroValue61
  t26 := Tryz.underlying3
  a26 := Tryz.isAgg3
  z26 := Tryz.sizeOf3
  v26 := Tryz.zeroValue3
  t33 := Tryz.underlying31
  a33 := Tryz.isAgg31
  z33 := Tryz.sizeOf31
  v33 := Tryz.zeroValue31
def appQ_ren : Ren := ⟨fun | 11 => 110 | n => n, fun | 0 => 0 | 24 => 22 | 26 => 3 | 28 => 73 | 33 => 31 | n => n, fun | n => n⟩
theorem appQ : SlLaysZI.n11 Tryz.prog appQ_ren where
  mixed := by kernel_rfl
  f11 := ⟨"slices.AppendSeq[[]int,int]", by decide, Tryz.func110.trans (congrArg some (by kernel_rfl))⟩
  t0 := Tryz.underlying0
  a0 := Tryz.isAgg0
  z0 := Tryz.sizeOf0
  v0 := Tryz.zeroValue0
  t24 := Tryz.underlying22
  a24 := Tryz.isAgg22
  z24 := Tryz.sizeOf22
  v24 := Tryz.zeroValue22
  t26 := Tryz.underlying3
  a26 := Tryz.isAgg3
  z26 := Tryz.sizeOf3
  v26 := Tryz.zeroValue3
  t28 := Tryz.underlying73
  a28 := Tryz.isAgg73
  z28 := Tryz.sizeOf73
  v28 := Tryz.zeroValue73
  i26 := by kernel_rfl
theorem srt_of_perm {xs ks l : List Int} (hp : xs.Perm ks) (hn : ks.Nodup) (hl : Rise l) (hm : ∀ x, x ∈ l ↔ x ∈ ks) : srt xs = l :=
  Rise_ext (srt_rise (hp.nodup_iff.2 hn)) hl fun x => by rw [srt_mem, hp.mem_iff, hm]
theorem use_keysO {rb : Nat} {f : Int → Option Value} {l : List Int} {F : Asrt} {K : Value → Hp → Prop} {h : Hp} (hl : Rise l) (hm : ∀ k, k ∈ l ↔ (f k).isSome = true) (hbd : ∀ k ∈ l, -9223372036854775808 ≤ k ∧ k ≤ 9223372036854775807) (hlen : l.length ≤ 1000000)
    (hh : (MP rb f * (F * tt)) h) (hK : ∀ v h', (SG iE 3 v l * (MP rb f * (F * tt))) h' → K v h') :
    CallH Tryz.prog 61 #[.map (some rb)] (fun v1 h1 => CallH Tryz.prog 46 #[v1] K h1) h := by
  refine C61 ?_
  unfold D61
  refine vA_new (o := .cells #[.map (some rb)] 61 (0, 0)) (f := ptrV) hh fun r h1 hh1 => ?_
  repeat (with_reducible first | refine vP_so ?_ | refine vB_t ?_ | refine vB_f ?_ | refine vE_tt ?_ | refine vE_ff ?_ | refine vE_tf ?_ | refine vE_ft ?_ | refine vE_u ?_ | refine vP_to (by simp (disch := omega) only [gdW_true, gdW_false, gB_true, gB_false, gB_undef, pickV_true, pickV_false, Bool.not_true, Bool.not_false, Option.map_some, bin_add, bin_sub, bin_mul, bin_quo, bin_rem, lss_t, lss_f, leq_t, leq_f, gtr_t, gtr_f, geq_t, geq_f, eqi_t, eqi_f, nei_t, nei_f, rem_uw, conv_ui, conv_iu, conv_ii, not_bool, nil_ptr, fa_mk, ptrV, len_mk, cap_mk, eq_ptr_nil, ne_ptr_nil, eq_nil_nil, ne_nil_nil, eq_slice_nil, eq_nil_slice, ia_1]; exact so_so) ?_)
  refine C46 ?_
  unfold D46
  refine C88 ?_
  unfold D88
  have hh2 : (MP rb f * (pt r (.cells #[.map (some rb)] 61 (0, 0)) * (F * tt))) h1 := asr (by ac_rfl) hh1
  obtain ⟨es, c, hok, hf, hp⟩ := MP_elim hh2
  have hkeys : ∀ x, x ∈ es.map Ent.key ↔ x ∈ l := fun x => by
    rw [hm, ← hf x, List.mem_map]
    unfold mget
    constructor
    · rintro ⟨e, he, rfl⟩
      cases hq : es.find? (fun q => q.key == e.key) with
      | some q => rfl
      | none => have := List.find?_eq_none.1 hq e he; simp at this
    · intro hs
      cases hq : es.find? (fun q => q.key == x) with
      | none => rw [hq] at hs; cases hs
      | some q =>
        have h1 := List.find?_some hq
        exact ⟨q, List.mem_of_find?_eq_some hq, by simpa using h1⟩
  have hnd : (es.map Ent.key).Nodup := List.pairwise_map.2 hok.keys
  have hlk : es.length ≤ 1000000 := by
    have h1 : (es.map Ent.key).Perm l := (List.perm_ext_iff_of_nodup hnd (hl.imp fun h => by omega)).2 hkeys
    have := h1.length_eq
    rw [List.length_map] at this
    omega
  refine callH_ownS (E := 3) (S := fun xs => xs.Perm (es.map Ent.key)) hh2 (fun w fr e => ?_) fun v xs h2 hS hh3 => ?_
  · have hbm : w.heap[rb]? = some (.map (es.map Ent.mk').toArray c) := by
      have : w.hp rb = some (.map (es.map Ent.mk').toArray c) := by rw [e]; exact Hp.add_of_left (pt_get hp)
      exact this
    have hbr : w.heap[r]? = some (.cells #[.map (some rb)] 61 (0, 0)) := by
      have : w.hp r = some (.cells #[.map (some rb)] 61 (0, 0)) := by rw [e]; exact Hp.add_of_left (pt_get hh1)
      exact this
    have hcr : w.cell? ⟨r, 0, none⟩ = some (.map (some rb)) := by
      rw [cell?_hp]
      unfold Hp.cell
      have : w.hp r = some (.cells #[.map (some rb)] 61 (0, 0)) := hbr
      simp only [this, Option.bind_some]
      rfl
    obtain ⟨D, hown, hperm, hsize⟩ := owns_of (P := Tryz.prog) (tk := 3) Tryz.underlying3 hbm hok (fun x hx => hbd _ ((hkeys _).1 (List.mem_map_of_mem hx))) hlk
    have hg := AnyZI.keys_gives keysO Fence.wide 1 trivial rfl (Nat.le_refl 1) r rb es.length D (R := anyR) w (Array.getElem?_eq_some_iff.1 hbr).1 hcr hown
    refine (callsIn_wide.1 (AnyZI.appendSeq_in appQ Fence.wide 2 trivial rfl (Nat.le_refl 2) 100 #[.pointer (some ⟨r, 0, none⟩)] trivial (enters_of Tryz.func100 (by kernel_rfl) rfl) _ (Maps.size D) (by rw [hsize]; unfold maxLen; omega) (by rw [hsize]; omega) w hg)).mono ?_
    rintro e' w' ⟨v, ss, rfl, hS, hrow, _, hb⟩
    exact ⟨v, ss, rfl, hS.trans hperm, hrow, hb⟩
  · have hxl : xs.length ≤ 1000000 := by rw [hS.length_eq, List.length_map]; exact hlk
    refine use_sort sortC (by omega) hh3 fun h4 hh4 => ?_
    rw [srt_of_perm hS hnd hl fun x => (hkeys x).symm] at hh4
    exact hK v h4 (dropL (P := pt r (.cells #[.map (some rb)] 61 (0, 0))) (Q := SG iE 3 v l * (MP rb f * F)) (asr (by ac_rfl) hh4) |> asr (by ac_rfl))
end Go.Proofs

/-
  Objects, in order; what is told of a few.
-/
set_option maxRecDepth 100000
set_option maxHeartbeats 1000000
namespace Go.Proofs
open Go.Sl
theorem ob_bd {st : Ar} {N : Nat} (ok : AOk st N) {a : Int} (h : (st.ob a).isSome = true) : 64 ≤ a ∧ a ≤ 16800000 := by
  obtain ⟨id, s, i, e, h1, rfl⟩ := (ok.ob a).1 h
  have := addr_bd (ok.sp id s e).2.2.1 (List.getElem?_eq_some_iff.1 h1).1
  omega
theorem use_aobjects {g : Hp} {a : Nat} {st : Ar} {N : Nat} {l : List Int} (ok : AOk st N) (hl : Rise l) (hm : ∀ k, k ∈ l ↔ (st.ob k).isSome = true) (hlen : l.length ≤ 1000000) {F : Asrt} {K : Value → Hp → Prop} {h : Hp} (hh : (AR a st * (own g * (F * tt))) h)
    (hK : ∀ v h', (SG iE 3 v l * (AR a st * (own g * (F * tt)))) h' → K v h') : CallH Tryz.prog 22 #[pB a] K h := by
  refine C22 ?_
  unfold D22
  obtain ⟨ap, rs, ro, rb, hp⟩ := AR_elim hh
  have l1 := ar_ld hp
  obtain ⟨f, H, e1, hq, c1⟩ := MPO_map (show (MPO rb obA st.ob * (pt a (.cells #[pv ap, .map (some rs), .map (some ro), .map (some rb), .int .i64 st.live] 63 (0, 0)) * (PG ap st.n st.runs * (MPO rs spA st.sp * (MP ro (owF st.ow) * (own g * (F * tt))))))) h from asr (by ac_rfl) hp)
  repeat (with_reducible first | refine vP_so ?_ | refine vB_t ?_ | refine vB_f ?_ | refine vE_tt ?_ | refine vE_ff ?_ | refine vE_tf ?_ | refine vE_ft ?_ | refine vE_u ?_ | refine vP_to (by simp (disch := omega) only [gdW_true, gdW_false, gB_true, gB_false, gB_undef, pickV_true, pickV_false, Bool.not_true, Bool.not_false, Option.map_some, bin_add, bin_sub, bin_mul, bin_quo, bin_rem, lss_t, lss_f, leq_t, leq_f, gtr_t, gtr_f, geq_t, geq_f, eqi_t, eqi_f, nei_t, nei_f, rem_uw, conv_ui, conv_iu, conv_ii, not_bool, nil_ptr, fa_mk, ptrV, len_mk, cap_mk, eq_ptr_nil, ne_ptr_nil, eq_nil_nil, ne_nil_nil, eq_slice_nil, eq_nil_slice, ia_1, nilP, l1.2.2.2.1]; exact so_so) ?_)
  refine use_keysO (l := l) (F := H * (pt a (.cells #[pv ap, .map (some rs), .map (some ro), .map (some rb), .int .i64 st.live] 63 (0, 0)) * (PG ap st.n st.runs * (MPO rs spA st.sp * (MP ro (owF st.ow) * (own g * F)))))) hl (fun k => by rw [hm, e1]) (fun k hk => by have := ob_bd ok ((hm k).1 hk); omega) hlen (asr (by ac_rfl) hq) fun v h1 hh1 => ?_
  have hh2 := c1 (SG iE 3 v l * (pt a (.cells #[pv ap, .map (some rs), .map (some ro), .map (some rb), .int .i64 st.live] 63 (0, 0)) * (PG ap st.n st.runs * (MPO rs spA st.sp * (MP ro (owF st.ow) * (own g * (F * tt))))))) h1 (asr (by ac_rfl) hh1)
  have hh3 : (AR a st * (SG iE 3 v l * (own g * (F * tt)))) h1 := AR_intro (asr (by ac_rfl) hh2)
  exact hK v h1 (asr (by ac_rfl) hh3)
theorem least0 : Least (fun _ => none) 0 := ⟨by omega, rfl, fun j h1 h2 => by omega⟩
theorem first_span {n : Int} (hn : 6 ≤ n ∧ n ≤ 262144 ∨ n = 4) {k : Int} {st' : Ar} {id : Int} {b : Run} (hk : 0 ≤ k ∧ k < 16) (r : SpanR (newAr n) k st' id b) : b.1 = 1 ∧ id = 0 := by
  have hm := r.mem
  have e : newL n = [(1, n - 1)] := by
    unfold newL
    have e : newN n = n := by unfold newN; omega
    rw [e, if_pos (by omega)]
  have hm : b ∈ newL n := hm
  rw [e, List.mem_singleton] at hm
  exact ⟨by rw [hm], Least_uniq r.lst least0⟩
theorem new_room {n : Int} (hn : 6 ≤ n ∧ n ≤ 262144 ∨ n = 4) : (1, n - 1) ∈ (newAr n).runs := by
  have e : newL n = [(1, n - 1)] := by
    unfold newL
    have e : newN n = n := by unfold newN; omega
    rw [e, if_pos (by omega)]
  show (1, n - 1) ∈ newL n
  rw [e]; simp
theorem use_told7 {g : Hp} (hg : TabG 0 g) {F : Asrt} {K : Value → Hp → Prop} {h : Hp} (hh : (own g * (F * tt)) h) (hK : ∀ h', (own g * (F * tt)) h' → K (.bool true) h') : CallH Tryz.prog 5 #[] K h := by
  refine C5 ?_
  unfold D5
  refine use_anew (w := 256) (F := own g * F) (asr (by ac_rfl) hh) (fun hb => (hb (by unfold goodW; omega)).elim) fun a h1 _ hh1 => ?_
  repeat (with_reducible first | refine vP_so ?_ | refine vB_t ?_ | refine vB_f ?_ | refine vE_tt ?_ | refine vE_ff ?_ | refine vE_tf ?_ | refine vE_ft ?_ | refine vE_u ?_ | refine vP_to (by simp (disch := omega) only [gdW_true, gdW_false, gB_true, gB_false, gB_undef, pickV_true, pickV_false, Bool.not_true, Bool.not_false, Option.map_some, bin_add, bin_sub, bin_mul, bin_quo, bin_rem, lss_t, lss_f, leq_t, leq_f, gtr_t, gtr_f, geq_t, geq_f, eqi_t, eqi_f, nei_t, nei_f, rem_uw, conv_ui, conv_iu, conv_ii, not_bool, nil_ptr, fa_mk, ptrV, len_mk, cap_mk, eq_ptr_nil, ne_ptr_nil, eq_nil_nil, ne_nil_nil, eq_slice_nil, eq_nil_slice, ia_1, exT0, exT1]; exact so_so) ?_)
  refine use_anew (w := 255) (F := AR a (newAr (256 / 64)) * (own g * F)) (asr (by ac_rfl) hh1) (fun _ => ?_) fun a' h2 hb _ => (by unfold goodW at hb; omega)
  have z : eqV 1 true (.int .i64 0) (.int .i64 0) = some (.bool false) := rfl
  have z2 : eqV 1 true (.int .i64 1) (.int .i64 1) = some (.bool false) := rfl
  repeat (with_reducible first | refine vP_so ?_ | refine vB_t ?_ | refine vB_f ?_ | refine vE_tt ?_ | refine vE_ff ?_ | refine vE_tf ?_ | refine vE_ft ?_ | refine vE_u ?_ | refine vP_to (by simp (disch := omega) only [gdW_true, gdW_false, gB_true, gB_false, gB_undef, pickV_true, pickV_false, Bool.not_true, Bool.not_false, Option.map_some, bin_add, bin_sub, bin_mul, bin_quo, bin_rem, lss_t, lss_f, leq_t, leq_f, gtr_t, gtr_f, geq_t, geq_f, eqi_t, eqi_f, nei_t, nei_f, rem_uw, conv_ui, conv_iu, conv_ii, not_bool, nil_ptr, fa_mk, ptrV, len_mk, cap_mk, eq_ptr_nil, ne_ptr_nil, eq_nil_nil, ne_nil_nil, eq_slice_nil, eq_nil_slice, ia_1, exT0, exT1, z, z2, nilP]; exact so_so) ?_)
  have e4 : (256 : Int) / 64 = 4 := by decide
  rw [e4] at hh1
  have hh1 : (AR a (newAr 4) * (own g * (F * tt))) h1 := asr (by ac_rfl) hh1
  have ok0 := newAr_ok (n := 4) (by omega)
  refine use_aspan (k := 0) ok0 (by omega) hh1 (fun _ hb _ => (hb (by omega)).elim) (fun _ _ hno _ => ?_) fun st1 id b h3 hk r hh3 => ?_
  · have := hno _ (new_room (.inr rfl))
    have : pgS 0 = 1 := by decide
    simp only at *
    omega
  obtain ⟨hb1, rfl⟩ := first_span (.inr rfl) hk r
  have ok1 := r.ok ok0 hk
  have hsp : st1.sp 0 = some (newSp 1 0) := by rw [r.sp, fput_eq, hb1]
  repeat (with_reducible first | refine vP_so ?_ | refine vB_t ?_ | refine vB_f ?_ | refine vE_tt ?_ | refine vE_ff ?_ | refine vE_tf ?_ | refine vE_ft ?_ | refine vE_u ?_ | refine vP_to (by simp (disch := omega) only [gdW_true, gdW_false, gB_true, gB_false, gB_undef, pickV_true, pickV_false, Bool.not_true, Bool.not_false, Option.map_some, bin_add, bin_sub, bin_mul, bin_quo, bin_rem, lss_t, lss_f, leq_t, leq_f, gtr_t, gtr_f, geq_t, geq_f, eqi_t, eqi_f, nei_t, nei_f, rem_uw, conv_ui, conv_iu, conv_ii, not_bool, nil_ptr, fa_mk, ptrV, len_mk, cap_mk, eq_ptr_nil, ne_ptr_nil, eq_nil_nil, ne_nil_nil, eq_slice_nil, eq_nil_slice, ia_1, exV0, exV1]; exact so_so) ?_)
  have hff : ff (newSp 1 0).used = some 0 := ff_new (by decide)
  refine use_aalloc (id := 0) (n := 1) (black := true) hg ok1 (by omega) hh3 (fun e => ?_) (fun s _ e hb _ => ?_) (fun s _ e _ hf _ => ?_) fun s i h4 e hn hf hh4 => ?_
  · rw [hsp] at e; cases e
  · rw [hsp] at e; obtain rfl := Option.some.inj e; exact (hb (by decide)).elim
  · rw [hsp] at e; obtain rfl := Option.some.inj e; rw [hff] at hf; cases hf
  rw [hsp] at e
  obtain rfl := Option.some.inj e
  rw [hff] at hf
  obtain rfl := Option.some.inj hf
  have ok2 := put_ok (black := true) (n := 1) ok1 hsp hff (by decide)
  have ea : (newSp 1 0).addr 0 = 64 := by decide
  have e1 : (1 : Int).toNat = 1 := rfl
  rw [e1] at hh4
  rw [ea]
  generalize hst : st1.put 0 (newSp 1 0) 0 1 true = st2 at *
  have hob : st2.ob 64 = some [0] := by rw [← hst]; show fput st1.ob ((newSp 1 0).addr 0) (List.replicate 1 0) 64 = _; rw [ea, fput_eq]; rfl
  repeat (with_reducible first | refine vP_so ?_ | refine vB_t ?_ | refine vB_f ?_ | refine vE_tt ?_ | refine vE_ff ?_ | refine vE_tf ?_ | refine vE_ft ?_ | refine vE_u ?_ | refine vP_to (by simp (disch := omega) only [gdW_true, gdW_false, gB_true, gB_false, gB_undef, pickV_true, pickV_false, Bool.not_true, Bool.not_false, Option.map_some, bin_add, bin_sub, bin_mul, bin_quo, bin_rem, lss_t, lss_f, leq_t, leq_f, gtr_t, gtr_f, geq_t, geq_f, eqi_t, eqi_f, nei_t, nei_f, rem_uw, conv_ui, conv_iu, conv_ii, not_bool, nil_ptr, fa_mk, ptrV, len_mk, cap_mk, eq_ptr_nil, ne_ptr_nil, eq_nil_nil, ne_nil_nil, eq_slice_nil, eq_nil_slice, ia_1, exV0, exV1]; exact so_so) ?_)
  refine use_astore (x := 64) (i := 0) (v := 7) hh4 (fun e => by rw [hob] at e; cases e) (fun l e ho => ?_) fun l c h5 e _ hc hh5 => ?_
  · rw [hob] at e; obtain rfl := Option.some.inj e; exact (ho (by simp)).elim
  rw [hob] at e
  obtain rfl := Option.some.inj e
  have ok3 := store_ok ok2 (a := 64) (l' := [0].set (0 : Int).toNat 7) hob (by simp)
  generalize hst3 : ({ st2 with ob := fput st2.ob 64 ([0].set (0 : Int).toNat 7) } : Ar) = st3 at *
  have hob3 : st3.ob 64 = some [7] := by rw [← hst3]; show fput st2.ob 64 _ 64 = _; rw [fput_eq]; rfl
  have hsp3 : st3.sp 0 = some ((newSp 1 0).take 0 true) := by rw [← hst3]; show st2.sp 0 = _; rw [← hst]; show fput st1.sp 0 _ 0 = _; rw [fput_eq]
  have hlive : st3.live = 1 := by
    rw [← hst3]; show st2.live = 1; rw [← hst]; show st1.live + szS (newSp 1 0).cls = 1; rw [r.live]; rfl
  have hleft : leftS st3.runs = 2 := by
    rw [← hst3]; show leftS st2.runs = 2; rw [← hst]; show leftS st1.runs = 2; rw [r.left]; rfl
  repeat (with_reducible first | refine vP_so ?_ | refine vB_t ?_ | refine vB_f ?_ | refine vE_tt ?_ | refine vE_ff ?_ | refine vE_tf ?_ | refine vE_ft ?_ | refine vE_u ?_ | refine vP_to (by simp (disch := omega) only [gdW_true, gdW_false, gB_true, gB_false, gB_undef, pickV_true, pickV_false, Bool.not_true, Bool.not_false, Option.map_some, bin_add, bin_sub, bin_mul, bin_quo, bin_rem, lss_t, lss_f, leq_t, leq_f, gtr_t, gtr_f, geq_t, geq_f, eqi_t, eqi_f, nei_t, nei_f, rem_uw, conv_ui, conv_iu, conv_ii, not_bool, nil_ptr, fa_mk, ptrV, len_mk, cap_mk, eq_ptr_nil, ne_ptr_nil, eq_nil_nil, ne_nil_nil, eq_slice_nil, eq_nil_slice, ia_1]; exact so_so) ?_)
  refine use_aload (x := 64) (i := 0) hh5 (fun e => by rw [hob3] at e; cases e) (fun l e ho => ?_) fun l c e _ hc => ?_
  · rw [hob3] at e; obtain rfl := Option.some.inj e; exact (ho (by simp)).elim
  rw [hob3] at e
  obtain rfl := Option.some.inj e
  obtain rfl : c = 7 := by have : some (7 : Int) = some c := hc; exact (Option.some.inj this).symm
  repeat (with_reducible first | refine vP_so ?_ | refine vB_t ?_ | refine vB_f ?_ | refine vE_tt ?_ | refine vE_ff ?_ | refine vE_tf ?_ | refine vE_ft ?_ | refine vE_u ?_ | refine vP_to (by simp (disch := omega) only [gdW_true, gdW_false, gB_true, gB_false, gB_undef, pickV_true, pickV_false, Bool.not_true, Bool.not_false, Option.map_some, bin_add, bin_sub, bin_mul, bin_quo, bin_rem, lss_t, lss_f, leq_t, leq_f, gtr_t, gtr_f, geq_t, geq_f, eqi_t, eqi_f, nei_t, nei_f, rem_uw, conv_ui, conv_iu, conv_ii, not_bool, nil_ptr, fa_mk, ptrV, len_mk, cap_mk, eq_ptr_nil, ne_ptr_nil, eq_nil_nil, ne_nil_nil, eq_slice_nil, eq_nil_slice, ia_1, exV0, exV1]; exact so_so) ?_)
  refine use_aload (x := 64) (i := 1) hh5 (fun e => by rw [hob3] at e; cases e) (fun l e ho => ?_) fun l c e h0 hc => ?_
  rotate_left
  · rw [hob3] at e; obtain rfl := Option.some.inj e; have : ([7] : List Int)[1]? = some c := hc; simp at this
  have zz : eqV 1 false (.int .i64 0) (.int .i64 0) = some (.bool true) := rfl
  have z64 : eqV 1 false (.int .i64 64) (.int .i64 64) = some (.bool true) := rfl
  have z7 : eqV 1 false (.int .i64 7) (.int .i64 7) = some (.bool true) := rfl
  have z22 : eqV 1 false (.int .i64 2) (.int .i64 2) = some (.bool true) := rfl
  have z11 : eqV 1 false (.int .i64 1) (.int .i64 1) = some (.bool true) := rfl
  repeat (with_reducible first | refine vP_so ?_ | refine vB_t ?_ | refine vB_f ?_ | refine vE_tt ?_ | refine vE_ff ?_ | refine vE_tf ?_ | refine vE_ft ?_ | refine vE_u ?_ | refine vP_to (by simp (disch := omega) only [gdW_true, gdW_false, gB_true, gB_false, gB_undef, pickV_true, pickV_false, Bool.not_true, Bool.not_false, Option.map_some, bin_add, bin_sub, bin_mul, bin_quo, bin_rem, lss_t, lss_f, leq_t, leq_f, gtr_t, gtr_f, geq_t, geq_f, eqi_t, eqi_f, nei_t, nei_f, rem_uw, conv_ui, conv_iu, conv_ii, not_bool, nil_ptr, fa_mk, ptrV, len_mk, cap_mk, eq_ptr_nil, ne_ptr_nil, eq_nil_nil, ne_nil_nil, eq_slice_nil, eq_nil_slice, ia_1, exV0, exV1, zz, z64, z7, z22]; exact so_so) ?_)
  have huse : ((newSp 1 0).take 0 true).used[0]? = some true := by decide
  refine use_amarked ok3 hh5 (fun _ e _ => by rw [hob3] at e; cases e) fun id s i h6 e h1' h2' hh6 => ?_
  obtain ⟨rfl, rfl⟩ := addr_inj ok3 e hsp3 (List.getElem?_eq_some_iff.1 h1').1 (i' := 0) (by decide) (by rw [← h2']; rfl)
  rw [hsp3] at e
  obtain rfl := Option.some.inj e
  have hmk : hasB ((newSp 1 0).take 0 true).marks ((0 : Nat) : Int) = true := by decide
  rw [hmk]
  repeat (with_reducible first | refine vP_so ?_ | refine vB_t ?_ | refine vB_f ?_ | refine vE_tt ?_ | refine vE_ff ?_ | refine vE_tf ?_ | refine vE_ft ?_ | refine vE_u ?_ | refine vP_to (by simp (disch := omega) only [gdW_true, gdW_false, gB_true, gB_false, gB_undef, pickV_true, pickV_false, Bool.not_true, Bool.not_false, Option.map_some, bin_add, bin_sub, bin_mul, bin_quo, bin_rem, lss_t, lss_f, leq_t, leq_f, gtr_t, gtr_f, geq_t, geq_f, eqi_t, eqi_f, nei_t, nei_f, rem_uw, conv_ui, conv_iu, conv_ii, not_bool, nil_ptr, fa_mk, ptrV, len_mk, cap_mk, eq_ptr_nil, ne_ptr_nil, eq_nil_nil, ne_nil_nil, eq_slice_nil, eq_nil_slice, ia_1]; exact so_so) ?_)
  refine use_amark ok3 hh6 (fun _ e _ => by rw [hob3] at e; cases e) fun id s i h7 e h1' h2' hh7 => ?_
  obtain ⟨rfl, rfl⟩ := addr_inj ok3 e hsp3 (List.getElem?_eq_some_iff.1 h1').1 (i' := 0) (by decide) (by rw [← h2']; rfl)
  rw [hsp3] at e
  obtain rfl := Option.some.inj e
  have ok4 := mark_ok ok3 hsp3 huse
  rw [hmk]
  repeat (with_reducible first | refine vP_so ?_ | refine vB_t ?_ | refine vB_f ?_ | refine vE_tt ?_ | refine vE_ff ?_ | refine vE_tf ?_ | refine vE_ft ?_ | refine vE_u ?_ | refine vP_to (by simp (disch := omega) only [gdW_true, gdW_false, gB_true, gB_false, gB_undef, pickV_true, pickV_false, Bool.not_true, Bool.not_false, Option.map_some, bin_add, bin_sub, bin_mul, bin_quo, bin_rem, lss_t, lss_f, leq_t, leq_f, gtr_t, gtr_f, geq_t, geq_f, eqi_t, eqi_f, nei_t, nei_f, rem_uw, conv_ui, conv_iu, conv_ii, not_bool, nil_ptr, fa_mk, ptrV, len_mk, cap_mk, eq_ptr_nil, ne_ptr_nil, eq_nil_nil, ne_nil_nil, eq_slice_nil, eq_nil_slice, ia_1]; exact so_so) ?_)
  refine use_alive hh7 ?_
  have hl4 : ({ st3 with sp := fput st3.sp 0 (((newSp 1 0).take 0 true).mark 0) } : Ar).live = 1 := hlive
  rw [hl4]
  repeat (with_reducible first | refine vP_so ?_ | refine vB_t ?_ | refine vB_f ?_ | refine vE_tt ?_ | refine vE_ff ?_ | refine vE_tf ?_ | refine vE_ft ?_ | refine vE_u ?_ | refine vP_to (by simp (disch := omega) only [gdW_true, gdW_false, gB_true, gB_false, gB_undef, pickV_true, pickV_false, Bool.not_true, Bool.not_false, Option.map_some, bin_add, bin_sub, bin_mul, bin_quo, bin_rem, lss_t, lss_f, leq_t, leq_f, gtr_t, gtr_f, geq_t, geq_f, eqi_t, eqi_f, nei_t, nei_f, rem_uw, conv_ui, conv_iu, conv_ii, not_bool, nil_ptr, fa_mk, ptrV, len_mk, cap_mk, eq_ptr_nil, ne_ptr_nil, eq_nil_nil, ne_nil_nil, eq_slice_nil, eq_nil_slice, ia_1, z11]; exact so_so) ?_)
  refine use_aleft ok4 hh7 fun h8 hh8 => ?_
  have hl5 : leftS ({ st3 with sp := fput st3.sp 0 (((newSp 1 0).take 0 true).mark 0) } : Ar).runs = 2 := hleft
  rw [hl5]
  repeat (with_reducible first | refine vP_so ?_ | refine vB_t ?_ | refine vB_f ?_ | refine vE_tt ?_ | refine vE_ff ?_ | refine vE_tf ?_ | refine vE_ft ?_ | refine vE_u ?_ | refine vP_to (by simp (disch := omega) only [gdW_true, gdW_false, gB_true, gB_false, gB_undef, pickV_true, pickV_false, Bool.not_true, Bool.not_false, Option.map_some, bin_add, bin_sub, bin_mul, bin_quo, bin_rem, lss_t, lss_f, leq_t, leq_f, gtr_t, gtr_f, geq_t, geq_f, eqi_t, eqi_f, nei_t, nei_f, rem_uw, conv_ui, conv_iu, conv_ii, not_bool, nil_ptr, fa_mk, ptrV, len_mk, cap_mk, eq_ptr_nil, ne_ptr_nil, eq_nil_nil, ne_nil_nil, eq_slice_nil, eq_nil_slice, ia_1, z22]; exact so_so) ?_)
  exact hK h8 (dropL (P := AR a _) (Q := own g * F) (asr (by ac_rfl) hh8) |> asr (by ac_rfl))
end Go.Proofs

/-
  Contracts of the document's own arena: Store, Mark, Marked, Sweep, Live, Objects.
-/
set_option maxRecDepth 100000
set_option maxHeartbeats 1000000
namespace Go.Proofs
open Go.Sl
variable {a ap rw : Nat} {vi vs vl : Value} {n : Nat} {runs : List Run} {E : List REnt} {wf : Int → Option Value}
theorem words_apart {st : Ar} {N : Nat} (ok : AOk st N) {x y : Int} {l m : List Int} {j k : Nat} (hx : st.ob x = some l) (hy : st.ob y = some m) (hj : j < l.length) (hk : k < m.length) (e : x + j = y + k) : x = y ∧ j = k := by
  obtain ⟨id, s, i, e1, u1, rfl⟩ := (ok.ob x).1 (by rw [hx]; rfl)
  obtain ⟨id', s', i', e2, u2, rfl⟩ := (ok.ob y).1 (by rw [hy]; rfl)
  have l1 := ok.ol id s i l e1 u1 hx
  have l2 := ok.ol id' s' i' m e2 u2 hy
  have o1 := (ok.sp id s e1).2.2.1
  have o2 := (ok.sp id' s' e2).2.2.1
  have b1 := addr_bd o1 (List.getElem?_eq_some_iff.1 u1).1
  have b2 := addr_bd o2 (List.getElem?_eq_some_iff.1 u2).1
  have z1 := szS_pos o1.cls
  unfold Sp.addr at e ⊢
  have w1 := (ok.pg id s ((s.first * 64 + (i : Int) * szS s.cls + j) / 64) e1 (by omega) (by omega)).2
  have w2 := (ok.pg id' s' ((s'.first * 64 + (i' : Int) * szS s'.cls + k) / 64) e2 (by omega) (by omega)).2
  rw [e, w2] at w1
  obtain rfl : id' = id := Option.some.inj w1
  rw [e1] at e2
  obtain rfl : s = s' := Option.some.inj e2
  have hii : i = i' := by
    rcases Nat.lt_trichotomy i i' with q | q | q
    · have : ((i : Int) + 1) * szS s.cls ≤ (i' : Int) * szS s.cls := Int.mul_le_mul_of_nonneg_right (by omega) (by omega)
      rw [Int.add_mul, Int.one_mul] at this
      omega
    · exact q
    · have : ((i' : Int) + 1) * szS s.cls ≤ (i : Int) * szS s.cls := Int.mul_le_mul_of_nonneg_right (by omega) (by omega)
      rw [Int.add_mul, Int.one_mul] at this
      omega
  subst hii
  exact ⟨rfl, by omega⟩
theorem rao_w {F : Asrt} {h : Hp} (hh : (RAO a ap rw vi vs vl n runs E wf * F) h) : (MP rw wf * (pt a (.cells #[pB ap, vi, vs, vl, .map (some rw)] 54 (0, 0)) * (FLs ap n runs * (SG iE 3 vi (E.map (·.num)) * (SG pE 80 vs (E.map (·.p)) * (SG sE 22 vl (E.map (·.lv)) * (starL E entA * F))))))) h := by
  unfold RAO at hh
  exact asr (by ac_rfl) hh
theorem rao_w' {F : Asrt} {h : Hp} {wf' : Int → Option Value} (hh : (MP rw wf' * (pt a (.cells #[pB ap, vi, vs, vl, .map (some rw)] 54 (0, 0)) * (FLs ap n runs * (SG iE 3 vi (E.map (·.num)) * (SG pE 80 vs (E.map (·.p)) * (SG sE 22 vl (E.map (·.lv)) * (starL E entA * F))))))) h) : (RAO a ap rw vi vs vl n runs E wf' * F) h := by
  unfold RAO
  exact asr (by ac_rfl) hh
theorem ROk.store {st : Ar} {N : Nat} (ok : AOk st N) (ro : ROk st E wf) {x : Int} {l : List Int} {i : Nat} {v : Int} (hx : st.ob x = some l) (hi : i < l.length) : ROk { st with ob := fput st.ob x (l.set i v) } E (fput wf (x + i) (.int .i64 v)) := by
  refine ⟨ro.rise, ro.mem, ro.len, fun e he j m hu ho => ?_, fun y m j c hy hj => ?_⟩
  · have ho : fput st.ob x (l.set i v) (e.s.addr j) = some m := ho
    by_cases hxe : e.s.addr j = x
    · rw [hxe, fput_eq] at ho
      obtain rfl := Option.some.inj ho
      rw [List.length_set]
      exact ro.val e he j l hu (hxe ▸ hx)
    · rw [fput_ne hxe] at ho
      exact ro.val e he j m hu ho
  · have hy : fput st.ob x (l.set i v) y = some m := hy
    by_cases hxy : y = x
    · subst hxy
      rw [fput_eq] at hy
      obtain rfl := Option.some.inj hy
      by_cases hij : j = i
      · subst hij
        rw [List.getElem?_set_self hi] at hj
        obtain rfl := Option.some.inj hj
        rw [fput_eq]
      · rw [List.getElem?_set_ne (fun q => hij q.symm)] at hj
        rw [fput_ne (by omega)]
        exact ro.words y l j c hx hj
    · rw [fput_ne hxy] at hy
      have hjl := (List.getElem?_eq_some_iff.1 hj).1
      rw [fput_ne (fun q => hxy (words_apart ok hy hx hjl hi q).1)]
      exact ro.words y m j c hy hj
theorem use_restore {st : Ar} {N : Nat} {x i v : Int} (ok : AOk st N) {F : Asrt} {K : Value → Hp → Prop} {h : Hp} (hh : (RA a st * (F * tt)) h)
    (hnone : ∀ h', st.ob x = none → (RA a st * (F * tt)) h' → K (.int .i64 4) h') (hout : ∀ l h', st.ob x = some l → ¬ (0 ≤ i ∧ i < l.length) → (RA a st * (F * tt)) h' → K (.int .i64 2) h')
    (hK : ∀ l c h', st.ob x = some l → 0 ≤ i → l[i.toNat]? = some c → (RA a { st with ob := fput st.ob x (l.set i.toNat v) } * (F * tt)) h' → K (.int .i64 0) h') : CallH Tryz.prog 52 #[pB a, .int .i64 x, .int .i64 i, .int .i64 v] K h := by
  refine C52 ?_
  unfold D52
  refine use_reload (x := x) (i := i) ok hh (fun h1 ho hh1 => ?_) (fun l h1 ho hb hh1 => ?_) fun l c h1 ho h0 hc hh1 => ?_
  · repeat (with_reducible first | refine vP_so ?_ | refine vB_t ?_ | refine vB_f ?_ | refine vE_tt ?_ | refine vE_ff ?_ | refine vE_tf ?_ | refine vE_ft ?_ | refine vE_u ?_ | refine vP_to (by simp (disch := omega) only [gdW_true, gdW_false, gB_true, gB_false, gB_undef, pickV_true, pickV_false, Bool.not_true, Bool.not_false, Option.map_some, bin_add, bin_sub, bin_mul, bin_quo, bin_rem, lss_t, lss_f, leq_t, leq_f, gtr_t, gtr_f, geq_t, geq_f, eqi_t, eqi_f, nei_t, nei_f, rem_uw, conv_ui, conv_iu, conv_ii, not_bool, nil_ptr, fa_mk, ptrV, len_mk, cap_mk, eq_ptr_nil, ne_ptr_nil, eq_nil_nil, ne_nil_nil, eq_slice_nil, eq_nil_slice, ia_1, exV0, exV1]; exact so_so) ?_)
    intro J1 hJ1
    repeat (with_reducible first | refine vP_so ?_ | refine vB_t ?_ | refine vB_f ?_ | refine vE_tt ?_ | refine vE_ff ?_ | refine vE_tf ?_ | refine vE_ft ?_ | refine vE_u ?_ | refine vP_to (by simp (disch := omega) only [gdW_true, gdW_false, gB_true, gB_false, gB_undef, pickV_true, pickV_false, Bool.not_true, Bool.not_false, Option.map_some, bin_add, bin_sub, bin_mul, bin_quo, bin_rem, lss_t, lss_f, leq_t, leq_f, gtr_t, gtr_f, geq_t, geq_f, eqi_t, eqi_f, nei_t, nei_f, rem_uw, conv_ui, conv_iu, conv_ii, not_bool, nil_ptr, fa_mk, ptrV, len_mk, cap_mk, eq_ptr_nil, ne_ptr_nil, eq_nil_nil, ne_nil_nil, eq_slice_nil, eq_nil_slice, ia_1]; exact so_so) ?_)
    exact hJ1 _ fun _ => hnone h1 ho hh1
  · repeat (with_reducible first | refine vP_so ?_ | refine vB_t ?_ | refine vB_f ?_ | refine vE_tt ?_ | refine vE_ff ?_ | refine vE_tf ?_ | refine vE_ft ?_ | refine vE_u ?_ | refine vP_to (by simp (disch := omega) only [gdW_true, gdW_false, gB_true, gB_false, gB_undef, pickV_true, pickV_false, Bool.not_true, Bool.not_false, Option.map_some, bin_add, bin_sub, bin_mul, bin_quo, bin_rem, lss_t, lss_f, leq_t, leq_f, gtr_t, gtr_f, geq_t, geq_f, eqi_t, eqi_f, nei_t, nei_f, rem_uw, conv_ui, conv_iu, conv_ii, not_bool, nil_ptr, fa_mk, ptrV, len_mk, cap_mk, eq_ptr_nil, ne_ptr_nil, eq_nil_nil, ne_nil_nil, eq_slice_nil, eq_nil_slice, ia_1, exV0, exV1]; exact so_so) ?_)
    intro J1 hJ1
    repeat (with_reducible first | refine vP_so ?_ | refine vB_t ?_ | refine vB_f ?_ | refine vE_tt ?_ | refine vE_ff ?_ | refine vE_tf ?_ | refine vE_ft ?_ | refine vE_u ?_ | refine vP_to (by simp (disch := omega) only [gdW_true, gdW_false, gB_true, gB_false, gB_undef, pickV_true, pickV_false, Bool.not_true, Bool.not_false, Option.map_some, bin_add, bin_sub, bin_mul, bin_quo, bin_rem, lss_t, lss_f, leq_t, leq_f, gtr_t, gtr_f, geq_t, geq_f, eqi_t, eqi_f, nei_t, nei_f, rem_uw, conv_ui, conv_iu, conv_ii, not_bool, nil_ptr, fa_mk, ptrV, len_mk, cap_mk, eq_ptr_nil, ne_ptr_nil, eq_nil_nil, ne_nil_nil, eq_slice_nil, eq_nil_slice, ia_1]; exact so_so) ?_)
    exact hJ1 _ fun _ => hout l h1 ho hb hh1
  · repeat (with_reducible first | refine vP_so ?_ | refine vB_t ?_ | refine vB_f ?_ | refine vE_tt ?_ | refine vE_ff ?_ | refine vE_tf ?_ | refine vE_ft ?_ | refine vE_u ?_ | refine vP_to (by simp (disch := omega) only [gdW_true, gdW_false, gB_true, gB_false, gB_undef, pickV_true, pickV_false, Bool.not_true, Bool.not_false, Option.map_some, bin_add, bin_sub, bin_mul, bin_quo, bin_rem, lss_t, lss_f, leq_t, leq_f, gtr_t, gtr_f, geq_t, geq_f, eqi_t, eqi_f, nei_t, nei_f, rem_uw, conv_ui, conv_iu, conv_ii, not_bool, nil_ptr, fa_mk, ptrV, len_mk, cap_mk, eq_ptr_nil, ne_ptr_nil, eq_nil_nil, ne_nil_nil, eq_slice_nil, eq_nil_slice, ia_1, exV0, exV1]; exact so_so) ?_)
    intro J1 hJ1
    have hpos := ob_pos ok ho
    have hil := (List.getElem?_eq_some_iff.1 hc).1
    obtain ⟨ap, rw', vi, vs, vl, E, wf, ro, hp1⟩ := RA_elim hh1
    have l' := rao_ld hp1
    obtain ⟨j, rfl⟩ : ∃ j : Nat, i = j := ⟨i.toNat, by omega⟩
    rw [Int.toNat_natCast] at hil
    repeat (with_reducible first | refine vP_so ?_ | refine vB_t ?_ | refine vB_f ?_ | refine vE_tt ?_ | refine vE_ff ?_ | refine vE_tf ?_ | refine vE_ft ?_ | refine vE_u ?_ | refine vP_to (by simp (disch := omega) only [gdW_true, gdW_false, gB_true, gB_false, gB_undef, pickV_true, pickV_false, Bool.not_true, Bool.not_false, Option.map_some, bin_add, bin_sub, bin_mul, bin_quo, bin_rem, lss_t, lss_f, leq_t, leq_f, gtr_t, gtr_f, geq_t, geq_f, eqi_t, eqi_f, nei_t, nei_f, rem_uw, conv_ui, conv_iu, conv_ii, not_bool, nil_ptr, fa_mk, ptrV, len_mk, cap_mk, eq_ptr_nil, ne_ptr_nil, eq_nil_nil, ne_nil_nil, eq_slice_nil, eq_nil_slice, ia_1, l'.2.2.2.2]; exact so_so) ?_)
    refine mu_MP (v := .int .i64 v) mapII intU (rao_w hp1) fun h2 hh2 => ?_
    refine hJ1 _ fun _ => hK l c h2 ho h0 hc ?_
    rw [Int.toNat_natCast]
    exact RA_intro (st := { st with ob := fput st.ob x (l.set j v) }) (ro.store ok ho hil) (rao_w' hh2)
theorem ROk.mark {st : Ar} {N : Nat} (ok : AOk st N) (ro : ROk st E wf) {k i : Nat} {e : REnt} (hk : E[k]? = some e) : ROk { st with sp := fput st.sp e.num (e.s.mark i) } (E.set k { e with s := e.s.mark i, lens := e.lens }) wf :=
  ro.set_ (ob' := st.ob) (live' := st.live) hk (ro.len e (List.mem_of_getElem? hk)) (fun j l hu ho => ro.val e (List.mem_of_getElem? hk) j l hu ho) (fun _ _ _ _ _ _ _ q => q) ro.words
theorem use_remark {st : Ar} {N : Nat} {x : Int} (ok : AOk st N) {F : Asrt} {K : Value → Hp → Prop} {h : Hp} (hh : (RA a st * (F * tt)) h)
    (hnone : ∀ h', st.ob x = none → (RA a st * (F * tt)) h' → K (.bool false) h')
    (hK : ∀ id s (i : Nat) h', st.sp id = some s → s.used[i]? = some true → x = s.addr i → (RA a { st with sp := fput st.sp id (s.mark i) } * (F * tt)) h' → K (.bool !(hasB s.marks i)) h') : CallH Tryz.prog 53 #[pB a, .int .i64 x] K h := by
  refine C53 ?_
  unfold D53
  obtain ⟨ap, rw', vi, vs, vl, E, wf, ro, hp⟩ := RA_elim hh
  refine use_reat ok ro hp (fun h2 e hh2 => ?_) fun k i e l h2 hk hu hx ho hh2 => ?_
  · repeat (with_reducible first | refine vP_so ?_ | refine vB_t ?_ | refine vB_f ?_ | refine vE_tt ?_ | refine vE_ff ?_ | refine vE_tf ?_ | refine vE_ft ?_ | refine vE_u ?_ | refine vP_to (by simp (disch := omega) only [gdW_true, gdW_false, gB_true, gB_false, gB_undef, pickV_true, pickV_false, Bool.not_true, Bool.not_false, Option.map_some, bin_add, bin_sub, bin_mul, bin_quo, bin_rem, lss_t, lss_f, leq_t, leq_f, gtr_t, gtr_f, geq_t, geq_f, eqi_t, eqi_f, nei_t, nei_f, rem_uw, conv_ui, conv_iu, conv_ii, not_bool, nil_ptr, fa_mk, ptrV, len_mk, cap_mk, eq_ptr_nil, ne_ptr_nil, eq_nil_nil, ne_nil_nil, eq_slice_nil, eq_nil_slice, ia_1, t30, t31, t32]; exact so_so) ?_)
    exact hnone h2 e (RA_intro ro hh2)
  · have l' := rao_ld hh2
    have hl := rao_len hh2
    have hkl := (List.getElem?_eq_some_iff.1 hk).1
    have hil := (List.getElem?_eq_some_iff.1 hu).1
    have hso := ro.ok ok (List.mem_of_getElem? hk)
    have hsl := hso.len
    obtain ⟨q, q1, q2⟩ := rao_p hk hh2
    obtain ⟨R, o1, o2⟩ := rao_open (a := a) (ap := ap) (rw := rw') (vi := vi) (vs := vs) (vl := vl) (n := st.n) (runs := st.runs) (wf := wf) hk
    repeat (with_reducible first | refine vP_so ?_ | refine vB_t ?_ | refine vB_f ?_ | refine vE_tt ?_ | refine vE_ff ?_ | refine vE_tf ?_ | refine vE_ft ?_ | refine vE_u ?_ | refine vP_to (by simp (disch := omega) only [gdW_true, gdW_false, gB_true, gB_false, gB_undef, pickV_true, pickV_false, Bool.not_true, Bool.not_false, Option.map_some, bin_add, bin_sub, bin_mul, bin_quo, bin_rem, lss_t, lss_f, leq_t, leq_f, gtr_t, gtr_f, geq_t, geq_f, eqi_t, eqi_f, nei_t, nei_f, rem_uw, conv_ui, conv_iu, conv_ii, not_bool, nil_ptr, fa_mk, ptrV, len_mk, cap_mk, eq_ptr_nil, ne_ptr_nil, eq_nil_nil, ne_nil_nil, eq_slice_nil, eq_nil_slice, ia_1, t30, t31, t32, l'.2.2.1, q1, q2]; exact so_so) ?_)
    refine use_rsset hso hu (o1 _ _ hh2) fun h3 hh3 => ?_
    repeat (with_reducible first | refine vP_so ?_ | refine vB_t ?_ | refine vB_f ?_ | refine vE_tt ?_ | refine vE_ff ?_ | refine vE_tf ?_ | refine vE_ft ?_ | refine vE_u ?_ | refine vP_to (by simp (disch := omega) only [gdW_true, gdW_false, gB_true, gB_false, gB_undef, pickV_true, pickV_false, Bool.not_true, Bool.not_false, Option.map_some, bin_add, bin_sub, bin_mul, bin_quo, bin_rem, lss_t, lss_f, leq_t, leq_f, gtr_t, gtr_f, geq_t, geq_f, eqi_t, eqi_f, nei_t, nei_f, rem_uw, conv_ui, conv_iu, conv_ii, not_bool, nil_ptr, fa_mk, ptrV, len_mk, cap_mk, eq_ptr_nil, ne_ptr_nil, eq_nil_nil, ne_nil_nil, eq_slice_nil, eq_nil_slice, ia_1]; exact so_so) ?_)
    exact hK e.num e.s i h3 (ro.at_ hk) hu hx (RA_intro (st := { st with sp := fput st.sp e.num (e.s.mark i) }) (ro.mark ok hk) (o2 _ _ _ _ hh3))
theorem use_remarked {st : Ar} {N : Nat} {x : Int} (ok : AOk st N) {F : Asrt} {K : Value → Hp → Prop} {h : Hp} (hh : (RA a st * (F * tt)) h)
    (hnone : ∀ h', st.ob x = none → (RA a st * (F * tt)) h' → K (.bool false) h')
    (hK : ∀ id s (i : Nat) h', st.sp id = some s → s.used[i]? = some true → x = s.addr i → (RA a st * (F * tt)) h' → K (.bool (hasB s.marks i)) h') : CallH Tryz.prog 58 #[pB a, .int .i64 x] K h := by
  refine C58 ?_
  unfold D58
  obtain ⟨ap, rw', vi, vs, vl, E, wf, ro, hp⟩ := RA_elim hh
  refine use_reat ok ro hp (fun h2 e hh2 => ?_) fun k i e l h2 hk hu hx ho hh2 => ?_
  · repeat (with_reducible first | refine vP_so ?_ | refine vB_t ?_ | refine vB_f ?_ | refine vE_tt ?_ | refine vE_ff ?_ | refine vE_tf ?_ | refine vE_ft ?_ | refine vE_u ?_ | refine vP_to (by simp (disch := omega) only [gdW_true, gdW_false, gB_true, gB_false, gB_undef, pickV_true, pickV_false, Bool.not_true, Bool.not_false, Option.map_some, bin_add, bin_sub, bin_mul, bin_quo, bin_rem, lss_t, lss_f, leq_t, leq_f, gtr_t, gtr_f, geq_t, geq_f, eqi_t, eqi_f, nei_t, nei_f, rem_uw, conv_ui, conv_iu, conv_ii, not_bool, nil_ptr, fa_mk, ptrV, len_mk, cap_mk, eq_ptr_nil, ne_ptr_nil, eq_nil_nil, ne_nil_nil, eq_slice_nil, eq_nil_slice, ia_1, t30, t31, t32]; exact so_so) ?_)
    exact hnone h2 e (RA_intro ro hh2)
  · have l' := rao_ld hh2
    have hl := rao_len hh2
    have hkl := (List.getElem?_eq_some_iff.1 hk).1
    have hil := (List.getElem?_eq_some_iff.1 hu).1
    have hso := ro.ok ok (List.mem_of_getElem? hk)
    have hsl := hso.len
    obtain ⟨q, q1, q2⟩ := rao_p hk hh2
    obtain ⟨vu, vm, s1, s2, s3, s4, s5, s6, s7⟩ := rao_span hk hh2
    obtain ⟨b, hb⟩ : ∃ b, e.s.marks[i]? = some b := ⟨_, List.getElem?_eq_getElem (by have := hso.ml; omega)⟩
    obtain ⟨r, r1, r2⟩ := s7 i b hb
    have hbb : hasB e.s.marks i = b := by rw [hasB_nat, hb]; rfl
    have := hK e.num e.s i h2 (ro.at_ hk) hu hx (RA_intro ro hh2)
    rw [hbb] at this
    repeat (with_reducible first | refine vP_so ?_ | refine vB_t ?_ | refine vB_f ?_ | refine vE_tt ?_ | refine vE_ff ?_ | refine vE_tf ?_ | refine vE_ft ?_ | refine vE_u ?_ | refine vP_to (by simp (disch := omega) only [gdW_true, gdW_false, gB_true, gB_false, gB_undef, pickV_true, pickV_false, Bool.not_true, Bool.not_false, Option.map_some, bin_add, bin_sub, bin_mul, bin_quo, bin_rem, lss_t, lss_f, leq_t, leq_f, gtr_t, gtr_f, geq_t, geq_f, eqi_t, eqi_f, nei_t, nei_f, rem_uw, conv_ui, conv_iu, conv_ii, not_bool, nil_ptr, fa_mk, ptrV, len_mk, cap_mk, eq_ptr_nil, ne_ptr_nil, eq_nil_nil, ne_nil_nil, eq_slice_nil, eq_nil_slice, ia_1, t30, t31, t32, l'.2.2.1, q1, q2, s4, r1, r2]; exact so_so) ?_)
    exact this
theorem use_resweep {st : Ar} {N : Nat} {id : Int} (ok : AOk st N) {F : Asrt} {K : Value → Hp → Prop} {h : Hp} (hh : (RA a st * (F * tt)) h)
    (hnone : st.sp id = none → K (.tuple #[.slice none 0 0, .int .i64 4]) h)
    (hK : ∀ s v h', st.sp id = some s → (SG iE 3 v (s.gone.map s.addr) * (RA a (st.swept id s) * (F * tt))) h' → K (.tuple #[v, .int .i64 0]) h') : CallH Tryz.prog 54 #[pB a, .int .i64 id] K h := by
  refine C54 ?_
  unfold D54
  obtain ⟨ap, rw', vi, vs, vl, E, wf, ro, hp⟩ := RA_elim hh
  have l := rao_ld hp
  have hl := rao_len hp
  refine use_refind hp (fun hno => ?_) fun k e hk he => ?_
  · repeat (with_reducible first | refine vP_so ?_ | refine vB_t ?_ | refine vB_f ?_ | refine vE_tt ?_ | refine vE_ff ?_ | refine vE_tf ?_ | refine vE_ft ?_ | refine vE_u ?_ | refine vP_to (by simp (disch := omega) only [gdW_true, gdW_false, gB_true, gB_false, gB_undef, pickV_true, pickV_false, Bool.not_true, Bool.not_false, Option.map_some, bin_add, bin_sub, bin_mul, bin_quo, bin_rem, lss_t, lss_f, leq_t, leq_f, gtr_t, gtr_f, geq_t, geq_f, eqi_t, eqi_f, nei_t, nei_f, rem_uw, conv_ui, conv_iu, conv_ii, not_bool, nil_ptr, fa_mk, ptrV, len_mk, cap_mk, eq_ptr_nil, ne_ptr_nil, eq_nil_nil, ne_nil_nil, eq_slice_nil, eq_nil_slice, ia_1]; exact so_so) ?_)
    exact hnone (ro.none hno)
  subst he
  have hkl := (List.getElem?_eq_some_iff.1 hk).1
  have hso := ro.ok ok (List.mem_of_getElem? hk)
  have hsl := hso.len
  obtain ⟨q, q1, q2⟩ := rao_p hk hp
  obtain ⟨R, o1, o2⟩ := rao_open (a := a) (ap := ap) (rw := rw') (vi := vi) (vs := vs) (vl := vl) (n := st.n) (runs := st.runs) (wf := wf) hk
  repeat (with_reducible first | refine vP_so ?_ | refine vB_t ?_ | refine vB_f ?_ | refine vE_tt ?_ | refine vE_ff ?_ | refine vE_tf ?_ | refine vE_ft ?_ | refine vE_u ?_ | refine vP_to (by simp (disch := omega) only [gdW_true, gdW_false, gB_true, gB_false, gB_undef, pickV_true, pickV_false, Bool.not_true, Bool.not_false, Option.map_some, bin_add, bin_sub, bin_mul, bin_quo, bin_rem, lss_t, lss_f, leq_t, leq_f, gtr_t, gtr_f, geq_t, geq_f, eqi_t, eqi_f, nei_t, nei_f, rem_uw, conv_ui, conv_iu, conv_ii, not_bool, nil_ptr, fa_mk, ptrV, len_mk, cap_mk, eq_ptr_nil, ne_ptr_nil, eq_nil_nil, ne_nil_nil, eq_slice_nil, eq_nil_slice, ia_1, l.2.2.1, q1, q2]; exact so_so) ?_)
  refine use_rssweep (F := SG iE 3 (slv e.lv) e.lens * (R * F)) hso (asr (by ac_rfl) (o1 _ _ hp)) fun v22 h1 hh1 => ?_
  have hlen := SG_len iE hh1
  rw [List.length_map] at hlen
  have hgl : e.s.gone.length ≤ 64 := by
    have := goneB_len e.s e.s.used.length
    rw [goneB_all] at this
    omega
  have hswo := hso.swept
  have had : ∀ i : Nat, e.s.swept.addr i = e.s.addr i := fun i => rfl
  have hswl : e.s.swept.used.length = e.s.used.length := by show e.s.marks.length = _; exact hso.ml
  have ro' : ROk (st.swept e.num e.s) (E.set k { e with s := e.s.swept, lens := e.lens }) wf := by
    refine ro.set_ (ob' := fun y => if y ∈ e.s.gone.map e.s.addr then none else st.ob y) (live' := st.live - e.s.gone.length * szS e.s.cls) hk (by rw [hswl]; exact ro.len e (List.mem_of_getElem? hk)) (fun j l' hu' ho' => ?_) (fun k2 e2 j l' _ _ _ ho' => ?_) (fun x l' j c hx hj => ?_)
    · have ho' : (if e.s.addr j ∈ e.s.gone.map e.s.addr then none else st.ob (e.s.addr j)) = some l' := ho'
      split at ho'
      · cases ho'
      · exact ro.val e (List.mem_of_getElem? hk) j l' (hso.sub j hu') ho'
    · have ho' : (if e2.s.addr j ∈ e.s.gone.map e.s.addr then none else st.ob (e2.s.addr j)) = some l' := ho'
      split at ho'
      · cases ho'
      · exact ho'
    · have hx : (if x ∈ e.s.gone.map e.s.addr then none else st.ob x) = some l' := hx
      split at hx
      · cases hx
      · exact ro.words x l' j c hx hj
  have hkl' : k < (E.set k { e with s := e.s.swept, lens := e.lens }).length := by rw [List.length_set]; exact hkl
  have hk' : (E.set k { e with s := e.s.swept, lens := e.lens })[k]? = some { e with s := e.s.swept, lens := e.lens } := List.getElem?_set_self hkl
  have hh1 : (RAO a ap rw' vi vs vl st.n st.runs (E.set k { e with s := e.s.swept, lens := e.lens }) wf * (SG iE 3 v22 (e.s.gone.map fun (i : Nat) => (i : Int)) * (F * tt))) h1 := o2 _ _ _ _ (asr (by ac_rfl) hh1)
  refine ⟨fun m zs h' => ∃ (i : Nat) (v8 : Value), zs = [.int .i64 i, v8] ∧ m = e.s.gone.length - i ∧ i ≤ e.s.gone.length ∧ (RAO a ap rw' vi vs vl st.n st.runs (E.set k { e with s := e.s.swept, lens := e.lens }) wf * (SG iE 3 v22 (e.s.gone.map fun (i : Nat) => (i : Int)) * (SG iE 3 v8 ((e.s.gone.take i).map e.s.addr) * (F * tt)))) h',
    ⟨_, 0, .slice none 0 0, rfl, rfl, by omega, asr (by ac_rfl) (SG_nil iE (E := 3) hh1)⟩, ?_⟩
  clear hh1 l hl q1 q2
  rintro m v9 v8 h2 ⟨i, v8', hzs, rfl, hi, hh2⟩ _
  obtain ⟨rfl, rfl⟩ : v9 = .int .i64 i ∧ v8 = v8' := by simpa using hzs
  by_cases hil : i < e.s.gone.length
  · have hS : (SG iE 3 v22 (e.s.gone.map fun (i : Nat) => (i : Int)) * (RAO a ap rw' vi vs vl st.n st.runs (E.set k { e with s := e.s.swept, lens := e.lens }) wf * (SG iE 3 v8 ((e.s.gone.take i).map e.s.addr) * (F * tt)))) h2 := asr (by ac_rfl) hh2
    have htk := List.take_succ_eq_append_getElem hil
    have hgm := gone_mem.1 (List.getElem_mem hil)
    obtain ⟨p9, c1, c2, _⟩ := el1 (i := i) (a := ((e.s.gone[i] : Nat) : Int)) hS (by rw [List.getElem?_map, List.getElem?_eq_getElem hil]; rfl) .i64
    generalize e.s.gone[i] = y at *
    have l := rao_ld hh2
    have hl := rao_len hh2
    obtain ⟨q, q1, q2⟩ := rao_p hk' hh2
    have hyl := (List.getElem?_eq_some_iff.1 hgm.1).1
    have q2 : ld1 q h2 = some (pB e.p) := q2
    repeat (with_reducible first | refine vP_so ?_ | refine vB_t ?_ | refine vB_f ?_ | refine vE_tt ?_ | refine vE_ff ?_ | refine vE_tf ?_ | refine vE_ft ?_ | refine vE_u ?_ | refine vP_to (by simp (disch := omega) only [gdW_true, gdW_false, gB_true, gB_false, gB_undef, pickV_true, pickV_false, Bool.not_true, Bool.not_false, Option.map_some, bin_add, bin_sub, bin_mul, bin_quo, bin_rem, lss_t, lss_f, leq_t, leq_f, gtr_t, gtr_f, geq_t, geq_f, eqi_t, eqi_f, nei_t, nei_f, rem_uw, conv_ui, conv_iu, conv_ii, not_bool, nil_ptr, fa_mk, ptrV, len_mk, cap_mk, eq_ptr_nil, ne_ptr_nil, eq_nil_nil, ne_nil_nil, eq_slice_nil, eq_nil_slice, ia_1, hlen, l.2.2.1, q1, q2, c1, c2]; exact so_so) ?_)
    obtain ⟨R', p1, p2⟩ := rao_open (a := a) (ap := ap) (rw := rw') (vi := vi) (vs := vs) (vl := vl) (n := st.n) (runs := st.runs) (wf := wf) hk'
    refine use_rsaddr hswo (i := y) (by rw [hswl]; exact hyl) (F := SG iE 3 (slv e.lv) e.lens * (R' * (SG iE 3 v22 (e.s.gone.map fun (i : Nat) => (i : Int)) * (SG iE 3 v8 ((e.s.gone.take i).map e.s.addr) * F)))) (asr (by ac_rfl) (p1 _ _ hh2)) fun h3 hh3 => ?_
    have hh3 := p2 e.s.swept e.lens (SG iE 3 v22 (e.s.gone.map fun (i : Nat) => (i : Int)) * (SG iE 3 v8 ((e.s.gone.take i).map e.s.addr) * (F * tt))) h3 (asr (by ac_rfl) hh3)
    rw [set_self hk'] at hh3
    rw [had]
    have eb : bldV #[.int .i64 0] [(0, 1, .int .i64 (e.s.addr y))] = some #[.int .i64 (e.s.addr y)] := rfl
    repeat (with_reducible first | refine vP_so ?_ | refine vB_t ?_ | refine vB_f ?_ | refine vE_tt ?_ | refine vE_ff ?_ | refine vE_tf ?_ | refine vE_ft ?_ | refine vE_u ?_ | refine vP_to (by simp (disch := omega) only [gdW_true, gdW_false, gB_true, gB_false, gB_undef, pickV_true, pickV_false, Bool.not_true, Bool.not_false, Option.map_some, bin_add, bin_sub, bin_mul, bin_quo, bin_rem, lss_t, lss_f, leq_t, leq_f, gtr_t, gtr_f, geq_t, geq_f, eqi_t, eqi_f, nei_t, nei_f, rem_uw, conv_ui, conv_iu, conv_ii, not_bool, nil_ptr, fa_mk, ptrV, len_mk, cap_mk, eq_ptr_nil, ne_ptr_nil, eq_nil_nil, ne_nil_nil, eq_slice_nil, eq_nil_slice, ia_1, eb]; exact so_so) ?_)
    refine vA_new (o := .cells #[.int .i64 (e.s.addr y)] 3 (0, 0)) (f := fun r => .slice (some ⟨r, 0, none⟩) 1 1) hh3 fun r4 h4 hh4 => ?_
    refine ap_new iE (l := (e.s.gone.take i).map e.s.addr) (m := [e.s.addr y]) (F := RAO a ap rw' vi vs vl st.n st.runs (E.set k { e with s := e.s.swept, lens := e.lens }) wf * (SG iE 3 v22 (e.s.gone.map fun (i : Nat) => (i : Int)) * F)) elInt rfl rfl niInts rfl (by omega) (asr (by ac_rfl) hh4) rfl rfl (by simp only [List.length_singleton, List.length_map, List.length_take]; omega) fun v43 h5 hh5 => ?_
    repeat (with_reducible first | refine vP_so ?_ | refine vB_t ?_ | refine vB_f ?_ | refine vE_tt ?_ | refine vE_ff ?_ | refine vE_tf ?_ | refine vE_ft ?_ | refine vE_u ?_ | refine vP_to (by simp (disch := omega) only [gdW_true, gdW_false, gB_true, gB_false, gB_undef, pickV_true, pickV_false, Bool.not_true, Bool.not_false, Option.map_some, bin_add, bin_sub, bin_mul, bin_quo, bin_rem, lss_t, lss_f, leq_t, leq_f, gtr_t, gtr_f, geq_t, geq_f, eqi_t, eqi_f, nei_t, nei_f, rem_uw, conv_ui, conv_iu, conv_ii, not_bool, nil_ptr, fa_mk, ptrV, len_mk, cap_mk, eq_ptr_nil, ne_ptr_nil, eq_nil_nil, ne_nil_nil, eq_slice_nil, eq_nil_slice, ia_1]; exact so_so) ?_)
    refine ⟨e.s.gone.length - (i + 1), by omega, i + 1, v43, rfl, rfl, by omega, ?_⟩
    rw [htk, List.map_append]
    exact asr (by ac_rfl) hh5
  obtain rfl : i = e.s.gone.length := by omega
  rw [List.take_length] at hh2
  repeat (with_reducible first | refine vP_so ?_ | refine vB_t ?_ | refine vB_f ?_ | refine vE_tt ?_ | refine vE_ff ?_ | refine vE_tf ?_ | refine vE_ft ?_ | refine vE_u ?_ | refine vP_to (by simp (disch := omega) only [gdW_true, gdW_false, gB_true, gB_false, gB_undef, pickV_true, pickV_false, Bool.not_true, Bool.not_false, Option.map_some, bin_add, bin_sub, bin_mul, bin_quo, bin_rem, lss_t, lss_f, leq_t, leq_f, gtr_t, gtr_f, geq_t, geq_f, eqi_t, eqi_f, nei_t, nei_f, rem_uw, conv_ui, conv_iu, conv_ii, not_bool, nil_ptr, fa_mk, ptrV, len_mk, cap_mk, eq_ptr_nil, ne_ptr_nil, eq_nil_nil, ne_nil_nil, eq_slice_nil, eq_nil_slice, ia_1, hlen]; exact so_so) ?_)
  have hh3 : (RA a (st.swept e.num e.s) * (SG iE 3 v8 (e.s.gone.map e.s.addr) * (F * tt))) h2 := RA_intro ro' (dropL (P := SG iE 3 v22 (e.s.gone.map fun (i : Nat) => (i : Int))) (Q := RAO a ap rw' vi vs vl st.n st.runs (E.set k { e with s := e.s.swept, lens := e.lens }) wf * (SG iE 3 v8 (e.s.gone.map e.s.addr) * F)) (asr (by ac_rfl) hh2) |> asr (by ac_rfl))
  exact hK e.s v8 h2 (ro.at_ hk) (asr (by ac_rfl) hh3)
end Go.Proofs

/-
  Contracts of the document's own arena: NewArena, Live, Objects, Alloc.
-/
set_option maxRecDepth 100000
set_option maxHeartbeats 1000000
namespace Go.Proofs
open Go.Sl
variable {a ap rw : Nat} {vi vs vl : Value} {n : Nat} {runs : List Run} {E : List REnt} {wf : Int → Option Value}
theorem use_renew {w : Int} {F : Asrt} {K : Value → Hp → Prop} {h : Hp} (hh : (F * tt) h)
    (hbad : ¬ goodW w → K (.pointer none) h) (hK : ∀ a h', goodW w → (RA a (newAr (w / 64)) * (F * tt)) h' → K (pB a) h') : CallH Tryz.prog 20 #[.int .i64 w] K h := by
  refine C20 ?_
  unfold D20
  by_cases h1 : w < 256
  · repeat (with_reducible first | refine vP_so ?_ | refine vB_t ?_ | refine vB_f ?_ | refine vE_tt ?_ | refine vE_ff ?_ | refine vE_tf ?_ | refine vE_ft ?_ | refine vE_u ?_ | refine vP_to (by simp (disch := omega) only [gdW_true, gdW_false, gB_true, gB_false, gB_undef, pickV_true, pickV_false, Bool.not_true, Bool.not_false, Option.map_some, bin_add, bin_sub, bin_mul, bin_quo, bin_rem, lss_t, lss_f, leq_t, leq_f, gtr_t, gtr_f, geq_t, geq_f, eqi_t, eqi_f, nei_t, nei_f, rem_uw, conv_ui, conv_iu, conv_ii, not_bool, nil_ptr, fa_mk, ptrV, len_mk, cap_mk, eq_ptr_nil, ne_ptr_nil, eq_nil_nil, ne_nil_nil, eq_slice_nil, eq_nil_slice, ia_1]; exact so_so) ?_)
    exact hbad (by unfold goodW; omega)
  by_cases h2 : 16777216 < w
  · repeat (with_reducible first | refine vP_so ?_ | refine vB_t ?_ | refine vB_f ?_ | refine vE_tt ?_ | refine vE_ff ?_ | refine vE_tf ?_ | refine vE_ft ?_ | refine vE_u ?_ | refine vP_to (by simp (disch := omega) only [gdW_true, gdW_false, gB_true, gB_false, gB_undef, pickV_true, pickV_false, Bool.not_true, Bool.not_false, Option.map_some, bin_add, bin_sub, bin_mul, bin_quo, bin_rem, lss_t, lss_f, leq_t, leq_f, gtr_t, gtr_f, geq_t, geq_f, eqi_t, eqi_f, nei_t, nei_f, rem_uw, conv_ui, conv_iu, conv_ii, not_bool, nil_ptr, fa_mk, ptrV, len_mk, cap_mk, eq_ptr_nil, ne_ptr_nil, eq_nil_nil, ne_nil_nil, eq_slice_nil, eq_nil_slice, ia_1]; exact so_so) ?_)
    exact hbad (by unfold goodW; omega)
  have hr : binV .rem (.int .i64 w) (.int .i64 64) = some (.int .i64 (w % 64)) := bin_rem (by omega) (by omega)
  by_cases h3 : w % 64 = 0
  · have hq : binV .quo (.int .i64 w) (.int .i64 64) = some (.int .i64 (w / 64)) := by
      exact bin_quo (by omega) (by omega) (by omega)
    repeat (with_reducible first | refine vP_so ?_ | refine vB_t ?_ | refine vB_f ?_ | refine vE_tt ?_ | refine vE_ff ?_ | refine vE_tf ?_ | refine vE_ft ?_ | refine vE_u ?_ | refine vP_to (by simp (disch := omega) only [gdW_true, gdW_false, gB_true, gB_false, gB_undef, pickV_true, pickV_false, Bool.not_true, Bool.not_false, Option.map_some, bin_add, bin_sub, bin_mul, bin_quo, bin_rem, lss_t, lss_f, leq_t, leq_f, gtr_t, gtr_f, geq_t, geq_f, eqi_t, eqi_f, nei_t, nei_f, rem_uw, conv_ui, conv_iu, conv_ii, not_bool, nil_ptr, fa_mk, ptrV, len_mk, cap_mk, eq_ptr_nil, ne_ptr_nil, eq_nil_nil, ne_nil_nil, eq_slice_nil, eq_nil_slice, ia_1, hr, eqi_t h3, nei_f h3, hq]; exact so_so) ?_)
    refine use_rnew hh fun ap h4 hh4 => ?_
    have eN : newN (w / 64) = w / 64 := by unfold newN; omega
    rw [eN] at hh4
    refine vA_new (o := .map #[] 0) (f := fun r => .map (some r)) hh4 fun rw' h5 hh5 => ?_
    have hh5 := MP_new hh5
    have eb : bldV #[.pointer none, .slice none 0 0, .slice none 0 0, .slice none 0 0, .map none] [(0, 1, rv ap), (4, 1, .map (some rw'))] = some #[pB ap, .slice none 0 0, .slice none 0 0, .slice none 0 0, .map (some rw')] := rfl
    repeat (with_reducible first | refine vP_so ?_ | refine vB_t ?_ | refine vB_f ?_ | refine vE_tt ?_ | refine vE_ff ?_ | refine vE_tf ?_ | refine vE_ft ?_ | refine vE_u ?_ | refine vP_to (by simp (disch := omega) only [gdW_true, gdW_false, gB_true, gB_false, gB_undef, pickV_true, pickV_false, Bool.not_true, Bool.not_false, Option.map_some, bin_add, bin_sub, bin_mul, bin_quo, bin_rem, lss_t, lss_f, leq_t, leq_f, gtr_t, gtr_f, geq_t, geq_f, eqi_t, eqi_f, nei_t, nei_f, rem_uw, conv_ui, conv_iu, conv_ii, not_bool, nil_ptr, fa_mk, ptrV, len_mk, cap_mk, eq_ptr_nil, ne_ptr_nil, eq_nil_nil, ne_nil_nil, eq_slice_nil, eq_nil_slice, ia_1, eb]; exact so_so) ?_)
    refine vA_new hh5 fun a h6 hh6 => ?_
    have ro : ROk (newAr (w / 64)) [] (fun _ => none) := ⟨by simp [Rise], fun id s => by simp [newAr], fun e he => (by cases he), fun e he => (by cases he), fun x l j c hx => by simp [newAr] at hx⟩
    refine hK a h6 (by unfold goodW; omega) (RA_intro (E := []) (ap := ap) (rw := rw') (vi := .slice none 0 0) (vs := .slice none 0 0) (vl := .slice none 0 0) ro ?_)
    unfold RAO
    have q := SG_nil iE (E := 3) (SG_nil pE (E := 80) (SG_nil sE (E := 22) hh6))
    show ((_ * (_ * (_ * (_ * (_ * (starL [] entA * _)))))) * _) h6
    have z : starL ([] : List REnt) entA = emp := rfl
    rw [z, emp_star]
    exact asr (by show _ = _; simp only [newAr, List.map_nil]; ac_rfl) q
  · repeat (with_reducible first | refine vP_so ?_ | refine vB_t ?_ | refine vB_f ?_ | refine vE_tt ?_ | refine vE_ff ?_ | refine vE_tf ?_ | refine vE_ft ?_ | refine vE_u ?_ | refine vP_to (by simp (disch := omega) only [gdW_true, gdW_false, gB_true, gB_false, gB_undef, pickV_true, pickV_false, Bool.not_true, Bool.not_false, Option.map_some, bin_add, bin_sub, bin_mul, bin_quo, bin_rem, lss_t, lss_f, leq_t, leq_f, gtr_t, gtr_f, geq_t, geq_f, eqi_t, eqi_f, nei_t, nei_f, rem_uw, conv_ui, conv_iu, conv_ii, not_bool, nil_ptr, fa_mk, ptrV, len_mk, cap_mk, eq_ptr_nil, ne_ptr_nil, eq_nil_nil, ne_nil_nil, eq_slice_nil, eq_nil_slice, ia_1, hr, eqi_f h3, nei_t h3]; exact so_so) ?_)
    exact hbad (by unfold goodW; omega)
def spOf : List REnt → Int → Option Sp
  | [] => fun _ => none
  | e :: E => fput (spOf E) e.num e.s
theorem spOf_none {E : List REnt} {id : Int} (h : ∀ e ∈ E, e.num ≠ id) : spOf E id = none := by
  induction E with
  | nil => rfl
  | cons e E ih =>
    show fput (spOf E) e.num e.s id = none
    rw [fput_ne (fun q => h e (by simp) q.symm)]
    exact ih fun e' he' => h e' (by simp [he'])
theorem spOf_mem {E : List REnt} (hr : E.Pairwise fun x y => x.num < y.num) {e : REnt} (he : e ∈ E) : spOf E e.num = some e.s := by
  induction E with
  | nil => cases he
  | cons x E ih =>
    rw [List.pairwise_cons] at hr
    show fput (spOf E) x.num x.s e.num = _
    rcases List.mem_cons.1 he with rfl | he
    · rw [fput_eq]
    · have := hr.1 e he
      rw [fput_ne (by omega)]
      exact ih hr.2 he
theorem ROk.spOf {st : Ar} (ro : ROk st E wf) : st.sp = spOf E := by
  funext id
  have hr := ro.rise
  unfold Rise at hr
  rw [List.pairwise_map] at hr
  cases hs : st.sp id with
  | none =>
    symm
    refine spOf_none fun e he q => ?_
    subst q
    rw [(ro.mem _ _).2 ⟨e, he, rfl, rfl⟩] at hs
    cases hs
  | some s =>
    obtain ⟨e, he, rfl, rfl⟩ := (ro.mem _ _).1 hs
    exact (spOf_mem hr he).symm
def sumW (E : List REnt) : Int := (E.map fun e => wt (some e.s)).sum
theorem tot_spOf {N : Nat} : ∀ {E : List REnt}, (E.Pairwise fun x y => x.num < y.num) → (∀ e ∈ E, 0 ≤ e.num ∧ e.num < N) → tot (spOf E) N = sumW E
  | [], _, _ => by
    rw [tot_zero' (sp := spOf []) fun j _ => rfl]
    rfl
  | e :: E, hr, hb => by
    rw [List.pairwise_cons] at hr
    have he := hb e (by simp)
    obtain ⟨k, hk⟩ : ∃ k : Nat, e.num = k := ⟨e.num.toNat, by omega⟩
    have ih := tot_spOf (N := N) hr.2 fun e' he' => hb e' (by simp [he'])
    have h0 : spOf E (k : Int) = none := spOf_none fun e' he' q => by have := hr.1 e' he'; omega
    show tot (fput (spOf E) e.num e.s) N = _
    rw [hk, tot_one (sp := spOf E) (sp' := fput (spOf E) (k : Int) e.s) (k := k) (fun j hj => fput_ne (by omega)) (by omega), ih, h0, fput_eq]
    simp only [sumW, List.map_cons, List.sum_cons]
    show _ - (0 : Int) + _ = _
    omega
where
  tot_zero' {sp : Int → Option Sp} : ∀ {N : Nat}, (∀ j : Nat, j < N → sp (j : Int) = none) → tot sp N = 0
    | 0, _ => rfl
    | N + 1, h => by rw [tot, tot_zero' (N := N) fun j hj => h j (by omega), h N (by omega)]; rfl
theorem ROk.len_le {st : Ar} {N : Nat} (ok : AOk st N) (ro : ROk st E wf) : E.length ≤ N := by
  have hr := ro.rise
  unfold Rise at hr
  rw [List.pairwise_map] at hr
  have key : ∀ i : Nat, ∀ h : i < E.length, (i : Int) ≤ E[i].num := by
    intro i
    induction i with
    | zero =>
      intro h
      have := (ok.sp _ _ ((ro.mem _ _).2 ⟨E[0], List.getElem_mem h, rfl, rfl⟩)).1
      omega
    | succ i ih =>
      intro h
      have h1 := ih (by omega)
      have h2 := List.pairwise_iff_getElem.1 hr i (i + 1) (by omega) h (by omega)
      omega
  rcases Nat.eq_zero_or_pos E.length with q | q
  · omega
  · have h1 := key (E.length - 1) (by omega)
    have h2 := (ok.sp _ _ ((ro.mem _ _).2 ⟨E[E.length - 1], List.getElem_mem (by omega), rfl, rfl⟩)).2.1
    omega
theorem sumW_bd {st : Ar} {N : Nat} (ok : AOk st N) (ro : ROk st E wf) (k : Nat) (hk : k ≤ E.length) : 0 ≤ sumW (E.take k) ∧ sumW (E.take k) ≤ 256 * k := by
  induction k with
  | zero => simp [sumW]
  | succ k ih =>
    have h1 := ih (by omega)
    have h2 := wt_bd (ro.ok ok (List.getElem_mem (show k < E.length by omega)))
    rw [List.take_succ_eq_append_getElem (by omega)]
    unfold sumW at *
    rw [List.map_append, List.sum_append]
    simp only [List.map_cons, List.map_nil, List.sum_cons, List.sum_nil]
    omega
theorem use_relive {st : Ar} {N : Nat} (ok : AOk st N) (hN : N ≤ 1000000) {F : Asrt} {K : Value → Hp → Prop} {h : Hp} (hh : (RA a st * (F * tt)) h) (hK : ∀ h', (RA a st * (F * tt)) h' → K (.int .i64 st.live) h') : CallH Tryz.prog 24 #[pB a] K h := by
  refine C24 ?_
  unfold D24
  obtain ⟨ap, rw', vi, vs, vl, E, wf, ro, hp⟩ := RA_elim hh
  have hEN := ro.len_le ok
  refine ⟨fun m zs h' => ∃ k : Nat, zs = [.int .i64 k, .int .i64 (sumW (E.take k))] ∧ m = E.length - k ∧ k ≤ E.length ∧ (RAO a ap rw' vi vs vl st.n st.runs E wf * (F * tt)) h', ⟨_, 0, rfl, rfl, by omega, hp⟩, ?_⟩
  clear hp
  rintro m v4 v3 h1 ⟨k, hzs, rfl, hk, hp⟩ _
  obtain ⟨rfl, rfl⟩ : v4 = .int .i64 k ∧ v3 = .int .i64 (sumW (E.take k)) := by simpa using hzs
  have l := rao_ld hp
  have hl := rao_len hp
  have hb := sumW_bd ok ro k hk
  by_cases hkl : k < E.length
  · obtain ⟨e, he⟩ : ∃ e, E[k]? = some e := ⟨_, List.getElem?_eq_getElem hkl⟩
    have hso := ro.ok ok (List.mem_of_getElem? he)
    obtain ⟨q, q1, q2⟩ := rao_p he hp
    obtain ⟨vu, vm, s1, s2, _⟩ := rao_span he hp
    obtain ⟨R, o1, o2⟩ := rao_open (a := a) (ap := ap) (rw := rw') (vi := vi) (vs := vs) (vl := vl) (n := st.n) (runs := st.runs) (wf := wf) he
    have hw := wt_bd hso
    have hwe : wt (some e.s) = (e.s.used.count true : Nat) * szS e.s.cls := rfl
    rw [hwe] at hw
    repeat (with_reducible first | refine vP_so ?_ | refine vB_t ?_ | refine vB_f ?_ | refine vE_tt ?_ | refine vE_ff ?_ | refine vE_tf ?_ | refine vE_ft ?_ | refine vE_u ?_ | refine vP_to (by simp (disch := omega) only [gdW_true, gdW_false, gB_true, gB_false, gB_undef, pickV_true, pickV_false, Bool.not_true, Bool.not_false, Option.map_some, bin_add, bin_sub, bin_mul, bin_quo, bin_rem, lss_t, lss_f, leq_t, leq_f, gtr_t, gtr_f, geq_t, geq_f, eqi_t, eqi_f, nei_t, nei_f, rem_uw, conv_ui, conv_iu, conv_ii, not_bool, nil_ptr, fa_mk, ptrV, len_mk, cap_mk, eq_ptr_nil, ne_ptr_nil, eq_nil_nil, ne_nil_nil, eq_slice_nil, eq_nil_slice, ia_1, l.2.2.1, hl.2.1, q1, q2, s2]; exact so_so) ?_)
    refine use_rslive hso (o1 _ _ hp) ?_
    refine ⟨s2, q2, l.2.2.1, ?_⟩
    refine use_rsize (F := RAO a ap rw' vi vs vl st.n st.runs E wf * F) (asr (by ac_rfl) hp) fun h2 hh2 => ?_
    repeat (with_reducible first | refine vP_so ?_ | refine vB_t ?_ | refine vB_f ?_ | refine vE_tt ?_ | refine vE_ff ?_ | refine vE_tf ?_ | refine vE_ft ?_ | refine vE_u ?_ | refine vP_to (by simp (disch := omega) only [gdW_true, gdW_false, gB_true, gB_false, gB_undef, pickV_true, pickV_false, Bool.not_true, Bool.not_false, Option.map_some, bin_add, bin_sub, bin_mul, bin_quo, bin_rem, lss_t, lss_f, leq_t, leq_f, gtr_t, gtr_f, geq_t, geq_f, eqi_t, eqi_f, nei_t, nei_f, rem_uw, conv_ui, conv_iu, conv_ii, not_bool, nil_ptr, fa_mk, ptrV, len_mk, cap_mk, eq_ptr_nil, ne_ptr_nil, eq_nil_nil, ne_nil_nil, eq_slice_nil, eq_nil_slice, ia_1]; exact so_so) ?_)
    refine ⟨E.length - (k + 1), by omega, k + 1, ?_, rfl, by omega, asr (by ac_rfl) hh2⟩
    have : sumW (E.take (k + 1)) = sumW (E.take k) + (e.s.used.count true : Nat) * szS e.s.cls := by
      obtain ⟨h1, rfl⟩ := List.getElem?_eq_some_iff.1 he
      rw [List.take_succ_eq_append_getElem (by omega)]
      unfold sumW
      rw [List.map_append, List.sum_append]
      simp only [List.map_cons, List.map_nil, List.sum_cons, List.sum_nil, hwe]
      omega
    rw [this]
    rfl
  · obtain rfl : k = E.length := by omega
    have hlive : sumW (E.take E.length) = st.live := by
      have hr := ro.rise
      unfold Rise at hr
      rw [List.pairwise_map] at hr
      rw [List.take_length, ok.live, ro.spOf]
      refine (tot_spOf hr fun e he => ?_).symm
      have := ok.sp _ _ ((ro.mem _ _).2 ⟨e, he, rfl, rfl⟩)
      omega
    rw [hlive]
    repeat (with_reducible first | refine vP_so ?_ | refine vB_t ?_ | refine vB_f ?_ | refine vE_tt ?_ | refine vE_ff ?_ | refine vE_tf ?_ | refine vE_ft ?_ | refine vE_u ?_ | refine vP_to (by simp (disch := omega) only [gdW_true, gdW_false, gB_true, gB_false, gB_undef, pickV_true, pickV_false, Bool.not_true, Bool.not_false, Option.map_some, bin_add, bin_sub, bin_mul, bin_quo, bin_rem, lss_t, lss_f, leq_t, leq_f, gtr_t, gtr_f, geq_t, geq_f, eqi_t, eqi_f, nei_t, nei_f, rem_uw, conv_ui, conv_iu, conv_ii, not_bool, nil_ptr, fa_mk, ptrV, len_mk, cap_mk, eq_ptr_nil, ne_ptr_nil, eq_nil_nil, ne_nil_nil, eq_slice_nil, eq_nil_slice, ia_1, l.2.2.1, hl.2.1]; exact so_so) ?_)
    exact hK h1 (RA_intro ro hp)
theorem use_reobjects {st : Ar} {N : Nat} (ok : AOk st N) (hN : N ≤ 1000000) {F : Asrt} {K : Value → Hp → Prop} {h : Hp} (hh : (RA a st * (F * tt)) h)
    (hK : ∀ v l h', Rise l → (∀ y, y ∈ l ↔ (st.ob y).isSome = true) → l.length ≤ 64 * N → (SG iE 3 v l * (RA a st * (F * tt))) h' → K v h') : CallH Tryz.prog 23 #[pB a] K h := by
  refine C23 ?_
  unfold D23
  obtain ⟨ap, rw', vi, vs, vl, E, wf, ro, hp⟩ := RA_elim hh
  have hEN := ro.len_le ok
  refine ⟨fun m zs h' => ∃ (k : Nat) (v3 : Value) (l : List Int), zs = [.int .i64 k, v3] ∧ m = E.length - k ∧ k ≤ E.length ∧ Rise l ∧ (∀ y, y ∈ l ↔ ∃ (k' : Nat) (e : REnt) (i : Nat), k' < k ∧ E[k']? = some e ∧ e.s.used[i]? = some true ∧ y = e.s.addr i) ∧ l.length ≤ 64 * k ∧
      (RAO a ap rw' vi vs vl st.n st.runs E wf * (SG iE 3 v3 l * (F * tt))) h', ⟨_, 0, .slice none 0 0, [], rfl, rfl, by omega, by simp [Rise], fun y => by simp, by simp, asr (by ac_rfl) (SG_nil iE (E := 3) hp)⟩, ?_⟩
  clear hp
  rintro m v4 v3 h1 ⟨k, v3', l, hzs, rfl, hk, hrise, hmem, hll, hp⟩ _
  obtain ⟨rfl, rfl⟩ : v4 = .int .i64 k ∧ v3 = v3' := by simpa using hzs
  have ld := rao_ld hp
  have hl := rao_len hp
  by_cases hkl : k < E.length
  · obtain ⟨e, he⟩ : ∃ e, E[k]? = some e := ⟨_, List.getElem?_eq_getElem hkl⟩
    have hso := ro.ok ok (List.mem_of_getElem? he)
    have hsl := hso.len
    repeat (with_reducible first | refine vP_so ?_ | refine vB_t ?_ | refine vB_f ?_ | refine vE_tt ?_ | refine vE_ff ?_ | refine vE_tf ?_ | refine vE_ft ?_ | refine vE_u ?_ | refine vP_to (by simp (disch := omega) only [gdW_true, gdW_false, gB_true, gB_false, gB_undef, pickV_true, pickV_false, Bool.not_true, Bool.not_false, Option.map_some, bin_add, bin_sub, bin_mul, bin_quo, bin_rem, lss_t, lss_f, leq_t, leq_f, gtr_t, gtr_f, geq_t, geq_f, eqi_t, eqi_f, nei_t, nei_f, rem_uw, conv_ui, conv_iu, conv_ii, not_bool, nil_ptr, fa_mk, ptrV, len_mk, cap_mk, eq_ptr_nil, ne_ptr_nil, eq_nil_nil, ne_nil_nil, eq_slice_nil, eq_nil_slice, ia_1, ld.2.2.1, hl.2.1]; exact so_so) ?_)
    refine ⟨fun m zs h' => ∃ (i : Nat) (v3 : Value) (l2 : List Int), zs = [.int .i64 i, v3] ∧ m = e.s.used.length - i ∧ i ≤ e.s.used.length ∧ Rise l2 ∧ (∀ y, y ∈ l2 ↔ y ∈ l ∨ ∃ i' : Nat, i' < i ∧ e.s.used[i']? = some true ∧ y = e.s.addr i') ∧ l2.length ≤ 64 * k + i ∧
        (RAO a ap rw' vi vs vl st.n st.runs E wf * (SG iE 3 v3 l2 * (F * tt))) h', ⟨_, 0, v3, l, rfl, rfl, by omega, hrise, fun y => by simp, by omega, hp⟩, ?_⟩
    clear hp ld hl
    rintro m v5 v3_1 h2 ⟨i, v3', l2, hzs, rfl, hi, hrise2, hmem2, hll2, hp⟩ _
    obtain ⟨rfl, rfl⟩ : v5 = .int .i64 i ∧ v3_1 = v3' := by simpa using hzs
    have ld := rao_ld hp
    obtain ⟨q, q1, q2⟩ := rao_p he hp
    obtain ⟨vu, vm, s1, s2, s3, s4, s5, s6, s7⟩ := rao_span he hp
    by_cases hil : i < e.s.used.length
    · obtain ⟨b, hb⟩ : ∃ b, e.s.used[i]? = some b := ⟨_, List.getElem?_eq_getElem hil⟩
      obtain ⟨r, r1, r2⟩ := s6 i b hb
      repeat (with_reducible first | refine vP_so ?_ | refine vB_t ?_ | refine vB_f ?_ | refine vE_tt ?_ | refine vE_ff ?_ | refine vE_tf ?_ | refine vE_ft ?_ | refine vE_u ?_ | refine vP_to (by simp (disch := omega) only [gdW_true, gdW_false, gB_true, gB_false, gB_undef, pickV_true, pickV_false, Bool.not_true, Bool.not_false, Option.map_some, bin_add, bin_sub, bin_mul, bin_quo, bin_rem, lss_t, lss_f, leq_t, leq_f, gtr_t, gtr_f, geq_t, geq_f, eqi_t, eqi_f, nei_t, nei_f, rem_uw, conv_ui, conv_iu, conv_ii, not_bool, nil_ptr, fa_mk, ptrV, len_mk, cap_mk, eq_ptr_nil, ne_ptr_nil, eq_nil_nil, ne_nil_nil, eq_slice_nil, eq_nil_slice, ia_1, ld.2.2.1, q1, q2, s3, s5]; exact so_so) ?_)
      intro J3 hJ3
      repeat (with_reducible first | refine vP_so ?_ | refine vB_t ?_ | refine vB_f ?_ | refine vE_tt ?_ | refine vE_ff ?_ | refine vE_tf ?_ | refine vE_ft ?_ | refine vE_u ?_ | refine vP_to (by simp (disch := omega) only [gdW_true, gdW_false, gB_true, gB_false, gB_undef, pickV_true, pickV_false, Bool.not_true, Bool.not_false, Option.map_some, bin_add, bin_sub, bin_mul, bin_quo, bin_rem, lss_t, lss_f, leq_t, leq_f, gtr_t, gtr_f, geq_t, geq_f, eqi_t, eqi_f, nei_t, nei_f, rem_uw, conv_ui, conv_iu, conv_ii, not_bool, nil_ptr, fa_mk, ptrV, len_mk, cap_mk, eq_ptr_nil, ne_ptr_nil, eq_nil_nil, ne_nil_nil, eq_slice_nil, eq_nil_slice, ia_1, ld.2.2.1, q1, q2, s3, s5, r1, r2]; exact so_so) ?_)
      cases b with
      | false =>
        repeat (with_reducible first | refine vP_so ?_ | refine vB_t ?_ | refine vB_f ?_ | refine vE_tt ?_ | refine vE_ff ?_ | refine vE_tf ?_ | refine vE_ft ?_ | refine vE_u ?_ | refine vP_to (by simp (disch := omega) only [gdW_true, gdW_false, gB_true, gB_false, gB_undef, pickV_true, pickV_false, Bool.not_true, Bool.not_false, Option.map_some, bin_add, bin_sub, bin_mul, bin_quo, bin_rem, lss_t, lss_f, leq_t, leq_f, gtr_t, gtr_f, geq_t, geq_f, eqi_t, eqi_f, nei_t, nei_f, rem_uw, conv_ui, conv_iu, conv_ii, not_bool, nil_ptr, fa_mk, ptrV, len_mk, cap_mk, eq_ptr_nil, ne_ptr_nil, eq_nil_nil, ne_nil_nil, eq_slice_nil, eq_nil_slice, ia_1]; exact so_so) ?_)
        refine hJ3 _ _ fun _ => ?_
        repeat (with_reducible first | refine vP_so ?_ | refine vB_t ?_ | refine vB_f ?_ | refine vE_tt ?_ | refine vE_ff ?_ | refine vE_tf ?_ | refine vE_ft ?_ | refine vE_u ?_ | refine vP_to (by simp (disch := omega) only [gdW_true, gdW_false, gB_true, gB_false, gB_undef, pickV_true, pickV_false, Bool.not_true, Bool.not_false, Option.map_some, bin_add, bin_sub, bin_mul, bin_quo, bin_rem, lss_t, lss_f, leq_t, leq_f, gtr_t, gtr_f, geq_t, geq_f, eqi_t, eqi_f, nei_t, nei_f, rem_uw, conv_ui, conv_iu, conv_ii, not_bool, nil_ptr, fa_mk, ptrV, len_mk, cap_mk, eq_ptr_nil, ne_ptr_nil, eq_nil_nil, ne_nil_nil, eq_slice_nil, eq_nil_slice, ia_1]; exact so_so) ?_)
        refine ⟨e.s.used.length - (i + 1), by omega, i + 1, v3_1, l2, rfl, rfl, by omega, hrise2, fun y => ?_, by omega, hp⟩
        rw [hmem2]
        constructor
        · rintro (h | ⟨j, j1, j2, j3⟩)
          · exact .inl h
          · exact .inr ⟨j, by omega, j2, j3⟩
        · rintro (h | ⟨j, j1, j2, j3⟩)
          · exact .inl h
          · refine .inr ⟨j, ?_, j2, j3⟩
            rcases Nat.lt_or_ge j i with q | q
            · exact q
            · obtain rfl : j = i := by omega
              rw [hb] at j2; cases j2
      | true =>
        repeat (with_reducible first | refine vP_so ?_ | refine vB_t ?_ | refine vB_f ?_ | refine vE_tt ?_ | refine vE_ff ?_ | refine vE_tf ?_ | refine vE_ft ?_ | refine vE_u ?_ | refine vP_to (by simp (disch := omega) only [gdW_true, gdW_false, gB_true, gB_false, gB_undef, pickV_true, pickV_false, Bool.not_true, Bool.not_false, Option.map_some, bin_add, bin_sub, bin_mul, bin_quo, bin_rem, lss_t, lss_f, leq_t, leq_f, gtr_t, gtr_f, geq_t, geq_f, eqi_t, eqi_f, nei_t, nei_f, rem_uw, conv_ui, conv_iu, conv_ii, not_bool, nil_ptr, fa_mk, ptrV, len_mk, cap_mk, eq_ptr_nil, ne_ptr_nil, eq_nil_nil, ne_nil_nil, eq_slice_nil, eq_nil_slice, ia_1, ld.2.2.1, q1, q2]; exact so_so) ?_)
        obtain ⟨R, o1, o2⟩ := rao_open (a := a) (ap := ap) (rw := rw') (vi := vi) (vs := vs) (vl := vl) (n := st.n) (runs := st.runs) (wf := wf) he
        refine use_rsaddr hso hil (F := SG iE 3 (slv e.lv) e.lens * (R * (SG iE 3 v3_1 l2 * F))) (asr (by ac_rfl) (o1 _ _ hp)) fun h3 hh3 => ?_
        have hh3 := o2 e.s e.lens (SG iE 3 v3_1 l2 * (F * tt)) h3 (asr (by ac_rfl) hh3)
        rw [set_self he] at hh3
        repeat (with_reducible first | refine vP_so ?_ | refine vB_t ?_ | refine vB_f ?_ | refine vE_tt ?_ | refine vE_ff ?_ | refine vE_tf ?_ | refine vE_ft ?_ | refine vE_u ?_ | refine vP_to (by simp (disch := omega) only [gdW_true, gdW_false, gB_true, gB_false, gB_undef, pickV_true, pickV_false, Bool.not_true, Bool.not_false, Option.map_some, bin_add, bin_sub, bin_mul, bin_quo, bin_rem, lss_t, lss_f, leq_t, leq_f, gtr_t, gtr_f, geq_t, geq_f, eqi_t, eqi_f, nei_t, nei_f, rem_uw, conv_ui, conv_iu, conv_ii, not_bool, nil_ptr, fa_mk, ptrV, len_mk, cap_mk, eq_ptr_nil, ne_ptr_nil, eq_nil_nil, ne_nil_nil, eq_slice_nil, eq_nil_slice, ia_1]; exact so_so) ?_)
        refine use_put (l := l2) (F := RAO a ap rw' vi vs vl st.n st.runs E wf * F) (by omega) hrise2 (asr (by ac_rfl) hh3) fun v53 l3 h4 a1 a2 a3 hh4 => ?_
        refine hJ3 _ _ fun _ => ?_
        repeat (with_reducible first | refine vP_so ?_ | refine vB_t ?_ | refine vB_f ?_ | refine vE_tt ?_ | refine vE_ff ?_ | refine vE_tf ?_ | refine vE_ft ?_ | refine vE_u ?_ | refine vP_to (by simp (disch := omega) only [gdW_true, gdW_false, gB_true, gB_false, gB_undef, pickV_true, pickV_false, Bool.not_true, Bool.not_false, Option.map_some, bin_add, bin_sub, bin_mul, bin_quo, bin_rem, lss_t, lss_f, leq_t, leq_f, gtr_t, gtr_f, geq_t, geq_f, eqi_t, eqi_f, nei_t, nei_f, rem_uw, conv_ui, conv_iu, conv_ii, not_bool, nil_ptr, fa_mk, ptrV, len_mk, cap_mk, eq_ptr_nil, ne_ptr_nil, eq_nil_nil, ne_nil_nil, eq_slice_nil, eq_nil_slice, ia_1]; exact so_so) ?_)
        refine ⟨e.s.used.length - (i + 1), by omega, i + 1, v53, l3, rfl, rfl, by omega, a1, fun y => ?_, by omega, asr (by ac_rfl) hh4⟩
        rw [a2, hmem2]
        constructor
        · rintro ((h | ⟨j, j1, j2, j3⟩) | rfl)
          · exact .inl h
          · exact .inr ⟨j, by omega, j2, j3⟩
          · exact .inr ⟨i, by omega, hb, rfl⟩
        · rintro (h | ⟨j, j1, j2, j3⟩)
          · exact .inl (.inl h)
          · rcases Nat.lt_or_ge j i with q | q
            · exact .inl (.inr ⟨j, q, j2, j3⟩)
            · obtain rfl : j = i := by omega
              exact .inr j3
    · obtain rfl : i = e.s.used.length := by omega
      repeat (with_reducible first | refine vP_so ?_ | refine vB_t ?_ | refine vB_f ?_ | refine vE_tt ?_ | refine vE_ff ?_ | refine vE_tf ?_ | refine vE_ft ?_ | refine vE_u ?_ | refine vP_to (by simp (disch := omega) only [gdW_true, gdW_false, gB_true, gB_false, gB_undef, pickV_true, pickV_false, Bool.not_true, Bool.not_false, Option.map_some, bin_add, bin_sub, bin_mul, bin_quo, bin_rem, lss_t, lss_f, leq_t, leq_f, gtr_t, gtr_f, geq_t, geq_f, eqi_t, eqi_f, nei_t, nei_f, rem_uw, conv_ui, conv_iu, conv_ii, not_bool, nil_ptr, fa_mk, ptrV, len_mk, cap_mk, eq_ptr_nil, ne_ptr_nil, eq_nil_nil, ne_nil_nil, eq_slice_nil, eq_nil_slice, ia_1, ld.2.2.1, q1, q2, s3, s5]; exact so_so) ?_)
      refine ⟨E.length - (k + 1), by omega, k + 1, v3_1, l2, rfl, rfl, by omega, hrise2, fun y => ?_, by omega, hp⟩
      rw [hmem2, hmem]
      constructor
      · rintro (⟨k', e', i', k1, k2, k3, k4⟩ | ⟨j, j1, j2, j3⟩)
        · exact ⟨k', e', i', by omega, k2, k3, k4⟩
        · exact ⟨k, e, j, by omega, he, j2, j3⟩
      · rintro ⟨k', e', i', k1, k2, k3, k4⟩
        rcases Nat.lt_or_ge k' k with q | q
        · exact .inl ⟨k', e', i', q, k2, k3, k4⟩
        · obtain rfl : k' = k := by omega
          rw [he] at k2
          obtain rfl := Option.some.inj k2
          exact .inr ⟨i', (List.getElem?_eq_some_iff.1 k3).1, k3, k4⟩
  · obtain rfl : k = E.length := by omega
    repeat (with_reducible first | refine vP_so ?_ | refine vB_t ?_ | refine vB_f ?_ | refine vE_tt ?_ | refine vE_ff ?_ | refine vE_tf ?_ | refine vE_ft ?_ | refine vE_u ?_ | refine vP_to (by simp (disch := omega) only [gdW_true, gdW_false, gB_true, gB_false, gB_undef, pickV_true, pickV_false, Bool.not_true, Bool.not_false, Option.map_some, bin_add, bin_sub, bin_mul, bin_quo, bin_rem, lss_t, lss_f, leq_t, leq_f, gtr_t, gtr_f, geq_t, geq_f, eqi_t, eqi_f, nei_t, nei_f, rem_uw, conv_ui, conv_iu, conv_ii, not_bool, nil_ptr, fa_mk, ptrV, len_mk, cap_mk, eq_ptr_nil, ne_ptr_nil, eq_nil_nil, ne_nil_nil, eq_slice_nil, eq_nil_slice, ia_1, ld.2.2.1, hl.2.1]; exact so_so) ?_)
    have hh3 : (RA a st * (SG iE 3 v3 l * (F * tt))) h1 := RA_intro ro hp
    refine hK v3 l h1 hrise (fun y => ?_) (by omega) (asr (by ac_rfl) hh3)
    rw [hmem, ok.ob]
    constructor
    · rintro ⟨k', e', i', k1, k2, k3, k4⟩
      exact ⟨e'.num, e'.s, i', ro.at_ k2, k3, k4⟩
    · rintro ⟨id, s, i', e1, e2, e3⟩
      obtain ⟨e', he', _, rfl⟩ := (ro.mem _ _).1 e1
      obtain ⟨j, hj, rfl⟩ := List.mem_iff_getElem.1 he'
      exact ⟨j, _, i', hj, List.getElem?_eq_getElem hj, e2, e3⟩
end Go.Proofs

/-
  Contracts of the document's own arena: Alloc.
-/
set_option maxRecDepth 100000
set_option maxHeartbeats 1000000
namespace Go.Proofs
open Go.Sl
variable {a ap rw : Nat} {vi vs vl : Value} {n : Nat} {runs : List Run} {E : List REnt} {wf : Int → Option Value}
def wfz (wf : Int → Option Value) (x : Int) (n : Nat) : Int → Option Value := fun y => if x ≤ y ∧ y < x + n then some (.int .i64 0) else wf y
theorem wfz_zero {x : Int} : wfz wf x 0 = wf := by
  funext y
  unfold wfz
  rw [if_neg (by omega)]
theorem wfz_succ {x : Int} {n : Nat} : fput (wfz wf x n) (x + n) (.int .i64 0) = wfz wf x (n + 1) := by
  funext y
  by_cases hy : y = x + n
  · subst hy
    rw [fput_eq]
    unfold wfz
    rw [if_pos (by omega)]
  · rw [fput_ne hy]
    unfold wfz
    by_cases h : x ≤ y ∧ y < x + n
    · rw [if_pos h, if_pos (by omega)]
    · rw [if_neg h, if_neg (by omega)]
theorem ROk.put {st : Ar} {N : Nat} (ok : AOk st N) (ro : ROk st E wf) {k i m : Nat} {e : REnt} {black : Bool} (hk : E[k]? = some e) (hf : ff e.s.used = some i) (hm : 1 ≤ m ∧ (m : Int) ≤ szS e.s.cls) :
    ROk (st.put e.num e.s i m black) (E.set k { e with s := e.s.take i black, lens := e.lens.set i (m : Int) }) (wfz wf (e.s.addr i) m) := by
  have hsp := ro.at_ hk
  have okp := put_ok (black := black) ok hsp hf hm
  obtain ⟨f1, _⟩ := ff_some hf
  have hil := (List.getElem?_eq_some_iff.1 f1).1
  have hso := ro.ok ok (List.mem_of_getElem? hk)
  have hlen := ro.len e (List.mem_of_getElem? hk)
  refine ro.set_ (ob' := fput st.ob (e.s.addr i) (List.replicate m 0)) (live' := st.live + szS e.s.cls) hk ?_ (fun j l hu ho => ?_) (fun k2 e2 j l hk2 he2 hu ho => ?_) (fun x l j c hx hj => ?_)
  · show (e.lens.set i (m : Int)).length = (e.s.used.set i true).length
    rw [List.length_set, List.length_set, hlen]
  · have ho : fput st.ob (e.s.addr i) (List.replicate m 0) (e.s.addr j) = some l := ho
    by_cases hji : j = i
    · subst hji
      rw [fput_eq] at ho
      obtain rfl := Option.some.inj ho
      rw [List.getElem?_set_self (by omega), List.length_replicate]
    · have hne : e.s.addr j ≠ e.s.addr i := fun q => hji (addr_inj1 hso q)
      rw [fput_ne hne] at ho
      have hu : (e.s.used.set i true)[j]? = some true := hu
      rw [List.getElem?_set_ne (fun q => hji q.symm)] at hu ⊢
      exact ro.val e (List.mem_of_getElem? hk) j l hu ho
  · rw [fput_ne (fun q => hk2 ?_)] at ho
    · exact ho
    · have := addr_inj ok (ro.at_ he2) hsp (List.getElem?_eq_some_iff.1 hu).1 hil q
      exact (ro.uniq he2 hk this.1).1
  · by_cases hxa : x = e.s.addr i
    · subst hxa
      rw [fput_eq] at hx
      obtain rfl := Option.some.inj hx
      have hjm := (List.getElem?_eq_some_iff.1 hj).1
      rw [List.length_replicate] at hjm
      rw [List.getElem?_replicate, if_pos hjm] at hj
      obtain rfl := Option.some.inj hj
      unfold wfz
      rw [if_pos (by omega)]
    · have hx' : (st.put e.num e.s i m black).ob x = some l := hx
      have hnew : (st.put e.num e.s i m black).ob (e.s.addr i) = some (List.replicate m 0) := fput_eq _ _ _
      have hjl := (List.getElem?_eq_some_iff.1 hj).1
      have hx0 : st.ob x = some l := by rw [fput_ne hxa] at hx; exact hx
      unfold wfz
      rw [if_neg, ro.words x l j c hx0 hj]
      rintro ⟨q1, q2⟩
      obtain ⟨t, ht⟩ : ∃ t : Nat, x + j = e.s.addr i + t := ⟨(x + j - e.s.addr i).toNat, by omega⟩
      exact hxa (words_apart okp hx' hnew hjl (by rw [List.length_replicate]; omega) ht).1
theorem use_realloc {st : Ar} {N : Nat} {id m : Int} {black : Bool} (ok : AOk st N) {F : Asrt} {K : Value → Hp → Prop} {h : Hp} (hh : (RA a st * (F * tt)) h)
    (hnone : st.sp id = none → K (tup 0 4) h)
    (hbad : ∀ s h', st.sp id = some s → ¬ (1 ≤ m ∧ m ≤ szS s.cls) → (RA a st * (F * tt)) h' → K (tup 0 1) h')
    (hfull : ∀ s h', st.sp id = some s → 1 ≤ m ∧ m ≤ szS s.cls → ff s.used = none → (RA a st * (F * tt)) h' → K (tup 0 3) h')
    (hK : ∀ s i h', st.sp id = some s → 1 ≤ m ∧ m ≤ szS s.cls → ff s.used = some i → (RA a (st.put id s i m.toNat black) * (F * tt)) h' → K (tup (s.addr i) 0) h') : CallH Tryz.prog 51 #[pB a, .int .i64 id, .int .i64 m, .bool black] K h := by
  refine C51 ?_
  unfold D51
  obtain ⟨ap, rw', vi, vs, vl, E, wf, ro, hp⟩ := RA_elim hh
  have l := rao_ld hp
  have hl := rao_len hp
  refine use_refind hp (fun hno => ?_) fun k e hk he => ?_
  · repeat (with_reducible first | refine vP_so ?_ | refine vB_t ?_ | refine vB_f ?_ | refine vE_tt ?_ | refine vE_ff ?_ | refine vE_tf ?_ | refine vE_ft ?_ | refine vE_u ?_ | refine vP_to (by simp (disch := omega) only [gdW_true, gdW_false, gB_true, gB_false, gB_undef, pickV_true, pickV_false, Bool.not_true, Bool.not_false, Option.map_some, bin_add, bin_sub, bin_mul, bin_quo, bin_rem, lss_t, lss_f, leq_t, leq_f, gtr_t, gtr_f, geq_t, geq_f, eqi_t, eqi_f, nei_t, nei_f, rem_uw, conv_ui, conv_iu, conv_ii, not_bool, nil_ptr, fa_mk, ptrV, len_mk, cap_mk, eq_ptr_nil, ne_ptr_nil, eq_nil_nil, ne_nil_nil, eq_slice_nil, eq_nil_slice, ia_1]; exact so_so) ?_)
    exact hnone (ro.none hno)
  subst he
  have hkl := (List.getElem?_eq_some_iff.1 hk).1
  have hso := ro.ok ok (List.mem_of_getElem? hk)
  have hsl := hso.len
  have hsz := szS_pos hso.cls
  obtain ⟨q, q1, q2⟩ := rao_p hk hp
  obtain ⟨vu, vm, s1, s2, _⟩ := rao_span hk hp
  by_cases h1 : m < 1
  · repeat (with_reducible first | refine vP_so ?_ | refine vB_t ?_ | refine vB_f ?_ | refine vE_tt ?_ | refine vE_ff ?_ | refine vE_tf ?_ | refine vE_ft ?_ | refine vE_u ?_ | refine vP_to (by simp (disch := omega) only [gdW_true, gdW_false, gB_true, gB_false, gB_undef, pickV_true, pickV_false, Bool.not_true, Bool.not_false, Option.map_some, bin_add, bin_sub, bin_mul, bin_quo, bin_rem, lss_t, lss_f, leq_t, leq_f, gtr_t, gtr_f, geq_t, geq_f, eqi_t, eqi_f, nei_t, nei_f, rem_uw, conv_ui, conv_iu, conv_ii, not_bool, nil_ptr, fa_mk, ptrV, len_mk, cap_mk, eq_ptr_nil, ne_ptr_nil, eq_nil_nil, ne_nil_nil, eq_slice_nil, eq_nil_slice, ia_1, l.2.2.1, q1, q2]; exact so_so) ?_)
    exact hbad e.s h (ro.at_ hk) (by omega) hh
  repeat (with_reducible first | refine vP_so ?_ | refine vB_t ?_ | refine vB_f ?_ | refine vE_tt ?_ | refine vE_ff ?_ | refine vE_tf ?_ | refine vE_ft ?_ | refine vE_u ?_ | refine vP_to (by simp (disch := omega) only [gdW_true, gdW_false, gB_true, gB_false, gB_undef, pickV_true, pickV_false, Bool.not_true, Bool.not_false, Option.map_some, bin_add, bin_sub, bin_mul, bin_quo, bin_rem, lss_t, lss_f, leq_t, leq_f, gtr_t, gtr_f, geq_t, geq_f, eqi_t, eqi_f, nei_t, nei_f, rem_uw, conv_ui, conv_iu, conv_ii, not_bool, nil_ptr, fa_mk, ptrV, len_mk, cap_mk, eq_ptr_nil, ne_ptr_nil, eq_nil_nil, ne_nil_nil, eq_slice_nil, eq_nil_slice, ia_1, l.2.2.1, q1, q2, s2]; exact so_so) ?_)
  refine use_rsize (F := RAO a ap rw' vi vs vl st.n st.runs E wf * F) (asr (by ac_rfl) hp) fun h2 hh2 => ?_
  have hh2 : (RAO a ap rw' vi vs vl st.n st.runs E wf * (F * tt)) h2 := asr (by ac_rfl) hh2
  by_cases hm2 : szS e.s.cls < m
  · repeat (with_reducible first | refine vP_so ?_ | refine vB_t ?_ | refine vB_f ?_ | refine vE_tt ?_ | refine vE_ff ?_ | refine vE_tf ?_ | refine vE_ft ?_ | refine vE_u ?_ | refine vP_to (by simp (disch := omega) only [gdW_true, gdW_false, gB_true, gB_false, gB_undef, pickV_true, pickV_false, Bool.not_true, Bool.not_false, Option.map_some, bin_add, bin_sub, bin_mul, bin_quo, bin_rem, lss_t, lss_f, leq_t, leq_f, gtr_t, gtr_f, geq_t, geq_f, eqi_t, eqi_f, nei_t, nei_f, rem_uw, conv_ui, conv_iu, conv_ii, not_bool, nil_ptr, fa_mk, ptrV, len_mk, cap_mk, eq_ptr_nil, ne_ptr_nil, eq_nil_nil, ne_nil_nil, eq_slice_nil, eq_nil_slice, ia_1]; exact so_so) ?_)
    exact hbad e.s h2 (ro.at_ hk) (by omega) (RA_intro ro hh2)
  obtain ⟨R, o1, o2⟩ := rao_open (a := a) (ap := ap) (rw := rw') (vi := vi) (vs := vs) (vl := vl) (n := st.n) (runs := st.runs) (wf := wf) hk
  repeat (with_reducible first | refine vP_so ?_ | refine vB_t ?_ | refine vB_f ?_ | refine vE_tt ?_ | refine vE_ff ?_ | refine vE_tf ?_ | refine vE_ft ?_ | refine vE_u ?_ | refine vP_to (by simp (disch := omega) only [gdW_true, gdW_false, gB_true, gB_false, gB_undef, pickV_true, pickV_false, Bool.not_true, Bool.not_false, Option.map_some, bin_add, bin_sub, bin_mul, bin_quo, bin_rem, lss_t, lss_f, leq_t, leq_f, gtr_t, gtr_f, geq_t, geq_f, eqi_t, eqi_f, nei_t, nei_f, rem_uw, conv_ui, conv_iu, conv_ii, not_bool, nil_ptr, fa_mk, ptrV, len_mk, cap_mk, eq_ptr_nil, ne_ptr_nil, eq_nil_nil, ne_nil_nil, eq_slice_nil, eq_nil_slice, ia_1]; exact so_so) ?_)
  refine use_rsalloc hso (o1 _ _ hh2) (fun h3 hff hh3 => ?_) fun i h3 hff hh3 => ?_
  · have hh3 := o2 e.s e.lens (F * tt) h3 hh3
    rw [set_self hk] at hh3
    repeat (with_reducible first | refine vP_so ?_ | refine vB_t ?_ | refine vB_f ?_ | refine vE_tt ?_ | refine vE_ff ?_ | refine vE_tf ?_ | refine vE_ft ?_ | refine vE_u ?_ | refine vP_to (by simp (disch := omega) only [gdW_true, gdW_false, gB_true, gB_false, gB_undef, pickV_true, pickV_false, Bool.not_true, Bool.not_false, Option.map_some, bin_add, bin_sub, bin_mul, bin_quo, bin_rem, lss_t, lss_f, leq_t, leq_f, gtr_t, gtr_f, geq_t, geq_f, eqi_t, eqi_f, nei_t, nei_f, rem_uw, conv_ui, conv_iu, conv_ii, not_bool, nil_ptr, fa_mk, ptrV, len_mk, cap_mk, eq_ptr_nil, ne_ptr_nil, eq_nil_nil, ne_nil_nil, eq_slice_nil, eq_nil_slice, ia_1, exT0, exT1]; exact so_so) ?_)
    exact hfull e.s h3 (ro.at_ hk) (by omega) hff (RA_intro ro hh3)
  have hm : 1 ≤ m ∧ m ≤ szS e.s.cls := by omega
  obtain ⟨t, rfl⟩ : ∃ t : Nat, m = t := ⟨m.toNat, by omega⟩
  have hh3 := o2 (e.s.take i black) e.lens (F * tt) h3 hh3
  have ro' := ro.put (black := black) ok hk hff ⟨by omega, hm.2⟩
  obtain ⟨f1, _⟩ := ff_some hff
  have hil := (List.getElem?_eq_some_iff.1 f1).1
  have hlen := ro.len e (List.mem_of_getElem? hk)
  have hk' : (E.set k { e with s := e.s.take i black, lens := e.lens })[k]? = some { e with s := e.s.take i black, lens := e.lens } := List.getElem?_set_self hkl
  have l3 := rao_ld hh3
  obtain ⟨q, q1, q2⟩ := rao_lv hk' hh3
  have q2 : ld1 q h3 = some (slv e.lv) := q2
  obtain ⟨R2, p1, p2⟩ := rao_open (a := a) (ap := ap) (rw := rw') (vi := vi) (vs := vs) (vl := vl) (n := st.n) (runs := st.runs) (wf := wf) hk'
  have hL : (SG iE 3 (slv e.lv) e.lens * (RSP e.p (e.s.take i black) * (R2 * (F * tt)))) h3 := asr (by ac_rfl) (p1 _ _ hh3)
  obtain ⟨y, hy⟩ : ∃ y, e.lens[i]? = some y := ⟨_, List.getElem?_eq_getElem (by omega)⟩
  obtain ⟨r, r1, _, r3⟩ := el1 hL hy .i64
  repeat (with_reducible first | refine vP_so ?_ | refine vB_t ?_ | refine vB_f ?_ | refine vE_tt ?_ | refine vE_ff ?_ | refine vE_tf ?_ | refine vE_ft ?_ | refine vE_u ?_ | refine vP_to (by simp (disch := omega) only [gdW_true, gdW_false, gB_true, gB_false, gB_undef, pickV_true, pickV_false, Bool.not_true, Bool.not_false, Option.map_some, bin_add, bin_sub, bin_mul, bin_quo, bin_rem, lss_t, lss_f, leq_t, leq_f, gtr_t, gtr_f, geq_t, geq_f, eqi_t, eqi_f, nei_t, nei_f, rem_uw, conv_ui, conv_iu, conv_ii, not_bool, nil_ptr, fa_mk, ptrV, len_mk, cap_mk, eq_ptr_nil, ne_ptr_nil, eq_nil_nil, ne_nil_nil, eq_slice_nil, eq_nil_slice, ia_1, exT0, exT1, l3.2.2.2.1, q1, q2, r1]; exact so_so) ?_)
  refine r3 (t : Int) _ fun h4 hh4 => ?_
  have hh4 : (SG iE 3 (slv e.lv) (e.lens.set i (t : Int)) * (RSP e.p (e.s.take i black) * (R2 * (F * tt)))) h4 := hh4
  have hh4 := p2 (e.s.take i black) (e.lens.set i (t : Int)) (F * tt) h4 (asr (by ac_rfl) hh4)
  rw [List.set_set] at hh4
  have hh4 : (RAO a ap rw' vi vs vl st.n st.runs (E.set k { e with s := e.s.take i black, lens := e.lens.set i (t : Int) }) wf * (F * tt)) h4 := hh4
  have hk2 : (E.set k { e with s := e.s.take i black, lens := e.lens.set i (t : Int) })[k]? = some { e with s := e.s.take i black, lens := e.lens.set i (t : Int) } := List.getElem?_set_self hkl
  generalize hE2 : E.set k { e with s := e.s.take i black, lens := e.lens.set i (t : Int) } = E2 at *
  have hso2 := hso.take black hil
  have had : (e.s.take i black).addr i = e.s.addr i := rfl
  have habd := addr_bd hso hil
  have hul : (e.s.take i black).used.length = e.s.used.length := by show (e.s.used.set i true).length = _; rw [List.length_set]
  have addrC : ∀ {wf' : Int → Option Value} {K' : Value → Hp → Prop} {h : Hp}, (RAO a ap rw' vi vs vl st.n st.runs E2 wf' * (F * tt)) h → (∀ h', (RAO a ap rw' vi vs vl st.n st.runs E2 wf' * (F * tt)) h' → K' (.int .i64 (e.s.addr i)) h') → CallH Tryz.prog 63 #[pB e.p, .int .i64 i] K' h := by
    intro wf' K' h q hk3
    obtain ⟨R3, u1, u2⟩ := rao_open (a := a) (ap := ap) (rw := rw') (vi := vi) (vs := vs) (vl := vl) (n := st.n) (runs := st.runs) (wf := wf') hk2
    refine use_rsaddr (s := e.s.take i black) hso2 (by rw [hul]; exact hil) (F := SG iE 3 (slv e.lv) (e.lens.set i (t : Int)) * (R3 * F)) (asr (by ac_rfl) (u1 _ _ q)) fun h5 hh5 => ?_
    have hh5 := u2 (e.s.take i black) (e.lens.set i (t : Int)) (F * tt) h5 (asr (by ac_rfl) hh5)
    rw [set_self hk2] at hh5
    rw [had]
    exact hk3 h5 hh5
  refine ⟨fun mm zs h' => ∃ j : Nat, zs = [.int .i64 j] ∧ mm = t - j ∧ j ≤ t ∧ (RAO a ap rw' vi vs vl st.n st.runs E2 (wfz wf (e.s.addr i) j) * (F * tt)) h', ⟨_, 0, rfl, rfl, by omega, by rw [wfz_zero]; exact hh4⟩, ?_⟩
  rintro mm v14 h5 ⟨j, hzs, rfl, hj, hh5⟩ _
  obtain rfl : v14 = .int .i64 j := by simpa using hzs
  have l5 := rao_ld hh5
  by_cases hjt : j < t
  · repeat (with_reducible first | refine vP_so ?_ | refine vB_t ?_ | refine vB_f ?_ | refine vE_tt ?_ | refine vE_ff ?_ | refine vE_tf ?_ | refine vE_ft ?_ | refine vE_u ?_ | refine vP_to (by simp (disch := omega) only [gdW_true, gdW_false, gB_true, gB_false, gB_undef, pickV_true, pickV_false, Bool.not_true, Bool.not_false, Option.map_some, bin_add, bin_sub, bin_mul, bin_quo, bin_rem, lss_t, lss_f, leq_t, leq_f, gtr_t, gtr_f, geq_t, geq_f, eqi_t, eqi_f, nei_t, nei_f, rem_uw, conv_ui, conv_iu, conv_ii, not_bool, nil_ptr, fa_mk, ptrV, len_mk, cap_mk, eq_ptr_nil, ne_ptr_nil, eq_nil_nil, ne_nil_nil, eq_slice_nil, eq_nil_slice, ia_1, l5.2.2.2.2]; exact so_so) ?_)
    refine addrC hh5 fun h6 hh6 => ?_
    have l6 := rao_ld hh6
    refine ⟨l6.2.2.2.2, ?_⟩
    repeat (with_reducible first | refine vP_so ?_ | refine vB_t ?_ | refine vB_f ?_ | refine vE_tt ?_ | refine vE_ff ?_ | refine vE_tf ?_ | refine vE_ft ?_ | refine vE_u ?_ | refine vP_to (by simp (disch := omega) only [gdW_true, gdW_false, gB_true, gB_false, gB_undef, pickV_true, pickV_false, Bool.not_true, Bool.not_false, Option.map_some, bin_add, bin_sub, bin_mul, bin_quo, bin_rem, lss_t, lss_f, leq_t, leq_f, gtr_t, gtr_f, geq_t, geq_f, eqi_t, eqi_f, nei_t, nei_f, rem_uw, conv_ui, conv_iu, conv_ii, not_bool, nil_ptr, fa_mk, ptrV, len_mk, cap_mk, eq_ptr_nil, ne_ptr_nil, eq_nil_nil, ne_nil_nil, eq_slice_nil, eq_nil_slice, ia_1]; exact so_so) ?_)
    refine mu_MP (v := .int .i64 0) mapII intU (rao_w hh6) fun h7 hh7 => ?_
    repeat (with_reducible first | refine vP_so ?_ | refine vB_t ?_ | refine vB_f ?_ | refine vE_tt ?_ | refine vE_ff ?_ | refine vE_tf ?_ | refine vE_ft ?_ | refine vE_u ?_ | refine vP_to (by simp (disch := omega) only [gdW_true, gdW_false, gB_true, gB_false, gB_undef, pickV_true, pickV_false, Bool.not_true, Bool.not_false, Option.map_some, bin_add, bin_sub, bin_mul, bin_quo, bin_rem, lss_t, lss_f, leq_t, leq_f, gtr_t, gtr_f, geq_t, geq_f, eqi_t, eqi_f, nei_t, nei_f, rem_uw, conv_ui, conv_iu, conv_ii, not_bool, nil_ptr, fa_mk, ptrV, len_mk, cap_mk, eq_ptr_nil, ne_ptr_nil, eq_nil_nil, ne_nil_nil, eq_slice_nil, eq_nil_slice, ia_1]; exact so_so) ?_)
    refine ⟨t - (j + 1), by omega, j + 1, rfl, rfl, by omega, ?_⟩
    rw [← wfz_succ]
    exact rao_w' hh7
  · obtain rfl : j = t := by omega
    repeat (with_reducible first | refine vP_so ?_ | refine vB_t ?_ | refine vB_f ?_ | refine vE_tt ?_ | refine vE_ff ?_ | refine vE_tf ?_ | refine vE_ft ?_ | refine vE_u ?_ | refine vP_to (by simp (disch := omega) only [gdW_true, gdW_false, gB_true, gB_false, gB_undef, pickV_true, pickV_false, Bool.not_true, Bool.not_false, Option.map_some, bin_add, bin_sub, bin_mul, bin_quo, bin_rem, lss_t, lss_f, leq_t, leq_f, gtr_t, gtr_f, geq_t, geq_f, eqi_t, eqi_f, nei_t, nei_f, rem_uw, conv_ui, conv_iu, conv_ii, not_bool, nil_ptr, fa_mk, ptrV, len_mk, cap_mk, eq_ptr_nil, ne_ptr_nil, eq_nil_nil, ne_nil_nil, eq_slice_nil, eq_nil_slice, ia_1]; exact so_so) ?_)
    refine addrC hh5 fun h6 hh6 => ?_
    refine hK e.s i h6 (ro.at_ hk) hm hff ?_
    rw [Int.toNat_natCast]
    subst hE2
    exact RA_intro ro' hh6
end Go.Proofs

/-
  Contracts of the document's own arena: Span, Drop.
-/
set_option maxRecDepth 100000
set_option maxHeartbeats 8000000
namespace Go.Proofs
open Go.Sl
section
variable {α : Type} {e : Enc α} {P : Program} {ts : Array TypeId} {t t0 t1 E sz bytes : Nat} (ok : ElOk P t0 E sz bytes) (h0 : ts[0]? = some t0) (h1 : ts[1]? = some t1) (hd : noInt P t1) (he : sz = e.sz) (hbp : 0 < bytes)
include ok h0 h1 hd he hbp
theorem cut1 {sv sa : Value} {l m : List α} {F : Asrt} {K : Value → Hp → Prop} {h : Hp} (hp : PartOf e E sv l sa m) (hh : (SG e E sv l * (F * tt)) h) (hb : (2 * m.length + 256) * bytes ≤ 281474976710656)
    (hk : ∀ v h', (SG e E v m * (SG e E sv l * (F * tt))) h' → K v h') : vA (some (Obj.cells #[] E (0, 0), fun r => Value.slice (some ⟨r, 0, none⟩) 0 0)) (fun v0 h1 => apW P ts t v0 sa K h1) h := by
  have hz : (([] : List Value) ++ (e.cs ([] : List α) ++ [])).toArray = (#[] : Array Value) := rfl
  refine vA_new (o := .cells #[] E (0, 0)) (f := fun r => .slice (some ⟨r, 0, none⟩) 0 0) hh fun r h2 hh2 => ?_
  have hh2 : (SG e E (.slice (some ⟨r, 0, none⟩) 0 0) [] * (SG e E sv l * F * tt)) h2 := SG_intro e (pre := []) (post := []) rfl rfl (by simp) (by omega) (by simp) (asr (by rw [hz]; ac_rfl) hh2)
  refine ap_part e (G := SG e E (.slice (some ⟨r, 0, none⟩) 0 0) [] * (F * tt)) ok h0 h1 hd he hbp hh2 hp (asr (by ac_rfl) hh2) (by simpa using hb) fun v h3 hh3 => ?_
  rw [List.nil_append] at hh3
  exact hk v h3 (asr (by ac_rfl) hh3)
theorem cut2 {sv : Value} {m : List α} {x : α} {cs : Array Value} (hcs : cs = (e.cs [x]).toArray) {F : Asrt} {K : Value → Hp → Prop} {h : Hp} (hh : (SG e E sv m * (F * tt)) h) (hb : (2 * (m.length + 1) + 256) * bytes ≤ 281474976710656)
    (hk : ∀ v h', (SG e E v (m ++ [x]) * (F * tt)) h' → K v h') : vA (some (Obj.cells cs E (0, 0), fun r => Value.slice (some ⟨r, 0, none⟩) 1 1)) (fun v0 h1 => apW P ts t sv v0 K h1) h := by
  refine vA_new (o := .cells cs E (0, 0)) (f := fun r => .slice (some ⟨r, 0, none⟩) 1 1) hh fun r h2 hh2 => ?_
  exact ap_new e (l := m) (m := [x]) (F := F) ok h0 h1 hd he hbp hh2 hcs rfl (by simpa using hb) hk
theorem cut3 {sv sw sb : Value} {l m k : List α} {F : Asrt} {K : Value → Hp → Prop} {h : Hp} (hp : PartOf e E sw l sb k) (hh : (SG e E sv m * (SG e E sw l * (F * tt))) h) (hb : (2 * (m.length + k.length) + 256) * bytes ≤ 281474976710656)
    (hk : ∀ v h', (SG e E v (m ++ k) * (F * tt)) h' → K v h') : apW P ts t sv sb K h := by
  refine ap_part e (F := SG e E sw l * F) (G := SG e E sv m * (F * tt)) ok h0 h1 hd he hbp (asr (by ac_rfl) hh) hp (asr (by ac_rfl) hh) hb fun v h3 hh3 => ?_
  exact hk v h3 (dropL (P := SG e E sw l) (Q := SG e E v (m ++ k) * F) (asr (by ac_rfl) hh3) |> asr (by ac_rfl))
end
theorem elP : ElOk Tryz.prog 50 80 1 8 := elB_ok (by kernel_rfl)
theorem niP : noInt Tryz.prog 50 := noInt_sl (e := 80) (by kernel_rfl)
theorem elS : ElOk Tryz.prog 51 22 1 24 := elB_ok (by kernel_rfl)
theorem niS : noInt Tryz.prog 51 := noInt_sl (e := 22) (by kernel_rfl)
theorem SG_slv' {E : Nat} {v : Value} {l : List Int} {F : Asrt} {h : Hp} (hh : (SG iE E v l * F) h) : ∃ s : SlV, v = slv s := by
  rcases SG_elim iE hh with ⟨rfl, _⟩ | ⟨r, cap, pre, post, rfl, _⟩
  · exact ⟨(none, 0, 0), rfl⟩
  · exact ⟨(_, _, _), rfl⟩
theorem ra_ld {a : Nat} {c0 c1 c2 c3 c4 : Value} {F : Asrt} {h : Hp} (hh : (pt a (.cells #[c0, c1, c2, c3, c4] 54 (0, 0)) * F) h) :
    ld1 (.pointer (some ⟨a, 0 + 0, none⟩)) h = some c0 ∧ ld1 (.pointer (some ⟨a, 0 + 1, none⟩)) h = some c1 ∧ ld1 (.pointer (some ⟨a, 0 + 2, none⟩)) h = some c2 ∧
    ld1 (.pointer (some ⟨a, 0 + 3, none⟩)) h = some c3 ∧ ld1 (.pointer (some ⟨a, 0 + 4, none⟩)) h = some c4 :=
  ⟨ld1_mk (pt_get hh) rfl, ld1_mk (pt_get hh) rfl, ld1_mk (pt_get hh) rfl, ld1_mk (pt_get hh) rfl, ld1_mk (pt_get hh) rfl⟩
variable {a ap rw : Nat} {vi vs vl : Value} {n : Nat} {runs : List Run} {E : List REnt} {wf : Int → Option Value}
theorem ROk.insert {st : Ar} (ro : ROk st E wf) {i : Nat} {id first k : Int} {p : Nat} {lv : SlV} {st' : Ar} (hk : 0 ≤ k ∧ k < 16) (hi : i ≤ E.length) (hno : st.sp id = Option.none)
    (h1 : ∀ e ∈ E.take i, e.num < id) (h2 : ∀ e ∈ E.drop i, id < e.num) (e1 : st'.sp = fput st.sp id (newSp first k)) (e2 : st'.ob = st.ob) :
    ROk st' (E.take i ++ ⟨id, p, lv, List.replicate (slS k).toNat 0, newSp first k⟩ :: E.drop i) wf := by
  have hmem : ∀ e, e ∈ E.take i ++ (⟨id, p, lv, List.replicate (slS k).toNat 0, newSp first k⟩ : REnt) :: E.drop i ↔ e = ⟨id, p, lv, List.replicate (slS k).toNat 0, newSp first k⟩ ∨ e ∈ E := fun e => by
    rw [List.mem_append, List.mem_cons]
    conv => rhs; rhs; rw [← List.take_append_drop i E, List.mem_append]
    constructor
    · rintro (h | h | h)
      · exact .inr (.inl h)
      · exact .inl h
      · exact .inr (.inr h)
    · rintro (h | h | h)
      · exact .inr (.inl h)
      · exact .inl h
      · exact .inr (.inr h)
  have hnu : ∀ j : Nat, (newSp first k).used[j]? ≠ some true := fun j hj => by
    have hj : (List.replicate (slS k).toNat false)[j]? = some true := hj
    rw [List.getElem?_replicate] at hj
    split at hj <;> cases hj
  refine ⟨?_, fun x s => ?_, fun e he => ?_, fun e he j l hu ho => ?_, fun x l j c hx hj => ?_⟩
  · have hr := ro.rise
    unfold Rise at *
    rw [List.pairwise_map] at *
    rw [← List.take_append_drop i E, List.pairwise_append] at hr
    rw [List.pairwise_append, List.pairwise_cons]
    refine ⟨hr.1, ⟨h2, hr.2.1⟩, fun x hx y hy => ?_⟩
    rcases List.mem_cons.1 hy with rfl | hy
    · exact h1 x hx
    · exact hr.2.2 x hx y hy
  · rw [e1]
    by_cases hx : x = id
    · subst hx
      rw [fput_eq]
      constructor
      · intro q
        exact ⟨_, (hmem _).2 (.inl rfl), rfl, Option.some.inj q⟩
      · rintro ⟨e, he, q1, q2⟩
        rcases (hmem e).1 he with rfl | he
        · rw [← q2]
        · have := (ro.mem _ _).2 ⟨e, he, rfl, rfl⟩
          rw [q1, hno] at this; cases this
    · rw [fput_ne hx, ro.mem]
      constructor
      · rintro ⟨e, he, q⟩; exact ⟨e, (hmem e).2 (.inr he), q⟩
      · rintro ⟨e, he, q1, q2⟩
        rcases (hmem e).1 he with rfl | he
        · exact (hx q1.symm).elim
        · exact ⟨e, he, q1, q2⟩
  · rcases (hmem e).1 he with rfl | he
    · show (List.replicate (slS k).toNat (0 : Int)).length = (List.replicate (slS k).toNat false).length
      rw [List.length_replicate, List.length_replicate]
    · exact ro.len e he
  · rw [e2] at ho
    rcases (hmem e).1 he with rfl | he
    · exact (hnu j hu).elim
    · exact ro.val e he j l hu ho
  · rw [e2] at hx
    exact ro.words x l j c hx hj
theorem use_respan {st : Ar} {N : Nat} {k : Int} (ok : AOk st N) (hN : N ≤ 1000000) {F : Asrt} {K : Value → Hp → Prop} {h : Hp} (hh : (RA a st * (F * tt)) h)
    (hbad : ∀ h', ¬ (0 ≤ k ∧ k < 16) → (RA a st * (F * tt)) h' → K (tup 0 1) h')
    (hfull : ∀ h', 0 ≤ k ∧ k < 16 → (∀ r ∈ st.runs, r.2 < pgS k) → (RA a st * (F * tt)) h' → K (tup 0 3) h')
    (hK : ∀ st' id b h', 0 ≤ k ∧ k < 16 → SpanR st k st' id b → (RA a st' * (F * tt)) h' → K (tup id 0) h') : CallH Tryz.prog 49 #[pB a, .int .i64 k] K h := by
  refine C49 ?_
  unfold D49
  refine use_rsize (F := RA a st * F) (asr (by ac_rfl) hh) fun h1 hh1 => ?_
  by_cases hk : 0 ≤ k ∧ k < 16
  rotate_left
  · rw [szS_out hk]
    repeat (with_reducible first | refine vP_so ?_ | refine vB_t ?_ | refine vB_f ?_ | refine vE_tt ?_ | refine vE_ff ?_ | refine vE_tf ?_ | refine vE_ft ?_ | refine vE_u ?_ | refine vP_to (by simp (disch := omega) only [gdW_true, gdW_false, gB_true, gB_false, gB_undef, pickV_true, pickV_false, Bool.not_true, Bool.not_false, Option.map_some, bin_add, bin_sub, bin_mul, bin_quo, bin_rem, lss_t, lss_f, leq_t, leq_f, gtr_t, gtr_f, geq_t, geq_f, eqi_t, eqi_f, nei_t, nei_f, rem_uw, conv_ui, conv_iu, conv_ii, not_bool, nil_ptr, fa_mk, ptrV, len_mk, cap_mk, eq_ptr_nil, ne_ptr_nil, eq_nil_nil, ne_nil_nil, eq_slice_nil, eq_nil_slice, ia_1]; exact so_so) ?_)
    exact hbad h1 hk (asr (by ac_rfl) hh1)
  have hsz := szS_pos hk
  have hpg := pgS_pos hk
  have hsl := slS_pos hk
  obtain ⟨ap, rw', vi, vs, vl, E, wf, ro, hp⟩ := RA_elim (show (RA a st * (F * tt)) h1 from asr (by ac_rfl) hh1)
  have hEN := ro.len_le ok
  have l := rao_ld hp
  repeat (with_reducible first | refine vP_so ?_ | refine vB_t ?_ | refine vB_f ?_ | refine vE_tt ?_ | refine vE_ff ?_ | refine vE_tf ?_ | refine vE_ft ?_ | refine vE_u ?_ | refine vP_to (by simp (disch := omega) only [gdW_true, gdW_false, gB_true, gB_false, gB_undef, pickV_true, pickV_false, Bool.not_true, Bool.not_false, Option.map_some, bin_add, bin_sub, bin_mul, bin_quo, bin_rem, lss_t, lss_f, leq_t, leq_f, gtr_t, gtr_f, geq_t, geq_f, eqi_t, eqi_f, nei_t, nei_f, rem_uw, conv_ui, conv_iu, conv_ii, not_bool, nil_ptr, fa_mk, ptrV, len_mk, cap_mk, eq_ptr_nil, ne_ptr_nil, eq_nil_nil, ne_nil_nil, eq_slice_nil, eq_nil_slice, ia_1, l.1]; exact so_so) ?_)
  refine use_refPages hk (F := RAO a ap rw' vi vs vl st.n st.runs E wf * F) (asr (by ac_rfl) hp) fun h2 hh2 => ?_
  have hh2 : (RAO a ap rw' vi vs vl st.n st.runs E wf * (F * tt)) h2 := asr (by ac_rfl) hh2
  refine ⟨(rao_ld hh2).1, ?_⟩
  have hFL : (FLs ap st.n st.runs * (pt a (.cells #[pB ap, vi, vs, vl, .map (some rw')] 54 (0, 0)) * (SG iE 3 vi (E.map (·.num)) * (SG pE 80 vs (E.map (·.p)) * (SG sE 22 vl (E.map (·.lv)) * (starL E entA * (MP rw' wf * F))))) * tt)) h2 := by
    unfold RAO at hh2
    exact asr (by ac_rfl) hh2
  refine use_ralloc ok.wf (by have := ok.n; omega) hFL fun v21 l' h3 hv w' hh3 => ?_
  have hb3 : (RAO a ap rw' vi vs vl st.n l' E wf * (F * tt)) h3 := by
    unfold RAO
    exact asr (by ac_rfl) hh3
  rcases hv with ⟨q, _⟩ | ⟨_, hfl, rfl, rfl⟩ | ⟨_, b, hb, hb2, hbest, rfl, hfr', hlf'⟩
  · omega
  · have z : eqV 1 true (.int .i64 3) (.int .i64 0) = some (.bool true) := rfl
    repeat (with_reducible first | refine vP_so ?_ | refine vB_t ?_ | refine vB_f ?_ | refine vE_tt ?_ | refine vE_ff ?_ | refine vE_tf ?_ | refine vE_ft ?_ | refine vE_u ?_ | refine vP_to (by simp (disch := omega) only [gdW_true, gdW_false, gB_true, gB_false, gB_undef, pickV_true, pickV_false, Bool.not_true, Bool.not_false, Option.map_some, bin_add, bin_sub, bin_mul, bin_quo, bin_rem, lss_t, lss_f, leq_t, leq_f, gtr_t, gtr_f, geq_t, geq_f, eqi_t, eqi_f, nei_t, nei_f, rem_uw, conv_ui, conv_iu, conv_ii, not_bool, nil_ptr, fa_mk, ptrV, len_mk, cap_mk, eq_ptr_nil, ne_ptr_nil, eq_nil_nil, ne_nil_nil, eq_slice_nil, eq_nil_slice, ia_1, exV0, exV1, z]; exact so_so) ?_)
    exact hfull h3 hk hfl (RA_intro ro hb3)
  have z : eqV 1 true (.int .i64 0) (.int .i64 0) = some (.bool false) := rfl
  repeat (with_reducible first | refine vP_so ?_ | refine vB_t ?_ | refine vB_f ?_ | refine vE_tt ?_ | refine vE_ff ?_ | refine vE_tf ?_ | refine vE_ft ?_ | refine vE_u ?_ | refine vP_to (by simp (disch := omega) only [gdW_true, gdW_false, gB_true, gB_false, gB_undef, pickV_true, pickV_false, Bool.not_true, Bool.not_false, Option.map_some, bin_add, bin_sub, bin_mul, bin_quo, bin_rem, lss_t, lss_f, leq_t, leq_f, gtr_t, gtr_f, geq_t, geq_f, eqi_t, eqi_f, nei_t, nei_f, rem_uw, conv_ui, conv_iu, conv_ii, not_bool, nil_ptr, fa_mk, ptrV, len_mk, cap_mk, eq_ptr_nil, ne_ptr_nil, eq_nil_nil, ne_nil_nil, eq_slice_nil, eq_nil_slice, ia_1, exV0, exV1, z]; exact so_so) ?_)
  have hl := rao_len hb3
  have hids : ∀ e ∈ E, 0 ≤ e.num ∧ e.num < N := fun e he => by
    have := ok.sp _ _ ((ro.mem _ _).2 ⟨e, he, rfl, rfl⟩)
    omega
  refine ⟨fun mm zs h' => ∃ j : Nat, zs = [.int .i64 j] ∧ mm = N - j ∧ j ≤ N ∧ (∀ x : Int, 0 ≤ x → x < j → st.sp x ≠ none) ∧ h' = h3, ⟨_, 0, rfl, rfl, by omega, fun x h1 h2 => by omega, rfl⟩, ?_⟩
  rintro mm v8 h4 ⟨j, hzs, rfl, hj, hlow, rfl⟩ _
  obtain rfl : v8 = .int .i64 j := by simpa using hzs
  refine use_refind hb3 (fun hno => ?_) fun k' e hk' he => ?_
  rotate_left
  · have hjs : st.sp (j : Int) ≠ none := by rw [← he, ro.at_ hk']; simp
    have hjN : (j : Int) < N := by
      have := (hids e (List.mem_of_getElem? hk')).2
      omega
    repeat (with_reducible first | refine vP_so ?_ | refine vB_t ?_ | refine vB_f ?_ | refine vE_tt ?_ | refine vE_ff ?_ | refine vE_tf ?_ | refine vE_ft ?_ | refine vE_u ?_ | refine vP_to (by simp (disch := omega) only [gdW_true, gdW_false, gB_true, gB_false, gB_undef, pickV_true, pickV_false, Bool.not_true, Bool.not_false, Option.map_some, bin_add, bin_sub, bin_mul, bin_quo, bin_rem, lss_t, lss_f, leq_t, leq_f, gtr_t, gtr_f, geq_t, geq_f, eqi_t, eqi_f, nei_t, nei_f, rem_uw, conv_ui, conv_iu, conv_ii, not_bool, nil_ptr, fa_mk, ptrV, len_mk, cap_mk, eq_ptr_nil, ne_ptr_nil, eq_nil_nil, ne_nil_nil, eq_slice_nil, eq_nil_slice, ia_1]; exact so_so) ?_)
    exact ⟨N - (j + 1), by omega, j + 1, rfl, rfl, by omega, fun x h1 h2 => by
      rcases Int.lt_or_le x j with q | q
      · exact hlow x h1 q
      · obtain rfl : x = j := by omega
        exact hjs, rfl⟩
  have hnone := ro.none hno
  have hleast : Least st.sp (j : Int) := ⟨by omega, hnone, fun x h1 h2 => hlow x h1 h2⟩
  repeat (with_reducible first | refine vP_so ?_ | refine vB_t ?_ | refine vB_f ?_ | refine vE_tt ?_ | refine vE_ff ?_ | refine vE_tf ?_ | refine vE_ft ?_ | refine vE_u ?_ | refine vP_to (by simp (disch := omega) only [gdW_true, gdW_false, gB_true, gB_false, gB_undef, pickV_true, pickV_false, Bool.not_true, Bool.not_false, Option.map_some, bin_add, bin_sub, bin_mul, bin_quo, bin_rem, lss_t, lss_f, leq_t, leq_f, gtr_t, gtr_f, geq_t, geq_f, eqi_t, eqi_f, nei_t, nei_f, rem_uw, conv_ui, conv_iu, conv_ii, not_bool, nil_ptr, fa_mk, ptrV, len_mk, cap_mk, eq_ptr_nil, ne_ptr_nil, eq_nil_nil, ne_nil_nil, eq_slice_nil, eq_nil_slice, ia_1]; exact so_so) ?_)
  have lb := rao_ld hb3
  refine ⟨fun mm zs h' => ∃ i : Nat, zs = [.int .i64 i] ∧ mm = E.length - i ∧ i ≤ E.length ∧ (∀ e ∈ E.take i, e.num < j) ∧ h' = h4, ⟨_, 0, rfl, rfl, by omega, by simp, rfl⟩, ?_⟩
  rintro mm v9 h5 ⟨i, hzs, rfl, hi, hbelow, rfl⟩ _
  obtain rfl : v9 = .int .i64 i := by simpa using hzs
  by_cases hlt : ∃ e, E[i]? = some e ∧ e.num < j
  · obtain ⟨e, he, hej⟩ := hlt
    have hil := (List.getElem?_eq_some_iff.1 he).1
    obtain ⟨q, q1, q2⟩ := rao_id he hb3
    repeat (with_reducible first | refine vP_so ?_ | refine vB_t ?_ | refine vB_f ?_ | refine vE_tt ?_ | refine vE_ff ?_ | refine vE_tf ?_ | refine vE_ft ?_ | refine vE_u ?_ | refine vP_to (by simp (disch := omega) only [gdW_true, gdW_false, gB_true, gB_false, gB_undef, pickV_true, pickV_false, Bool.not_true, Bool.not_false, Option.map_some, bin_add, bin_sub, bin_mul, bin_quo, bin_rem, lss_t, lss_f, leq_t, leq_f, gtr_t, gtr_f, geq_t, geq_f, eqi_t, eqi_f, nei_t, nei_f, rem_uw, conv_ui, conv_iu, conv_ii, not_bool, nil_ptr, fa_mk, ptrV, len_mk, cap_mk, eq_ptr_nil, ne_ptr_nil, eq_nil_nil, ne_nil_nil, eq_slice_nil, eq_nil_slice, ia_1, lb.2.1, hl.1, q1, q2]; exact so_so) ?_)
    refine ⟨E.length - (i + 1), by omega, i + 1, rfl, rfl, by omega, fun e' he' => ?_, rfl⟩
    obtain ⟨_, rfl⟩ := List.getElem?_eq_some_iff.1 he
    rw [List.take_succ_eq_append_getElem hil, List.mem_append, List.mem_singleton] at he'
    rcases he' with he' | rfl
    · exact hbelow e' he'
    · exact hej
  have habove : ∀ e ∈ E.drop i, (j : Int) < e.num := fun e he => by
    have hil : i < E.length := by
      rcases Nat.lt_or_ge i E.length with q | q
      · exact q
      · rw [List.drop_eq_nil_of_le q] at he; cases he
    have h0 : ¬ E[i].num < j := fun q => hlt ⟨_, List.getElem?_eq_getElem hil, q⟩
    have hr := ro.rise
    unfold Rise at hr
    rw [List.pairwise_map, ← List.take_append_drop i E, List.pairwise_append, List.drop_eq_getElem_cons hil, List.pairwise_cons] at hr
    have hne := hno E[i] (List.getElem_mem hil)
    rw [List.drop_eq_getElem_cons hil] at he
    rcases List.mem_cons.1 he with rfl | he
    · omega
    · have := hr.2.1.1 e he
      omega
  have rest : CallH Tryz.prog 93 #[.int .i64 b.1, .int .i64 k] (fun v55 h7 => ∃ p : Nat, v55 = pB p ∧ (RSP p (newSp b.1 k) * (RAO a ap rw' vi vs vl st.n l' E wf * F * tt)) h7) h5 := by
    have hrng : 1 ≤ b.1 ∧ b.1 ≤ 262144 := by
      have := WFf_mem ok.wf (by omega) b hb
      have := ok.n
      omega
    exact use_rsnew hk hrng (F := RAO a ap rw' vi vs vl st.n l' E wf * F) (asr (by ac_rfl) hb3) fun p h' q => ⟨p, rfl, q⟩
  have st' : ∃ st' : Ar, SpanR st k st' j b ∧ st'.n = st.n ∧ st'.runs = l' ∧ st'.sp = fput st.sp j (newSp b.1 k) ∧ st'.ob = st.ob :=
    ⟨{ n := st.n, runs := l', sp := fput st.sp j (newSp b.1 k), ow := owPut st.ow b.1 (pgS k) j, ob := st.ob, live := st.live }, ⟨hb, hb2, hbest, hleast, rfl, hfr', hlf', w', rfl, rfl, rfl, rfl⟩, rfl, rfl, rfl, rfl⟩
  obtain ⟨st', hR, en, er, es, eo⟩ := st'
  have hgo : (∀ (p : Nat) h7, (RSP p (newSp b.1 k) * (RAO a ap rw' vi vs vl st.n l' E wf * F * tt)) h7 →
      vP (nilV (pB a)) fun v59 =>
      vP (faV 1 v59) fun v60 =>
      vP (nilV (pB a)) fun v69 =>
      vP (faV 1 v69) fun v70 =>
      vP (ld1 v60 h7) fun v61 =>
      vP (slV 1 v61 none (some (Value.int .i64 (i : Int))) none) fun v63 =>
      vP (ld1 v70 h7) fun v71 =>
      vP (slV 1 v71 (some (Value.int .i64 (i : Int))) none none) fun v73 =>
      vA ((bldV #[] []).map fun c => (Obj.cells c 3 (0, 0), fun r => Value.slice (some ⟨r, 0, none⟩) 0 0)) (fun v57 h8 =>
      apW Tryz.prog #[22, 22] 22 v57 v63 (fun v64 h9 =>
      (ld1 v70 h9) = some v71 ∧ (vA ((bldV #[(Value.int .i64 0)] [(0, 1, Value.int .i64 (j : Int))]).map fun c => (Obj.cells c 3 (0, 0), fun r => Value.slice (some ⟨r, 0, none⟩) 1 1)) (fun v66 h10 =>
      apW Tryz.prog #[22, 22] 22 v64 v66 (fun v67 h11 =>
      (ld1 v70 h11) = some v71 ∧ (apW Tryz.prog #[22, 22] 22 v67 v73 (fun v74 h12 =>
      vP (nilV (pB a)) fun v75 =>
      vP (faV 1 v75) fun v76 =>
      st1 v76 v74 (fun _ h13 =>
      vP (nilV (pB a)) fun v80 =>
      vP (faV 2 v80) fun v81 =>
      vP (nilV (pB a)) fun v90 =>
      vP (faV 2 v90) fun v91 =>
      vP (ld1 v81 h13) fun v82 =>
      vP (slV 1 v82 none (some (Value.int .i64 (i : Int))) none) fun v84 =>
      vP (ld1 v91 h13) fun v92 =>
      vP (slV 1 v92 (some (Value.int .i64 (i : Int))) none none) fun v94 =>
      vA ((bldV #[] []).map fun c => (Obj.cells c 80 (0, 0), fun r => Value.slice (some ⟨r, 0, none⟩) 0 0)) (fun v78 h14 =>
      apW Tryz.prog #[50, 50] 50 v78 v84 (fun v85 h15 =>
      (ld1 v91 h15) = some v92 ∧ (vA ((bldV #[(Value.pointer none)] [(0, 1, pB p)]).map fun c => (Obj.cells c 80 (0, 0), fun r => Value.slice (some ⟨r, 0, none⟩) 1 1)) (fun v87 h16 =>
      apW Tryz.prog #[50, 50] 50 v85 v87 (fun v88 h17 =>
      (ld1 v91 h17) = some v92 ∧ (apW Tryz.prog #[50, 50] 50 v88 v94 (fun v95 h18 =>
      vP (nilV (pB a)) fun v96 =>
      vP (faV 2 v96) fun v97 =>
      st1 v97 v95 (fun _ h19 =>
      vP (nilV (pB a)) fun v101 =>
      vP (faV 3 v101) fun v102 =>
      vP (nilV (pB p)) fun v108 =>
      vP (faV 2 v108) fun v109 =>
      vP (nilV (pB a)) fun v116 =>
      vP (faV 3 v116) fun v117 =>
      vP (ld1 v102 h19) fun v103 =>
      vP (slV 1 v103 none (some (Value.int .i64 (i : Int))) none) fun v105 =>
      vP (ld1 v109 h19) fun v110 =>
      vP (lenV v110) fun v111 =>
      vP (ld1 v117 h19) fun v118 =>
      vP (slV 1 v118 (some (Value.int .i64 (i : Int))) none none) fun v120 =>
      vA ((bldV #[] []).map fun c => (Obj.cells c 22 (0, 0), fun r => Value.slice (some ⟨r, 0, none⟩) 0 0)) (fun v99 h20 =>
      apW Tryz.prog #[51, 51] 51 v99 v105 (fun v106 h21 =>
      (ld1 v117 h21) = some v118 ∧ ((ld1 v109 h21) = some v110 ∧ (vA (msV 8 1 3 #[(Value.int .i64 0)] v111 v111) (fun v112 h22 =>
      vA ((bldV #[(Value.slice none 0 0)] [(0, 1, v112)]).map fun c => (Obj.cells c 22 (0, 0), fun r => Value.slice (some ⟨r, 0, none⟩) 1 1)) (fun v113 h23 =>
      apW Tryz.prog #[51, 51] 51 v106 v113 (fun v114 h24 =>
      (ld1 v117 h24) = some v118 ∧ (apW Tryz.prog #[51, 51] 51 v114 v120 (fun v121 h25 =>
      vP (nilV (pB a)) fun v122 =>
      vP (faV 3 v122) fun v123 =>
      st1 v123 v121 (fun _ h26 =>
      K (tup (j : Int) 0) h26) h25) h24)) h23) h22) h21))) h20) h19) h18) h17)) h16) h15)) h14) h13) h12) h11)) h10) h9)) h8) h7) := by
    intro p h7 hh7
    have hle : (E.map (·.num)).length = E.length ∧ (E.map (·.p)).length = E.length ∧ (E.map (·.lv)).length = E.length := ⟨List.length_map _, List.length_map _, List.length_map _⟩
    have t1 : ∀ {α : Type} (f : REnt → α), ((E.map f).take i).length ≤ 1000000 := fun f => by rw [List.length_take, List.length_map]; omega
    have t2 : ∀ {α : Type} (f : REnt → α), ((E.map f).drop i).length ≤ 1000000 := fun f => by rw [List.length_drop, List.length_map]; omega
    -- the numbers
    have c1 : (pt a (.cells #[pB ap, vi, vs, vl, .map (some rw')] 54 (0, 0)) * (SG iE 3 vi (E.map (·.num)) * (SG pE 80 vs (E.map (·.p)) * (SG sE 22 vl (E.map (·.lv)) * (RSP p (newSp b.1 k) * (FLs ap st.n l' * (starL E entA * (MP rw' wf * (F * tt))))))))) h7 := by
      unfold RAO at hh7
      exact asr (by ac_rfl) hh7
    generalize hG : (FLs ap st.n l' * (starL E entA * (MP rw' wf * F)) : Asrt) = G
    have c1 : (pt a (.cells #[pB ap, vi, vs, vl, .map (some rw')] 54 (0, 0)) * (SG iE 3 vi (E.map (·.num)) * (SG pE 80 vs (E.map (·.p)) * (SG sE 22 vl (E.map (·.lv)) * (RSP p (newSp b.1 k) * (G * tt)))))) h7 := by
      rw [← hG]; exact asr (by ac_rfl) c1
    have l7 := ra_ld c1
    have a1 : (SG iE 3 vi (E.map (·.num)) * ((pt a (.cells #[pB ap, vi, vs, vl, .map (some rw')] 54 (0, 0)) * (SG pE 80 vs (E.map (·.p)) * (SG sE 22 vl (E.map (·.lv)) * (RSP p (newSp b.1 k) * G)))) * tt)) h7 := asr (by ac_rfl) c1
    obtain ⟨ia, ia1, ia2⟩ := part_to iE (j := i) a1 (by omega) .i64
    obtain ⟨ib, ib1, ib2⟩ := part_from iE (i := i) a1 (by omega) .i64
    have ia1 : slV 1 vi none (some (.int .i64 (i : Int))) none = some ia := ia1
    have ib1 : slV 1 vi (some (.int .i64 (i : Int))) none none = some ib := ib1
    have z0 : bldV #[] [] = some #[] := rfl
    have zj : bldV #[.int .i64 0] [(0, 1, .int .i64 (j : Int))] = some #[.int .i64 (j : Int)] := rfl
    have zp : bldV #[.pointer none] [(0, 1, pB p)] = some #[pB p] := rfl
    repeat (with_reducible first | refine vP_so ?_ | refine vB_t ?_ | refine vB_f ?_ | refine vE_tt ?_ | refine vE_ff ?_ | refine vE_tf ?_ | refine vE_ft ?_ | refine vE_u ?_ | refine vP_to (by simp (disch := omega) only [gdW_true, gdW_false, gB_true, gB_false, gB_undef, pickV_true, pickV_false, Bool.not_true, Bool.not_false, Option.map_some, bin_add, bin_sub, bin_mul, bin_quo, bin_rem, lss_t, lss_f, leq_t, leq_f, gtr_t, gtr_f, geq_t, geq_f, eqi_t, eqi_f, nei_t, nei_f, rem_uw, conv_ui, conv_iu, conv_ii, not_bool, nil_ptr, fa_mk, ptrV, len_mk, cap_mk, eq_ptr_nil, ne_ptr_nil, eq_nil_nil, ne_nil_nil, eq_slice_nil, eq_nil_slice, ia_1, l7.2.1, ia1, ib1, z0, zj]; exact so_so) ?_)
    refine cut1 elInt rfl rfl niInts rfl (by omega) ia2 a1 (by have := t1 (·.num); omega) fun v64 h9 hh9 => ?_
    refine ⟨(ra_ld (show (pt a (.cells #[pB ap, vi, vs, vl, .map (some rw')] 54 (0, 0)) * (SG iE 3 v64 ((E.map (·.num)).take i) * (SG iE 3 vi (E.map (·.num)) * (SG pE 80 vs (E.map (·.p)) * (SG sE 22 vl (E.map (·.lv)) * (RSP p (newSp b.1 k) * (G * tt))))))) h9 from asr (by ac_rfl) hh9)).2.1, ?_⟩
    repeat (with_reducible first | refine vP_so ?_ | refine vB_t ?_ | refine vB_f ?_ | refine vE_tt ?_ | refine vE_ff ?_ | refine vE_tf ?_ | refine vE_ft ?_ | refine vE_u ?_ | refine vP_to (by simp (disch := omega) only [gdW_true, gdW_false, gB_true, gB_false, gB_undef, pickV_true, pickV_false, Bool.not_true, Bool.not_false, Option.map_some, bin_add, bin_sub, bin_mul, bin_quo, bin_rem, lss_t, lss_f, leq_t, leq_f, gtr_t, gtr_f, geq_t, geq_f, eqi_t, eqi_f, nei_t, nei_f, rem_uw, conv_ui, conv_iu, conv_ii, not_bool, nil_ptr, fa_mk, ptrV, len_mk, cap_mk, eq_ptr_nil, ne_ptr_nil, eq_nil_nil, ne_nil_nil, eq_slice_nil, eq_nil_slice, ia_1]; exact so_so) ?_)
    refine cut2 (e := iE) (E := 3) (sv := v64) (m := (E.map (·.num)).take i) (F := SG iE 3 vi (E.map (·.num)) * (pt a (.cells #[pB ap, vi, vs, vl, .map (some rw')] 54 (0, 0)) * (SG pE 80 vs (E.map (·.p)) * (SG sE 22 vl (E.map (·.lv)) * (RSP p (newSp b.1 k) * G))))) elInt rfl rfl niInts rfl (by omega) (x := (j : Int)) rfl (asr (by ac_rfl) hh9) (by have := t1 (·.num); omega) fun v67 h11 hh11 => ?_
    refine ⟨(ra_ld (show (pt a (.cells #[pB ap, vi, vs, vl, .map (some rw')] 54 (0, 0)) * (SG iE 3 v67 ((E.map (·.num)).take i ++ [(j : Int)]) * (SG iE 3 vi (E.map (·.num)) * (SG pE 80 vs (E.map (·.p)) * (SG sE 22 vl (E.map (·.lv)) * (RSP p (newSp b.1 k) * (G * tt))))))) h11 from asr (by ac_rfl) hh11)).2.1, ?_⟩
    refine cut3 (e := iE) (E := 3) (sv := v67) (sw := vi) (m := (E.map (·.num)).take i ++ [(j : Int)]) (l := E.map (·.num)) (F := pt a (.cells #[pB ap, vi, vs, vl, .map (some rw')] 54 (0, 0)) * (SG pE 80 vs (E.map (·.p)) * (SG sE 22 vl (E.map (·.lv)) * (RSP p (newSp b.1 k) * G)))) elInt rfl rfl niInts rfl (by omega) ib2 (asr (by ac_rfl) hh11) (by have := t1 (·.num); have := t2 (·.num); simp only [List.length_append, List.length_singleton]; omega) fun v74 h12 hh12 => ?_
    have o74 := SG_one iE hh12
    repeat (with_reducible first | refine vP_so ?_ | refine vB_t ?_ | refine vB_f ?_ | refine vE_tt ?_ | refine vE_ff ?_ | refine vE_tf ?_ | refine vE_ft ?_ | refine vE_u ?_ | refine vP_to (by simp (disch := omega) only [gdW_true, gdW_false, gB_true, gB_false, gB_undef, pickV_true, pickV_false, Bool.not_true, Bool.not_false, Option.map_some, bin_add, bin_sub, bin_mul, bin_quo, bin_rem, lss_t, lss_f, leq_t, leq_f, gtr_t, gtr_f, geq_t, geq_f, eqi_t, eqi_f, nei_t, nei_f, rem_uw, conv_ui, conv_iu, conv_ii, not_bool, nil_ptr, fa_mk, ptrV, len_mk, cap_mk, eq_ptr_nil, ne_ptr_nil, eq_nil_nil, ne_nil_nil, eq_slice_nil, eq_nil_slice, ia_1]; exact so_so) ?_)
    refine st1_mk (show (pt a (.cells #[pB ap, vi, vs, vl, .map (some rw')] 54 (0, 0)) * (SG iE 3 v74 ((E.map (·.num)).take i ++ [(j : Int)] ++ (E.map (·.num)).drop i) * (SG pE 80 vs (E.map (·.p)) * (SG sE 22 vl (E.map (·.lv)) * (RSP p (newSp b.1 k) * (G * tt)))))) h12 from asr (by ac_rfl) hh12) o74 (by simp) fun h13 hh13 => ?_
    have hh13 : (pt a (.cells #[pB ap, v74, vs, vl, .map (some rw')] 54 (0, 0)) * (SG iE 3 v74 ((E.map (·.num)).take i ++ [(j : Int)] ++ (E.map (·.num)).drop i) * (SG pE 80 vs (E.map (·.p)) * (SG sE 22 vl (E.map (·.lv)) * (RSP p (newSp b.1 k) * (G * tt)))))) h13 := hh13
    generalize hI : ((E.map (·.num)).take i ++ [(j : Int)] ++ (E.map (·.num)).drop i) = I at *
    -- the pointers
    have l13 := ra_ld hh13
    have a2 : (SG pE 80 vs (E.map (·.p)) * ((pt a (.cells #[pB ap, v74, vs, vl, .map (some rw')] 54 (0, 0)) * (SG iE 3 v74 I * (SG sE 22 vl (E.map (·.lv)) * (RSP p (newSp b.1 k) * G)))) * tt)) h13 := asr (by ac_rfl) hh13
    obtain ⟨sa, sa1, sa2⟩ := part_to pE (j := i) a2 (by omega) .i64
    obtain ⟨sb, sb1, sb2⟩ := part_from pE (i := i) a2 (by omega) .i64
    have sa1 : slV 1 vs none (some (.int .i64 (i : Int))) none = some sa := sa1
    have sb1 : slV 1 vs (some (.int .i64 (i : Int))) none none = some sb := sb1
    repeat (with_reducible first | refine vP_so ?_ | refine vB_t ?_ | refine vB_f ?_ | refine vE_tt ?_ | refine vE_ff ?_ | refine vE_tf ?_ | refine vE_ft ?_ | refine vE_u ?_ | refine vP_to (by simp (disch := omega) only [gdW_true, gdW_false, gB_true, gB_false, gB_undef, pickV_true, pickV_false, Bool.not_true, Bool.not_false, Option.map_some, bin_add, bin_sub, bin_mul, bin_quo, bin_rem, lss_t, lss_f, leq_t, leq_f, gtr_t, gtr_f, geq_t, geq_f, eqi_t, eqi_f, nei_t, nei_f, rem_uw, conv_ui, conv_iu, conv_ii, not_bool, nil_ptr, fa_mk, ptrV, len_mk, cap_mk, eq_ptr_nil, ne_ptr_nil, eq_nil_nil, ne_nil_nil, eq_slice_nil, eq_nil_slice, ia_1, l13.2.2.1, sa1, sb1, z0, zp]; exact so_so) ?_)
    refine cut1 elP rfl rfl niP rfl (by omega) sa2 a2 (by have := t1 (·.p); omega) fun v85 h15 hh15 => ?_
    refine ⟨(ra_ld (show (pt a (.cells #[pB ap, v74, vs, vl, .map (some rw')] 54 (0, 0)) * (SG pE 80 v85 ((E.map (·.p)).take i) * (SG pE 80 vs (E.map (·.p)) * (SG iE 3 v74 I * (SG sE 22 vl (E.map (·.lv)) * (RSP p (newSp b.1 k) * (G * tt))))))) h15 from asr (by ac_rfl) hh15)).2.2.1, ?_⟩
    repeat (with_reducible first | refine vP_so ?_ | refine vB_t ?_ | refine vB_f ?_ | refine vE_tt ?_ | refine vE_ff ?_ | refine vE_tf ?_ | refine vE_ft ?_ | refine vE_u ?_ | refine vP_to (by simp (disch := omega) only [gdW_true, gdW_false, gB_true, gB_false, gB_undef, pickV_true, pickV_false, Bool.not_true, Bool.not_false, Option.map_some, bin_add, bin_sub, bin_mul, bin_quo, bin_rem, lss_t, lss_f, leq_t, leq_f, gtr_t, gtr_f, geq_t, geq_f, eqi_t, eqi_f, nei_t, nei_f, rem_uw, conv_ui, conv_iu, conv_ii, not_bool, nil_ptr, fa_mk, ptrV, len_mk, cap_mk, eq_ptr_nil, ne_ptr_nil, eq_nil_nil, ne_nil_nil, eq_slice_nil, eq_nil_slice, ia_1]; exact so_so) ?_)
    refine cut2 (e := pE) (E := 80) (sv := v85) (m := (E.map (·.p)).take i) (F := SG pE 80 vs (E.map (·.p)) * (pt a (.cells #[pB ap, v74, vs, vl, .map (some rw')] 54 (0, 0)) * (SG iE 3 v74 I * (SG sE 22 vl (E.map (·.lv)) * (RSP p (newSp b.1 k) * G))))) elP rfl rfl niP rfl (by omega) (x := p) rfl (asr (by ac_rfl) hh15) (by have := t1 (·.p); omega) fun v88 h17 hh17 => ?_
    refine ⟨(ra_ld (show (pt a (.cells #[pB ap, v74, vs, vl, .map (some rw')] 54 (0, 0)) * (SG pE 80 v88 ((E.map (·.p)).take i ++ [p]) * (SG pE 80 vs (E.map (·.p)) * (SG iE 3 v74 I * (SG sE 22 vl (E.map (·.lv)) * (RSP p (newSp b.1 k) * (G * tt))))))) h17 from asr (by ac_rfl) hh17)).2.2.1, ?_⟩
    refine cut3 (e := pE) (E := 80) (sv := v88) (sw := vs) (m := (E.map (·.p)).take i ++ [p]) (l := E.map (·.p)) (F := pt a (.cells #[pB ap, v74, vs, vl, .map (some rw')] 54 (0, 0)) * (SG iE 3 v74 I * (SG sE 22 vl (E.map (·.lv)) * (RSP p (newSp b.1 k) * G)))) elP rfl rfl niP rfl (by omega) sb2 (asr (by ac_rfl) hh17) (by have := t1 (·.p); have := t2 (·.p); simp only [List.length_append, List.length_singleton]; omega) fun v95 h18 hh18 => ?_
    have o95 := SG_one pE hh18
    repeat (with_reducible first | refine vP_so ?_ | refine vB_t ?_ | refine vB_f ?_ | refine vE_tt ?_ | refine vE_ff ?_ | refine vE_tf ?_ | refine vE_ft ?_ | refine vE_u ?_ | refine vP_to (by simp (disch := omega) only [gdW_true, gdW_false, gB_true, gB_false, gB_undef, pickV_true, pickV_false, Bool.not_true, Bool.not_false, Option.map_some, bin_add, bin_sub, bin_mul, bin_quo, bin_rem, lss_t, lss_f, leq_t, leq_f, gtr_t, gtr_f, geq_t, geq_f, eqi_t, eqi_f, nei_t, nei_f, rem_uw, conv_ui, conv_iu, conv_ii, not_bool, nil_ptr, fa_mk, ptrV, len_mk, cap_mk, eq_ptr_nil, ne_ptr_nil, eq_nil_nil, ne_nil_nil, eq_slice_nil, eq_nil_slice, ia_1]; exact so_so) ?_)
    refine st1_mk (show (pt a (.cells #[pB ap, v74, vs, vl, .map (some rw')] 54 (0, 0)) * (SG iE 3 v74 I * (SG pE 80 v95 ((E.map (·.p)).take i ++ [p] ++ (E.map (·.p)).drop i) * (SG sE 22 vl (E.map (·.lv)) * (RSP p (newSp b.1 k) * (G * tt)))))) h18 from asr (by ac_rfl) hh18) o95 (by simp) fun h19 hh19 => ?_
    have hh19 : (pt a (.cells #[pB ap, v74, v95, vl, .map (some rw')] 54 (0, 0)) * (SG iE 3 v74 I * (SG pE 80 v95 ((E.map (·.p)).take i ++ [p] ++ (E.map (·.p)).drop i) * (SG sE 22 vl (E.map (·.lv)) * (RSP p (newSp b.1 k) * (G * tt)))))) h19 := hh19
    generalize hPs : ((E.map (·.p)).take i ++ [p] ++ (E.map (·.p)).drop i) = Ps at *
    -- the lengths
    have l19 := ra_ld hh19
    have a3 : (SG sE 22 vl (E.map (·.lv)) * ((pt a (.cells #[pB ap, v74, v95, vl, .map (some rw')] 54 (0, 0)) * (SG iE 3 v74 I * (SG pE 80 v95 Ps * (RSP p (newSp b.1 k) * G)))) * tt)) h19 := asr (by ac_rfl) hh19
    obtain ⟨la, la1, la2⟩ := part_to sE (j := i) a3 (by omega) .i64
    obtain ⟨lb', lb1, lb2⟩ := part_from sE (i := i) a3 (by omega) .i64
    have la1 : slV 1 vl none (some (.int .i64 (i : Int))) none = some la := la1
    have lb1 : slV 1 vl (some (.int .i64 (i : Int))) none none = some lb' := lb1
    obtain ⟨vu, vm, fr', hfr1, hfr2, hsp⟩ := RSP_elim (show (RSP p (newSp b.1 k) * (pt a (.cells #[pB ap, v74, v95, vl, .map (some rw')] 54 (0, 0)) * (SG iE 3 v74 I * (SG pE 80 v95 Ps * (SG sE 22 vl (E.map (·.lv)) * (G * tt)))))) h19 from asr (by ac_rfl) hh19)
    have ls := rsp_ld hsp
    have lu := (rsp_u hsp).1
    have eul : (newSp b.1 k).used.length = (slS k).toNat := List.length_replicate
    rw [eul] at lu
    repeat (with_reducible first | refine vP_so ?_ | refine vB_t ?_ | refine vB_f ?_ | refine vE_tt ?_ | refine vE_ff ?_ | refine vE_tf ?_ | refine vE_ft ?_ | refine vE_u ?_ | refine vP_to (by simp (disch := omega) only [gdW_true, gdW_false, gB_true, gB_false, gB_undef, pickV_true, pickV_false, Bool.not_true, Bool.not_false, Option.map_some, bin_add, bin_sub, bin_mul, bin_quo, bin_rem, lss_t, lss_f, leq_t, leq_f, gtr_t, gtr_f, geq_t, geq_f, eqi_t, eqi_f, nei_t, nei_f, rem_uw, conv_ui, conv_iu, conv_ii, not_bool, nil_ptr, fa_mk, ptrV, len_mk, cap_mk, eq_ptr_nil, ne_ptr_nil, eq_nil_nil, ne_nil_nil, eq_slice_nil, eq_nil_slice, ia_1, l19.2.2.2.1, la1, lb1, ls.2.2.1, lu, z0]; exact so_so) ?_)
    have a4 : (SG sE 22 vl (E.map (·.lv)) * ((pt p (.cells #[.int .i64 (newSp b.1 k).first, .int .i64 (newSp b.1 k).cls, vu, vm, .int .i64 fr'] 79 (0, 0)) * (SG bE 4 vu (newSp b.1 k).used * (SG bE 4 vm (newSp b.1 k).marks * (pt a (.cells #[pB ap, v74, v95, vl, .map (some rw')] 54 (0, 0)) * (SG iE 3 v74 I * (SG pE 80 v95 Ps * G)))))) * tt)) h19 := asr (by ac_rfl) hsp
    refine cut1 elS rfl rfl niS rfl (by omega) la2 a4 (by have := t1 (·.lv); omega) fun v106 h21 hh21 => ?_
    have b21 : (pt a (.cells #[pB ap, v74, v95, vl, .map (some rw')] 54 (0, 0)) * (pt p (.cells #[.int .i64 (newSp b.1 k).first, .int .i64 (newSp b.1 k).cls, vu, vm, .int .i64 fr'] 79 (0, 0)) * (SG sE 22 v106 ((E.map (·.lv)).take i) * (SG sE 22 vl (E.map (·.lv)) * (SG bE 4 vu (newSp b.1 k).used * (SG bE 4 vm (newSp b.1 k).marks * (SG iE 3 v74 I * (SG pE 80 v95 Ps * (G * tt))))))))) h21 := asr (by ac_rfl) hh21
    have b21' : (pt p (.cells #[.int .i64 (newSp b.1 k).first, .int .i64 (newSp b.1 k).cls, vu, vm, .int .i64 fr'] 79 (0, 0)) * (pt a (.cells #[pB ap, v74, v95, vl, .map (some rw')] 54 (0, 0)) * (SG sE 22 v106 ((E.map (·.lv)).take i) * (SG sE 22 vl (E.map (·.lv)) * (SG bE 4 vu (newSp b.1 k).used * (SG bE 4 vm (newSp b.1 k).marks * (SG iE 3 v74 I * (SG pE 80 v95 Ps * (G * tt))))))))) h21 := asr (by ac_rfl) b21
    refine ⟨(ra_ld b21).2.2.2.1, (rsp_ld b21').2.2.1, ?_⟩
    refine ms_SG iE (E := 3) (z := (0 : Int)) (n := (slS k).toNat) hh21 rfl rfl (by omega) (by omega) fun v112 h22 hh22 => ?_
    obtain ⟨lv, rfl⟩ := SG_slv' hh22
    have zl : bldV #[.slice none 0 0] [(0, 1, slv lv)] = some #[slv lv] := rfl
    repeat (with_reducible first | refine vP_so ?_ | refine vB_t ?_ | refine vB_f ?_ | refine vE_tt ?_ | refine vE_ff ?_ | refine vE_tf ?_ | refine vE_ft ?_ | refine vE_u ?_ | refine vP_to (by simp (disch := omega) only [gdW_true, gdW_false, gB_true, gB_false, gB_undef, pickV_true, pickV_false, Bool.not_true, Bool.not_false, Option.map_some, bin_add, bin_sub, bin_mul, bin_quo, bin_rem, lss_t, lss_f, leq_t, leq_f, gtr_t, gtr_f, geq_t, geq_f, eqi_t, eqi_f, nei_t, nei_f, rem_uw, conv_ui, conv_iu, conv_ii, not_bool, nil_ptr, fa_mk, ptrV, len_mk, cap_mk, eq_ptr_nil, ne_ptr_nil, eq_nil_nil, ne_nil_nil, eq_slice_nil, eq_nil_slice, ia_1, zl]; exact so_so) ?_)
    refine cut2 (e := sE) (E := 22) (sv := v106) (m := (E.map (·.lv)).take i) (F := SG iE 3 (slv lv) (List.replicate (slS k).toNat 0) * (SG sE 22 vl (E.map (·.lv)) * (pt p (.cells #[.int .i64 (newSp b.1 k).first, .int .i64 (newSp b.1 k).cls, vu, vm, .int .i64 fr'] 79 (0, 0)) * (SG bE 4 vu (newSp b.1 k).used * (SG bE 4 vm (newSp b.1 k).marks * (pt a (.cells #[pB ap, v74, v95, vl, .map (some rw')] 54 (0, 0)) * (SG iE 3 v74 I * (SG pE 80 v95 Ps * G)))))))) elS rfl rfl niS rfl (by omega) (x := lv) rfl (asr (by ac_rfl) hh22) (by have := t1 (·.lv); omega) fun v114 h24 hh24 => ?_
    have b24 : (pt a (.cells #[pB ap, v74, v95, vl, .map (some rw')] 54 (0, 0)) * (SG sE 22 v114 ((E.map (·.lv)).take i ++ [lv]) * (SG iE 3 (slv lv) (List.replicate (slS k).toNat 0) * (SG sE 22 vl (E.map (·.lv)) * (pt p (.cells #[.int .i64 (newSp b.1 k).first, .int .i64 (newSp b.1 k).cls, vu, vm, .int .i64 fr'] 79 (0, 0)) * (SG bE 4 vu (newSp b.1 k).used * (SG bE 4 vm (newSp b.1 k).marks * (SG iE 3 v74 I * (SG pE 80 v95 Ps * (G * tt)))))))))) h24 := asr (by ac_rfl) hh24
    refine ⟨(ra_ld b24).2.2.2.1, ?_⟩
    refine cut3 (e := sE) (E := 22) (sv := v114) (sw := vl) (m := (E.map (·.lv)).take i ++ [lv]) (l := E.map (·.lv)) (F := SG iE 3 (slv lv) (List.replicate (slS k).toNat 0) * (pt p (.cells #[.int .i64 (newSp b.1 k).first, .int .i64 (newSp b.1 k).cls, vu, vm, .int .i64 fr'] 79 (0, 0)) * (SG bE 4 vu (newSp b.1 k).used * (SG bE 4 vm (newSp b.1 k).marks * (pt a (.cells #[pB ap, v74, v95, vl, .map (some rw')] 54 (0, 0)) * (SG iE 3 v74 I * (SG pE 80 v95 Ps * G))))))) elS rfl rfl niS rfl (by omega) lb2 (asr (by ac_rfl) hh24) (by have := t1 (·.lv); have := t2 (·.lv); simp only [List.length_append, List.length_singleton]; omega) fun v121 h25 hh25 => ?_
    have o121 := SG_one sE hh25
    repeat (with_reducible first | refine vP_so ?_ | refine vB_t ?_ | refine vB_f ?_ | refine vE_tt ?_ | refine vE_ff ?_ | refine vE_tf ?_ | refine vE_ft ?_ | refine vE_u ?_ | refine vP_to (by simp (disch := omega) only [gdW_true, gdW_false, gB_true, gB_false, gB_undef, pickV_true, pickV_false, Bool.not_true, Bool.not_false, Option.map_some, bin_add, bin_sub, bin_mul, bin_quo, bin_rem, lss_t, lss_f, leq_t, leq_f, gtr_t, gtr_f, geq_t, geq_f, eqi_t, eqi_f, nei_t, nei_f, rem_uw, conv_ui, conv_iu, conv_ii, not_bool, nil_ptr, fa_mk, ptrV, len_mk, cap_mk, eq_ptr_nil, ne_ptr_nil, eq_nil_nil, ne_nil_nil, eq_slice_nil, eq_nil_slice, ia_1]; exact so_so) ?_)
    have hh25 : (RSP p (newSp b.1 k) * (SG sE 22 v121 ((E.map (·.lv)).take i ++ [lv] ++ (E.map (·.lv)).drop i) * (SG iE 3 (slv lv) (List.replicate (slS k).toNat 0) * (pt a (.cells #[pB ap, v74, v95, vl, .map (some rw')] 54 (0, 0)) * (SG iE 3 v74 I * (SG pE 80 v95 Ps * (G * tt))))))) h25 := RSP_intro (vu := vu) (vm := vm) (fr := fr') hfr1 hfr2 (asr (by ac_rfl) hh25)
    refine st1_mk (show (pt a (.cells #[pB ap, v74, v95, vl, .map (some rw')] 54 (0, 0)) * (RSP p (newSp b.1 k) * (SG sE 22 v121 ((E.map (·.lv)).take i ++ [lv] ++ (E.map (·.lv)).drop i) * (SG iE 3 (slv lv) (List.replicate (slS k).toNat 0) * (SG iE 3 v74 I * (SG pE 80 v95 Ps * (G * tt))))))) h25 from asr (by ac_rfl) hh25) o121 (by simp) fun h26 hh26 => ?_
    have hh26 : (pt a (.cells #[pB ap, v74, v95, v121, .map (some rw')] 54 (0, 0)) * (RSP p (newSp b.1 k) * (SG sE 22 v121 ((E.map (·.lv)).take i ++ [lv] ++ (E.map (·.lv)).drop i) * (SG iE 3 (slv lv) (List.replicate (slS k).toNat 0) * (SG iE 3 v74 I * (SG pE 80 v95 Ps * (G * tt))))))) h26 := hh26
    refine hK st' j b h26 hk hR (RA_intro (ap := ap) (rw := rw') (vi := v74) (vs := v95) (vl := v121) (ro.insert (p := p) (lv := lv) hk hi hnone hbelow habove es eo) ?_)
    unfold RAO
    rw [en, er]
    have m1 : ∀ {α : Type} (f : REnt → α), (E.take i ++ (⟨j, p, lv, List.replicate (slS k).toNat 0, newSp b.1 k⟩ : REnt) :: E.drop i).map f = (E.map f).take i ++ [f ⟨j, p, lv, List.replicate (slS k).toNat 0, newSp b.1 k⟩] ++ (E.map f).drop i := fun f => by
      rw [List.map_append, List.map_cons, List.map_take, List.map_drop]; simp
    have m2 : starL (E.take i ++ (⟨j, p, lv, List.replicate (slS k).toNat 0, newSp b.1 k⟩ : REnt) :: E.drop i) entA = RSP p (newSp b.1 k) * SG iE 3 (slv lv) (List.replicate (slS k).toNat 0) * starL E entA := by
      conv => rhs; rw [← List.take_append_drop i E, starL_append]
      rw [starL_append]
      show starL _ entA * ((RSP p (newSp b.1 k) * SG iE 3 (slv lv) (List.replicate (slS k).toNat 0)) * starL _ entA) = _
      ac_rfl
    rw [m1, m1, m1, m2, hI, hPs]
    rw [← hG] at hh26
    exact asr (by ac_rfl) hh26
  by_cases hil : i < E.length
  · obtain ⟨q, q1, q2⟩ := rao_id (List.getElem?_eq_getElem hil) hb3
    have hnl : ¬ E[i].num < j := fun q => hlt ⟨_, List.getElem?_eq_getElem hil, q⟩
    have hib := hids _ (List.getElem_mem hil)
    repeat (with_reducible first | refine vP_so ?_ | refine vB_t ?_ | refine vB_f ?_ | refine vE_tt ?_ | refine vE_ff ?_ | refine vE_tf ?_ | refine vE_ft ?_ | refine vE_u ?_ | refine vP_to (by simp (disch := omega) only [gdW_true, gdW_false, gB_true, gB_false, gB_undef, pickV_true, pickV_false, Bool.not_true, Bool.not_false, Option.map_some, bin_add, bin_sub, bin_mul, bin_quo, bin_rem, lss_t, lss_f, leq_t, leq_f, gtr_t, gtr_f, geq_t, geq_f, eqi_t, eqi_f, nei_t, nei_f, rem_uw, conv_ui, conv_iu, conv_ii, not_bool, nil_ptr, fa_mk, ptrV, len_mk, cap_mk, eq_ptr_nil, ne_ptr_nil, eq_nil_nil, ne_nil_nil, eq_slice_nil, eq_nil_slice, ia_1, lb.2.1, hl.1, q1, q2]; exact so_so) ?_)
    exact CallH.mono rest fun v55 h7 ⟨p, e, q⟩ => by subst e; exact hgo p h7 q
  · repeat (with_reducible first | refine vP_so ?_ | refine vB_t ?_ | refine vB_f ?_ | refine vE_tt ?_ | refine vE_ff ?_ | refine vE_tf ?_ | refine vE_ft ?_ | refine vE_u ?_ | refine vP_to (by simp (disch := omega) only [gdW_true, gdW_false, gB_true, gB_false, gB_undef, pickV_true, pickV_false, Bool.not_true, Bool.not_false, Option.map_some, bin_add, bin_sub, bin_mul, bin_quo, bin_rem, lss_t, lss_f, leq_t, leq_f, gtr_t, gtr_f, geq_t, geq_f, eqi_t, eqi_f, nei_t, nei_f, rem_uw, conv_ui, conv_iu, conv_ii, not_bool, nil_ptr, fa_mk, ptrV, len_mk, cap_mk, eq_ptr_nil, ne_ptr_nil, eq_nil_nil, ne_nil_nil, eq_slice_nil, eq_nil_slice, ia_1, lb.2.1, hl.1]; exact so_so) ?_)
    exact CallH.mono rest fun v55 h7 ⟨p, e, q⟩ => by subst e; exact hgo p h7 q
end Go.Proofs

/-
  Contracts of the document's own arena: Drop.
-/
set_option maxRecDepth 100000
set_option maxHeartbeats 8000000
namespace Go.Proofs
open Go.Sl
variable {a ap rw : Nat} {vi vs vl : Value} {n : Nat} {runs : List Run} {E : List REnt} {wf : Int → Option Value}
theorem ROk.remove {st st' : Ar} (ro : ROk st E wf) {k : Nat} {e : REnt} (hk : E[k]? = some e) (e1 : st'.sp = fdel st.sp e.num) (e2 : st'.ob = st.ob) : ROk st' (E.take k ++ E.drop (k + 1)) wf := by
  obtain ⟨hkl, he⟩ := List.getElem?_eq_some_iff.1 hk
  have hE : E = E.take k ++ e :: E.drop (k + 1) := by rw [← he, ← List.drop_eq_getElem_cons hkl, List.take_append_drop]
  have hsub : ∀ x, x ∈ E.take k ++ E.drop (k + 1) → x ∈ E := fun x hx => by
    rw [hE]
    rw [List.mem_append] at hx ⊢
    rcases hx with hx | hx
    · exact .inl hx
    · exact .inr (List.mem_cons_of_mem _ hx)
  have hr0 := ro.rise
  unfold Rise at hr0
  rw [List.pairwise_map, hE, List.pairwise_append, List.pairwise_cons] at hr0
  have hne : ∀ x, x ∈ E.take k ++ E.drop (k + 1) → x.num ≠ e.num := fun x hx q => by
    rw [List.mem_append] at hx
    rcases hx with hx | hx
    · have := hr0.2.2 x hx e (by simp); omega
    · have := hr0.2.1.1 x hx; omega
  have hmem : ∀ x, x ∈ E → x = e ∨ x ∈ E.take k ++ E.drop (k + 1) := fun x hx => by
    rw [hE] at hx
    rw [List.mem_append, List.mem_cons] at hx
    rw [List.mem_append]
    rcases hx with hx | hx | hx
    · exact .inr (.inl hx)
    · exact .inl hx
    · exact .inr (.inr hx)
  refine ⟨?_, fun id s => ?_, fun x hx => ro.len x (hsub x hx), fun x hx j l hu ho => ?_, fun x l j c hx hj => ?_⟩
  · unfold Rise
    rw [List.pairwise_map, List.pairwise_append]
    exact ⟨hr0.1, hr0.2.1.2, fun x hx y hy => hr0.2.2 x hx y (List.mem_cons_of_mem _ hy)⟩
  · rw [e1]
    by_cases hid : id = e.num
    · subst hid
      rw [fdel_eq]
      constructor
      · intro q; cases q
      · rintro ⟨x, hx, q, _⟩; exact (hne x hx q).elim
    · rw [fdel_ne hid, ro.mem]
      constructor
      · rintro ⟨x, hx, q1, q2⟩
        rcases hmem x hx with rfl | hx
        · exact (hid q1.symm).elim
        · exact ⟨x, hx, q1, q2⟩
      · rintro ⟨x, hx, q⟩; exact ⟨x, hsub x hx, q⟩
  · rw [e2] at ho; exact ro.val x (hsub x hx) j l hu ho
  · rw [e2] at hx; exact ro.words x l j c hx hj
theorem use_redrop {st : Ar} {N : Nat} {id : Int} (ok : AOk st N) (hN : N ≤ 1000000) {F : Asrt} {K : Value → Hp → Prop} {h : Hp} (hh : (RA a st * (F * tt)) h)
    (hnone : st.sp id = none → K (.int .i64 4) h)
    (hbusy : ∀ s, st.sp id = some s → 0 < s.used.count true → K (.int .i64 5) h)
    (hK : ∀ s st' h', st.sp id = some s → s.used.count true = 0 → DropR st id s st' → (RA a st' * (F * tt)) h' → K (.int .i64 0) h') : CallH Tryz.prog 50 #[pB a, .int .i64 id] K h := by
  refine C50 ?_
  unfold D50
  obtain ⟨ap, rw', vi, vs, vl, E, wf, ro, hp⟩ := RA_elim hh
  have hEN := ro.len_le ok
  have l := rao_ld hp
  have hl := rao_len hp
  refine use_refind hp (fun hno => ?_) fun k e hk he => ?_
  · repeat (with_reducible first | refine vP_so ?_ | refine vB_t ?_ | refine vB_f ?_ | refine vE_tt ?_ | refine vE_ff ?_ | refine vE_tf ?_ | refine vE_ft ?_ | refine vE_u ?_ | refine vP_to (by simp (disch := omega) only [gdW_true, gdW_false, gB_true, gB_false, gB_undef, pickV_true, pickV_false, Bool.not_true, Bool.not_false, Option.map_some, bin_add, bin_sub, bin_mul, bin_quo, bin_rem, lss_t, lss_f, leq_t, leq_f, gtr_t, gtr_f, geq_t, geq_f, eqi_t, eqi_f, nei_t, nei_f, rem_uw, conv_ui, conv_iu, conv_ii, not_bool, nil_ptr, fa_mk, ptrV, len_mk, cap_mk, eq_ptr_nil, ne_ptr_nil, eq_nil_nil, ne_nil_nil, eq_slice_nil, eq_nil_slice, ia_1]; exact so_so) ?_)
    exact hnone (ro.none hno)
  subst he
  have hkl := (List.getElem?_eq_some_iff.1 hk).1
  have hso := ro.ok ok (List.mem_of_getElem? hk)
  have hsl := hso.len
  have hspe := ok.sp _ _ (ro.at_ hk)
  obtain ⟨q, q1, q2⟩ := rao_p hk hp
  obtain ⟨vu, vm, s1, s2, _⟩ := rao_span hk hp
  obtain ⟨R, o1, o2⟩ := rao_open (a := a) (ap := ap) (rw := rw') (vi := vi) (vs := vs) (vl := vl) (n := st.n) (runs := st.runs) (wf := wf) hk
  repeat (with_reducible first | refine vP_so ?_ | refine vB_t ?_ | refine vB_f ?_ | refine vE_tt ?_ | refine vE_ff ?_ | refine vE_tf ?_ | refine vE_ft ?_ | refine vE_u ?_ | refine vP_to (by simp (disch := omega) only [gdW_true, gdW_false, gB_true, gB_false, gB_undef, pickV_true, pickV_false, Bool.not_true, Bool.not_false, Option.map_some, bin_add, bin_sub, bin_mul, bin_quo, bin_rem, lss_t, lss_f, leq_t, leq_f, gtr_t, gtr_f, geq_t, geq_f, eqi_t, eqi_f, nei_t, nei_f, rem_uw, conv_ui, conv_iu, conv_ii, not_bool, nil_ptr, fa_mk, ptrV, len_mk, cap_mk, eq_ptr_nil, ne_ptr_nil, eq_nil_nil, ne_nil_nil, eq_slice_nil, eq_nil_slice, ia_1, l.2.2.1, q1, q2]; exact so_so) ?_)
  refine use_rslive hso (o1 _ _ hp) ?_
  by_cases hc : 0 < e.s.used.count true
  · repeat (with_reducible first | refine vP_so ?_ | refine vB_t ?_ | refine vB_f ?_ | refine vE_tt ?_ | refine vE_ff ?_ | refine vE_tf ?_ | refine vE_ft ?_ | refine vE_u ?_ | refine vP_to (by simp (disch := omega) only [gdW_true, gdW_false, gB_true, gB_false, gB_undef, pickV_true, pickV_false, Bool.not_true, Bool.not_false, Option.map_some, bin_add, bin_sub, bin_mul, bin_quo, bin_rem, lss_t, lss_f, leq_t, leq_f, gtr_t, gtr_f, geq_t, geq_f, eqi_t, eqi_f, nei_t, nei_f, rem_uw, conv_ui, conv_iu, conv_ii, not_bool, nil_ptr, fa_mk, ptrV, len_mk, cap_mk, eq_ptr_nil, ne_ptr_nil, eq_nil_nil, ne_nil_nil, eq_slice_nil, eq_nil_slice, ia_1]; exact so_so) ?_)
    exact hbusy e.s (ro.at_ hk) hc
  have hc0 : e.s.used.count true = 0 := by omega
  have hpg := pgS_pos hso.cls
  repeat (with_reducible first | refine vP_so ?_ | refine vB_t ?_ | refine vB_f ?_ | refine vE_tt ?_ | refine vE_ff ?_ | refine vE_tf ?_ | refine vE_ft ?_ | refine vE_u ?_ | refine vP_to (by simp (disch := omega) only [gdW_true, gdW_false, gB_true, gB_false, gB_undef, pickV_true, pickV_false, Bool.not_true, Bool.not_false, Option.map_some, bin_add, bin_sub, bin_mul, bin_quo, bin_rem, lss_t, lss_f, leq_t, leq_f, gtr_t, gtr_f, geq_t, geq_f, eqi_t, eqi_f, nei_t, nei_f, rem_uw, conv_ui, conv_iu, conv_ii, not_bool, nil_ptr, fa_mk, ptrV, len_mk, cap_mk, eq_ptr_nil, ne_ptr_nil, eq_nil_nil, ne_nil_nil, eq_slice_nil, eq_nil_slice, ia_1, l.1, l.2.2.1, q1, q2, s1, s2]; exact so_so) ?_)
  refine use_refPages hso.cls (F := RAO a ap rw' vi vs vl st.n st.runs E wf * F) (asr (by ac_rfl) hp) fun h3 hh3 => ?_
  have hh3 : (RAO a ap rw' vi vs vl st.n st.runs E wf * (F * tt)) h3 := asr (by ac_rfl) hh3
  have l3 := rao_ld hh3
  obtain ⟨q', q1', q2'⟩ := rao_p hk hh3
  obtain rfl : q' = q := Option.some.inj (q1'.symm.trans q1)
  obtain ⟨vu', vm', s1', s2', _⟩ := rao_span hk hh3
  refine ⟨s1', q2', l3.2.2.1, l3.1, ?_⟩
  have hFL : (FLs ap st.n st.runs * (pt a (.cells #[pB ap, vi, vs, vl, .map (some rw')] 54 (0, 0)) * (SG iE 3 vi (E.map (·.num)) * (SG pE 80 vs (E.map (·.p)) * (SG sE 22 vl (E.map (·.lv)) * (starL E entA * (MP rw' wf * (F * tt)))))))) h3 := by
    unfold RAO at hh3
    exact asr (by ac_rfl) hh3
  refine use_rback ok.wf (by have := ok.n; omega) hFL fun v45 l' h4 hv w' hh4 => ?_
  rcases hv with ⟨hbad, _⟩ | ⟨_, ⟨x, x1, x2, x3⟩, _⟩ | ⟨_, _, _, hfr', hlf'⟩
  · unfold badF at hbad; have := hso.first; omega
  · exact ((ok.pg _ _ x (ro.at_ hk) x1 x2).1 x3).elim
  have st' : ∃ st' : Ar, DropR st e.num e.s st' ∧ st'.n = st.n ∧ st'.runs = l' ∧ st'.sp = fdel st.sp e.num ∧ st'.ob = st.ob :=
    ⟨{ n := st.n, runs := l', sp := fdel st.sp e.num, ow := owDel st.ow e.s.first (pgS e.s.cls), ob := st.ob, live := st.live }, ⟨rfl, hfr', hlf', w', rfl, rfl, rfl, rfl⟩, rfl, rfl, rfl, rfl⟩
  obtain ⟨st', hR, en, er, es, eo⟩ := st'
  generalize hG : (FLs ap st.n l' * (starL E entA * (MP rw' wf * F)) : Asrt) = G
  have c1 : (pt a (.cells #[pB ap, vi, vs, vl, .map (some rw')] 54 (0, 0)) * (SG iE 3 vi (E.map (·.num)) * (SG pE 80 vs (E.map (·.p)) * (SG sE 22 vl (E.map (·.lv)) * (G * tt))))) h4 := by
    rw [← hG]; exact asr (by ac_rfl) hh4
  have t1 : ∀ {α : Type} (f : REnt → α), ((E.map f).take k).length ≤ 1000000 := fun f => by rw [List.length_take, List.length_map]; omega
  have t2 : ∀ {α : Type} (f : REnt → α), ((E.map f).drop (k + 1)).length ≤ 1000000 := fun f => by rw [List.length_drop, List.length_map]; omega
  have hle : (E.map (·.num)).length = E.length ∧ (E.map (·.p)).length = E.length ∧ (E.map (·.lv)).length = E.length := ⟨List.length_map _, List.length_map _, List.length_map _⟩
  have l7 := ra_ld c1
  have a1 : (SG iE 3 vi (E.map (·.num)) * ((pt a (.cells #[pB ap, vi, vs, vl, .map (some rw')] 54 (0, 0)) * (SG pE 80 vs (E.map (·.p)) * (SG sE 22 vl (E.map (·.lv)) * G))) * tt)) h4 := asr (by ac_rfl) c1
  obtain ⟨ia, ia1, ia2⟩ := part_to iE (j := k) a1 (by omega) .i64
  obtain ⟨ib, ib1, ib2⟩ := part_from iE (i := k + 1) a1 (by omega) .i64
  have ia1 : slV 1 vi none (some (.int .i64 (k : Int))) none = some ia := ia1
  have ib1 : slV 1 vi (some (.int .i64 ((k : Int) + 1))) none none = some ib := ib1
  have z0 : bldV #[] [] = some #[] := rfl
  repeat (with_reducible first | refine vP_so ?_ | refine vB_t ?_ | refine vB_f ?_ | refine vE_tt ?_ | refine vE_ff ?_ | refine vE_tf ?_ | refine vE_ft ?_ | refine vE_u ?_ | refine vP_to (by simp (disch := omega) only [gdW_true, gdW_false, gB_true, gB_false, gB_undef, pickV_true, pickV_false, Bool.not_true, Bool.not_false, Option.map_some, bin_add, bin_sub, bin_mul, bin_quo, bin_rem, lss_t, lss_f, leq_t, leq_f, gtr_t, gtr_f, geq_t, geq_f, eqi_t, eqi_f, nei_t, nei_f, rem_uw, conv_ui, conv_iu, conv_ii, not_bool, nil_ptr, fa_mk, ptrV, len_mk, cap_mk, eq_ptr_nil, ne_ptr_nil, eq_nil_nil, ne_nil_nil, eq_slice_nil, eq_nil_slice, ia_1, l7.2.1, ia1, ib1, z0]; exact so_so) ?_)
  refine cut1 elInt rfl rfl niInts rfl (by omega) ia2 a1 (by have := t1 (·.num); omega) fun v64 h9 hh9 => ?_
  refine ⟨(ra_ld (show (pt a (.cells #[pB ap, vi, vs, vl, .map (some rw')] 54 (0, 0)) * (SG iE 3 v64 ((E.map (·.num)).take k) * (SG iE 3 vi (E.map (·.num)) * (SG pE 80 vs (E.map (·.p)) * (SG sE 22 vl (E.map (·.lv)) * (G * tt)))))) h9 from asr (by ac_rfl) hh9)).2.1, ?_⟩
  refine cut3 (e := iE) (E := 3) (sv := v64) (sw := vi) (m := (E.map (·.num)).take k) (l := E.map (·.num)) (F := pt a (.cells #[pB ap, vi, vs, vl, .map (some rw')] 54 (0, 0)) * (SG pE 80 vs (E.map (·.p)) * (SG sE 22 vl (E.map (·.lv)) * G))) elInt rfl rfl niInts rfl (by omega) ib2 (asr (by ac_rfl) hh9) (by have := t1 (·.num); have := t2 (·.num); omega) fun v74 h12 hh12 => ?_
  have o74 := SG_one iE hh12
  repeat (with_reducible first | refine vP_so ?_ | refine vB_t ?_ | refine vB_f ?_ | refine vE_tt ?_ | refine vE_ff ?_ | refine vE_tf ?_ | refine vE_ft ?_ | refine vE_u ?_ | refine vP_to (by simp (disch := omega) only [gdW_true, gdW_false, gB_true, gB_false, gB_undef, pickV_true, pickV_false, Bool.not_true, Bool.not_false, Option.map_some, bin_add, bin_sub, bin_mul, bin_quo, bin_rem, lss_t, lss_f, leq_t, leq_f, gtr_t, gtr_f, geq_t, geq_f, eqi_t, eqi_f, nei_t, nei_f, rem_uw, conv_ui, conv_iu, conv_ii, not_bool, nil_ptr, fa_mk, ptrV, len_mk, cap_mk, eq_ptr_nil, ne_ptr_nil, eq_nil_nil, ne_nil_nil, eq_slice_nil, eq_nil_slice, ia_1]; exact so_so) ?_)
  refine st1_mk (show (pt a (.cells #[pB ap, vi, vs, vl, .map (some rw')] 54 (0, 0)) * (SG iE 3 v74 ((E.map (·.num)).take k ++ (E.map (·.num)).drop (k + 1)) * (SG pE 80 vs (E.map (·.p)) * (SG sE 22 vl (E.map (·.lv)) * (G * tt))))) h12 from asr (by ac_rfl) hh12) o74 (by simp) fun h13 hh13 => ?_
  have hh13 : (pt a (.cells #[pB ap, v74, vs, vl, .map (some rw')] 54 (0, 0)) * (SG iE 3 v74 ((E.map (·.num)).take k ++ (E.map (·.num)).drop (k + 1)) * (SG pE 80 vs (E.map (·.p)) * (SG sE 22 vl (E.map (·.lv)) * (G * tt))))) h13 := hh13
  generalize hI : ((E.map (·.num)).take k ++ (E.map (·.num)).drop (k + 1)) = I at *
  have l13 := ra_ld hh13
  have a2 : (SG pE 80 vs (E.map (·.p)) * ((pt a (.cells #[pB ap, v74, vs, vl, .map (some rw')] 54 (0, 0)) * (SG iE 3 v74 I * (SG sE 22 vl (E.map (·.lv)) * G))) * tt)) h13 := asr (by ac_rfl) hh13
  obtain ⟨sa, sa1, sa2⟩ := part_to pE (j := k) a2 (by omega) .i64
  obtain ⟨sb, sb1, sb2⟩ := part_from pE (i := k + 1) a2 (by omega) .i64
  have sa1 : slV 1 vs none (some (.int .i64 (k : Int))) none = some sa := sa1
  have sb1 : slV 1 vs (some (.int .i64 ((k : Int) + 1))) none none = some sb := sb1
  repeat (with_reducible first | refine vP_so ?_ | refine vB_t ?_ | refine vB_f ?_ | refine vE_tt ?_ | refine vE_ff ?_ | refine vE_tf ?_ | refine vE_ft ?_ | refine vE_u ?_ | refine vP_to (by simp (disch := omega) only [gdW_true, gdW_false, gB_true, gB_false, gB_undef, pickV_true, pickV_false, Bool.not_true, Bool.not_false, Option.map_some, bin_add, bin_sub, bin_mul, bin_quo, bin_rem, lss_t, lss_f, leq_t, leq_f, gtr_t, gtr_f, geq_t, geq_f, eqi_t, eqi_f, nei_t, nei_f, rem_uw, conv_ui, conv_iu, conv_ii, not_bool, nil_ptr, fa_mk, ptrV, len_mk, cap_mk, eq_ptr_nil, ne_ptr_nil, eq_nil_nil, ne_nil_nil, eq_slice_nil, eq_nil_slice, ia_1, l13.2.2.1, sa1, sb1, z0]; exact so_so) ?_)
  refine cut1 elP rfl rfl niP rfl (by omega) sa2 a2 (by have := t1 (·.p); omega) fun v85 h15 hh15 => ?_
  refine ⟨(ra_ld (show (pt a (.cells #[pB ap, v74, vs, vl, .map (some rw')] 54 (0, 0)) * (SG pE 80 v85 ((E.map (·.p)).take k) * (SG pE 80 vs (E.map (·.p)) * (SG iE 3 v74 I * (SG sE 22 vl (E.map (·.lv)) * (G * tt)))))) h15 from asr (by ac_rfl) hh15)).2.2.1, ?_⟩
  refine cut3 (e := pE) (E := 80) (sv := v85) (sw := vs) (m := (E.map (·.p)).take k) (l := E.map (·.p)) (F := pt a (.cells #[pB ap, v74, vs, vl, .map (some rw')] 54 (0, 0)) * (SG iE 3 v74 I * (SG sE 22 vl (E.map (·.lv)) * G))) elP rfl rfl niP rfl (by omega) sb2 (asr (by ac_rfl) hh15) (by have := t1 (·.p); have := t2 (·.p); omega) fun v95 h18 hh18 => ?_
  have o95 := SG_one pE hh18
  repeat (with_reducible first | refine vP_so ?_ | refine vB_t ?_ | refine vB_f ?_ | refine vE_tt ?_ | refine vE_ff ?_ | refine vE_tf ?_ | refine vE_ft ?_ | refine vE_u ?_ | refine vP_to (by simp (disch := omega) only [gdW_true, gdW_false, gB_true, gB_false, gB_undef, pickV_true, pickV_false, Bool.not_true, Bool.not_false, Option.map_some, bin_add, bin_sub, bin_mul, bin_quo, bin_rem, lss_t, lss_f, leq_t, leq_f, gtr_t, gtr_f, geq_t, geq_f, eqi_t, eqi_f, nei_t, nei_f, rem_uw, conv_ui, conv_iu, conv_ii, not_bool, nil_ptr, fa_mk, ptrV, len_mk, cap_mk, eq_ptr_nil, ne_ptr_nil, eq_nil_nil, ne_nil_nil, eq_slice_nil, eq_nil_slice, ia_1]; exact so_so) ?_)
  refine st1_mk (show (pt a (.cells #[pB ap, v74, vs, vl, .map (some rw')] 54 (0, 0)) * (SG iE 3 v74 I * (SG pE 80 v95 ((E.map (·.p)).take k ++ (E.map (·.p)).drop (k + 1)) * (SG sE 22 vl (E.map (·.lv)) * (G * tt))))) h18 from asr (by ac_rfl) hh18) o95 (by simp) fun h19 hh19 => ?_
  have hh19 : (pt a (.cells #[pB ap, v74, v95, vl, .map (some rw')] 54 (0, 0)) * (SG iE 3 v74 I * (SG pE 80 v95 ((E.map (·.p)).take k ++ (E.map (·.p)).drop (k + 1)) * (SG sE 22 vl (E.map (·.lv)) * (G * tt))))) h19 := hh19
  generalize hPs : ((E.map (·.p)).take k ++ (E.map (·.p)).drop (k + 1)) = Ps at *
  have l19 := ra_ld hh19
  have a3 : (SG sE 22 vl (E.map (·.lv)) * ((pt a (.cells #[pB ap, v74, v95, vl, .map (some rw')] 54 (0, 0)) * (SG iE 3 v74 I * (SG pE 80 v95 Ps * G))) * tt)) h19 := asr (by ac_rfl) hh19
  obtain ⟨la, la1, la2⟩ := part_to sE (j := k) a3 (by omega) .i64
  obtain ⟨lb', lb1, lb2⟩ := part_from sE (i := k + 1) a3 (by omega) .i64
  have la1 : slV 1 vl none (some (.int .i64 (k : Int))) none = some la := la1
  have lb1 : slV 1 vl (some (.int .i64 ((k : Int) + 1))) none none = some lb' := lb1
  repeat (with_reducible first | refine vP_so ?_ | refine vB_t ?_ | refine vB_f ?_ | refine vE_tt ?_ | refine vE_ff ?_ | refine vE_tf ?_ | refine vE_ft ?_ | refine vE_u ?_ | refine vP_to (by simp (disch := omega) only [gdW_true, gdW_false, gB_true, gB_false, gB_undef, pickV_true, pickV_false, Bool.not_true, Bool.not_false, Option.map_some, bin_add, bin_sub, bin_mul, bin_quo, bin_rem, lss_t, lss_f, leq_t, leq_f, gtr_t, gtr_f, geq_t, geq_f, eqi_t, eqi_f, nei_t, nei_f, rem_uw, conv_ui, conv_iu, conv_ii, not_bool, nil_ptr, fa_mk, ptrV, len_mk, cap_mk, eq_ptr_nil, ne_ptr_nil, eq_nil_nil, ne_nil_nil, eq_slice_nil, eq_nil_slice, ia_1, l19.2.2.2.1, la1, lb1, z0]; exact so_so) ?_)
  refine cut1 elS rfl rfl niS rfl (by omega) la2 a3 (by have := t1 (·.lv); omega) fun v106 h21 hh21 => ?_
  refine ⟨(ra_ld (show (pt a (.cells #[pB ap, v74, v95, vl, .map (some rw')] 54 (0, 0)) * (SG sE 22 v106 ((E.map (·.lv)).take k) * (SG sE 22 vl (E.map (·.lv)) * (SG iE 3 v74 I * (SG pE 80 v95 Ps * (G * tt)))))) h21 from asr (by ac_rfl) hh21)).2.2.2.1, ?_⟩
  refine cut3 (e := sE) (E := 22) (sv := v106) (sw := vl) (m := (E.map (·.lv)).take k) (l := E.map (·.lv)) (F := pt a (.cells #[pB ap, v74, v95, vl, .map (some rw')] 54 (0, 0)) * (SG iE 3 v74 I * (SG pE 80 v95 Ps * G))) elS rfl rfl niS rfl (by omega) lb2 (asr (by ac_rfl) hh21) (by have := t1 (·.lv); have := t2 (·.lv); omega) fun v121 h25 hh25 => ?_
  have o121 := SG_one sE hh25
  repeat (with_reducible first | refine vP_so ?_ | refine vB_t ?_ | refine vB_f ?_ | refine vE_tt ?_ | refine vE_ff ?_ | refine vE_tf ?_ | refine vE_ft ?_ | refine vE_u ?_ | refine vP_to (by simp (disch := omega) only [gdW_true, gdW_false, gB_true, gB_false, gB_undef, pickV_true, pickV_false, Bool.not_true, Bool.not_false, Option.map_some, bin_add, bin_sub, bin_mul, bin_quo, bin_rem, lss_t, lss_f, leq_t, leq_f, gtr_t, gtr_f, geq_t, geq_f, eqi_t, eqi_f, nei_t, nei_f, rem_uw, conv_ui, conv_iu, conv_ii, not_bool, nil_ptr, fa_mk, ptrV, len_mk, cap_mk, eq_ptr_nil, ne_ptr_nil, eq_nil_nil, ne_nil_nil, eq_slice_nil, eq_nil_slice, ia_1]; exact so_so) ?_)
  refine st1_mk (show (pt a (.cells #[pB ap, v74, v95, vl, .map (some rw')] 54 (0, 0)) * (SG sE 22 v121 ((E.map (·.lv)).take k ++ (E.map (·.lv)).drop (k + 1)) * (SG iE 3 v74 I * (SG pE 80 v95 Ps * (G * tt))))) h25 from asr (by ac_rfl) hh25) o121 (by simp) fun h26 hh26 => ?_
  have hh26 : (pt a (.cells #[pB ap, v74, v95, v121, .map (some rw')] 54 (0, 0)) * (SG sE 22 v121 ((E.map (·.lv)).take k ++ (E.map (·.lv)).drop (k + 1)) * (SG iE 3 v74 I * (SG pE 80 v95 Ps * (G * tt))))) h26 := hh26
  refine hK e.s st' h26 (ro.at_ hk) hc0 hR (RA_intro (ap := ap) (rw := rw') (vi := v74) (vs := v95) (vl := v121) (ro.remove hk es eo) ?_)
  unfold RAO
  rw [en, er]
  have m1 : ∀ {α : Type} (f : REnt → α), (E.take k ++ E.drop (k + 1)).map f = (E.map f).take k ++ (E.map f).drop (k + 1) := fun f => by
    rw [List.map_append, List.map_take, List.map_drop]
  rw [m1, m1, m1, starL_append, hI, hPs]
  rw [← hG, starL_get hk] at hh26
  exact dropL (P := entA e) (Q := pt a (.cells #[pB ap, v74, v95, v121, .map (some rw')] 54 (0, 0)) * (FLs ap st.n l' * (SG iE 3 v74 I * (SG pE 80 v95 Ps * (SG sE 22 v121 ((E.map (·.lv)).take k ++ (E.map (·.lv)).drop (k + 1)) * (starL (E.take k) entA * starL (E.drop (k + 1)) entA * MP rw' wf))))) * F) (asr (by ac_rfl) hh26) |> asr (by ac_rfl)
end Go.Proofs

/-
  Laws of arena: what they have in common.
-/
set_option maxRecDepth 100000
set_option maxHeartbeats 1000000
namespace Go.Proofs
open Go.Sl
def Room (l : List Run) (m : Int) : Prop := ∃ r ∈ l, m ≤ r.2
theorem Room.le {l : List Run} {m m' : Int} (h : Room l m) (hm : m' ≤ m) : Room l m' := let ⟨r, h1, h2⟩ := h; ⟨r, h1, by omega⟩
theorem run_start {n : Int} {l : List Run} (hw : WF n l) {r b : Run} (hr : r ∈ l) (hb : b ∈ l) {x : Int} (h1 : r.1 ≤ x ∧ x < r.1 + r.2) (h2 : b.1 ≤ x ∧ x < b.1 + b.2) : r.1 = b.1 := by
  rcases Int.lt_trichotomy r.1 b.1 with q | q | q
  · exact (fr_start hw b hb (fr_mem.2 ⟨r, hr, by omega, by omega⟩)).elim
  · exact q
  · exact (fr_start hw r hr (fr_mem.2 ⟨b, hb, by omega, by omega⟩)).elim
theorem SpanR.room {st st' : Ar} {N : Nat} {k id m : Int} {b : Run} (h : AOk st N) (hk : 0 ≤ k ∧ k < 16) (r : SpanR st k st' id b) (hm : Room st.runs m) (h1 : 1 ≤ m - pgS k) : Room st'.runs (m - pgS k) := by
  obtain ⟨q, hq, hq2⟩ := hm
  have hp := pgS_pos hk
  have hle := r.le
  obtain ⟨s, hs, a1, a2⟩ := fr_run (a := q.1 + pgS k) (b := q.1 + q.2) (by omega) r.wf fun x x1 x2 => by
    rw [r.fr]
    refine ⟨fr_mem.2 ⟨q, hq, by omega, by omega⟩, fun hx => ?_⟩
    have := run_start h.wf hq r.mem (x := x) ⟨by omega, by omega⟩ ⟨hx.1, by omega⟩
    omega
  exact ⟨s, hs, by omega⟩
theorem DropR.room {st st' : Ar} {N : Nat} {id m : Int} {s : Sp} (h : AOk st N) (r : DropR st id s st') (hm : Room st.runs m) (h1 : 1 ≤ m) : Room st'.runs m := by
  obtain ⟨q, hq, hq2⟩ := hm
  obtain ⟨t, ht, a1, a2⟩ := fr_run (a := q.1) (b := q.1 + q.2) (by omega) r.wf fun x x1 x2 => by
    rw [r.fr]
    exact .inl (fr_mem.2 ⟨q, hq, by omega, by omega⟩)
  exact ⟨t, ht, by omega⟩
theorem newAr_room {n : Int} (hn : 2 ≤ n ∧ n ≤ 262144) : Room (newAr n).runs (n - 1) := by
  refine ⟨(1, n - 1), ?_, by simp⟩
  show (1, n - 1) ∈ newL n
  unfold newL
  have e : newN n = n := by unfold newN; omega
  rw [e, if_pos (by omega)]
  simp
theorem ofS_spec {n : Int} (h : 1 ≤ n ∧ n ≤ 256) : (0 ≤ ofS n ∧ ofS n < 16) ∧ n ≤ szS (ofS n) := by
  obtain ⟨a, b, _⟩ := ofN_spec (n := n) h.2
  unfold ofS
  rw [if_pos h]
  exact ⟨by omega, b⟩
theorem use_span1 {g : Hp} {a : Nat} {st : Ar} {N : Nat} {k m : Int} (ok : AOk st N) (hN : N ≤ 1000000) (hk : 0 ≤ k ∧ k < 16) (hm : Room st.runs m) (hp : pgS k ≤ m) {F : Asrt} {K : Value → Hp → Prop} {h : Hp} (hh : (AR a st * (own g * (F * tt))) h)
    (hK : ∀ st' id b h', SpanR st k st' id b → AOk st' (N + 1) → (AR a st' * (own g * (F * tt))) h' → K (tup id 0) h') : CallH Tryz.prog 7 #[pB a, .int .i64 k] K h := by
  refine use_aspan ok hN hh (fun _ hb _ => (hb hk).elim) (fun _ _ hno _ => ?_) fun st' id b h' _ r hh' => hK st' id b h' r (r.ok ok hk) hh'
  obtain ⟨q, hq, hq2⟩ := hm
  have := hno q hq
  omega
theorem newSp_ff {first k : Int} (hk : 0 ≤ k ∧ k < 16) : ff (newSp first k).used = some 0 := ff_new (by have := slS_pos hk; omega)
theorem use_alloc1 {g : Hp} (hg : TabG 0 g) {a : Nat} {st : Ar} {N : Nat} {id n first k : Int} {black : Bool} (ok : AOk st N) (hN : N ≤ 1000000) (hk : 0 ≤ k ∧ k < 16) (hs : st.sp id = some (newSp first k)) (hn : 1 ≤ n ∧ n ≤ szS k) {F : Asrt} {K : Value → Hp → Prop} {h : Hp} (hh : (AR a st * (own g * (F * tt))) h)
    (hK : ∀ h', AOk (st.put id (newSp first k) 0 n.toNat black) N → (AR a (st.put id (newSp first k) 0 n.toNat black) * (own g * (F * tt))) h' → K (tup ((newSp first k).addr 0) 0) h') : CallH Tryz.prog 12 #[pB a, .int .i64 id, .int .i64 n, .bool black] K h := by
  refine use_aalloc hg ok hN hh (fun e => ?_) (fun s _ e hb _ => ?_) (fun s _ e _ hf _ => ?_) fun s i h4 e hn' hf hh4 => ?_
  · rw [hs] at e; cases e
  · rw [hs] at e; obtain rfl := Option.some.inj e; exact (hb hn).elim
  · rw [hs] at e; obtain rfl := Option.some.inj e; rw [newSp_ff hk] at hf; cases hf
  · rw [hs] at e
    obtain rfl := Option.some.inj e
    have hf' := hf
    rw [newSp_ff hk] at hf
    obtain rfl := Option.some.inj hf
    exact hK h4 (put_ok ok hs hf' ⟨by omega, by show ((n.toNat : Nat) : Int) ≤ szS k; omega⟩) hh4
theorem put_sp {st : Ar} {id : Int} {s : Sp} {i n : Nat} {b : Bool} : (st.put id s i n b).sp = fput st.sp id (s.take i b) := rfl
theorem put_ob {st : Ar} {id : Int} {s : Sp} {i n : Nat} {b : Bool} : (st.put id s i n b).ob = fput st.ob (s.addr i) (List.replicate n 0) := rfl
theorem put_live {st : Ar} {id : Int} {s : Sp} {i n : Nat} {b : Bool} : (st.put id s i n b).live = st.live + szS s.cls := rfl
theorem put_runs {st : Ar} {id : Int} {s : Sp} {i n : Nat} {b : Bool} : (st.put id s i n b).runs = st.runs := rfl
theorem rise1 (x : Int) : Rise [x] := by simp [Rise]
theorem rise0 : Rise [] := by simp [Rise]
theorem ne_refl {x : Int} : eqV 1 true (.int .i64 x) (.int .i64 x) = some (.bool false) := nei_f rfl
theorem eq_refl' {x : Int} : eqV 1 false (.int .i64 x) (.int .i64 x) = some (.bool true) := eqi_t rfl
end Go.Proofs

/-
  Laws of arena: fresh spans, lists of objects.
-/
set_option maxRecDepth 100000
set_option maxHeartbeats 1000000
namespace Go.Proofs
open Go.Sl
theorem free_ob {st : Ar} {N : Nat} (ok : AOk st N) {id : Int} {s : Sp} {i : Nat} (hs : st.sp id = some s) (hi : s.used[i]? = some false) : st.ob (s.addr i) = none := by
  cases ho : st.ob (s.addr i) with
  | none => rfl
  | some l =>
    obtain ⟨j, t, m, e, h1, h2⟩ := (ok.ob _).1 (show (st.ob (s.addr i)).isSome = true by rw [ho]; rfl)
    obtain ⟨rfl, rfl⟩ := addr_inj ok hs e (List.getElem?_eq_some_iff.1 hi).1 (List.getElem?_eq_some_iff.1 h1).1 h2
    rw [hs] at e
    obtain rfl := Option.some.inj e
    rw [hi] at h1
    cases h1
theorem newSp_f {first k : Int} (hk : 0 ≤ k ∧ k < 16) : (newSp first k).used[0]? = some false := by
  show (List.replicate (slS k).toNat false)[0]? = _
  rw [List.getElem?_replicate, if_pos (by have := slS_pos hk; omega)]
def Objs (st : Ar) (l : List Int) : Prop := Rise l ∧ ∀ y, y ∈ l ↔ (st.ob y).isSome = true
theorem Objs_new (n : Int) : Objs (newAr n) [] := ⟨by simp [Rise], fun y => by simp [newAr]⟩
theorem Objs_ob {st st' : Ar} {l : List Int} (h : Objs st l) (e : st'.ob = st.ob) : Objs st' l := ⟨h.1, fun y => by rw [e]; exact h.2 y⟩
theorem Objs_put {st : Ar} {l l' : List Int} (h : Objs st l) {id : Int} {s : Sp} {i n : Nat} {b : Bool} (hr : Rise l') (hm : ∀ y, y ∈ l' ↔ y ∈ l ∨ y = s.addr i) : Objs (st.put id s i n b) l' := by
  refine ⟨hr, fun y => ?_⟩
  rw [hm, put_ob, h.2]
  by_cases hy : y = s.addr i
  · subst hy; rw [fput_eq]; simp
  · rw [fput_ne hy]; simp [hy]
theorem sp_uniq {st : Ar} {N : Nat} (ok : AOk st N) {id id' : Int} {s s' : Sp} {i i' : Nat} (h1 : st.sp id = some s) (h2 : st.sp id' = some s') (hi : i < s.used.length) (hi' : s'.used[i']? = some true) (he : s.addr i = s'.addr i') : id' = id ∧ s' = s ∧ i' = i := by
  obtain ⟨rfl, rfl⟩ := addr_inj ok h1 h2 hi (List.getElem?_eq_some_iff.1 hi').1 he
  rw [h1] at h2
  exact ⟨rfl, (Option.some.inj h2).symm, rfl⟩
theorem take_mark {first k : Int} (hk : 0 ≤ k ∧ k < 16) (b : Bool) : hasB ((newSp first k).take 0 b).marks ((0 : Nat) : Int) = b := by
  have h := slS_pos hk
  have hl : 0 < (slS k).toNat := by omega
  rw [hasB_nat]
  have e : ((newSp first k).take 0 b).marks = if b then (List.replicate (slS k).toNat false).set 0 true else List.replicate (slS k).toNat false := rfl
  rw [e]
  cases b
  · simp [List.getElem?_replicate, hl]
  · simp [List.getElem?_set, hl]
theorem take_used {first k : Int} (hk : 0 ≤ k ∧ k < 16) (b : Bool) : ((newSp first k).take 0 b).used[0]? = some true := by
  have h := slS_pos hk
  show ((List.replicate (slS k).toNat false).set 0 true)[0]? = some true
  rw [List.getElem?_set_self (by rw [List.length_replicate]; omega)]
theorem bne_refl (b : Bool) : eqV 2 true (.bool b) (.bool b) = some (.bool false) := by cases b <;> rfl
theorem room_le {l : List Run} {m m' : Int} (h : Room l m) (hm : m' ≤ m) : Room l m' := h.le hm
theorem goodW_32768 : goodW 32768 := by unfold goodW; omega
end Go.Proofs

/-
  One op, done to both arenas: they tell the same, and stand for the same again.
-/
set_option maxRecDepth 100000
set_option maxHeartbeats 4000000
namespace Go.Proofs
open Go.Sl
theorem SpanR_fun {st s1 s2 : Ar} {k id1 id2 : Int} {b1 b2 : Run} (hk : 0 ≤ k ∧ k < 16) (r1 : SpanR st k s1 id1 b1) (r2 : SpanR st k s2 id2 b2) : s1 = s2 ∧ id1 = id2 := by
  obtain rfl := Least_uniq r1.lst r2.lst
  have hp := pgS_pos hk
  have w1 := r1.wf
  have w2 := r2.wf
  rw [r1.n] at w1
  rw [r2.n] at w2
  have h1 : AllocL st.n st.runs (pgS k) (tup b1.1 0) s1.runs := .inr (.inr ⟨hp.1, b1, r1.mem, r1.le, r1.best, rfl, r1.fr, r1.left⟩)
  have h2 : AllocL st.n st.runs (pgS k) (tup b2.1 0) s2.runs := .inr (.inr ⟨hp.1, b2, r2.mem, r2.le, r2.best, rfl, r2.fr, r2.left⟩)
  obtain ⟨e1, e2⟩ := AllocL_fun h1 h2 w1 w2
  have e3 : b1.1 = b2.1 := by
    have := congrArg (fun v => exV v 0) e1
    simpa [exV0] using this
  refine ⟨?_, rfl⟩
  have q1 := r1.n; have q2 := r2.n; have q3 := r1.sp; have q4 := r2.sp; have q5 := r1.ow; have q6 := r2.ow; have q7 := r1.ob; have q8 := r2.ob; have q9 := r1.live; have q10 := r2.live
  obtain ⟨n1, u1, p1, o1, b1', l1⟩ := s1
  obtain ⟨n2, u2, p2, o2, b2', l2⟩ := s2
  simp only at *
  rw [e3] at q3 q5
  rw [q1, q2, q3, q4, q5, q6, q7, q8, q9, q10, e2]
theorem DropR_fun {st s1 s2 : Ar} {id : Int} {s : Sp} (r1 : DropR st id s s1) (r2 : DropR st id s s2) : s1 = s2 := by
  have w1 := r1.wf
  have w2 := r2.wf
  rw [r1.n] at w1
  rw [r2.n] at w2
  have e2 : s1.runs = s2.runs := WFf_unique w1 w2 fun x => by rw [r1.fr, r2.fr]
  have q1 := r1.n; have q2 := r2.n; have q3 := r1.sp; have q4 := r2.sp; have q5 := r1.ow; have q6 := r2.ow; have q7 := r1.ob; have q8 := r2.ob; have q9 := r1.live; have q10 := r2.live
  obtain ⟨n1, u1, p1, o1, b1', l1⟩ := s1
  obtain ⟨n2, u2, p2, o2, b2', l2⟩ := s2
  simp only at *
  rw [q1, q2, q3, q4, q5, q6, q7, q8, q9, q10, e2]
structure OpV where
  kind : Int
  cls : Int
  id : Int
  n : Int
  addr : Int
  i : Int
  v : Int
  black : Bool
  raw : Bool
def OpV.cells (o : OpV) : Array Value := #[.int .i64 o.kind, .int .i64 o.cls, .int .i64 o.id, .int .i64 o.n, .int .i64 o.addr, .int .i64 o.i, .int .i64 o.v, .bool o.black, .bool o.raw]
theorem op_ld {r : Nat} {o : OpV} {F : Asrt} {h : Hp} (hh : (pt r (.cells o.cells 48 (0, 0)) * F) h) :
    ld1 (.pointer (some ⟨r, 0 + 0, none⟩)) h = some (.int .i64 o.kind) ∧ ld1 (.pointer (some ⟨r, 0 + 1, none⟩)) h = some (.int .i64 o.cls) ∧ ld1 (.pointer (some ⟨r, 0 + 2, none⟩)) h = some (.int .i64 o.id) ∧
    ld1 (.pointer (some ⟨r, 0 + 3, none⟩)) h = some (.int .i64 o.n) ∧ ld1 (.pointer (some ⟨r, 0 + 4, none⟩)) h = some (.int .i64 o.addr) ∧ ld1 (.pointer (some ⟨r, 0 + 5, none⟩)) h = some (.int .i64 o.i) ∧
    ld1 (.pointer (some ⟨r, 0 + 6, none⟩)) h = some (.int .i64 o.v) ∧ ld1 (.pointer (some ⟨r, 0 + 7, none⟩)) h = some (.bool o.black) ∧ ld1 (.pointer (some ⟨r, 0 + 8, none⟩)) h = some (.bool o.raw) :=
  ⟨ld1_mk (pt_get hh) rfl, ld1_mk (pt_get hh) rfl, ld1_mk (pt_get hh) rfl, ld1_mk (pt_get hh) rfl, ld1_mk (pt_get hh) rfl, ld1_mk (pt_get hh) rfl, ld1_mk (pt_get hh) rfl, ld1_mk (pt_get hh) rfl, ld1_mk (pt_get hh) rfl⟩
theorem eqA2 (a b : Int) : eqA [1, 1] false (.agg #[.int .i64 a, .int .i64 b]) (.agg #[.int .i64 a, .int .i64 b]) = some (.bool true) := by
  have e : eqL [1, 1] [.int .i64 a, .int .i64 b] [.int .i64 a, .int .i64 b] = some true := by
    simp only [eqL, eqS, if_true, Bool.and_true]
    simp
  simp only [eqA, e, Option.map_some]
  rfl
theorem beq_refl' (b : Bool) : eqV 2 false (.bool b) (.bool b) = some (.bool true) := by cases b <;> rfl
theorem tmod10 (x : Int) : binV .rem (.int .i64 x) (.int .i64 10) = some (.int .i64 (x.tmod 10)) ∧ -9 ≤ x.tmod 10 ∧ x.tmod 10 ≤ 9 := by
  refine ⟨rfl, ?_, ?_⟩
  · have := Int.lt_tmod_of_pos x (b := 10) (by omega); omega
  · have := Int.tmod_lt_of_pos x (b := 10) (by omega); omega
noncomputable def mkd (st : Ar) (y : Int) : Bool := @decide (∃ id s, ∃ i : Nat, st.sp id = some s ∧ s.used[i]? = some true ∧ y = s.addr i ∧ hasB s.marks i = true) (Classical.propDecidable _)
theorem mkd_none {st : Ar} {N : Nat} (ok : AOk st N) {y : Int} (h : st.ob y = none) : mkd st y = false := by
  refine @decide_eq_false _ (Classical.propDecidable _) ?_
  rintro ⟨id, s, i, h1, h2, h3, _⟩
  have := (ok.ob y).2 ⟨id, s, i, h1, h2, h3⟩
  rw [h] at this; cases this
theorem mkd_some {st : Ar} {N : Nat} (ok : AOk st N) {y id : Int} {s : Sp} {i : Nat} (h1 : st.sp id = some s) (h2 : s.used[i]? = some true) (h3 : y = s.addr i) : mkd st y = hasB s.marks i := by
  cases hb : hasB s.marks i with
  | true => exact @decide_eq_true _ (Classical.propDecidable _) ⟨id, s, i, h1, h2, h3, hb⟩
  | false =>
    refine @decide_eq_false _ (Classical.propDecidable _) ?_
    rintro ⟨id', s', i', g1, g2, g3, g4⟩
    obtain ⟨rfl, rfl, rfl⟩ := sp_uniq ok h1 g1 (List.getElem?_eq_some_iff.1 h2).1 g2 (h3 ▸ g3)
    rw [hb] at g4; cases g4
theorem use_amarked1 {g : Hp} {a : Nat} {st : Ar} {N : Nat} {x : Int} (ok : AOk st N) {F : Asrt} {K : Value → Hp → Prop} {h : Hp} (hh : (AR a st * (own g * (F * tt))) h)
    (hK : ∀ h', (AR a st * (own g * (F * tt))) h' → K (.bool (mkd st x)) h') : CallH Tryz.prog 28 #[pB a, .int .i64 x] K h := by
  refine use_amarked ok hh (fun h1 e hh1 => ?_) fun id s i h1 q1 q2 q3 hh1 => ?_
  · rw [← mkd_none ok e]; exact hK h1 hh1
  · rw [← mkd_some ok q1 q2 q3]; exact hK h1 hh1
theorem use_remarked1 {a : Nat} {st : Ar} {N : Nat} {x : Int} (ok : AOk st N) {F : Asrt} {K : Value → Hp → Prop} {h : Hp} (hh : (RA a st * (F * tt)) h)
    (hK : ∀ h', (RA a st * (F * tt)) h' → K (.bool (mkd st x)) h') : CallH Tryz.prog 58 #[pB a, .int .i64 x] K h := by
  refine use_remarked ok hh (fun h1 e hh1 => ?_) fun id s i h1 q1 q2 q3 hh1 => ?_
  · rw [← mkd_none ok e]; exact hK h1 hh1
  · rw [← mkd_some ok q1 q2 q3]; exact hK h1 hh1
theorem use_refind1 {a : Nat} {st : Ar} {N : Nat} {y i j : Int} {bf : Bool} (ok : AOk st N) (hi0 : st.ob y = none → i = 0 ∧ j = 0 ∧ bf = false) (hi1 : ∀ id s (k : Nat), st.sp id = some s → s.used[k]? = some true → y = s.addr k → i = id ∧ j = k ∧ bf = true) {F : Asrt} {K : Value → Hp → Prop} {h : Hp} (hh : (RA a st * (F * tt)) h)
    (hK : ∀ h', (RA a st * (F * tt)) h' → K (.tuple #[.agg #[.int .i64 i, .int .i64 j], .bool bf]) h') : CallH Tryz.prog 56 #[pB a, .int .i64 y] K h := by
  refine use_refindA ok hh (fun h1 e hh1 => ?_) fun id s k l h1 q1 q2 q3 _ hh1 => ?_
  · obtain ⟨rfl, rfl, rfl⟩ := hi0 e
    exact hK h1 hh1
  · obtain ⟨rfl, rfl, rfl⟩ := hi1 id s k q1 q2 q3
    exact hK h1 hh1
abbrev Two (a x : Nat) (st : Ar) (g : Hp) (F : Asrt) : Asrt := AR a st * (own g * (RA x st * (F * tt)))
theorem use_both {g : Hp} (hg : TabG 0 g) {a x : Nat} {st : Ar} {N : Nat} {o : OpV} (ok : AOk st N) (hN : N ≤ 999999) {F : Asrt} {K : Value → Hp → Prop} {h : Hp} (hh : (Two a x st g F) h)
    (hK : ∀ st' N' h', N' ≤ N + 1 → AOk st' N' → (Two a x st' g F) h' → K (.bool true) h') : CallH Tryz.prog 21 #[pB a, pB x, .agg o.cells] K h := by
  refine C21 ?_
  unfold D21
  show vA (some (Obj.cells o.cells 48 (0, 0), ptrV)) _ h
  refine vA_new (o := .cells o.cells 48 (0, 0)) (f := ptrV) hh fun r h1 hh1 => ?_
  have hh1 : (Two a x st g (pt r (.cells o.cells 48 (0, 0)) * F)) h1 := asr (by unfold Two; ac_rfl) hh1
  have ldo : ∀ {st' : Ar} {h' : Hp}, (Two a x st' g (pt r (.cells o.cells 48 (0, 0)) * F)) h' → (pt r (.cells o.cells 48 (0, 0)) * (AR a st' * (own g * (RA x st' * (F * tt))))) h' := fun q => asr (by unfold Two; ac_rfl) q
  have fin : ∀ (st' : Ar) (N' : Nat) h', N' ≤ N + 1 → AOk st' N' → (Two a x st' g (pt r (.cells o.cells 48 (0, 0)) * F)) h' → K (.bool true) h' := fun st' N' h' q1 q2 q3 => hK st' N' h' q1 q2 (dropL (P := pt r (.cells o.cells 48 (0, 0))) (Q := AR a st' * (own g * (RA x st' * F))) (asr (by unfold Two; ac_rfl) q3) |> asr (by unfold Two; ac_rfl))
  clear hK hh
  have toR : ∀ {st1 st2 : Ar} {h' : Hp}, (AR a st1 * (own g * (RA x st2 * (pt r (.cells o.cells 48 (0, 0)) * F * tt)))) h' → (RA x st2 * (AR a st1 * (own g * (pt r (.cells o.cells 48 (0, 0)) * F)) * tt)) h' := fun q => asr (by ac_rfl) q
  have ofR : ∀ {st1 st2 : Ar} {h' : Hp}, (RA x st2 * (AR a st1 * (own g * (pt r (.cells o.cells 48 (0, 0)) * F)) * tt)) h' → (AR a st1 * (own g * (RA x st2 * (pt r (.cells o.cells 48 (0, 0)) * F * tt)))) h' := fun q => asr (by ac_rfl) q
  have toA : ∀ {st1 st2 : Ar} {h' : Hp}, (AR a st1 * (own g * (RA x st2 * (pt r (.cells o.cells 48 (0, 0)) * F * tt)))) h' → (AR a st1 * (own g * (RA x st2 * (pt r (.cells o.cells 48 (0, 0)) * F) * tt))) h' := fun q => asr (by ac_rfl) q
  have ofA : ∀ {st1 st2 : Ar} {h' : Hp}, (AR a st1 * (own g * (RA x st2 * (pt r (.cells o.cells 48 (0, 0)) * F) * tt))) h' → (AR a st1 * (own g * (RA x st2 * (pt r (.cells o.cells 48 (0, 0)) * F * tt)))) h' := fun q => asr (by ac_rfl) q
  have opL : ∀ {st1 st2 : Ar} {h' : Hp}, (AR a st1 * (own g * (RA x st2 * (pt r (.cells o.cells 48 (0, 0)) * F * tt)))) h' → (pt r (.cells o.cells 48 (0, 0)) * (AR a st1 * (own g * (RA x st2 * (F * tt))))) h' := fun q => asr (by ac_rfl) q
  have l1 := op_ld (opL hh1)
  obtain ⟨m1, m2, m3⟩ := tmod10 o.kind
  obtain ⟨q, hq⟩ : ∃ q : Int, q = (o.kind.tmod 10 + 10) % 10 := ⟨_, rfl⟩
  have hqb : 0 ≤ q ∧ q < 10 := by omega
  have m4 : binV .rem (.int .i64 (o.kind.tmod 10 + 10)) (.int .i64 10) = some (.int .i64 q) := by rw [bin_rem (by omega) (by omega), hq]
  clear hq
  repeat (with_reducible first | refine vP_so ?_ | refine vB_t ?_ | refine vB_f ?_ | refine vE_tt ?_ | refine vE_ff ?_ | refine vE_tf ?_ | refine vE_ft ?_ | refine vE_u ?_ | refine vP_to (by simp (disch := omega) only [gdW_true, gdW_false, gB_true, gB_false, gB_undef, pickV_true, pickV_false, Bool.not_true, Bool.not_false, Option.map_some, bin_add, bin_sub, bin_mul, bin_quo, bin_rem, lss_t, lss_f, leq_t, leq_f, gtr_t, gtr_f, geq_t, geq_f, eqi_t, eqi_f, nei_t, nei_f, rem_uw, conv_ui, conv_iu, conv_ii, not_bool, nil_ptr, fa_mk, ptrV, len_mk, cap_mk, eq_ptr_nil, ne_ptr_nil, eq_nil_nil, ne_nil_nil, eq_slice_nil, eq_nil_slice, ia_1, l1.2.2.2.2.1]; exact so_so) ?_)
  intro J1 hJ1
  -- what is done at a place
  have main : ∀ (y : Int) h2, (AR a st * (own g * (RA x st * (pt r (.cells o.cells 48 (0, 0)) * F * tt)))) h2 → J1 [.int .i64 y] h2 := by
    intro y h2 hh2
    refine hJ1 _ _ fun _ => ?_
    clear hJ1 l1 hh1
    have l2 := op_ld (opL hh2)
    repeat (with_reducible first | refine vP_so ?_ | refine vB_t ?_ | refine vB_f ?_ | refine vE_tt ?_ | refine vE_ff ?_ | refine vE_tf ?_ | refine vE_ft ?_ | refine vE_u ?_ | refine vP_to (by simp (disch := omega) only [gdW_true, gdW_false, gB_true, gB_false, gB_undef, pickV_true, pickV_false, Bool.not_true, Bool.not_false, Option.map_some, bin_add, bin_sub, bin_mul, bin_quo, bin_rem, lss_t, lss_f, leq_t, leq_f, gtr_t, gtr_f, geq_t, geq_f, eqi_t, eqi_f, nei_t, nei_f, rem_uw, conv_ui, conv_iu, conv_ii, not_bool, nil_ptr, fa_mk, ptrV, len_mk, cap_mk, eq_ptr_nil, ne_ptr_nil, eq_nil_nil, ne_nil_nil, eq_slice_nil, eq_nil_slice, ia_1, l2.1, m1, m4]; exact so_so) ?_)
    by_cases q0 : q = 0
    · repeat (with_reducible first | refine vP_so ?_ | refine vB_t ?_ | refine vB_f ?_ | refine vE_tt ?_ | refine vE_ff ?_ | refine vE_tf ?_ | refine vE_ft ?_ | refine vE_u ?_ | refine vP_to (by simp (disch := omega) only [gdW_true, gdW_false, gB_true, gB_false, gB_undef, pickV_true, pickV_false, Bool.not_true, Bool.not_false, Option.map_some, bin_add, bin_sub, bin_mul, bin_quo, bin_rem, lss_t, lss_f, leq_t, leq_f, gtr_t, gtr_f, geq_t, geq_f, eqi_t, eqi_f, nei_t, nei_f, rem_uw, conv_ui, conv_iu, conv_ii, not_bool, nil_ptr, fa_mk, ptrV, len_mk, cap_mk, eq_ptr_nil, ne_ptr_nil, eq_nil_nil, ne_nil_nil, eq_slice_nil, eq_nil_slice, ia_1, l2.2.1]; exact so_so) ?_)
      refine use_aspan ok (by omega) (toA hh2) (fun h3 hb hh3 => ?_) (fun h3 hk hf hh3 => ?_) fun s1 id1 b1 h3 hk r1 hh3 => ?_
      · have l3 := op_ld (opL (ofA hh3))
        repeat (with_reducible first | refine vP_so ?_ | refine vB_t ?_ | refine vB_f ?_ | refine vE_tt ?_ | refine vE_ff ?_ | refine vE_tf ?_ | refine vE_ft ?_ | refine vE_u ?_ | refine vP_to (by simp (disch := omega) only [gdW_true, gdW_false, gB_true, gB_false, gB_undef, pickV_true, pickV_false, Bool.not_true, Bool.not_false, Option.map_some, bin_add, bin_sub, bin_mul, bin_quo, bin_rem, lss_t, lss_f, leq_t, leq_f, gtr_t, gtr_f, geq_t, geq_f, eqi_t, eqi_f, nei_t, nei_f, rem_uw, conv_ui, conv_iu, conv_ii, not_bool, nil_ptr, fa_mk, ptrV, len_mk, cap_mk, eq_ptr_nil, ne_ptr_nil, eq_nil_nil, ne_nil_nil, eq_slice_nil, eq_nil_slice, ia_1, exV0, exV1, l3.2.1]; exact so_so) ?_)
        refine use_respan ok (by omega) (toR (ofA hh3)) (fun h4 _ hh4 => ?_) (fun h4 hk _ _ => (hb hk).elim) fun s2 id2 b2 h4 hk _ _ => (hb hk).elim
        repeat (with_reducible first | refine vP_so ?_ | refine vB_t ?_ | refine vB_f ?_ | refine vE_tt ?_ | refine vE_ff ?_ | refine vE_tf ?_ | refine vE_ft ?_ | refine vE_u ?_ | refine vP_to (by simp (disch := omega) only [gdW_true, gdW_false, gB_true, gB_false, gB_undef, pickV_true, pickV_false, Bool.not_true, Bool.not_false, Option.map_some, bin_add, bin_sub, bin_mul, bin_quo, bin_rem, lss_t, lss_f, leq_t, leq_f, gtr_t, gtr_f, geq_t, geq_f, eqi_t, eqi_f, nei_t, nei_f, rem_uw, conv_ui, conv_iu, conv_ii, not_bool, nil_ptr, fa_mk, ptrV, len_mk, cap_mk, eq_ptr_nil, ne_ptr_nil, eq_nil_nil, ne_nil_nil, eq_slice_nil, eq_nil_slice, ia_1, exV0, exV1, eq_refl']; exact so_so) ?_)
        exact fin st N h4 (by omega) ok (ofR hh4)
      · have l3 := op_ld (opL (ofA hh3))
        repeat (with_reducible first | refine vP_so ?_ | refine vB_t ?_ | refine vB_f ?_ | refine vE_tt ?_ | refine vE_ff ?_ | refine vE_tf ?_ | refine vE_ft ?_ | refine vE_u ?_ | refine vP_to (by simp (disch := omega) only [gdW_true, gdW_false, gB_true, gB_false, gB_undef, pickV_true, pickV_false, Bool.not_true, Bool.not_false, Option.map_some, bin_add, bin_sub, bin_mul, bin_quo, bin_rem, lss_t, lss_f, leq_t, leq_f, gtr_t, gtr_f, geq_t, geq_f, eqi_t, eqi_f, nei_t, nei_f, rem_uw, conv_ui, conv_iu, conv_ii, not_bool, nil_ptr, fa_mk, ptrV, len_mk, cap_mk, eq_ptr_nil, ne_ptr_nil, eq_nil_nil, ne_nil_nil, eq_slice_nil, eq_nil_slice, ia_1, exV0, exV1, l3.2.1]; exact so_so) ?_)
        refine use_respan ok (by omega) (toR (ofA hh3)) (fun h4 hb _ => (hb hk).elim) (fun h4 _ _ hh4 => ?_) fun s2 id2 b2 h4 _ r2 _ => ?_
        · repeat (with_reducible first | refine vP_so ?_ | refine vB_t ?_ | refine vB_f ?_ | refine vE_tt ?_ | refine vE_ff ?_ | refine vE_tf ?_ | refine vE_ft ?_ | refine vE_u ?_ | refine vP_to (by simp (disch := omega) only [gdW_true, gdW_false, gB_true, gB_false, gB_undef, pickV_true, pickV_false, Bool.not_true, Bool.not_false, Option.map_some, bin_add, bin_sub, bin_mul, bin_quo, bin_rem, lss_t, lss_f, leq_t, leq_f, gtr_t, gtr_f, geq_t, geq_f, eqi_t, eqi_f, nei_t, nei_f, rem_uw, conv_ui, conv_iu, conv_ii, not_bool, nil_ptr, fa_mk, ptrV, len_mk, cap_mk, eq_ptr_nil, ne_ptr_nil, eq_nil_nil, ne_nil_nil, eq_slice_nil, eq_nil_slice, ia_1, exV0, exV1, eq_refl']; exact so_so) ?_)
          exact fin st N h4 (by omega) ok (ofR hh4)
        · have := hf b2 r2.mem; have := r2.le; omega
      · have l3 := op_ld (opL (ofA hh3))
        repeat (with_reducible first | refine vP_so ?_ | refine vB_t ?_ | refine vB_f ?_ | refine vE_tt ?_ | refine vE_ff ?_ | refine vE_tf ?_ | refine vE_ft ?_ | refine vE_u ?_ | refine vP_to (by simp (disch := omega) only [gdW_true, gdW_false, gB_true, gB_false, gB_undef, pickV_true, pickV_false, Bool.not_true, Bool.not_false, Option.map_some, bin_add, bin_sub, bin_mul, bin_quo, bin_rem, lss_t, lss_f, leq_t, leq_f, gtr_t, gtr_f, geq_t, geq_f, eqi_t, eqi_f, nei_t, nei_f, rem_uw, conv_ui, conv_iu, conv_ii, not_bool, nil_ptr, fa_mk, ptrV, len_mk, cap_mk, eq_ptr_nil, ne_ptr_nil, eq_nil_nil, ne_nil_nil, eq_slice_nil, eq_nil_slice, ia_1, exV0, exV1, l3.2.1]; exact so_so) ?_)
        refine use_respan ok (by omega) (toR (ofA hh3)) (fun h4 hb _ => (hb hk).elim) (fun h4 _ hf _ => ?_) fun s2 id2 b2 h4 _ r2 hh4 => ?_
        · have := hf b1 r1.mem; have := r1.le; omega
        · obtain ⟨rfl, rfl⟩ := SpanR_fun hk r1 r2
          repeat (with_reducible first | refine vP_so ?_ | refine vB_t ?_ | refine vB_f ?_ | refine vE_tt ?_ | refine vE_ff ?_ | refine vE_tf ?_ | refine vE_ft ?_ | refine vE_u ?_ | refine vP_to (by simp (disch := omega) only [gdW_true, gdW_false, gB_true, gB_false, gB_undef, pickV_true, pickV_false, Bool.not_true, Bool.not_false, Option.map_some, bin_add, bin_sub, bin_mul, bin_quo, bin_rem, lss_t, lss_f, leq_t, leq_f, gtr_t, gtr_f, geq_t, geq_f, eqi_t, eqi_f, nei_t, nei_f, rem_uw, conv_ui, conv_iu, conv_ii, not_bool, nil_ptr, fa_mk, ptrV, len_mk, cap_mk, eq_ptr_nil, ne_ptr_nil, eq_nil_nil, ne_nil_nil, eq_slice_nil, eq_nil_slice, ia_1, exV0, exV1, eq_refl']; exact so_so) ?_)
          exact fin s1 (N + 1) h4 (by omega) (r1.ok ok hk) (ofR hh4)
    by_cases q1 : q = 1
    · repeat (with_reducible first | refine vP_so ?_ | refine vB_t ?_ | refine vB_f ?_ | refine vE_tt ?_ | refine vE_ff ?_ | refine vE_tf ?_ | refine vE_ft ?_ | refine vE_u ?_ | refine vP_to (by simp (disch := omega) only [gdW_true, gdW_false, gB_true, gB_false, gB_undef, pickV_true, pickV_false, Bool.not_true, Bool.not_false, Option.map_some, bin_add, bin_sub, bin_mul, bin_quo, bin_rem, lss_t, lss_f, leq_t, leq_f, gtr_t, gtr_f, geq_t, geq_f, eqi_t, eqi_f, nei_t, nei_f, rem_uw, conv_ui, conv_iu, conv_ii, not_bool, nil_ptr, fa_mk, ptrV, len_mk, cap_mk, eq_ptr_nil, ne_ptr_nil, eq_nil_nil, ne_nil_nil, eq_slice_nil, eq_nil_slice, ia_1, l2.2.2.1]; exact so_so) ?_)
      refine use_adrop ok (toA hh2) (fun hs => ?_) (fun s hs hc => ?_) fun s s1 h3 hs hc r1 hh3 => ?_
      · refine ⟨l2.2.2.1, ?_⟩
        refine use_redrop ok (by omega) (toR hh2) (fun _ => ?_) (fun s hs' _ => by rw [hs] at hs'; cases hs') fun s s2 h4 hs' _ _ _ => by rw [hs] at hs'; cases hs'
        repeat (with_reducible first | refine vP_so ?_ | refine vB_t ?_ | refine vB_f ?_ | refine vE_tt ?_ | refine vE_ff ?_ | refine vE_tf ?_ | refine vE_ft ?_ | refine vE_u ?_ | refine vP_to (by simp (disch := omega) only [gdW_true, gdW_false, gB_true, gB_false, gB_undef, pickV_true, pickV_false, Bool.not_true, Bool.not_false, Option.map_some, bin_add, bin_sub, bin_mul, bin_quo, bin_rem, lss_t, lss_f, leq_t, leq_f, gtr_t, gtr_f, geq_t, geq_f, eqi_t, eqi_f, nei_t, nei_f, rem_uw, conv_ui, conv_iu, conv_ii, not_bool, nil_ptr, fa_mk, ptrV, len_mk, cap_mk, eq_ptr_nil, ne_ptr_nil, eq_nil_nil, ne_nil_nil, eq_slice_nil, eq_nil_slice, ia_1, eq_refl']; exact so_so) ?_)
        exact fin st N h2 (by omega) ok hh2
      · refine ⟨l2.2.2.1, ?_⟩
        refine use_redrop ok (by omega) (toR hh2) (fun hs' => by rw [hs] at hs'; cases hs') (fun _ _ _ => ?_) fun s' s2 h4 hs' hc' _ _ => ?_
        · repeat (with_reducible first | refine vP_so ?_ | refine vB_t ?_ | refine vB_f ?_ | refine vE_tt ?_ | refine vE_ff ?_ | refine vE_tf ?_ | refine vE_ft ?_ | refine vE_u ?_ | refine vP_to (by simp (disch := omega) only [gdW_true, gdW_false, gB_true, gB_false, gB_undef, pickV_true, pickV_false, Bool.not_true, Bool.not_false, Option.map_some, bin_add, bin_sub, bin_mul, bin_quo, bin_rem, lss_t, lss_f, leq_t, leq_f, gtr_t, gtr_f, geq_t, geq_f, eqi_t, eqi_f, nei_t, nei_f, rem_uw, conv_ui, conv_iu, conv_ii, not_bool, nil_ptr, fa_mk, ptrV, len_mk, cap_mk, eq_ptr_nil, ne_ptr_nil, eq_nil_nil, ne_nil_nil, eq_slice_nil, eq_nil_slice, ia_1, eq_refl']; exact so_so) ?_)
          exact fin st N h2 (by omega) ok hh2
        · rw [hs] at hs'; obtain rfl := Option.some.inj hs'; omega
      · have l3 := op_ld (opL (ofA hh3))
        refine ⟨l3.2.2.1, ?_⟩
        refine use_redrop ok (by omega) (toR (ofA hh3)) (fun hs' => by rw [hs] at hs'; cases hs') (fun s' hs' hc' => ?_) fun s' s2 h4 hs' _ r2 hh4 => ?_
        · rw [hs] at hs'; obtain rfl := Option.some.inj hs'; omega
        · rw [hs] at hs'; obtain rfl := Option.some.inj hs'
          obtain rfl := DropR_fun r1 r2
          repeat (with_reducible first | refine vP_so ?_ | refine vB_t ?_ | refine vB_f ?_ | refine vE_tt ?_ | refine vE_ff ?_ | refine vE_tf ?_ | refine vE_ft ?_ | refine vE_u ?_ | refine vP_to (by simp (disch := omega) only [gdW_true, gdW_false, gB_true, gB_false, gB_undef, pickV_true, pickV_false, Bool.not_true, Bool.not_false, Option.map_some, bin_add, bin_sub, bin_mul, bin_quo, bin_rem, lss_t, lss_f, leq_t, leq_f, gtr_t, gtr_f, geq_t, geq_f, eqi_t, eqi_f, nei_t, nei_f, rem_uw, conv_ui, conv_iu, conv_ii, not_bool, nil_ptr, fa_mk, ptrV, len_mk, cap_mk, eq_ptr_nil, ne_ptr_nil, eq_nil_nil, ne_nil_nil, eq_slice_nil, eq_nil_slice, ia_1, eq_refl']; exact so_so) ?_)
          exact fin s1 N h4 (by omega) (r1.ok ok hs hc) (ofR hh4)
    repeat (with_reducible first | refine vP_so ?_ | refine vB_t ?_ | refine vB_f ?_ | refine vE_tt ?_ | refine vE_ff ?_ | refine vE_tf ?_ | refine vE_ft ?_ | refine vE_u ?_ | refine vP_to (by simp (disch := omega) only [gdW_true, gdW_false, gB_true, gB_false, gB_undef, pickV_true, pickV_false, Bool.not_true, Bool.not_false, Option.map_some, bin_add, bin_sub, bin_mul, bin_quo, bin_rem, lss_t, lss_f, leq_t, leq_f, gtr_t, gtr_f, geq_t, geq_f, eqi_t, eqi_f, nei_t, nei_f, rem_uw, conv_ui, conv_iu, conv_ii, not_bool, nil_ptr, fa_mk, ptrV, len_mk, cap_mk, eq_ptr_nil, ne_ptr_nil, eq_nil_nil, ne_nil_nil, eq_slice_nil, eq_nil_slice, ia_1]; exact so_so) ?_)
    intro J2 hJ2
    have all : ∀ vb : Bool, (vb = true ↔ q = 2 ∨ q = 3 ∨ q = 4) → J2 [.bool vb] h2 := by
      intro vb hvb
      refine hJ2 _ _ fun _ => ?_
      clear hJ2
      cases vb with
      | true =>
        repeat (with_reducible first | refine vP_so ?_ | refine vB_t ?_ | refine vB_f ?_ | refine vE_tt ?_ | refine vE_ff ?_ | refine vE_tf ?_ | refine vE_ft ?_ | refine vE_u ?_ | refine vP_to (by simp (disch := omega) only [gdW_true, gdW_false, gB_true, gB_false, gB_undef, pickV_true, pickV_false, Bool.not_true, Bool.not_false, Option.map_some, bin_add, bin_sub, bin_mul, bin_quo, bin_rem, lss_t, lss_f, leq_t, leq_f, gtr_t, gtr_f, geq_t, geq_f, eqi_t, eqi_f, nei_t, nei_f, rem_uw, conv_ui, conv_iu, conv_ii, not_bool, nil_ptr, fa_mk, ptrV, len_mk, cap_mk, eq_ptr_nil, ne_ptr_nil, eq_nil_nil, ne_nil_nil, eq_slice_nil, eq_nil_slice, ia_1, l2.2.2.1, l2.2.2.2.1, l2.2.2.2.2.2.2.2.1]; exact so_so) ?_)
        refine use_aalloc (black := o.black) hg ok (by omega) (toA hh2) (fun hs => ?_) (fun s h3 hs hb hh3 => ?_) (fun s h3 hs hn hf hh3 => ?_) fun s i h3 hs hn hf hh3 => ?_
        · repeat (with_reducible first | refine vP_so ?_ | refine vB_t ?_ | refine vB_f ?_ | refine vE_tt ?_ | refine vE_ff ?_ | refine vE_tf ?_ | refine vE_ft ?_ | refine vE_u ?_ | refine vP_to (by simp (disch := omega) only [gdW_true, gdW_false, gB_true, gB_false, gB_undef, pickV_true, pickV_false, Bool.not_true, Bool.not_false, Option.map_some, bin_add, bin_sub, bin_mul, bin_quo, bin_rem, lss_t, lss_f, leq_t, leq_f, gtr_t, gtr_f, geq_t, geq_f, eqi_t, eqi_f, nei_t, nei_f, rem_uw, conv_ui, conv_iu, conv_ii, not_bool, nil_ptr, fa_mk, ptrV, len_mk, cap_mk, eq_ptr_nil, ne_ptr_nil, eq_nil_nil, ne_nil_nil, eq_slice_nil, eq_nil_slice, ia_1, exV0, exV1, l2.2.2.1, l2.2.2.2.1, l2.2.2.2.2.2.2.2.1]; exact so_so) ?_)
          refine use_realloc ok (toR hh2) (fun _ => ?_) (fun s h4 hs' _ _ => by rw [hs] at hs'; cases hs') (fun s h4 hs' _ _ _ => by rw [hs] at hs'; cases hs') fun s i h4 hs' _ _ _ => by rw [hs] at hs'; cases hs'
          repeat (with_reducible first | refine vP_so ?_ | refine vB_t ?_ | refine vB_f ?_ | refine vE_tt ?_ | refine vE_ff ?_ | refine vE_tf ?_ | refine vE_ft ?_ | refine vE_u ?_ | refine vP_to (by simp (disch := omega) only [gdW_true, gdW_false, gB_true, gB_false, gB_undef, pickV_true, pickV_false, Bool.not_true, Bool.not_false, Option.map_some, bin_add, bin_sub, bin_mul, bin_quo, bin_rem, lss_t, lss_f, leq_t, leq_f, gtr_t, gtr_f, geq_t, geq_f, eqi_t, eqi_f, nei_t, nei_f, rem_uw, conv_ui, conv_iu, conv_ii, not_bool, nil_ptr, fa_mk, ptrV, len_mk, cap_mk, eq_ptr_nil, ne_ptr_nil, eq_nil_nil, ne_nil_nil, eq_slice_nil, eq_nil_slice, ia_1, exV0, exV1, eq_refl']; exact so_so) ?_)
          exact fin st N h2 (by omega) ok hh2
        · have l3 := op_ld (opL (ofA hh3))
          repeat (with_reducible first | refine vP_so ?_ | refine vB_t ?_ | refine vB_f ?_ | refine vE_tt ?_ | refine vE_ff ?_ | refine vE_tf ?_ | refine vE_ft ?_ | refine vE_u ?_ | refine vP_to (by simp (disch := omega) only [gdW_true, gdW_false, gB_true, gB_false, gB_undef, pickV_true, pickV_false, Bool.not_true, Bool.not_false, Option.map_some, bin_add, bin_sub, bin_mul, bin_quo, bin_rem, lss_t, lss_f, leq_t, leq_f, gtr_t, gtr_f, geq_t, geq_f, eqi_t, eqi_f, nei_t, nei_f, rem_uw, conv_ui, conv_iu, conv_ii, not_bool, nil_ptr, fa_mk, ptrV, len_mk, cap_mk, eq_ptr_nil, ne_ptr_nil, eq_nil_nil, ne_nil_nil, eq_slice_nil, eq_nil_slice, ia_1, exV0, exV1, l3.2.2.1, l3.2.2.2.1, l3.2.2.2.2.2.2.2.1]; exact so_so) ?_)
          refine use_realloc ok (toR (ofA hh3)) (fun hs' => by rw [hs] at hs'; cases hs') (fun s' h4 hs' _ hh4 => ?_) (fun s' h4 hs' hn' _ _ => ?_) fun s' i h4 hs' hn' _ _ => ?_
          · repeat (with_reducible first | refine vP_so ?_ | refine vB_t ?_ | refine vB_f ?_ | refine vE_tt ?_ | refine vE_ff ?_ | refine vE_tf ?_ | refine vE_ft ?_ | refine vE_u ?_ | refine vP_to (by simp (disch := omega) only [gdW_true, gdW_false, gB_true, gB_false, gB_undef, pickV_true, pickV_false, Bool.not_true, Bool.not_false, Option.map_some, bin_add, bin_sub, bin_mul, bin_quo, bin_rem, lss_t, lss_f, leq_t, leq_f, gtr_t, gtr_f, geq_t, geq_f, eqi_t, eqi_f, nei_t, nei_f, rem_uw, conv_ui, conv_iu, conv_ii, not_bool, nil_ptr, fa_mk, ptrV, len_mk, cap_mk, eq_ptr_nil, ne_ptr_nil, eq_nil_nil, ne_nil_nil, eq_slice_nil, eq_nil_slice, ia_1, exV0, exV1, eq_refl']; exact so_so) ?_)
            exact fin st N h4 (by omega) ok (ofR hh4)
          · rw [hs] at hs'; obtain rfl := Option.some.inj hs'; exact (hb hn').elim
          · rw [hs] at hs'; obtain rfl := Option.some.inj hs'; exact (hb hn').elim
        · have l3 := op_ld (opL (ofA hh3))
          repeat (with_reducible first | refine vP_so ?_ | refine vB_t ?_ | refine vB_f ?_ | refine vE_tt ?_ | refine vE_ff ?_ | refine vE_tf ?_ | refine vE_ft ?_ | refine vE_u ?_ | refine vP_to (by simp (disch := omega) only [gdW_true, gdW_false, gB_true, gB_false, gB_undef, pickV_true, pickV_false, Bool.not_true, Bool.not_false, Option.map_some, bin_add, bin_sub, bin_mul, bin_quo, bin_rem, lss_t, lss_f, leq_t, leq_f, gtr_t, gtr_f, geq_t, geq_f, eqi_t, eqi_f, nei_t, nei_f, rem_uw, conv_ui, conv_iu, conv_ii, not_bool, nil_ptr, fa_mk, ptrV, len_mk, cap_mk, eq_ptr_nil, ne_ptr_nil, eq_nil_nil, ne_nil_nil, eq_slice_nil, eq_nil_slice, ia_1, exV0, exV1, l3.2.2.1, l3.2.2.2.1, l3.2.2.2.2.2.2.2.1]; exact so_so) ?_)
          refine use_realloc ok (toR (ofA hh3)) (fun hs' => by rw [hs] at hs'; cases hs') (fun s' h4 hs' hb' _ => ?_) (fun s' h4 hs' _ _ hh4 => ?_) fun s' i h4 hs' _ hf' _ => ?_
          · rw [hs] at hs'; obtain rfl := Option.some.inj hs'; exact (hb' hn).elim
          · repeat (with_reducible first | refine vP_so ?_ | refine vB_t ?_ | refine vB_f ?_ | refine vE_tt ?_ | refine vE_ff ?_ | refine vE_tf ?_ | refine vE_ft ?_ | refine vE_u ?_ | refine vP_to (by simp (disch := omega) only [gdW_true, gdW_false, gB_true, gB_false, gB_undef, pickV_true, pickV_false, Bool.not_true, Bool.not_false, Option.map_some, bin_add, bin_sub, bin_mul, bin_quo, bin_rem, lss_t, lss_f, leq_t, leq_f, gtr_t, gtr_f, geq_t, geq_f, eqi_t, eqi_f, nei_t, nei_f, rem_uw, conv_ui, conv_iu, conv_ii, not_bool, nil_ptr, fa_mk, ptrV, len_mk, cap_mk, eq_ptr_nil, ne_ptr_nil, eq_nil_nil, ne_nil_nil, eq_slice_nil, eq_nil_slice, ia_1, exV0, exV1, eq_refl']; exact so_so) ?_)
            exact fin st N h4 (by omega) ok (ofR hh4)
          · rw [hs] at hs'; obtain rfl := Option.some.inj hs'; rw [hf] at hf'; cases hf'
        · have l3 := op_ld (opL (ofA hh3))
          repeat (with_reducible first | refine vP_so ?_ | refine vB_t ?_ | refine vB_f ?_ | refine vE_tt ?_ | refine vE_ff ?_ | refine vE_tf ?_ | refine vE_ft ?_ | refine vE_u ?_ | refine vP_to (by simp (disch := omega) only [gdW_true, gdW_false, gB_true, gB_false, gB_undef, pickV_true, pickV_false, Bool.not_true, Bool.not_false, Option.map_some, bin_add, bin_sub, bin_mul, bin_quo, bin_rem, lss_t, lss_f, leq_t, leq_f, gtr_t, gtr_f, geq_t, geq_f, eqi_t, eqi_f, nei_t, nei_f, rem_uw, conv_ui, conv_iu, conv_ii, not_bool, nil_ptr, fa_mk, ptrV, len_mk, cap_mk, eq_ptr_nil, ne_ptr_nil, eq_nil_nil, ne_nil_nil, eq_slice_nil, eq_nil_slice, ia_1, exV0, exV1, l3.2.2.1, l3.2.2.2.1, l3.2.2.2.2.2.2.2.1]; exact so_so) ?_)
          refine use_realloc ok (toR (ofA hh3)) (fun hs' => by rw [hs] at hs'; cases hs') (fun s' h4 hs' hb' _ => ?_) (fun s' h4 hs' _ hf' _ => ?_) fun s' i' h4 hs' _ hf' hh4 => ?_
          · rw [hs] at hs'; obtain rfl := Option.some.inj hs'; exact (hb' hn).elim
          · rw [hs] at hs'; obtain rfl := Option.some.inj hs'; rw [hf] at hf'; cases hf'
          · rw [hs] at hs'; obtain rfl := Option.some.inj hs'
            rw [hf] at hf'; obtain rfl := Option.some.inj hf'
            repeat (with_reducible first | refine vP_so ?_ | refine vB_t ?_ | refine vB_f ?_ | refine vE_tt ?_ | refine vE_ff ?_ | refine vE_tf ?_ | refine vE_ft ?_ | refine vE_u ?_ | refine vP_to (by simp (disch := omega) only [gdW_true, gdW_false, gB_true, gB_false, gB_undef, pickV_true, pickV_false, Bool.not_true, Bool.not_false, Option.map_some, bin_add, bin_sub, bin_mul, bin_quo, bin_rem, lss_t, lss_f, leq_t, leq_f, gtr_t, gtr_f, geq_t, geq_f, eqi_t, eqi_f, nei_t, nei_f, rem_uw, conv_ui, conv_iu, conv_ii, not_bool, nil_ptr, fa_mk, ptrV, len_mk, cap_mk, eq_ptr_nil, ne_ptr_nil, eq_nil_nil, ne_nil_nil, eq_slice_nil, eq_nil_slice, ia_1, exV0, exV1, eq_refl']; exact so_so) ?_)
            exact fin _ N h4 (by omega) (put_ok ok hs hf (by omega)) (ofR hh4)
      | false =>
        have hno : ¬ (q = 2 ∨ q = 3 ∨ q = 4) := fun e => by have := hvb.2 e; cases this
        by_cases q6 : q = 6
        · repeat (with_reducible first | refine vP_so ?_ | refine vB_t ?_ | refine vB_f ?_ | refine vE_tt ?_ | refine vE_ff ?_ | refine vE_tf ?_ | refine vE_ft ?_ | refine vE_u ?_ | refine vP_to (by simp (disch := omega) only [gdW_true, gdW_false, gB_true, gB_false, gB_undef, pickV_true, pickV_false, Bool.not_true, Bool.not_false, Option.map_some, bin_add, bin_sub, bin_mul, bin_quo, bin_rem, lss_t, lss_f, leq_t, leq_f, gtr_t, gtr_f, geq_t, geq_f, eqi_t, eqi_f, nei_t, nei_f, rem_uw, conv_ui, conv_iu, conv_ii, not_bool, nil_ptr, fa_mk, ptrV, len_mk, cap_mk, eq_ptr_nil, ne_ptr_nil, eq_nil_nil, ne_nil_nil, eq_slice_nil, eq_nil_slice, ia_1, l2.2.2.2.2.2.1, l2.2.2.2.2.2.2.1]; exact so_so) ?_)
          refine use_astore (x := y) (i := o.i) (v := o.v) (toA hh2) (fun e => ?_) (fun l e ho => ?_) fun l c h3 e h0 hc hh3 => ?_
          · refine ⟨l2.2.2.2.2.2.2.1, l2.2.2.2.2.2.1, ?_⟩
            refine use_restore ok (toR hh2) (fun h4 _ hh4 => ?_) (fun l h4 e' _ _ => by rw [e] at e'; cases e') fun l c h4 e' _ _ _ => by rw [e] at e'; cases e'
            repeat (with_reducible first | refine vP_so ?_ | refine vB_t ?_ | refine vB_f ?_ | refine vE_tt ?_ | refine vE_ff ?_ | refine vE_tf ?_ | refine vE_ft ?_ | refine vE_u ?_ | refine vP_to (by simp (disch := omega) only [gdW_true, gdW_false, gB_true, gB_false, gB_undef, pickV_true, pickV_false, Bool.not_true, Bool.not_false, Option.map_some, bin_add, bin_sub, bin_mul, bin_quo, bin_rem, lss_t, lss_f, leq_t, leq_f, gtr_t, gtr_f, geq_t, geq_f, eqi_t, eqi_f, nei_t, nei_f, rem_uw, conv_ui, conv_iu, conv_ii, not_bool, nil_ptr, fa_mk, ptrV, len_mk, cap_mk, eq_ptr_nil, ne_ptr_nil, eq_nil_nil, ne_nil_nil, eq_slice_nil, eq_nil_slice, ia_1, eq_refl']; exact so_so) ?_)
            exact fin st N h4 (by omega) ok (ofR hh4)
          · refine ⟨l2.2.2.2.2.2.2.1, l2.2.2.2.2.2.1, ?_⟩
            refine use_restore ok (toR hh2) (fun h4 e' _ => by rw [e] at e'; cases e') (fun l h4 _ _ hh4 => ?_) fun l' c h4 e' h0 hc _ => ?_
            · repeat (with_reducible first | refine vP_so ?_ | refine vB_t ?_ | refine vB_f ?_ | refine vE_tt ?_ | refine vE_ff ?_ | refine vE_tf ?_ | refine vE_ft ?_ | refine vE_u ?_ | refine vP_to (by simp (disch := omega) only [gdW_true, gdW_false, gB_true, gB_false, gB_undef, pickV_true, pickV_false, Bool.not_true, Bool.not_false, Option.map_some, bin_add, bin_sub, bin_mul, bin_quo, bin_rem, lss_t, lss_f, leq_t, leq_f, gtr_t, gtr_f, geq_t, geq_f, eqi_t, eqi_f, nei_t, nei_f, rem_uw, conv_ui, conv_iu, conv_ii, not_bool, nil_ptr, fa_mk, ptrV, len_mk, cap_mk, eq_ptr_nil, ne_ptr_nil, eq_nil_nil, ne_nil_nil, eq_slice_nil, eq_nil_slice, ia_1, eq_refl']; exact so_so) ?_)
              exact fin st N h4 (by omega) ok (ofR hh4)
            · rw [e] at e'; obtain rfl := Option.some.inj e'
              have := (List.getElem?_eq_some_iff.1 hc).1
              exact (ho (by omega)).elim
          · have l3 := op_ld (opL (ofA hh3))
            refine ⟨l3.2.2.2.2.2.2.1, l3.2.2.2.2.2.1, ?_⟩
            refine use_restore ok (toR (ofA hh3)) (fun h4 e' _ => by rw [e] at e'; cases e') (fun l' h4 e' ho _ => ?_) fun l' c' h4 e' _ hc' hh4 => ?_
            · rw [e] at e'; obtain rfl := Option.some.inj e'
              have := (List.getElem?_eq_some_iff.1 hc).1
              exact (ho (by omega)).elim
            · rw [e] at e'; obtain rfl := Option.some.inj e'
              repeat (with_reducible first | refine vP_so ?_ | refine vB_t ?_ | refine vB_f ?_ | refine vE_tt ?_ | refine vE_ff ?_ | refine vE_tf ?_ | refine vE_ft ?_ | refine vE_u ?_ | refine vP_to (by simp (disch := omega) only [gdW_true, gdW_false, gB_true, gB_false, gB_undef, pickV_true, pickV_false, Bool.not_true, Bool.not_false, Option.map_some, bin_add, bin_sub, bin_mul, bin_quo, bin_rem, lss_t, lss_f, leq_t, leq_f, gtr_t, gtr_f, geq_t, geq_f, eqi_t, eqi_f, nei_t, nei_f, rem_uw, conv_ui, conv_iu, conv_ii, not_bool, nil_ptr, fa_mk, ptrV, len_mk, cap_mk, eq_ptr_nil, ne_ptr_nil, eq_nil_nil, ne_nil_nil, eq_slice_nil, eq_nil_slice, ia_1, eq_refl']; exact so_so) ?_)
              exact fin _ N h4 (by omega) (store_ok ok e (by simp)) (ofR hh4)
        by_cases q7 : q = 7
        · repeat (with_reducible first | refine vP_so ?_ | refine vB_t ?_ | refine vB_f ?_ | refine vE_tt ?_ | refine vE_ff ?_ | refine vE_tf ?_ | refine vE_ft ?_ | refine vE_u ?_ | refine vP_to (by simp (disch := omega) only [gdW_true, gdW_false, gB_true, gB_false, gB_undef, pickV_true, pickV_false, Bool.not_true, Bool.not_false, Option.map_some, bin_add, bin_sub, bin_mul, bin_quo, bin_rem, lss_t, lss_f, leq_t, leq_f, gtr_t, gtr_f, geq_t, geq_f, eqi_t, eqi_f, nei_t, nei_f, rem_uw, conv_ui, conv_iu, conv_ii, not_bool, nil_ptr, fa_mk, ptrV, len_mk, cap_mk, eq_ptr_nil, ne_ptr_nil, eq_nil_nil, ne_nil_nil, eq_slice_nil, eq_nil_slice, ia_1]; exact so_so) ?_)
          refine use_amark ok (toA hh2) (fun h3 e hh3 => ?_) fun id s i h3 hs hu hx hh3 => ?_
          · refine use_remark ok (toR (ofA hh3)) (fun h4 _ hh4 => ?_) fun id s i h4 hs hu hx _ => ?_
            · repeat (with_reducible first | refine vP_so ?_ | refine vB_t ?_ | refine vB_f ?_ | refine vE_tt ?_ | refine vE_ff ?_ | refine vE_tf ?_ | refine vE_ft ?_ | refine vE_u ?_ | refine vP_to (by simp (disch := omega) only [gdW_true, gdW_false, gB_true, gB_false, gB_undef, pickV_true, pickV_false, Bool.not_true, Bool.not_false, Option.map_some, bin_add, bin_sub, bin_mul, bin_quo, bin_rem, lss_t, lss_f, leq_t, leq_f, gtr_t, gtr_f, geq_t, geq_f, eqi_t, eqi_f, nei_t, nei_f, rem_uw, conv_ui, conv_iu, conv_ii, not_bool, nil_ptr, fa_mk, ptrV, len_mk, cap_mk, eq_ptr_nil, ne_ptr_nil, eq_nil_nil, ne_nil_nil, eq_slice_nil, eq_nil_slice, ia_1, beq_refl']; exact so_so) ?_)
              exact fin st N h4 (by omega) ok (ofR hh4)
            · have := (ok.ob y).2 ⟨id, s, i, hs, hu, hx⟩
              rw [e] at this; cases this
          · refine use_remark ok (toR (ofA hh3)) (fun h4 e _ => ?_) fun id' s' i' h4 hs' hu' hx' hh4 => ?_
            · have := (ok.ob y).2 ⟨id, s, i, hs, hu, hx⟩
              rw [e] at this; cases this
            · obtain ⟨rfl, rfl, rfl⟩ := sp_uniq ok hs hs' (List.getElem?_eq_some_iff.1 hu).1 hu' (hx ▸ hx')
              repeat (with_reducible first | refine vP_so ?_ | refine vB_t ?_ | refine vB_f ?_ | refine vE_tt ?_ | refine vE_ff ?_ | refine vE_tf ?_ | refine vE_ft ?_ | refine vE_u ?_ | refine vP_to (by simp (disch := omega) only [gdW_true, gdW_false, gB_true, gB_false, gB_undef, pickV_true, pickV_false, Bool.not_true, Bool.not_false, Option.map_some, bin_add, bin_sub, bin_mul, bin_quo, bin_rem, lss_t, lss_f, leq_t, leq_f, gtr_t, gtr_f, geq_t, geq_f, eqi_t, eqi_f, nei_t, nei_f, rem_uw, conv_ui, conv_iu, conv_ii, not_bool, nil_ptr, fa_mk, ptrV, len_mk, cap_mk, eq_ptr_nil, ne_ptr_nil, eq_nil_nil, ne_nil_nil, eq_slice_nil, eq_nil_slice, ia_1, beq_refl']; exact so_so) ?_)
              exact fin _ N h4 (by omega) (mark_ok ok hs hu) (ofR hh4)
        by_cases q8 : q = 8
        · repeat (with_reducible first | refine vP_so ?_ | refine vB_t ?_ | refine vB_f ?_ | refine vE_tt ?_ | refine vE_ff ?_ | refine vE_tf ?_ | refine vE_ft ?_ | refine vE_u ?_ | refine vP_to (by simp (disch := omega) only [gdW_true, gdW_false, gB_true, gB_false, gB_undef, pickV_true, pickV_false, Bool.not_true, Bool.not_false, Option.map_some, bin_add, bin_sub, bin_mul, bin_quo, bin_rem, lss_t, lss_f, leq_t, leq_f, gtr_t, gtr_f, geq_t, geq_f, eqi_t, eqi_f, nei_t, nei_f, rem_uw, conv_ui, conv_iu, conv_ii, not_bool, nil_ptr, fa_mk, ptrV, len_mk, cap_mk, eq_ptr_nil, ne_ptr_nil, eq_nil_nil, ne_nil_nil, eq_slice_nil, eq_nil_slice, ia_1, l2.2.2.1]; exact so_so) ?_)
          refine use_asweep hg ok (by omega) (toA hh2) (fun hs => ?_) fun s v h3 hs hh3 => ?_
          · repeat (with_reducible first | refine vP_so ?_ | refine vB_t ?_ | refine vB_f ?_ | refine vE_tt ?_ | refine vE_ff ?_ | refine vE_tf ?_ | refine vE_ft ?_ | refine vE_u ?_ | refine vP_to (by simp (disch := omega) only [gdW_true, gdW_false, gB_true, gB_false, gB_undef, pickV_true, pickV_false, Bool.not_true, Bool.not_false, Option.map_some, bin_add, bin_sub, bin_mul, bin_quo, bin_rem, lss_t, lss_f, leq_t, leq_f, gtr_t, gtr_f, geq_t, geq_f, eqi_t, eqi_f, nei_t, nei_f, rem_uw, conv_ui, conv_iu, conv_ii, not_bool, nil_ptr, fa_mk, ptrV, len_mk, cap_mk, eq_ptr_nil, ne_ptr_nil, eq_nil_nil, ne_nil_nil, eq_slice_nil, eq_nil_slice, ia_1, exT0, exT1, l2.2.2.1]; exact so_so) ?_)
            refine use_resweep ok (toR hh2) (fun _ => ?_) fun s v h4 hs' _ => by rw [hs] at hs'; cases hs'
            have hn : (SG iE 3 (.slice none 0 0) [] * (AR a st * (own g * (RA x st * (pt r (.cells o.cells 48 (0, 0)) * F * tt))))) h2 := SG_nil iE hh2
            repeat (with_reducible first | refine vP_so ?_ | refine vB_t ?_ | refine vB_f ?_ | refine vE_tt ?_ | refine vE_ff ?_ | refine vE_tf ?_ | refine vE_ft ?_ | refine vE_u ?_ | refine vP_to (by simp (disch := omega) only [gdW_true, gdW_false, gB_true, gB_false, gB_undef, pickV_true, pickV_false, Bool.not_true, Bool.not_false, Option.map_some, bin_add, bin_sub, bin_mul, bin_quo, bin_rem, lss_t, lss_f, leq_t, leq_f, gtr_t, gtr_f, geq_t, geq_f, eqi_t, eqi_f, nei_t, nei_f, rem_uw, conv_ui, conv_iu, conv_ii, not_bool, nil_ptr, fa_mk, ptrV, len_mk, cap_mk, eq_ptr_nil, ne_ptr_nil, eq_nil_nil, ne_nil_nil, eq_slice_nil, eq_nil_slice, ia_1, exT0, exT1]; exact so_so) ?_)
            refine use_ints (SG_ints hn) (SG_ints hn) ?_
            rw [decide_eq_true rfl]
            repeat (with_reducible first | refine vP_so ?_ | refine vB_t ?_ | refine vB_f ?_ | refine vE_tt ?_ | refine vE_ff ?_ | refine vE_tf ?_ | refine vE_ft ?_ | refine vE_u ?_ | refine vP_to (by simp (disch := omega) only [gdW_true, gdW_false, gB_true, gB_false, gB_undef, pickV_true, pickV_false, Bool.not_true, Bool.not_false, Option.map_some, bin_add, bin_sub, bin_mul, bin_quo, bin_rem, lss_t, lss_f, leq_t, leq_f, gtr_t, gtr_f, geq_t, geq_f, eqi_t, eqi_f, nei_t, nei_f, rem_uw, conv_ui, conv_iu, conv_ii, not_bool, nil_ptr, fa_mk, ptrV, len_mk, cap_mk, eq_ptr_nil, ne_ptr_nil, eq_nil_nil, ne_nil_nil, eq_slice_nil, eq_nil_slice, ia_1, eq_refl']; exact so_so) ?_)
            exact fin st N h2 (by omega) ok hh2
          · have hh3a : (AR a (st.swept o.id s) * (own g * (RA x st * (pt r (.cells o.cells 48 (0, 0)) * (SG iE 3 v (s.gone.map s.addr) * F) * tt)))) h3 := asr (by ac_rfl) hh3
            have l3 := op_ld (show (pt r (.cells o.cells 48 (0, 0)) * (AR a (st.swept o.id s) * (own g * (RA x st * ((SG iE 3 v (s.gone.map s.addr) * F) * tt))))) h3 from asr (by ac_rfl) hh3)
            repeat (with_reducible first | refine vP_so ?_ | refine vB_t ?_ | refine vB_f ?_ | refine vE_tt ?_ | refine vE_ff ?_ | refine vE_tf ?_ | refine vE_ft ?_ | refine vE_u ?_ | refine vP_to (by simp (disch := omega) only [gdW_true, gdW_false, gB_true, gB_false, gB_undef, pickV_true, pickV_false, Bool.not_true, Bool.not_false, Option.map_some, bin_add, bin_sub, bin_mul, bin_quo, bin_rem, lss_t, lss_f, leq_t, leq_f, gtr_t, gtr_f, geq_t, geq_f, eqi_t, eqi_f, nei_t, nei_f, rem_uw, conv_ui, conv_iu, conv_ii, not_bool, nil_ptr, fa_mk, ptrV, len_mk, cap_mk, eq_ptr_nil, ne_ptr_nil, eq_nil_nil, ne_nil_nil, eq_slice_nil, eq_nil_slice, ia_1, exT0, exT1, l3.2.2.1]; exact so_so) ?_)
            refine use_resweep (F := AR a (st.swept o.id s) * (own g * (pt r (.cells o.cells 48 (0, 0)) * (SG iE 3 v (s.gone.map s.addr) * F)))) ok (asr (by ac_rfl) hh3) (fun hs' => by rw [hs] at hs'; cases hs') fun s' v' h4 hs' hh4 => ?_
            rw [hs] at hs'
            obtain rfl := Option.some.inj hs'
            have i1 : (SG iE 3 v (s.gone.map s.addr) * (SG iE 3 v' (s.gone.map s.addr) * (RA x (st.swept o.id s) * (AR a (st.swept o.id s) * (own g * (pt r (.cells o.cells 48 (0, 0)) * (F * tt))))))) h4 := asr (by ac_rfl) hh4
            repeat (with_reducible first | refine vP_so ?_ | refine vB_t ?_ | refine vB_f ?_ | refine vE_tt ?_ | refine vE_ff ?_ | refine vE_tf ?_ | refine vE_ft ?_ | refine vE_u ?_ | refine vP_to (by simp (disch := omega) only [gdW_true, gdW_false, gB_true, gB_false, gB_undef, pickV_true, pickV_false, Bool.not_true, Bool.not_false, Option.map_some, bin_add, bin_sub, bin_mul, bin_quo, bin_rem, lss_t, lss_f, leq_t, leq_f, gtr_t, gtr_f, geq_t, geq_f, eqi_t, eqi_f, nei_t, nei_f, rem_uw, conv_ui, conv_iu, conv_ii, not_bool, nil_ptr, fa_mk, ptrV, len_mk, cap_mk, eq_ptr_nil, ne_ptr_nil, eq_nil_nil, ne_nil_nil, eq_slice_nil, eq_nil_slice, ia_1, exT0, exT1]; exact so_so) ?_)
            refine use_ints (SG_ints i1) (SG_ints hh4) ?_
            rw [decide_eq_true rfl]
            repeat (with_reducible first | refine vP_so ?_ | refine vB_t ?_ | refine vB_f ?_ | refine vE_tt ?_ | refine vE_ff ?_ | refine vE_tf ?_ | refine vE_ft ?_ | refine vE_u ?_ | refine vP_to (by simp (disch := omega) only [gdW_true, gdW_false, gB_true, gB_false, gB_undef, pickV_true, pickV_false, Bool.not_true, Bool.not_false, Option.map_some, bin_add, bin_sub, bin_mul, bin_quo, bin_rem, lss_t, lss_f, leq_t, leq_f, gtr_t, gtr_f, geq_t, geq_f, eqi_t, eqi_f, nei_t, nei_f, rem_uw, conv_ui, conv_iu, conv_ii, not_bool, nil_ptr, fa_mk, ptrV, len_mk, cap_mk, eq_ptr_nil, ne_ptr_nil, eq_nil_nil, ne_nil_nil, eq_slice_nil, eq_nil_slice, ia_1, eq_refl']; exact so_so) ?_)
            exact fin _ N h4 (by omega) (swept_ok ok hs) (dropL (P := SG iE 3 v (s.gone.map s.addr) * SG iE 3 v' (s.gone.map s.addr)) (Q := AR a (st.swept o.id s) * (own g * (RA x (st.swept o.id s) * (pt r (.cells o.cells 48 (0, 0)) * F)))) (asr (by ac_rfl) hh4) |> asr (by unfold Two; ac_rfl))
        -- what is asked
        repeat (with_reducible first | refine vP_so ?_ | refine vB_t ?_ | refine vB_f ?_ | refine vE_tt ?_ | refine vE_ff ?_ | refine vE_tf ?_ | refine vE_ft ?_ | refine vE_u ?_ | refine vP_to (by simp (disch := omega) only [gdW_true, gdW_false, gB_true, gB_false, gB_undef, pickV_true, pickV_false, Bool.not_true, Bool.not_false, Option.map_some, bin_add, bin_sub, bin_mul, bin_quo, bin_rem, lss_t, lss_f, leq_t, leq_f, gtr_t, gtr_f, geq_t, geq_f, eqi_t, eqi_f, nei_t, nei_f, rem_uw, conv_ui, conv_iu, conv_ii, not_bool, nil_ptr, fa_mk, ptrV, len_mk, cap_mk, eq_ptr_nil, ne_ptr_nil, eq_nil_nil, ne_nil_nil, eq_slice_nil, eq_nil_slice, ia_1, l2.2.2.2.2.2.1]; exact so_so) ?_)
        have ask2 : ∀ (c d : Int) (h4 : Hp), (AR a st * (own g * (RA x st * (pt r (.cells o.cells 48 (0, 0)) * F * tt)))) h4 →
            CallH Tryz.prog 16 #[pB a, .int .i64 y] (fun v195 h19 =>
            vP (exV v195 0) fun v196 =>
            vP (exV v195 1) fun v197 =>
            vA (some (Obj.cells #[(Value.int .i64 0), (Value.int .i64 0)] 38 (0, 0), ptrV)) (fun v25 h20 =>
            stN 2 v25 v196 (fun _ h21 =>
            CallH Tryz.prog 56 #[pB x, .int .i64 y] (fun v201 h22 =>
            vP (exV v201 0) fun v202 =>
            vP (exV v201 1) fun v203 =>
            vA (some (Obj.cells #[(Value.int .i64 0), (Value.int .i64 0)] 38 (0, 0), ptrV)) (fun v27 h23 =>
            stN 2 v27 v202 (fun _ h24 =>
            vP (eqV 1 false (.int .i64 c) (.int .i64 c)) fun v206 =>
            vP (gdW (gB v206 true) (some (.int .i64 d))) fun v208 =>
            vP (gdW (gB v206 true) (some (.int .i64 d))) fun v209 =>
            vP (gdW (gB v206 true) (eqV 1 false v208 v209)) fun v210 =>
            vP (pickV v206 v210 (Value.bool false)) fun v211 =>
            vP (gdW (gB v211 true) (ldN 2 v25 h24)) fun v213 =>
            vP (gdW (gB v211 true) (ldN 2 v27 h24)) fun v214 =>
            vP (gdW (gB v211 true) (eqA [1, 1] false v213 v214)) fun v215 =>
            vP (pickV v211 v215 (Value.bool false)) fun v216 =>
            vP (gdW (gB v216 true) (some v197)) fun v218 =>
            vP (gdW (gB v216 true) (some v203)) fun v219 =>
            vP (gdW (gB v216 true) (eqV 2 false v218 v219)) fun v220 =>
            vP (pickV v216 v220 (Value.bool false)) fun v221 =>
            vP (gdW (gB v221 true) (some (pB a))) fun v223 =>
            vP (gdW (gB v221 true) (some (.int .i64 y))) fun v224 =>
            vP (gdW (gB v221 true) (some (pB x))) fun v226 =>
            vP (gdW (gB v221 true) (some (.int .i64 y))) fun v227 =>
            vE (gB v221 true) (CallH Tryz.prog 17 #[v223, v224]) (fun v225 h25 =>
            vE (gB v221 true) (CallH Tryz.prog 57 #[v226, v227]) (fun v228 h26 =>
            vP (gdW (gB v221 true) (eqV 1 false v225 v228)) fun v229 =>
            vP (pickV v221 v229 (Value.bool false)) fun v230 =>
            vP (gdW (gB v230 true) (some (pB a))) fun v232 =>
            vP (gdW (gB v230 true) (some (.int .i64 y))) fun v233 =>
            vP (gdW (gB v230 true) (some (pB x))) fun v235 =>
            vP (gdW (gB v230 true) (some (.int .i64 y))) fun v236 =>
            vE (gB v230 true) (CallH Tryz.prog 28 #[v232, v233]) (fun v234 h27 =>
            vE (gB v230 true) (CallH Tryz.prog 58 #[v235, v236]) (fun v237 h28 =>
            vP (gdW (gB v230 true) (eqV 2 false v234 v237)) fun v238 =>
            vP (pickV v230 v238 (Value.bool false)) fun v239 =>
            vP (gdW (gB v239 true) (some (pB a))) fun v241 =>
            vP (gdW (gB v239 true) (faV 2 (.pointer (some ⟨r, 0, none⟩)))) fun v242 =>
            vP (gdW (gB v239 true) (some (pB x))) fun v245 =>
            vP (gdW (gB v239 true) (faV 2 (.pointer (some ⟨r, 0, none⟩)))) fun v246 =>
            vP (gdW (gB v239 true) (ld1 v242 h28)) fun v243 =>
            vP (gdW (gB v239 true) (ld1 v246 h28)) fun v247 =>
            vE (gB v239 true) (CallH Tryz.prog 10 #[v241, v243]) (fun v244 h29 =>
            gdW (gB v239 true) (ld1 v246 h29) = some v247 ∧ (vE (gB v239 true) (CallH Tryz.prog 59 #[v245, v247]) (fun v248 h30 =>
            vP (gdW (gB v239 true) (eqV 2 false v244 v248)) fun v249 =>
            vP (pickV v239 v249 (Value.bool false)) fun v250 =>
            vP (gdW (gB v250 true) (some (pB a))) fun v252 =>
            vP (gdW (gB v250 true) (faV 2 (.pointer (some ⟨r, 0, none⟩)))) fun v253 =>
            vP (gdW (gB v250 true) (some (pB x))) fun v256 =>
            vP (gdW (gB v250 true) (faV 2 (.pointer (some ⟨r, 0, none⟩)))) fun v257 =>
            vP (gdW (gB v250 true) (ld1 v253 h30)) fun v254 =>
            vP (gdW (gB v250 true) (ld1 v257 h30)) fun v258 =>
            vE (gB v250 true) (CallH Tryz.prog 9 #[v252, v254]) (fun v255 h31 =>
            gdW (gB v250 true) (ld1 v257 h31) = some v258 ∧ (vE (gB v250 true) (CallH Tryz.prog 60 #[v256, v258]) (fun v259 h32 =>
            vP (gdW (gB v250 true) (eqV 1 false v255 v259)) fun v260 =>
            vP (pickV v250 v260 (Value.bool false)) fun v261 =>
            K v261 h32) h31)) h30) h29)) h28) h27) h26) h25) h24) h23) h22) h21) h20) h19) h4 := by
          intro c d h4 hh4
          have rest : ∀ (i j : Int) (bf : Bool) h19, (AR a st * (own g * (RA x st * (pt r (.cells o.cells 48 (0, 0)) * F * tt)))) h19 → (st.ob y = none → i = 0 ∧ j = 0 ∧ bf = false) → (∀ id s (k : Nat) , st.sp id = some s → s.used[k]? = some true → y = s.addr k → i = id ∧ j = k ∧ bf = true) →
            vA (some (Obj.cells #[(Value.int .i64 0), (Value.int .i64 0)] 38 (0, 0), ptrV)) (fun v25 h20 =>
            stN 2 v25 (.agg #[.int .i64 i, .int .i64 j]) (fun _ h21 =>
            CallH Tryz.prog 56 #[pB x, .int .i64 y] (fun v201 h22 =>
            vP (exV v201 0) fun v202 =>
            vP (exV v201 1) fun v203 =>
            vA (some (Obj.cells #[(Value.int .i64 0), (Value.int .i64 0)] 38 (0, 0), ptrV)) (fun v27 h23 =>
            stN 2 v27 v202 (fun _ h24 =>
            vP (eqV 1 false (.int .i64 c) (.int .i64 c)) fun v206 =>
            vP (gdW (gB v206 true) (some (.int .i64 d))) fun v208 =>
            vP (gdW (gB v206 true) (some (.int .i64 d))) fun v209 =>
            vP (gdW (gB v206 true) (eqV 1 false v208 v209)) fun v210 =>
            vP (pickV v206 v210 (Value.bool false)) fun v211 =>
            vP (gdW (gB v211 true) (ldN 2 v25 h24)) fun v213 =>
            vP (gdW (gB v211 true) (ldN 2 v27 h24)) fun v214 =>
            vP (gdW (gB v211 true) (eqA [1, 1] false v213 v214)) fun v215 =>
            vP (pickV v211 v215 (Value.bool false)) fun v216 =>
            vP (gdW (gB v216 true) (some (.bool bf))) fun v218 =>
            vP (gdW (gB v216 true) (some v203)) fun v219 =>
            vP (gdW (gB v216 true) (eqV 2 false v218 v219)) fun v220 =>
            vP (pickV v216 v220 (Value.bool false)) fun v221 =>
            vP (gdW (gB v221 true) (some (pB a))) fun v223 =>
            vP (gdW (gB v221 true) (some (.int .i64 y))) fun v224 =>
            vP (gdW (gB v221 true) (some (pB x))) fun v226 =>
            vP (gdW (gB v221 true) (some (.int .i64 y))) fun v227 =>
            vE (gB v221 true) (CallH Tryz.prog 17 #[v223, v224]) (fun v225 h25 =>
            vE (gB v221 true) (CallH Tryz.prog 57 #[v226, v227]) (fun v228 h26 =>
            vP (gdW (gB v221 true) (eqV 1 false v225 v228)) fun v229 =>
            vP (pickV v221 v229 (Value.bool false)) fun v230 =>
            vP (gdW (gB v230 true) (some (pB a))) fun v232 =>
            vP (gdW (gB v230 true) (some (.int .i64 y))) fun v233 =>
            vP (gdW (gB v230 true) (some (pB x))) fun v235 =>
            vP (gdW (gB v230 true) (some (.int .i64 y))) fun v236 =>
            vE (gB v230 true) (CallH Tryz.prog 28 #[v232, v233]) (fun v234 h27 =>
            vE (gB v230 true) (CallH Tryz.prog 58 #[v235, v236]) (fun v237 h28 =>
            vP (gdW (gB v230 true) (eqV 2 false v234 v237)) fun v238 =>
            vP (pickV v230 v238 (Value.bool false)) fun v239 =>
            vP (gdW (gB v239 true) (some (pB a))) fun v241 =>
            vP (gdW (gB v239 true) (faV 2 (.pointer (some ⟨r, 0, none⟩)))) fun v242 =>
            vP (gdW (gB v239 true) (some (pB x))) fun v245 =>
            vP (gdW (gB v239 true) (faV 2 (.pointer (some ⟨r, 0, none⟩)))) fun v246 =>
            vP (gdW (gB v239 true) (ld1 v242 h28)) fun v243 =>
            vP (gdW (gB v239 true) (ld1 v246 h28)) fun v247 =>
            vE (gB v239 true) (CallH Tryz.prog 10 #[v241, v243]) (fun v244 h29 =>
            gdW (gB v239 true) (ld1 v246 h29) = some v247 ∧ (vE (gB v239 true) (CallH Tryz.prog 59 #[v245, v247]) (fun v248 h30 =>
            vP (gdW (gB v239 true) (eqV 2 false v244 v248)) fun v249 =>
            vP (pickV v239 v249 (Value.bool false)) fun v250 =>
            vP (gdW (gB v250 true) (some (pB a))) fun v252 =>
            vP (gdW (gB v250 true) (faV 2 (.pointer (some ⟨r, 0, none⟩)))) fun v253 =>
            vP (gdW (gB v250 true) (some (pB x))) fun v256 =>
            vP (gdW (gB v250 true) (faV 2 (.pointer (some ⟨r, 0, none⟩)))) fun v257 =>
            vP (gdW (gB v250 true) (ld1 v253 h30)) fun v254 =>
            vP (gdW (gB v250 true) (ld1 v257 h30)) fun v258 =>
            vE (gB v250 true) (CallH Tryz.prog 9 #[v252, v254]) (fun v255 h31 =>
            gdW (gB v250 true) (ld1 v257 h31) = some v258 ∧ (vE (gB v250 true) (CallH Tryz.prog 60 #[v256, v258]) (fun v259 h32 =>
            vP (gdW (gB v250 true) (eqV 1 false v255 v259)) fun v260 =>
            vP (pickV v250 v260 (Value.bool false)) fun v261 =>
            K v261 h32) h31)) h30) h29)) h28) h27) h26) h25) h24) h23) h22) h21) h20) h19 := by
            intro i j bf h19 hh19 hi0 hi1
            refine vA_new (o := .cells #[.int .i64 0, .int .i64 0] 38 (0, 0)) (f := ptrV) hh19 fun r1 h20 hh20 => ?_
            refine stN_mk (cs := #[.int .i64 i, .int .i64 j]) hh20 rfl rfl (by simp) fun h21 hh21 => ?_
            have hh21 : (pt r1 (.cells #[.int .i64 i, .int .i64 j] 38 (0, 0)) * (AR a st * (own g * (RA x st * (pt r (.cells o.cells 48 (0, 0)) * F * tt))))) h21 := hh21
            refine use_refind1 (F := pt r1 (.cells #[.int .i64 i, .int .i64 j] 38 (0, 0)) * (AR a st * (own g * (pt r (.cells o.cells 48 (0, 0)) * F)))) ok hi0 hi1 (asr (by ac_rfl) hh21) fun h22 hh22 => ?_
            repeat (with_reducible first | refine vP_so ?_ | refine vB_t ?_ | refine vB_f ?_ | refine vE_tt ?_ | refine vE_ff ?_ | refine vE_tf ?_ | refine vE_ft ?_ | refine vE_u ?_ | refine vP_to (by simp (disch := omega) only [gdW_true, gdW_false, gB_true, gB_false, gB_undef, pickV_true, pickV_false, Bool.not_true, Bool.not_false, Option.map_some, bin_add, bin_sub, bin_mul, bin_quo, bin_rem, lss_t, lss_f, leq_t, leq_f, gtr_t, gtr_f, geq_t, geq_f, eqi_t, eqi_f, nei_t, nei_f, rem_uw, conv_ui, conv_iu, conv_ii, not_bool, nil_ptr, fa_mk, ptrV, len_mk, cap_mk, eq_ptr_nil, ne_ptr_nil, eq_nil_nil, ne_nil_nil, eq_slice_nil, eq_nil_slice, ia_1, exT0, exT1]; exact so_so) ?_)
            refine vA_new (o := .cells #[.int .i64 0, .int .i64 0] 38 (0, 0)) (f := ptrV) hh22 fun r2 h23 hh23 => ?_
            refine stN_mk (cs := #[.int .i64 i, .int .i64 j]) hh23 rfl rfl (by simp) fun h24 hh24 => ?_
            have hh24 : (pt r2 (.cells #[.int .i64 i, .int .i64 j] 38 (0, 0)) * (RA x st * (pt r1 (.cells #[.int .i64 i, .int .i64 j] 38 (0, 0)) * (AR a st * (own g * (pt r (.cells o.cells 48 (0, 0)) * F))) * tt))) h24 := hh24
            have n2 : ldN 2 (.pointer (some ⟨r2, 0, none⟩)) h24 = some (.agg #[.int .i64 i, .int .i64 j]) := ldN_mk (pt_get hh24) (by simp)
            have n1 : ldN 2 (.pointer (some ⟨r1, 0, none⟩)) h24 = some (.agg #[.int .i64 i, .int .i64 j]) := ldN_mk (pt_get (show (pt r1 (.cells #[.int .i64 i, .int .i64 j] 38 (0, 0)) * (pt r2 (.cells #[.int .i64 i, .int .i64 j] 38 (0, 0)) * (RA x st * (AR a st * (own g * (pt r (.cells o.cells 48 (0, 0)) * F)) * tt)))) h24 from asr (by ac_rfl) hh24)) (by simp)
            have g24 : (AR a st * (own g * (RA x st * (pt r (.cells o.cells 48 (0, 0)) * F * tt)))) h24 := dropL (P := pt r2 (.cells #[.int .i64 i, .int .i64 j] 38 (0, 0)) * pt r1 (.cells #[.int .i64 i, .int .i64 j] 38 (0, 0))) (Q := AR a st * (own g * (RA x st * (pt r (.cells o.cells 48 (0, 0)) * F)))) (asr (by ac_rfl) hh24) |> asr (by ac_rfl)
            repeat (with_reducible first | refine vP_so ?_ | refine vB_t ?_ | refine vB_f ?_ | refine vE_tt ?_ | refine vE_ff ?_ | refine vE_tf ?_ | refine vE_ft ?_ | refine vE_u ?_ | refine vP_to (by simp (disch := omega) only [gdW_true, gdW_false, gB_true, gB_false, gB_undef, pickV_true, pickV_false, Bool.not_true, Bool.not_false, Option.map_some, bin_add, bin_sub, bin_mul, bin_quo, bin_rem, lss_t, lss_f, leq_t, leq_f, gtr_t, gtr_f, geq_t, geq_f, eqi_t, eqi_f, nei_t, nei_f, rem_uw, conv_ui, conv_iu, conv_ii, not_bool, nil_ptr, fa_mk, ptrV, len_mk, cap_mk, eq_ptr_nil, ne_ptr_nil, eq_nil_nil, ne_nil_nil, eq_slice_nil, eq_nil_slice, ia_1, eq_refl', n1, n2, eqA2, beq_refl']; exact so_so) ?_)
            refine use_alen (toA g24) ?_
            refine use_relen (x := y) ok (toR g24) fun h26 hh26 => ?_
            repeat (with_reducible first | refine vP_so ?_ | refine vB_t ?_ | refine vB_f ?_ | refine vE_tt ?_ | refine vE_ff ?_ | refine vE_tf ?_ | refine vE_ft ?_ | refine vE_u ?_ | refine vP_to (by simp (disch := omega) only [gdW_true, gdW_false, gB_true, gB_false, gB_undef, pickV_true, pickV_false, Bool.not_true, Bool.not_false, Option.map_some, bin_add, bin_sub, bin_mul, bin_quo, bin_rem, lss_t, lss_f, leq_t, leq_f, gtr_t, gtr_f, geq_t, geq_f, eqi_t, eqi_f, nei_t, nei_f, rem_uw, conv_ui, conv_iu, conv_ii, not_bool, nil_ptr, fa_mk, ptrV, len_mk, cap_mk, eq_ptr_nil, ne_ptr_nil, eq_nil_nil, ne_nil_nil, eq_slice_nil, eq_nil_slice, ia_1, eq_refl']; exact so_so) ?_)
            refine use_amarked1 ok (toA (ofR hh26)) fun h27 hh27 => ?_
            refine use_remarked1 ok (toR (ofA hh27)) fun h28 hh28 => ?_
            have g27 := ofR hh28
            have l27 := op_ld (opL g27)
            repeat (with_reducible first | refine vP_so ?_ | refine vB_t ?_ | refine vB_f ?_ | refine vE_tt ?_ | refine vE_ff ?_ | refine vE_tf ?_ | refine vE_ft ?_ | refine vE_u ?_ | refine vP_to (by simp (disch := omega) only [gdW_true, gdW_false, gB_true, gB_false, gB_undef, pickV_true, pickV_false, Bool.not_true, Bool.not_false, Option.map_some, bin_add, bin_sub, bin_mul, bin_quo, bin_rem, lss_t, lss_f, leq_t, leq_f, gtr_t, gtr_f, geq_t, geq_f, eqi_t, eqi_f, nei_t, nei_f, rem_uw, conv_ui, conv_iu, conv_ii, not_bool, nil_ptr, fa_mk, ptrV, len_mk, cap_mk, eq_ptr_nil, ne_ptr_nil, eq_nil_nil, ne_nil_nil, eq_slice_nil, eq_nil_slice, ia_1, beq_refl', l27.2.2.1]; exact so_so) ?_)
            refine use_afull hg ok (toA g27) ?_
            refine ⟨l27.2.2.1, ?_⟩
            refine use_refull ok (toR g27) ?_
            repeat (with_reducible first | refine vP_so ?_ | refine vB_t ?_ | refine vB_f ?_ | refine vE_tt ?_ | refine vE_ff ?_ | refine vE_tf ?_ | refine vE_ft ?_ | refine vE_u ?_ | refine vP_to (by simp (disch := omega) only [gdW_true, gdW_false, gB_true, gB_false, gB_undef, pickV_true, pickV_false, Bool.not_true, Bool.not_false, Option.map_some, bin_add, bin_sub, bin_mul, bin_quo, bin_rem, lss_t, lss_f, leq_t, leq_f, gtr_t, gtr_f, geq_t, geq_f, eqi_t, eqi_f, nei_t, nei_f, rem_uw, conv_ui, conv_iu, conv_ii, not_bool, nil_ptr, fa_mk, ptrV, len_mk, cap_mk, eq_ptr_nil, ne_ptr_nil, eq_nil_nil, ne_nil_nil, eq_slice_nil, eq_nil_slice, ia_1, beq_refl', l27.2.2.1]; exact so_so) ?_)
            refine use_aclass (toA g27) ?_
            refine ⟨l27.2.2.1, ?_⟩
            refine use_reclass (toR g27) ?_
            repeat (with_reducible first | refine vP_so ?_ | refine vB_t ?_ | refine vB_f ?_ | refine vE_tt ?_ | refine vE_ff ?_ | refine vE_tf ?_ | refine vE_ft ?_ | refine vE_u ?_ | refine vP_to (by simp (disch := omega) only [gdW_true, gdW_false, gB_true, gB_false, gB_undef, pickV_true, pickV_false, Bool.not_true, Bool.not_false, Option.map_some, bin_add, bin_sub, bin_mul, bin_quo, bin_rem, lss_t, lss_f, leq_t, leq_f, gtr_t, gtr_f, geq_t, geq_f, eqi_t, eqi_f, nei_t, nei_f, rem_uw, conv_ui, conv_iu, conv_ii, not_bool, nil_ptr, fa_mk, ptrV, len_mk, cap_mk, eq_ptr_nil, ne_ptr_nil, eq_nil_nil, ne_nil_nil, eq_slice_nil, eq_nil_slice, ia_1, eq_refl']; exact so_so) ?_)
            exact fin st N h28 (by omega) ok g27
          refine use_afind ok (toA hh4) (fun h19 e hh19 => ?_) fun id s k l h19 hs hu hx ho hh19 => ?_
          · repeat (with_reducible first | refine vP_so ?_ | refine vB_t ?_ | refine vB_f ?_ | refine vE_tt ?_ | refine vE_ff ?_ | refine vE_tf ?_ | refine vE_ft ?_ | refine vE_u ?_ | refine vP_to (by simp (disch := omega) only [gdW_true, gdW_false, gB_true, gB_false, gB_undef, pickV_true, pickV_false, Bool.not_true, Bool.not_false, Option.map_some, bin_add, bin_sub, bin_mul, bin_quo, bin_rem, lss_t, lss_f, leq_t, leq_f, gtr_t, gtr_f, geq_t, geq_f, eqi_t, eqi_f, nei_t, nei_f, rem_uw, conv_ui, conv_iu, conv_ii, not_bool, nil_ptr, fa_mk, ptrV, len_mk, cap_mk, eq_ptr_nil, ne_ptr_nil, eq_nil_nil, ne_nil_nil, eq_slice_nil, eq_nil_slice, ia_1, exT0, exT1]; exact so_so) ?_)
            exact rest 0 0 false h19 (ofA hh19) (fun _ => ⟨rfl, rfl, rfl⟩) fun id s k hs hu hx => by
              have := (ok.ob y).2 ⟨id, s, k, hs, hu, hx⟩
              rw [e] at this; cases this
          · repeat (with_reducible first | refine vP_so ?_ | refine vB_t ?_ | refine vB_f ?_ | refine vE_tt ?_ | refine vE_ff ?_ | refine vE_tf ?_ | refine vE_ft ?_ | refine vE_u ?_ | refine vP_to (by simp (disch := omega) only [gdW_true, gdW_false, gB_true, gB_false, gB_undef, pickV_true, pickV_false, Bool.not_true, Bool.not_false, Option.map_some, bin_add, bin_sub, bin_mul, bin_quo, bin_rem, lss_t, lss_f, leq_t, leq_f, gtr_t, gtr_f, geq_t, geq_f, eqi_t, eqi_f, nei_t, nei_f, rem_uw, conv_ui, conv_iu, conv_ii, not_bool, nil_ptr, fa_mk, ptrV, len_mk, cap_mk, eq_ptr_nil, ne_ptr_nil, eq_nil_nil, ne_nil_nil, eq_slice_nil, eq_nil_slice, ia_1, exT0, exT1]; exact so_so) ?_)
            exact rest id k true h19 (ofA hh19) (fun e => by rw [ho] at e; cases e) fun id' s' k' hs' hu' hx' => by
              obtain ⟨rfl, rfl, rfl⟩ := sp_uniq ok hs hs' (List.getElem?_eq_some_iff.1 hu).1 hu' (hx ▸ hx')
              exact ⟨rfl, rfl, rfl⟩
        refine use_aload (x := y) (i := o.i) (toA hh2) (fun e => ?_) (fun l e ho => ?_) fun l c e h0 hc => ?_
        · repeat (with_reducible first | refine vP_so ?_ | refine vB_t ?_ | refine vB_f ?_ | refine vE_tt ?_ | refine vE_ff ?_ | refine vE_tf ?_ | refine vE_ft ?_ | refine vE_u ?_ | refine vP_to (by simp (disch := omega) only [gdW_true, gdW_false, gB_true, gB_false, gB_undef, pickV_true, pickV_false, Bool.not_true, Bool.not_false, Option.map_some, bin_add, bin_sub, bin_mul, bin_quo, bin_rem, lss_t, lss_f, leq_t, leq_f, gtr_t, gtr_f, geq_t, geq_f, eqi_t, eqi_f, nei_t, nei_f, rem_uw, conv_ui, conv_iu, conv_ii, not_bool, nil_ptr, fa_mk, ptrV, len_mk, cap_mk, eq_ptr_nil, ne_ptr_nil, eq_nil_nil, ne_nil_nil, eq_slice_nil, eq_nil_slice, ia_1, exV0, exV1, l2.2.2.2.2.2.1]; exact so_so) ?_)
          refine use_reload ok (toR hh2) (fun h4 _ hh4 => ?_) (fun l h4 e' _ _ => by rw [e] at e'; cases e') fun l c h4 e' _ _ _ => by rw [e] at e'; cases e'
          repeat (with_reducible first | refine vP_so ?_ | refine vB_t ?_ | refine vB_f ?_ | refine vE_tt ?_ | refine vE_ff ?_ | refine vE_tf ?_ | refine vE_ft ?_ | refine vE_u ?_ | refine vP_to (by simp (disch := omega) only [gdW_true, gdW_false, gB_true, gB_false, gB_undef, pickV_true, pickV_false, Bool.not_true, Bool.not_false, Option.map_some, bin_add, bin_sub, bin_mul, bin_quo, bin_rem, lss_t, lss_f, leq_t, leq_f, gtr_t, gtr_f, geq_t, geq_f, eqi_t, eqi_f, nei_t, nei_f, rem_uw, conv_ui, conv_iu, conv_ii, not_bool, nil_ptr, fa_mk, ptrV, len_mk, cap_mk, eq_ptr_nil, ne_ptr_nil, eq_nil_nil, ne_nil_nil, eq_slice_nil, eq_nil_slice, ia_1, exV0, exV1]; exact so_so) ?_)
          exact ask2 0 4 h4 (ofR hh4)
        · repeat (with_reducible first | refine vP_so ?_ | refine vB_t ?_ | refine vB_f ?_ | refine vE_tt ?_ | refine vE_ff ?_ | refine vE_tf ?_ | refine vE_ft ?_ | refine vE_u ?_ | refine vP_to (by simp (disch := omega) only [gdW_true, gdW_false, gB_true, gB_false, gB_undef, pickV_true, pickV_false, Bool.not_true, Bool.not_false, Option.map_some, bin_add, bin_sub, bin_mul, bin_quo, bin_rem, lss_t, lss_f, leq_t, leq_f, gtr_t, gtr_f, geq_t, geq_f, eqi_t, eqi_f, nei_t, nei_f, rem_uw, conv_ui, conv_iu, conv_ii, not_bool, nil_ptr, fa_mk, ptrV, len_mk, cap_mk, eq_ptr_nil, ne_ptr_nil, eq_nil_nil, ne_nil_nil, eq_slice_nil, eq_nil_slice, ia_1, exV0, exV1, l2.2.2.2.2.2.1]; exact so_so) ?_)
          refine use_reload ok (toR hh2) (fun h4 e' _ => by rw [e] at e'; cases e') (fun l h4 _ _ hh4 => ?_) fun l' c h4 e' h0 hc _ => ?_
          · repeat (with_reducible first | refine vP_so ?_ | refine vB_t ?_ | refine vB_f ?_ | refine vE_tt ?_ | refine vE_ff ?_ | refine vE_tf ?_ | refine vE_ft ?_ | refine vE_u ?_ | refine vP_to (by simp (disch := omega) only [gdW_true, gdW_false, gB_true, gB_false, gB_undef, pickV_true, pickV_false, Bool.not_true, Bool.not_false, Option.map_some, bin_add, bin_sub, bin_mul, bin_quo, bin_rem, lss_t, lss_f, leq_t, leq_f, gtr_t, gtr_f, geq_t, geq_f, eqi_t, eqi_f, nei_t, nei_f, rem_uw, conv_ui, conv_iu, conv_ii, not_bool, nil_ptr, fa_mk, ptrV, len_mk, cap_mk, eq_ptr_nil, ne_ptr_nil, eq_nil_nil, ne_nil_nil, eq_slice_nil, eq_nil_slice, ia_1, exV0, exV1]; exact so_so) ?_)
            exact ask2 0 2 h4 (ofR hh4)
          · rw [e] at e'; obtain rfl := Option.some.inj e'
            have := (List.getElem?_eq_some_iff.1 hc).1
            exact (ho (by omega)).elim
        · repeat (with_reducible first | refine vP_so ?_ | refine vB_t ?_ | refine vB_f ?_ | refine vE_tt ?_ | refine vE_ff ?_ | refine vE_tf ?_ | refine vE_ft ?_ | refine vE_u ?_ | refine vP_to (by simp (disch := omega) only [gdW_true, gdW_false, gB_true, gB_false, gB_undef, pickV_true, pickV_false, Bool.not_true, Bool.not_false, Option.map_some, bin_add, bin_sub, bin_mul, bin_quo, bin_rem, lss_t, lss_f, leq_t, leq_f, gtr_t, gtr_f, geq_t, geq_f, eqi_t, eqi_f, nei_t, nei_f, rem_uw, conv_ui, conv_iu, conv_ii, not_bool, nil_ptr, fa_mk, ptrV, len_mk, cap_mk, eq_ptr_nil, ne_ptr_nil, eq_nil_nil, ne_nil_nil, eq_slice_nil, eq_nil_slice, ia_1, exV0, exV1, l2.2.2.2.2.2.1]; exact so_so) ?_)
          refine use_reload ok (toR hh2) (fun h4 e' _ => by rw [e] at e'; cases e') (fun l' h4 e' ho _ => ?_) fun l' c' h4 e' _ hc' hh4 => ?_
          · rw [e] at e'; obtain rfl := Option.some.inj e'
            have := (List.getElem?_eq_some_iff.1 hc).1
            exact (ho (by omega)).elim
          · rw [e] at e'; obtain rfl := Option.some.inj e'
            rw [hc] at hc'; obtain rfl := Option.some.inj hc'
            repeat (with_reducible first | refine vP_so ?_ | refine vB_t ?_ | refine vB_f ?_ | refine vE_tt ?_ | refine vE_ff ?_ | refine vE_tf ?_ | refine vE_ft ?_ | refine vE_u ?_ | refine vP_to (by simp (disch := omega) only [gdW_true, gdW_false, gB_true, gB_false, gB_undef, pickV_true, pickV_false, Bool.not_true, Bool.not_false, Option.map_some, bin_add, bin_sub, bin_mul, bin_quo, bin_rem, lss_t, lss_f, leq_t, leq_f, gtr_t, gtr_f, geq_t, geq_f, eqi_t, eqi_f, nei_t, nei_f, rem_uw, conv_ui, conv_iu, conv_ii, not_bool, nil_ptr, fa_mk, ptrV, len_mk, cap_mk, eq_ptr_nil, ne_ptr_nil, eq_nil_nil, ne_nil_nil, eq_slice_nil, eq_nil_slice, ia_1, exV0, exV1]; exact so_so) ?_)
            exact ask2 c 0 h4 (ofR hh4)
    by_cases q2 : q = 2
    · repeat (with_reducible first | refine vP_so ?_ | refine vB_t ?_ | refine vB_f ?_ | refine vE_tt ?_ | refine vE_ff ?_ | refine vE_tf ?_ | refine vE_ft ?_ | refine vE_u ?_ | refine vP_to (by simp (disch := omega) only [gdW_true, gdW_false, gB_true, gB_false, gB_undef, pickV_true, pickV_false, Bool.not_true, Bool.not_false, Option.map_some, bin_add, bin_sub, bin_mul, bin_quo, bin_rem, lss_t, lss_f, leq_t, leq_f, gtr_t, gtr_f, geq_t, geq_f, eqi_t, eqi_f, nei_t, nei_f, rem_uw, conv_ui, conv_iu, conv_ii, not_bool, nil_ptr, fa_mk, ptrV, len_mk, cap_mk, eq_ptr_nil, ne_ptr_nil, eq_nil_nil, ne_nil_nil, eq_slice_nil, eq_nil_slice, ia_1]; exact so_so) ?_)
      exact all true (by simp [q2])
    by_cases q3 : q = 3
    · repeat (with_reducible first | refine vP_so ?_ | refine vB_t ?_ | refine vB_f ?_ | refine vE_tt ?_ | refine vE_ff ?_ | refine vE_tf ?_ | refine vE_ft ?_ | refine vE_u ?_ | refine vP_to (by simp (disch := omega) only [gdW_true, gdW_false, gB_true, gB_false, gB_undef, pickV_true, pickV_false, Bool.not_true, Bool.not_false, Option.map_some, bin_add, bin_sub, bin_mul, bin_quo, bin_rem, lss_t, lss_f, leq_t, leq_f, gtr_t, gtr_f, geq_t, geq_f, eqi_t, eqi_f, nei_t, nei_f, rem_uw, conv_ui, conv_iu, conv_ii, not_bool, nil_ptr, fa_mk, ptrV, len_mk, cap_mk, eq_ptr_nil, ne_ptr_nil, eq_nil_nil, ne_nil_nil, eq_slice_nil, eq_nil_slice, ia_1]; exact so_so) ?_)
      exact all true (by simp [q3])
    by_cases q4 : q = 4
    · repeat (with_reducible first | refine vP_so ?_ | refine vB_t ?_ | refine vB_f ?_ | refine vE_tt ?_ | refine vE_ff ?_ | refine vE_tf ?_ | refine vE_ft ?_ | refine vE_u ?_ | refine vP_to (by simp (disch := omega) only [gdW_true, gdW_false, gB_true, gB_false, gB_undef, pickV_true, pickV_false, Bool.not_true, Bool.not_false, Option.map_some, bin_add, bin_sub, bin_mul, bin_quo, bin_rem, lss_t, lss_f, leq_t, leq_f, gtr_t, gtr_f, geq_t, geq_f, eqi_t, eqi_f, nei_t, nei_f, rem_uw, conv_ui, conv_iu, conv_ii, not_bool, nil_ptr, fa_mk, ptrV, len_mk, cap_mk, eq_ptr_nil, ne_ptr_nil, eq_nil_nil, ne_nil_nil, eq_slice_nil, eq_nil_slice, ia_1]; exact so_so) ?_)
      exact all true (by simp [q4])
    · repeat (with_reducible first | refine vP_so ?_ | refine vB_t ?_ | refine vB_f ?_ | refine vE_tt ?_ | refine vE_ff ?_ | refine vE_tf ?_ | refine vE_ft ?_ | refine vE_u ?_ | refine vP_to (by simp (disch := omega) only [gdW_true, gdW_false, gB_true, gB_false, gB_undef, pickV_true, pickV_false, Bool.not_true, Bool.not_false, Option.map_some, bin_add, bin_sub, bin_mul, bin_quo, bin_rem, lss_t, lss_f, leq_t, leq_f, gtr_t, gtr_f, geq_t, geq_f, eqi_t, eqi_f, nei_t, nei_f, rem_uw, conv_ui, conv_iu, conv_ii, not_bool, nil_ptr, fa_mk, ptrV, len_mk, cap_mk, eq_ptr_nil, ne_ptr_nil, eq_nil_nil, ne_nil_nil, eq_slice_nil, eq_nil_slice, ia_1]; exact so_so) ?_)
      exact all false (by simp [q2, q3, q4])
  refine use_reobjects ok (by omega) (toR hh1) fun v32 l h33 hr hm hll hh33 => ?_
  have hlen := SG_len iE hh33
  have hl64 : l.length ≤ 64000000 := by omega
  have g33 : (AR a st * (own g * (RA x st * (pt r (.cells o.cells 48 (0, 0)) * F * tt)))) h33 := dropL (P := SG iE 3 v32 l) (Q := AR a st * (own g * (RA x st * (pt r (.cells o.cells 48 (0, 0)) * F)))) (asr (by ac_rfl) hh33) |> asr (by ac_rfl)
  have l33 := op_ld (opL g33)
  cases hraw : o.raw with
  | true =>
    rw [hraw] at l33
    repeat (with_reducible first | refine vP_so ?_ | refine vB_t ?_ | refine vB_f ?_ | refine vE_tt ?_ | refine vE_ff ?_ | refine vE_tf ?_ | refine vE_ft ?_ | refine vE_u ?_ | refine vP_to (by simp (disch := omega) only [gdW_true, gdW_false, gB_true, gB_false, gB_undef, pickV_true, pickV_false, Bool.not_true, Bool.not_false, Option.map_some, bin_add, bin_sub, bin_mul, bin_quo, bin_rem, lss_t, lss_f, leq_t, leq_f, gtr_t, gtr_f, geq_t, geq_f, eqi_t, eqi_f, nei_t, nei_f, rem_uw, conv_ui, conv_iu, conv_ii, not_bool, nil_ptr, fa_mk, ptrV, len_mk, cap_mk, eq_ptr_nil, ne_ptr_nil, eq_nil_nil, ne_nil_nil, eq_slice_nil, eq_nil_slice, ia_1, l33.2.2.2.2.2.2.2.2]; exact so_so) ?_)
    exact main o.addr h33 g33
  | false =>
    rw [hraw] at l33
    by_cases h0 : 0 < l.length
    · have hu := urem_lt (x := o.addr) (b := l.length) (by omega)
      have hcu : convV .u64 (.int .i64 l.length) = some (.int .u64 l.length) := conv_iu (by omega)
      obtain ⟨j, hj⟩ : ∃ j : Nat, urem o.addr l.length = j := ⟨(urem o.addr l.length).toNat, by omega⟩
      obtain ⟨p, c1, c2, _⟩ := el1 (i := j) hh33 (List.getElem?_eq_getElem (show j < l.length by omega)) .i64
      repeat (with_reducible first | refine vP_so ?_ | refine vB_t ?_ | refine vB_f ?_ | refine vE_tt ?_ | refine vE_ff ?_ | refine vE_tf ?_ | refine vE_ft ?_ | refine vE_u ?_ | refine vP_to (by simp (disch := omega) only [gdW_true, gdW_false, gB_true, gB_false, gB_undef, pickV_true, pickV_false, Bool.not_true, Bool.not_false, Option.map_some, bin_add, bin_sub, bin_mul, bin_quo, bin_rem, lss_t, lss_f, leq_t, leq_f, gtr_t, gtr_f, geq_t, geq_f, eqi_t, eqi_f, nei_t, nei_f, rem_uw, conv_ui, conv_iu, conv_ii, not_bool, nil_ptr, fa_mk, ptrV, len_mk, cap_mk, eq_ptr_nil, ne_ptr_nil, eq_nil_nil, ne_nil_nil, eq_slice_nil, eq_nil_slice, ia_1, l33.2.2.2.2.2.2.2.2, hlen, l33.2.2.2.2.1, conv_u .i64 o.addr, hcu, rem_uw (show 1 ≤ (l.length : Int) by omega), hj, c1, c2]; exact so_so) ?_)
      exact main _ h33 g33
    · repeat (with_reducible first | refine vP_so ?_ | refine vB_t ?_ | refine vB_f ?_ | refine vE_tt ?_ | refine vE_ff ?_ | refine vE_tf ?_ | refine vE_ft ?_ | refine vE_u ?_ | refine vP_to (by simp (disch := omega) only [gdW_true, gdW_false, gB_true, gB_false, gB_undef, pickV_true, pickV_false, Bool.not_true, Bool.not_false, Option.map_some, bin_add, bin_sub, bin_mul, bin_quo, bin_rem, lss_t, lss_f, leq_t, leq_f, gtr_t, gtr_f, geq_t, geq_f, eqi_t, eqi_f, nei_t, nei_f, rem_uw, conv_ui, conv_iu, conv_ii, not_bool, nil_ptr, fa_mk, ptrV, len_mk, cap_mk, eq_ptr_nil, ne_ptr_nil, eq_nil_nil, ne_nil_nil, eq_slice_nil, eq_nil_slice, ia_1, l33.2.2.2.2.2.2.2.2, hlen]; exact so_so) ?_)
      exact main o.addr h33 g33
end Go.Proofs
