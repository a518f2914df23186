/-
  Texts of the proof, in one file: Ky, Ar4, Aw, Aw2, Aw3, KyS, KySp, AwDrops.
-/
import Derived.Test.YtampdifeblndfaaGreatDoorB12
import Derived.Test.YtampdifeblndfaaGreatDoorB8
import Derived.Test.YtampdifeblndfaaGreatDoorB9
import Derived.Test.YtampdifeblndfaaGreatDoorB11
import Derived.Test.YtampdifeblndfaaGreatDoorB5
import Derived.Shelf.SlIterI.Collect
set_option linter.unusedVariables false
set_option linter.unusedSimpArgs false
/-
  slices.Sorted(maps.Keys(m)) at keys that are numbers: the library's own contracts, at memory that is owned.
-/
set_option maxRecDepth 100000
namespace Go.Sl
open Go.RowKit Go.Shelf Go.WideElems

/-- A call that makes a slice of its own, of one of these lists, and keeps all that was. -/
theorem callH_ownS {P : Program} {f : FuncId} {args : Array Value} {K : Value → Hp → Prop} {h : Hp} {E : Nat} {S : List Int → Prop} {F : Asrt} (hF : F h)
    (hc : ∀ (w : World) (fr : Hp), w.hp = h.add fr → Calls P f args w fun e w' => ∃ (v : Value) (xs : List Int), e = .returned v ∧ S xs ∧ w'.ownsRow w.heap.size E 1 v xs.length (xs.map (Value.int .i64)) ∧ Below w.heap.size w w')
    (hK : ∀ v xs h', S xs → (SG iE E v xs * F) h' → K v h') : CallH P f args K h := by
  intro w fr tg d ⟨e, et⟩
  refine (hc w fr e).mono ?_
  rintro e' w' ⟨v, xs, rfl, hS, hrow, hb⟩
  have hkeep : ∀ b o, w.hp b = some o → w'.hp b = some o := fun b o hq => by
    have hlt : b < w.heap.size := (Array.getElem?_eq_some_iff.1 hq).1
    exact (hb.block b hlt).trans hq
  have hh : ∀ b o, h b = some o → w.hp b = some o := fun b o q => by rw [e]; exact Hp.add_of_left q
  have main : ∀ h' : Hp, (∀ b o, h' b = some o → w'.hp b = some o) → (∀ b x, fr b = some x → h' b = none) → K v h' → ∃ v' h'' fr', Ending.returned v = .returned v' ∧ Disj h'' fr' ∧ w'.At tg (h''.add fr') ∧ Grows fr fr' ∧ K v' h'' := fun h' h1 h2 hk => by
    refine ⟨v, h', w'.hp.minus h', rfl, ?_, ⟨?_, ?_⟩, ?_, hk⟩
    · intro b
      rw [Hp.minus_apply]
      cases hq : h' b with
      | none => exact .inl rfl
      | some x => exact .inr (by simp)
    · apply Hp.ext'
      intro b
      rw [Hp.add_apply, Hp.minus_apply]
      cases hq : h' b with
      | none => simp
      | some x => simp [h1 b x hq]
    · rw [hb.os, hb.output, hb.tape]; exact et
    · intro b x hx
      rw [Hp.minus_apply, h2 b x hx]
      simp only [Option.isSome_none, Bool.false_eq_true, if_false]
      refine hkeep b x ?_
      rw [e, Hp.add_apply]
      have hn : h b = none := by
        rcases d b with q | q
        · exact q
        · rw [hx] at q; cases q
      rw [hn]
      simpa using hx
  have hfr : ∀ b x, fr b = some x → h b = none := fun b x hx => by
    rcases d b with q | q
    · exact q
    · rw [hx] at q; cases q
  rcases hrow.2 with ⟨rfl, hn⟩ | ⟨g, cap, cur, rfl, hg, hgb, h1, h2, h3, h4⟩
  · obtain rfl : xs = [] := List.length_eq_zero_iff.1 hn
    exact main h (fun b o q => hkeep b o (hh b o q)) hfr (hK _ _ _ hS (SG_nil iE hF))
  · have hgn : w.hp g = none := by
      show w.heap[g]? = none
      exact Array.getElem?_eq_none hg
    have hng : h g = none := by
      cases hq : h g with
      | none => rfl
      | some x => rw [hh g x hq] at hgn; cases hgn
    have hnf : fr g = none := by
      cases hq : fr g with
      | none => rfl
      | some x =>
        have : w.hp g = some x := by rw [e, Hp.add_apply, hng]; simpa using hq
        rw [this] at hgn; cases hgn
    refine main (h.upd g (.cells cur E (0, 0))) (fun b o q => ?_) (fun b x hx => ?_) (hK _ xs _ hS ?_)
    · by_cases hbg : b = g
      · subst hbg
        rw [Hp.upd_self] at q
        cases q
        exact hgb
      · rw [Hp.upd_ne hbg] at q
        exact hkeep b o (hh b o q)
    · have hbg : b ≠ g := fun q => by rw [q, hnf] at hx; cases hx
      rw [Hp.upd_ne hbg]
      exact hfr b x hx
    · have hcur : cur = ([] ++ (iE.cs xs ++ cur.toList.drop (xs.length * 1))).toArray := by
        apply Array.ext'
        rw [List.nil_append, iE_cs]
        show cur.toList = xs.map _ ++ cur.toList.drop (xs.length * 1)
        rw [← h4, List.take_append_drop]
      have hp := pt_new (o := .cells cur E (0, 0)) hF hng
      have hp : (pt g (.cells ([] ++ (iE.cs xs ++ cur.toList.drop (xs.length * 1))).toArray E (0, 0)) * F) (h.upd g (.cells cur E (0, 0))) := by rw [← hcur]; exact hp
      refine SG_intro iE (pre := []) rfl rfl h1 (by unfold maxLen at h2; omega) ?_ hp
      show (cap - xs.length) * 1 ≤ (cur.toList.drop (xs.length * 1)).length
      have hz : cur.toList.length = cap * 1 := h3
      rw [List.length_drop, hz]
      omega

/-- Whatever a map's values are. -/
def anyR : Value → Option (DataW Unit × List MemPlace) := fun _ => some (.nil, [])

def entL (e : Ent) : Lit × DataW Unit := (.int .i64 e.key, .nil)

theorem keyOf_int {P : Program} {k : TypeId} (hk : P.underlying k = some (.int .i64)) {x : Int} (hx : -9223372036854775808 ≤ x ∧ x ≤ 9223372036854775807) : keyOf P k (.int .i64 x) = some (.int .i64 x) := by
  have hw : (Lit.int .i64 x).wf = true := by
    simp only [Lit.wf, Bool.and_eq_true, decide_eq_true_eq]
    exact ⟨hx.1, hx.2⟩
  unfold keyOf
  rw [hk]
  simp only [mapKey, hk, hw]
  simp

/-- A map that is owned, in a world: the kit's own word for it. -/
theorem owns_of {P : Program} {tk : TypeId} (hk : P.underlying tk = some (.int .i64)) {w : World} {r : Nat} {es : List Ent} {c : Nat} (hb : w.heap[r]? = some (.map (es.map Ent.mk').toArray c)) (hok : MapOk es c)
    (hx : ∀ e ∈ es, -9223372036854775808 ≤ e.key ∧ e.key ≤ 9223372036854775807) (hl : es.length ≤ 1000000) :
    ∃ D : DataW Unit, w.ownsMap P tk anyR r es.length D ∧ (intKeys D).Perm (es.map Ent.key) ∧ Maps.size D = es.length := by
  have hrd : ∀ e ∈ es, rd P tk anyR e.mk' = some (entL e) := fun e he => rd_mk (yv := (.nil, [])) (key := .int .i64 e.key) (val := e.val) (born := e.born) (keyOf_int hk (hx e he)) rfl
  have hmap : (es.map Ent.mk').map (rg P tk anyR) = es.map entL := by
    rw [List.map_map]
    apply List.map_congr_left
    intro e he
    exact rg_of (hrd e he)
  refine ⟨.map ((es.map entL).foldr DataW.insert []), ⟨(es.map Ent.mk').toArray, c, hb, ⟨by simp; unfold maxLen; omega, ⟨?_, ?_, ?_⟩, ?_⟩, by simp, by simp only [List.toList_toArray]; rw [hmap]⟩, ?_, ?_⟩
  · intro x h
    simp only [List.toList_toArray, List.mem_map] at h
    obtain ⟨e, he, rfl⟩ := h
    exact hok.lt e he
  · simp only [List.toList_toArray, List.map_map]
    exact List.pairwise_map.2 (hok.borns.imp fun h => h)
  · simp only [List.toList_toArray, List.map_map]
    refine List.pairwise_map.2 (hok.keys.imp fun {a b} h q => h ?_)
    have : Value.int .i64 a.key = Value.int .i64 b.key := q
    simpa using this
  · intro x h
    simp only [List.toList_toArray, List.mem_map] at h
    obtain ⟨e, he, rfl⟩ := h
    exact ⟨_, hrd e he⟩
  · have h1 : ((es.map entL).foldr DataW.insert []).Perm (es.map entL) := WideShapes.sorted_perm _
    have h2 := h1.map fun p : Lit × DataW Unit => intOf p.1
    rw [List.map_map] at h2
    exact h2
  · have h1 : ((es.map entL).foldr DataW.insert []).Perm (es.map entL) := WideShapes.sorted_perm _
    have := h1.length_eq
    rw [List.length_map] at this
    exact this

end Go.Sl

namespace Go.Proofs
open Go.Sl Go.RowKit Go.Shelf

def keysO_ren : Ren := ⟨fun | 10 => 100 | n => n, fun | 0 => 0 | 4 => 4 | 23 => 61 | 26 => 3 | 3 => 22 | 33 => 31 | n => n, fun | n => n⟩
theorem keysO : SlLaysZI.n10 Tryz.prog keysO_ren where
  mixed := by kernel_rfl
  f10 := ⟨"maps.Keys[map[int][]int,int,[]int]$1", by decide, Tryz.func100.trans (congrArg some (by kernel_rfl))⟩
  t0 := Tryz.underlying0
  a0 := Tryz.isAgg0
  z0 := Tryz.sizeOf0
  v0 := Tryz.zeroValue0
  t4 := Tryz.underlying4
  a4 := Tryz.isAgg4
  z4 := Tryz.sizeOf4
  v4 := Tryz.zeroValue4
  t23 := Tryz.underlying61
  a23 := Tryz.isAgg61
  z23 := Tryz.sizeOf61
  v23 := Tryz.zeroValue61
  t26 := Tryz.underlying3
  a26 := Tryz.isAgg3
  z26 := Tryz.sizeOf3
  v26 := Tryz.zeroValue3
  t33 := Tryz.underlying31
  a33 := Tryz.isAgg31
  z33 := Tryz.sizeOf31
  v33 := Tryz.zeroValue31

def appQ_ren : Ren := ⟨fun | 11 => 110 | n => n, fun | 0 => 0 | 24 => 22 | 26 => 3 | 28 => 73 | 33 => 31 | n => n, fun | n => n⟩
theorem appQ : SlLaysZI.n11 Tryz.prog appQ_ren where
  mixed := by kernel_rfl
  f11 := ⟨"slices.AppendSeq[[]int,int]", by decide, Tryz.func110.trans (congrArg some (by kernel_rfl))⟩
  t0 := Tryz.underlying0
  a0 := Tryz.isAgg0
  z0 := Tryz.sizeOf0
  v0 := Tryz.zeroValue0
  t24 := Tryz.underlying22
  a24 := Tryz.isAgg22
  z24 := Tryz.sizeOf22
  v24 := Tryz.zeroValue22
  t26 := Tryz.underlying3
  a26 := Tryz.isAgg3
  z26 := Tryz.sizeOf3
  v26 := Tryz.zeroValue3
  t28 := Tryz.underlying73
  a28 := Tryz.isAgg73
  z28 := Tryz.sizeOf73
  v28 := Tryz.zeroValue73
  i26 := by kernel_rfl

/-- Rising lists with the same numbers, whatever the order in which they came. -/
theorem srt_of_perm {xs ks l : List Int} (hp : xs.Perm ks) (hn : ks.Nodup) (hl : Rise l) (hm : ∀ x, x ∈ l ↔ x ∈ ks) : srt xs = l :=
  Rise_ext (srt_rise (hp.nodup_iff.2 hn)) hl fun x => by rw [srt_mem, hp.mem_iff, hm]

/-- The objects' keys, in order. -/
theorem use_keysO {rb : Nat} {f : Int → Option Value} {l : List Int} {F : Asrt} {K : Value → Hp → Prop} {h : Hp} (hl : Rise l) (hm : ∀ k, k ∈ l ↔ (f k).isSome = true) (hbd : ∀ k ∈ l, -9223372036854775808 ≤ k ∧ k ≤ 9223372036854775807) (hlen : l.length ≤ 1000000)
    (hh : (MP rb f * (F * tt)) h) (hK : ∀ v h', (SG iE 3 v l * (MP rb f * (F * tt))) h' → K v h') :
    CallH Tryz.prog 61 #[.map (some rb)] (fun v1 h1 => CallH Tryz.prog 46 #[v1] K h1) h := by
  refine C61 ?_
  unfold D61
  refine vA_new (o := .cells #[.map (some rb)] 61 (0, 0)) (f := ptrV) hh fun r h1 hh1 => ?_
  repeat (with_reducible first | refine vP_so ?_ | refine vB_t ?_ | refine vB_f ?_ | refine vE_tt ?_ | refine vE_ff ?_ | refine vE_tf ?_ | refine vE_ft ?_ | refine vE_u ?_ | refine vP_to (by simp (disch := omega) only [gdW_true, gdW_false, gB_true, gB_false, gB_undef, pickV_true, pickV_false, Bool.not_true, Bool.not_false, Option.map_some, bin_add, bin_sub, bin_mul, bin_quo, bin_rem, lss_t, lss_f, leq_t, leq_f, gtr_t, gtr_f, geq_t, geq_f, eqi_t, eqi_f, nei_t, nei_f, rem_uw, conv_ui, conv_iu, conv_ii, not_bool, nil_ptr, fa_mk, ptrV, len_mk, cap_mk, eq_ptr_nil, ne_ptr_nil, eq_nil_nil, ne_nil_nil, eq_slice_nil, eq_nil_slice, ia_1]; exact so_so) ?_)
  refine C46 ?_
  unfold D46
  refine C88 ?_
  unfold D88
  have hh2 : (MP rb f * (pt r (.cells #[.map (some rb)] 61 (0, 0)) * (F * tt))) h1 := asr (by ac_rfl) hh1
  obtain ⟨es, c, hok, hf, hp⟩ := MP_elim hh2
  have hkeys : ∀ x, x ∈ es.map Ent.key ↔ x ∈ l := fun x => by
    rw [hm, ← hf x, List.mem_map]
    unfold mget
    constructor
    · rintro ⟨e, he, rfl⟩
      cases hq : es.find? (fun q => q.key == e.key) with
      | some q => rfl
      | none => have := List.find?_eq_none.1 hq e he; simp at this
    · intro hs
      cases hq : es.find? (fun q => q.key == x) with
      | none => rw [hq] at hs; cases hs
      | some q =>
        have h1 := List.find?_some hq
        exact ⟨q, List.mem_of_find?_eq_some hq, by simpa using h1⟩
  have hnd : (es.map Ent.key).Nodup := List.pairwise_map.2 hok.keys
  have hlk : es.length ≤ 1000000 := by
    have h1 : (es.map Ent.key).Perm l := (List.perm_ext_iff_of_nodup hnd (hl.imp fun h => by omega)).2 hkeys
    have := h1.length_eq
    rw [List.length_map] at this
    omega
  refine callH_ownS (E := 3) (S := fun xs => xs.Perm (es.map Ent.key)) hh2 (fun w fr e => ?_) fun v xs h2 hS hh3 => ?_
  · have hbm : w.heap[rb]? = some (.map (es.map Ent.mk').toArray c) := by
      have : w.hp rb = some (.map (es.map Ent.mk').toArray c) := by rw [e]; exact Hp.add_of_left (pt_get hp)
      exact this
    have hbr : w.heap[r]? = some (.cells #[.map (some rb)] 61 (0, 0)) := by
      have : w.hp r = some (.cells #[.map (some rb)] 61 (0, 0)) := by rw [e]; exact Hp.add_of_left (pt_get hh1)
      exact this
    have hcr : w.cell? ⟨r, 0, none⟩ = some (.map (some rb)) := by
      rw [cell?_hp]
      unfold Hp.cell
      have : w.hp r = some (.cells #[.map (some rb)] 61 (0, 0)) := hbr
      simp only [this, Option.bind_some]
      rfl
    obtain ⟨D, hown, hperm, hsize⟩ := owns_of (P := Tryz.prog) (tk := 3) Tryz.underlying3 hbm hok (fun x hx => hbd _ ((hkeys _).1 (List.mem_map_of_mem hx))) hlk
    have hg := AnyZI.keys_gives keysO Fence.wide 1 trivial rfl (Nat.le_refl 1) r rb es.length D (R := anyR) w (Array.getElem?_eq_some_iff.1 hbr).1 hcr hown
    refine (callsIn_wide.1 (AnyZI.appendSeq_in appQ Fence.wide 2 trivial rfl (Nat.le_refl 2) 100 #[.pointer (some ⟨r, 0, none⟩)] trivial (enters_of Tryz.func100 (by kernel_rfl) rfl) _ (Maps.size D) (by rw [hsize]; unfold maxLen; omega) (by rw [hsize]; omega) w hg)).mono ?_
    rintro e' w' ⟨v, ss, rfl, hS, hrow, _, hb⟩
    exact ⟨v, ss, rfl, hS.trans hperm, hrow, hb⟩
  · have hxl : xs.length ≤ 1000000 := by rw [hS.length_eq, List.length_map]; exact hlk
    refine use_sort sortC (by omega) hh3 fun h4 hh4 => ?_
    rw [srt_of_perm hS hnd hl fun x => (hkeys x).symm] at hh4
    exact hK v h4 (dropL (P := pt r (.cells #[.map (some rb)] 61 (0, 0))) (Q := SG iE 3 v l * (MP rb f * F)) (asr (by ac_rfl) hh4) |> asr (by ac_rfl))

end Go.Proofs

/-
  Objects, in order; what is told of a few.
-/
set_option maxRecDepth 100000
set_option maxHeartbeats 1000000
namespace Go.Proofs
open Go.Sl

theorem ob_bd {st : Ar} {N : Nat} (ok : AOk st N) {a : Int} (h : (st.ob a).isSome = true) : 64 ≤ a ∧ a ≤ 16800000 := by
  obtain ⟨id, s, i, e, h1, rfl⟩ := (ok.ob a).1 h
  have := addr_bd (ok.sp id s e).2.2.1 (List.getElem?_eq_some_iff.1 h1).1
  omega

theorem use_aobjects {g : Hp} {a : Nat} {st : Ar} {N : Nat} {l : List Int} (ok : AOk st N) (hl : Rise l) (hm : ∀ k, k ∈ l ↔ (st.ob k).isSome = true) (hlen : l.length ≤ 1000000) {F : Asrt} {K : Value → Hp → Prop} {h : Hp} (hh : (AR a st * (own g * (F * tt))) h)
    (hK : ∀ v h', (SG iE 3 v l * (AR a st * (own g * (F * tt)))) h' → K v h') : CallH Tryz.prog 22 #[pB a] K h := by
  refine C22 ?_
  unfold D22
  obtain ⟨ap, rs, ro, rb, hp⟩ := AR_elim hh
  have l1 := ar_ld hp
  obtain ⟨f, H, e1, hq, c1⟩ := MPO_map (show (MPO rb obA st.ob * (pt a (.cells #[pv ap, .map (some rs), .map (some ro), .map (some rb), .int .i64 st.live] 63 (0, 0)) * (PG ap st.n st.runs * (MPO rs spA st.sp * (MP ro (owF st.ow) * (own g * (F * tt))))))) h from asr (by ac_rfl) hp)
  repeat (with_reducible first | refine vP_so ?_ | refine vB_t ?_ | refine vB_f ?_ | refine vE_tt ?_ | refine vE_ff ?_ | refine vE_tf ?_ | refine vE_ft ?_ | refine vE_u ?_ | refine vP_to (by simp (disch := omega) only [gdW_true, gdW_false, gB_true, gB_false, gB_undef, pickV_true, pickV_false, Bool.not_true, Bool.not_false, Option.map_some, bin_add, bin_sub, bin_mul, bin_quo, bin_rem, lss_t, lss_f, leq_t, leq_f, gtr_t, gtr_f, geq_t, geq_f, eqi_t, eqi_f, nei_t, nei_f, rem_uw, conv_ui, conv_iu, conv_ii, not_bool, nil_ptr, fa_mk, ptrV, len_mk, cap_mk, eq_ptr_nil, ne_ptr_nil, eq_nil_nil, ne_nil_nil, eq_slice_nil, eq_nil_slice, ia_1, nilP, l1.2.2.2.1]; exact so_so) ?_)
  refine use_keysO (l := l) (F := H * (pt a (.cells #[pv ap, .map (some rs), .map (some ro), .map (some rb), .int .i64 st.live] 63 (0, 0)) * (PG ap st.n st.runs * (MPO rs spA st.sp * (MP ro (owF st.ow) * (own g * F)))))) hl (fun k => by rw [hm, e1]) (fun k hk => by have := ob_bd ok ((hm k).1 hk); omega) hlen (asr (by ac_rfl) hq) fun v h1 hh1 => ?_
  have hh2 := c1 (SG iE 3 v l * (pt a (.cells #[pv ap, .map (some rs), .map (some ro), .map (some rb), .int .i64 st.live] 63 (0, 0)) * (PG ap st.n st.runs * (MPO rs spA st.sp * (MP ro (owF st.ow) * (own g * (F * tt))))))) h1 (asr (by ac_rfl) hh1)
  have hh3 : (AR a st * (SG iE 3 v l * (own g * (F * tt)))) h1 := AR_intro (asr (by ac_rfl) hh2)
  exact hK v h1 (asr (by ac_rfl) hh3)

theorem least0 : Least (fun _ => none) 0 := ⟨by omega, rfl, fun j h1 h2 => by omega⟩

/-- The first span of a new arena. -/
theorem first_span {n : Int} (hn : 6 ≤ n ∧ n ≤ 262144 ∨ n = 4) {k : Int} {st' : Ar} {id : Int} {b : Run} (hk : 0 ≤ k ∧ k < 16) (r : SpanR (newAr n) k st' id b) : b.1 = 1 ∧ id = 0 := by
  have hm := r.mem
  have e : newL n = [(1, n - 1)] := by
    unfold newL
    have e : newN n = n := by unfold newN; omega
    rw [e, if_pos (by omega)]
  have hm : b ∈ newL n := hm
  rw [e, List.mem_singleton] at hm
  exact ⟨by rw [hm], Least_uniq r.lst least0⟩

theorem new_room {n : Int} (hn : 6 ≤ n ∧ n ≤ 262144 ∨ n = 4) : (1, n - 1) ∈ (newAr n).runs := by
  have e : newL n = [(1, n - 1)] := by
    unfold newL
    have e : newN n = n := by unfold newN; omega
    rw [e, if_pos (by omega)]
  show (1, n - 1) ∈ newL n
  rw [e]; simp

theorem use_told7 {g : Hp} (hg : TabG 0 g) {F : Asrt} {K : Value → Hp → Prop} {h : Hp} (hh : (own g * (F * tt)) h) (hK : ∀ h', (own g * (F * tt)) h' → K (.bool true) h') : CallH Tryz.prog 5 #[] K h := by
  refine C5 ?_
  unfold D5
  refine use_anew (w := 256) (F := own g * F) (asr (by ac_rfl) hh) (fun hb => (hb (by unfold goodW; omega)).elim) fun a h1 _ hh1 => ?_
  repeat (with_reducible first | refine vP_so ?_ | refine vB_t ?_ | refine vB_f ?_ | refine vE_tt ?_ | refine vE_ff ?_ | refine vE_tf ?_ | refine vE_ft ?_ | refine vE_u ?_ | refine vP_to (by simp (disch := omega) only [gdW_true, gdW_false, gB_true, gB_false, gB_undef, pickV_true, pickV_false, Bool.not_true, Bool.not_false, Option.map_some, bin_add, bin_sub, bin_mul, bin_quo, bin_rem, lss_t, lss_f, leq_t, leq_f, gtr_t, gtr_f, geq_t, geq_f, eqi_t, eqi_f, nei_t, nei_f, rem_uw, conv_ui, conv_iu, conv_ii, not_bool, nil_ptr, fa_mk, ptrV, len_mk, cap_mk, eq_ptr_nil, ne_ptr_nil, eq_nil_nil, ne_nil_nil, eq_slice_nil, eq_nil_slice, ia_1, exT0, exT1]; exact so_so) ?_)
  refine use_anew (w := 255) (F := AR a (newAr (256 / 64)) * (own g * F)) (asr (by ac_rfl) hh1) (fun _ => ?_) fun a' h2 hb _ => (by unfold goodW at hb; omega)
  have z : eqV 1 true (.int .i64 0) (.int .i64 0) = some (.bool false) := rfl
  have z2 : eqV 1 true (.int .i64 1) (.int .i64 1) = some (.bool false) := rfl
  repeat (with_reducible first | refine vP_so ?_ | refine vB_t ?_ | refine vB_f ?_ | refine vE_tt ?_ | refine vE_ff ?_ | refine vE_tf ?_ | refine vE_ft ?_ | refine vE_u ?_ | refine vP_to (by simp (disch := omega) only [gdW_true, gdW_false, gB_true, gB_false, gB_undef, pickV_true, pickV_false, Bool.not_true, Bool.not_false, Option.map_some, bin_add, bin_sub, bin_mul, bin_quo, bin_rem, lss_t, lss_f, leq_t, leq_f, gtr_t, gtr_f, geq_t, geq_f, eqi_t, eqi_f, nei_t, nei_f, rem_uw, conv_ui, conv_iu, conv_ii, not_bool, nil_ptr, fa_mk, ptrV, len_mk, cap_mk, eq_ptr_nil, ne_ptr_nil, eq_nil_nil, ne_nil_nil, eq_slice_nil, eq_nil_slice, ia_1, exT0, exT1, z, z2, nilP]; exact so_so) ?_)
  have e4 : (256 : Int) / 64 = 4 := by decide
  rw [e4] at hh1
  have hh1 : (AR a (newAr 4) * (own g * (F * tt))) h1 := asr (by ac_rfl) hh1
  have ok0 := newAr_ok (n := 4) (by omega)
  refine use_aspan (k := 0) ok0 (by omega) hh1 (fun _ hb _ => (hb (by omega)).elim) (fun _ _ hno _ => ?_) fun st1 id b h3 hk r hh3 => ?_
  · have := hno _ (new_room (.inr rfl))
    have : pgS 0 = 1 := by decide
    simp only at *
    omega
  obtain ⟨hb1, rfl⟩ := first_span (.inr rfl) hk r
  have ok1 := r.ok ok0 hk
  have hsp : st1.sp 0 = some (newSp 1 0) := by rw [r.sp, fput_eq, hb1]
  repeat (with_reducible first | refine vP_so ?_ | refine vB_t ?_ | refine vB_f ?_ | refine vE_tt ?_ | refine vE_ff ?_ | refine vE_tf ?_ | refine vE_ft ?_ | refine vE_u ?_ | refine vP_to (by simp (disch := omega) only [gdW_true, gdW_false, gB_true, gB_false, gB_undef, pickV_true, pickV_false, Bool.not_true, Bool.not_false, Option.map_some, bin_add, bin_sub, bin_mul, bin_quo, bin_rem, lss_t, lss_f, leq_t, leq_f, gtr_t, gtr_f, geq_t, geq_f, eqi_t, eqi_f, nei_t, nei_f, rem_uw, conv_ui, conv_iu, conv_ii, not_bool, nil_ptr, fa_mk, ptrV, len_mk, cap_mk, eq_ptr_nil, ne_ptr_nil, eq_nil_nil, ne_nil_nil, eq_slice_nil, eq_nil_slice, ia_1, exV0, exV1]; exact so_so) ?_)
  have hff : ff (newSp 1 0).used = some 0 := ff_new (by decide)
  refine use_aalloc (id := 0) (n := 1) (black := true) hg ok1 (by omega) hh3 (fun e => ?_) (fun s _ e hb _ => ?_) (fun s _ e _ hf _ => ?_) fun s i h4 e hn hf hh4 => ?_
  · rw [hsp] at e; cases e
  · rw [hsp] at e; obtain rfl := Option.some.inj e; exact (hb (by decide)).elim
  · rw [hsp] at e; obtain rfl := Option.some.inj e; rw [hff] at hf; cases hf
  rw [hsp] at e
  obtain rfl := Option.some.inj e
  rw [hff] at hf
  obtain rfl := Option.some.inj hf
  have ok2 := put_ok (black := true) (n := 1) ok1 hsp hff (by decide)
  have ea : (newSp 1 0).addr 0 = 64 := by decide
  have e1 : (1 : Int).toNat = 1 := rfl
  rw [e1] at hh4
  rw [ea]
  generalize hst : st1.put 0 (newSp 1 0) 0 1 true = st2 at *
  have hob : st2.ob 64 = some [0] := by rw [← hst]; show fput st1.ob ((newSp 1 0).addr 0) (List.replicate 1 0) 64 = _; rw [ea, fput_eq]; rfl
  repeat (with_reducible first | refine vP_so ?_ | refine vB_t ?_ | refine vB_f ?_ | refine vE_tt ?_ | refine vE_ff ?_ | refine vE_tf ?_ | refine vE_ft ?_ | refine vE_u ?_ | refine vP_to (by simp (disch := omega) only [gdW_true, gdW_false, gB_true, gB_false, gB_undef, pickV_true, pickV_false, Bool.not_true, Bool.not_false, Option.map_some, bin_add, bin_sub, bin_mul, bin_quo, bin_rem, lss_t, lss_f, leq_t, leq_f, gtr_t, gtr_f, geq_t, geq_f, eqi_t, eqi_f, nei_t, nei_f, rem_uw, conv_ui, conv_iu, conv_ii, not_bool, nil_ptr, fa_mk, ptrV, len_mk, cap_mk, eq_ptr_nil, ne_ptr_nil, eq_nil_nil, ne_nil_nil, eq_slice_nil, eq_nil_slice, ia_1, exV0, exV1]; exact so_so) ?_)
  refine use_astore (x := 64) (i := 0) (v := 7) hh4 (fun e => by rw [hob] at e; cases e) (fun l e ho => ?_) fun l c h5 e _ hc hh5 => ?_
  · rw [hob] at e; obtain rfl := Option.some.inj e; exact (ho (by simp)).elim
  rw [hob] at e
  obtain rfl := Option.some.inj e
  have ok3 := store_ok ok2 (a := 64) (l' := [0].set (0 : Int).toNat 7) hob (by simp)
  generalize hst3 : ({ st2 with ob := fput st2.ob 64 ([0].set (0 : Int).toNat 7) } : Ar) = st3 at *
  have hob3 : st3.ob 64 = some [7] := by rw [← hst3]; show fput st2.ob 64 _ 64 = _; rw [fput_eq]; rfl
  have hsp3 : st3.sp 0 = some ((newSp 1 0).take 0 true) := by rw [← hst3]; show st2.sp 0 = _; rw [← hst]; show fput st1.sp 0 _ 0 = _; rw [fput_eq]
  have hlive : st3.live = 1 := by
    rw [← hst3]; show st2.live = 1; rw [← hst]; show st1.live + szS (newSp 1 0).cls = 1; rw [r.live]; rfl
  have hleft : leftS st3.runs = 2 := by
    rw [← hst3]; show leftS st2.runs = 2; rw [← hst]; show leftS st1.runs = 2; rw [r.left]; rfl
  repeat (with_reducible first | refine vP_so ?_ | refine vB_t ?_ | refine vB_f ?_ | refine vE_tt ?_ | refine vE_ff ?_ | refine vE_tf ?_ | refine vE_ft ?_ | refine vE_u ?_ | refine vP_to (by simp (disch := omega) only [gdW_true, gdW_false, gB_true, gB_false, gB_undef, pickV_true, pickV_false, Bool.not_true, Bool.not_false, Option.map_some, bin_add, bin_sub, bin_mul, bin_quo, bin_rem, lss_t, lss_f, leq_t, leq_f, gtr_t, gtr_f, geq_t, geq_f, eqi_t, eqi_f, nei_t, nei_f, rem_uw, conv_ui, conv_iu, conv_ii, not_bool, nil_ptr, fa_mk, ptrV, len_mk, cap_mk, eq_ptr_nil, ne_ptr_nil, eq_nil_nil, ne_nil_nil, eq_slice_nil, eq_nil_slice, ia_1]; exact so_so) ?_)
  refine use_aload (x := 64) (i := 0) hh5 (fun e => by rw [hob3] at e; cases e) (fun l e ho => ?_) fun l c e _ hc => ?_
  · rw [hob3] at e; obtain rfl := Option.some.inj e; exact (ho (by simp)).elim
  rw [hob3] at e
  obtain rfl := Option.some.inj e
  obtain rfl : c = 7 := by have : some (7 : Int) = some c := hc; exact (Option.some.inj this).symm
  repeat (with_reducible first | refine vP_so ?_ | refine vB_t ?_ | refine vB_f ?_ | refine vE_tt ?_ | refine vE_ff ?_ | refine vE_tf ?_ | refine vE_ft ?_ | refine vE_u ?_ | refine vP_to (by simp (disch := omega) only [gdW_true, gdW_false, gB_true, gB_false, gB_undef, pickV_true, pickV_false, Bool.not_true, Bool.not_false, Option.map_some, bin_add, bin_sub, bin_mul, bin_quo, bin_rem, lss_t, lss_f, leq_t, leq_f, gtr_t, gtr_f, geq_t, geq_f, eqi_t, eqi_f, nei_t, nei_f, rem_uw, conv_ui, conv_iu, conv_ii, not_bool, nil_ptr, fa_mk, ptrV, len_mk, cap_mk, eq_ptr_nil, ne_ptr_nil, eq_nil_nil, ne_nil_nil, eq_slice_nil, eq_nil_slice, ia_1, exV0, exV1]; exact so_so) ?_)
  refine use_aload (x := 64) (i := 1) hh5 (fun e => by rw [hob3] at e; cases e) (fun l e ho => ?_) fun l c e h0 hc => ?_
  rotate_left
  · rw [hob3] at e; obtain rfl := Option.some.inj e; have : ([7] : List Int)[1]? = some c := hc; simp at this
  have zz : eqV 1 false (.int .i64 0) (.int .i64 0) = some (.bool true) := rfl
  have z64 : eqV 1 false (.int .i64 64) (.int .i64 64) = some (.bool true) := rfl
  have z7 : eqV 1 false (.int .i64 7) (.int .i64 7) = some (.bool true) := rfl
  have z22 : eqV 1 false (.int .i64 2) (.int .i64 2) = some (.bool true) := rfl
  have z11 : eqV 1 false (.int .i64 1) (.int .i64 1) = some (.bool true) := rfl
  repeat (with_reducible first | refine vP_so ?_ | refine vB_t ?_ | refine vB_f ?_ | refine vE_tt ?_ | refine vE_ff ?_ | refine vE_tf ?_ | refine vE_ft ?_ | refine vE_u ?_ | refine vP_to (by simp (disch := omega) only [gdW_true, gdW_false, gB_true, gB_false, gB_undef, pickV_true, pickV_false, Bool.not_true, Bool.not_false, Option.map_some, bin_add, bin_sub, bin_mul, bin_quo, bin_rem, lss_t, lss_f, leq_t, leq_f, gtr_t, gtr_f, geq_t, geq_f, eqi_t, eqi_f, nei_t, nei_f, rem_uw, conv_ui, conv_iu, conv_ii, not_bool, nil_ptr, fa_mk, ptrV, len_mk, cap_mk, eq_ptr_nil, ne_ptr_nil, eq_nil_nil, ne_nil_nil, eq_slice_nil, eq_nil_slice, ia_1, exV0, exV1, zz, z64, z7, z22]; exact so_so) ?_)
  have huse : ((newSp 1 0).take 0 true).used[0]? = some true := by decide
  refine use_amarked ok3 hh5 (fun _ e _ => by rw [hob3] at e; cases e) fun id s i h6 e h1' h2' hh6 => ?_
  obtain ⟨rfl, rfl⟩ := addr_inj ok3 e hsp3 (List.getElem?_eq_some_iff.1 h1').1 (i' := 0) (by decide) (by rw [← h2']; rfl)
  rw [hsp3] at e
  obtain rfl := Option.some.inj e
  have hmk : hasB ((newSp 1 0).take 0 true).marks ((0 : Nat) : Int) = true := by decide
  rw [hmk]
  repeat (with_reducible first | refine vP_so ?_ | refine vB_t ?_ | refine vB_f ?_ | refine vE_tt ?_ | refine vE_ff ?_ | refine vE_tf ?_ | refine vE_ft ?_ | refine vE_u ?_ | refine vP_to (by simp (disch := omega) only [gdW_true, gdW_false, gB_true, gB_false, gB_undef, pickV_true, pickV_false, Bool.not_true, Bool.not_false, Option.map_some, bin_add, bin_sub, bin_mul, bin_quo, bin_rem, lss_t, lss_f, leq_t, leq_f, gtr_t, gtr_f, geq_t, geq_f, eqi_t, eqi_f, nei_t, nei_f, rem_uw, conv_ui, conv_iu, conv_ii, not_bool, nil_ptr, fa_mk, ptrV, len_mk, cap_mk, eq_ptr_nil, ne_ptr_nil, eq_nil_nil, ne_nil_nil, eq_slice_nil, eq_nil_slice, ia_1]; exact so_so) ?_)
  refine use_amark ok3 hh6 (fun _ e _ => by rw [hob3] at e; cases e) fun id s i h7 e h1' h2' hh7 => ?_
  obtain ⟨rfl, rfl⟩ := addr_inj ok3 e hsp3 (List.getElem?_eq_some_iff.1 h1').1 (i' := 0) (by decide) (by rw [← h2']; rfl)
  rw [hsp3] at e
  obtain rfl := Option.some.inj e
  have ok4 := mark_ok ok3 hsp3 huse
  rw [hmk]
  repeat (with_reducible first | refine vP_so ?_ | refine vB_t ?_ | refine vB_f ?_ | refine vE_tt ?_ | refine vE_ff ?_ | refine vE_tf ?_ | refine vE_ft ?_ | refine vE_u ?_ | refine vP_to (by simp (disch := omega) only [gdW_true, gdW_false, gB_true, gB_false, gB_undef, pickV_true, pickV_false, Bool.not_true, Bool.not_false, Option.map_some, bin_add, bin_sub, bin_mul, bin_quo, bin_rem, lss_t, lss_f, leq_t, leq_f, gtr_t, gtr_f, geq_t, geq_f, eqi_t, eqi_f, nei_t, nei_f, rem_uw, conv_ui, conv_iu, conv_ii, not_bool, nil_ptr, fa_mk, ptrV, len_mk, cap_mk, eq_ptr_nil, ne_ptr_nil, eq_nil_nil, ne_nil_nil, eq_slice_nil, eq_nil_slice, ia_1]; exact so_so) ?_)
  refine use_alive hh7 ?_
  have hl4 : ({ st3 with sp := fput st3.sp 0 (((newSp 1 0).take 0 true).mark 0) } : Ar).live = 1 := hlive
  rw [hl4]
  repeat (with_reducible first | refine vP_so ?_ | refine vB_t ?_ | refine vB_f ?_ | refine vE_tt ?_ | refine vE_ff ?_ | refine vE_tf ?_ | refine vE_ft ?_ | refine vE_u ?_ | refine vP_to (by simp (disch := omega) only [gdW_true, gdW_false, gB_true, gB_false, gB_undef, pickV_true, pickV_false, Bool.not_true, Bool.not_false, Option.map_some, bin_add, bin_sub, bin_mul, bin_quo, bin_rem, lss_t, lss_f, leq_t, leq_f, gtr_t, gtr_f, geq_t, geq_f, eqi_t, eqi_f, nei_t, nei_f, rem_uw, conv_ui, conv_iu, conv_ii, not_bool, nil_ptr, fa_mk, ptrV, len_mk, cap_mk, eq_ptr_nil, ne_ptr_nil, eq_nil_nil, ne_nil_nil, eq_slice_nil, eq_nil_slice, ia_1, z11]; exact so_so) ?_)
  refine use_aleft ok4 hh7 fun h8 hh8 => ?_
  have hl5 : leftS ({ st3 with sp := fput st3.sp 0 (((newSp 1 0).take 0 true).mark 0) } : Ar).runs = 2 := hleft
  rw [hl5]
  repeat (with_reducible first | refine vP_so ?_ | refine vB_t ?_ | refine vB_f ?_ | refine vE_tt ?_ | refine vE_ff ?_ | refine vE_tf ?_ | refine vE_ft ?_ | refine vE_u ?_ | refine vP_to (by simp (disch := omega) only [gdW_true, gdW_false, gB_true, gB_false, gB_undef, pickV_true, pickV_false, Bool.not_true, Bool.not_false, Option.map_some, bin_add, bin_sub, bin_mul, bin_quo, bin_rem, lss_t, lss_f, leq_t, leq_f, gtr_t, gtr_f, geq_t, geq_f, eqi_t, eqi_f, nei_t, nei_f, rem_uw, conv_ui, conv_iu, conv_ii, not_bool, nil_ptr, fa_mk, ptrV, len_mk, cap_mk, eq_ptr_nil, ne_ptr_nil, eq_nil_nil, ne_nil_nil, eq_slice_nil, eq_nil_slice, ia_1, z22]; exact so_so) ?_)
  exact hK h8 (dropL (P := AR a _) (Q := own g * F) (asr (by ac_rfl) hh8) |> asr (by ac_rfl))

end Go.Proofs

/-
  Laws of arena: what they have in common.
-/
set_option maxRecDepth 100000
set_option maxHeartbeats 1000000
namespace Go.Proofs
open Go.Sl

/-- There is a run of so many pages. -/
def Room (l : List Run) (m : Int) : Prop := ∃ r ∈ l, m ≤ r.2

theorem Room.le {l : List Run} {m m' : Int} (h : Room l m) (hm : m' ≤ m) : Room l m' := let ⟨r, h1, h2⟩ := h; ⟨r, h1, by omega⟩

theorem run_start {n : Int} {l : List Run} (hw : WF n l) {r b : Run} (hr : r ∈ l) (hb : b ∈ l) {x : Int} (h1 : r.1 ≤ x ∧ x < r.1 + r.2) (h2 : b.1 ≤ x ∧ x < b.1 + b.2) : r.1 = b.1 := by
  rcases Int.lt_trichotomy r.1 b.1 with q | q | q
  · exact (fr_start hw b hb (fr_mem.2 ⟨r, hr, by omega, by omega⟩)).elim
  · exact q
  · exact (fr_start hw r hr (fr_mem.2 ⟨b, hb, by omega, by omega⟩)).elim

theorem SpanR.room {st st' : Ar} {N : Nat} {k id m : Int} {b : Run} (h : AOk st N) (hk : 0 ≤ k ∧ k < 16) (r : SpanR st k st' id b) (hm : Room st.runs m) (h1 : 1 ≤ m - pgS k) : Room st'.runs (m - pgS k) := by
  obtain ⟨q, hq, hq2⟩ := hm
  have hp := pgS_pos hk
  have hle := r.le
  obtain ⟨s, hs, a1, a2⟩ := fr_run (a := q.1 + pgS k) (b := q.1 + q.2) (by omega) r.wf fun x x1 x2 => by
    rw [r.fr]
    refine ⟨fr_mem.2 ⟨q, hq, by omega, by omega⟩, fun hx => ?_⟩
    have := run_start h.wf hq r.mem (x := x) ⟨by omega, by omega⟩ ⟨hx.1, by omega⟩
    omega
  exact ⟨s, hs, by omega⟩

theorem DropR.room {st st' : Ar} {N : Nat} {id m : Int} {s : Sp} (h : AOk st N) (r : DropR st id s st') (hm : Room st.runs m) (h1 : 1 ≤ m) : Room st'.runs m := by
  obtain ⟨q, hq, hq2⟩ := hm
  obtain ⟨t, ht, a1, a2⟩ := fr_run (a := q.1) (b := q.1 + q.2) (by omega) r.wf fun x x1 x2 => by
    rw [r.fr]
    exact .inl (fr_mem.2 ⟨q, hq, by omega, by omega⟩)
  exact ⟨t, ht, by omega⟩

theorem newAr_room {n : Int} (hn : 2 ≤ n ∧ n ≤ 262144) : Room (newAr n).runs (n - 1) := by
  refine ⟨(1, n - 1), ?_, by simp⟩
  show (1, n - 1) ∈ newL n
  unfold newL
  have e : newN n = n := by unfold newN; omega
  rw [e, if_pos (by omega)]
  simp

theorem ofS_spec {n : Int} (h : 1 ≤ n ∧ n ≤ 256) : (0 ≤ ofS n ∧ ofS n < 16) ∧ n ≤ szS (ofS n) := by
  obtain ⟨a, b, _⟩ := ofN_spec (n := n) h.2
  unfold ofS
  rw [if_pos h]
  exact ⟨by omega, b⟩

theorem use_span1 {g : Hp} {a : Nat} {st : Ar} {N : Nat} {k m : Int} (ok : AOk st N) (hN : N ≤ 1000000) (hk : 0 ≤ k ∧ k < 16) (hm : Room st.runs m) (hp : pgS k ≤ m) {F : Asrt} {K : Value → Hp → Prop} {h : Hp} (hh : (AR a st * (own g * (F * tt))) h)
    (hK : ∀ st' id b h', SpanR st k st' id b → AOk st' (N + 1) → (AR a st' * (own g * (F * tt))) h' → K (tup id 0) h') : CallH Tryz.prog 7 #[pB a, .int .i64 k] K h := by
  refine use_aspan ok hN hh (fun _ hb _ => (hb hk).elim) (fun _ _ hno _ => ?_) fun st' id b h' _ r hh' => hK st' id b h' r (r.ok ok hk) hh'
  obtain ⟨q, hq, hq2⟩ := hm
  have := hno q hq
  omega

theorem newSp_ff {first k : Int} (hk : 0 ≤ k ∧ k < 16) : ff (newSp first k).used = some 0 := ff_new (by have := slS_pos hk; omega)

theorem use_alloc1 {g : Hp} (hg : TabG 0 g) {a : Nat} {st : Ar} {N : Nat} {id n first k : Int} {black : Bool} (ok : AOk st N) (hN : N ≤ 1000000) (hk : 0 ≤ k ∧ k < 16) (hs : st.sp id = some (newSp first k)) (hn : 1 ≤ n ∧ n ≤ szS k) {F : Asrt} {K : Value → Hp → Prop} {h : Hp} (hh : (AR a st * (own g * (F * tt))) h)
    (hK : ∀ h', AOk (st.put id (newSp first k) 0 n.toNat black) N → (AR a (st.put id (newSp first k) 0 n.toNat black) * (own g * (F * tt))) h' → K (tup ((newSp first k).addr 0) 0) h') : CallH Tryz.prog 12 #[pB a, .int .i64 id, .int .i64 n, .bool black] K h := by
  refine use_aalloc hg ok hN hh (fun e => ?_) (fun s _ e hb _ => ?_) (fun s _ e _ hf _ => ?_) fun s i h4 e hn' hf hh4 => ?_
  · rw [hs] at e; cases e
  · rw [hs] at e; obtain rfl := Option.some.inj e; exact (hb hn).elim
  · rw [hs] at e; obtain rfl := Option.some.inj e; rw [newSp_ff hk] at hf; cases hf
  · rw [hs] at e
    obtain rfl := Option.some.inj e
    have hf' := hf
    rw [newSp_ff hk] at hf
    obtain rfl := Option.some.inj hf
    exact hK h4 (put_ok ok hs hf' ⟨by omega, by show ((n.toNat : Nat) : Int) ≤ szS k; omega⟩) hh4

theorem put_sp {st : Ar} {id : Int} {s : Sp} {i n : Nat} {b : Bool} : (st.put id s i n b).sp = fput st.sp id (s.take i b) := rfl
theorem put_ob {st : Ar} {id : Int} {s : Sp} {i n : Nat} {b : Bool} : (st.put id s i n b).ob = fput st.ob (s.addr i) (List.replicate n 0) := rfl
theorem put_live {st : Ar} {id : Int} {s : Sp} {i n : Nat} {b : Bool} : (st.put id s i n b).live = st.live + szS s.cls := rfl
theorem put_runs {st : Ar} {id : Int} {s : Sp} {i n : Nat} {b : Bool} : (st.put id s i n b).runs = st.runs := rfl

theorem rise1 (x : Int) : Rise [x] := by simp [Rise]
theorem rise0 : Rise [] := by simp [Rise]

theorem ne_refl {x : Int} : eqV 1 true (.int .i64 x) (.int .i64 x) = some (.bool false) := nei_f rfl
theorem eq_refl' {x : Int} : eqV 1 false (.int .i64 x) (.int .i64 x) = some (.bool true) := eqi_t rfl

end Go.Proofs

/-
  Laws of arena: fresh spans, lists of objects.
-/
set_option maxRecDepth 100000
set_option maxHeartbeats 1000000
namespace Go.Proofs
open Go.Sl

theorem free_ob {st : Ar} {N : Nat} (ok : AOk st N) {id : Int} {s : Sp} {i : Nat} (hs : st.sp id = some s) (hi : s.used[i]? = some false) : st.ob (s.addr i) = none := by
  cases ho : st.ob (s.addr i) with
  | none => rfl
  | some l =>
    obtain ⟨j, t, m, e, h1, h2⟩ := (ok.ob _).1 (show (st.ob (s.addr i)).isSome = true by rw [ho]; rfl)
    obtain ⟨rfl, rfl⟩ := addr_inj ok hs e (List.getElem?_eq_some_iff.1 hi).1 (List.getElem?_eq_some_iff.1 h1).1 h2
    rw [hs] at e
    obtain rfl := Option.some.inj e
    rw [hi] at h1
    cases h1

theorem newSp_f {first k : Int} (hk : 0 ≤ k ∧ k < 16) : (newSp first k).used[0]? = some false := by
  show (List.replicate (slS k).toNat false)[0]? = _
  rw [List.getElem?_replicate, if_pos (by have := slS_pos hk; omega)]

/-- The places of all objects, rising. -/
def Objs (st : Ar) (l : List Int) : Prop := Rise l ∧ ∀ y, y ∈ l ↔ (st.ob y).isSome = true

theorem Objs_new (n : Int) : Objs (newAr n) [] := ⟨by simp [Rise], fun y => by simp [newAr]⟩

theorem Objs_ob {st st' : Ar} {l : List Int} (h : Objs st l) (e : st'.ob = st.ob) : Objs st' l := ⟨h.1, fun y => by rw [e]; exact h.2 y⟩

theorem Objs_put {st : Ar} {l l' : List Int} (h : Objs st l) {id : Int} {s : Sp} {i n : Nat} {b : Bool} (hr : Rise l') (hm : ∀ y, y ∈ l' ↔ y ∈ l ∨ y = s.addr i) : Objs (st.put id s i n b) l' := by
  refine ⟨hr, fun y => ?_⟩
  rw [hm, put_ob, h.2]
  by_cases hy : y = s.addr i
  · subst hy; rw [fput_eq]; simp
  · rw [fput_ne hy]; simp [hy]

theorem sp_uniq {st : Ar} {N : Nat} (ok : AOk st N) {id id' : Int} {s s' : Sp} {i i' : Nat} (h1 : st.sp id = some s) (h2 : st.sp id' = some s') (hi : i < s.used.length) (hi' : s'.used[i']? = some true) (he : s.addr i = s'.addr i') : id' = id ∧ s' = s ∧ i' = i := by
  obtain ⟨rfl, rfl⟩ := addr_inj ok h1 h2 hi (List.getElem?_eq_some_iff.1 hi').1 he
  rw [h1] at h2
  exact ⟨rfl, (Option.some.inj h2).symm, rfl⟩

theorem take_mark {first k : Int} (hk : 0 ≤ k ∧ k < 16) (b : Bool) : hasB ((newSp first k).take 0 b).marks ((0 : Nat) : Int) = b := by
  have h := slS_pos hk
  have hl : 0 < (slS k).toNat := by omega
  rw [hasB_nat]
  have e : ((newSp first k).take 0 b).marks = if b then (List.replicate (slS k).toNat false).set 0 true else List.replicate (slS k).toNat false := rfl
  rw [e]
  cases b
  · simp [List.getElem?_replicate, hl]
  · simp [List.getElem?_set, hl]

theorem take_used {first k : Int} (hk : 0 ≤ k ∧ k < 16) (b : Bool) : ((newSp first k).take 0 b).used[0]? = some true := by
  have h := slS_pos hk
  show ((List.replicate (slS k).toNat false).set 0 true)[0]? = some true
  rw [List.getElem?_set_self (by rw [List.length_replicate]; omega)]

theorem bne_refl (b : Bool) : eqV 2 true (.bool b) (.bool b) = some (.bool false) := by cases b <;> rfl

theorem room_le {l : List Run} {m m' : Int} (h : Room l m) (hm : m' ≤ m) : Room l m' := h.le hm

theorem goodW_32768 : goodW 32768 := by unfold goodW; omega

end Go.Proofs

/-
  Laws of arena: spans of one object each.
-/
set_option maxRecDepth 100000
set_option maxHeartbeats 1000000
namespace Go.Proofs
open Go.Sl

/-- A span of which at most the first place is used. -/
def S1 (f c : Int) (u m : Bool) : Sp := ⟨f, c, u :: List.replicate ((slS c).toNat - 1) false, m :: List.replicate ((slS c).toNat - 1) false⟩

theorem S1_new {f c : Int} (hc : 0 ≤ c ∧ c < 16) : newSp f c = S1 f c false false := by
  have h := slS_pos hc
  have e : (slS c).toNat = ((slS c).toNat - 1) + 1 := by omega
  unfold newSp S1
  rw [e, List.replicate_succ]
  simp

theorem S1_take {f c : Int} {u m b : Bool} : (S1 f c u m).take 0 b = S1 f c true (b || m) := by cases b <;> rfl
theorem S1_mark {f c : Int} {u m : Bool} : (S1 f c u m).mark 0 = S1 f c u true := rfl
theorem S1_addr {f c : Int} {u m : Bool} : (S1 f c u m).addr 0 = f * 64 := by simp [Sp.addr, S1]
theorem S1_swept {f c : Int} {u m : Bool} : (S1 f c u m).swept = S1 f c m false := by
  simp [Sp.swept, S1, List.replicate_succ]
theorem S1_used {f c : Int} {u m : Bool} {i : Nat} : (S1 f c u m).used[i]? = some true ↔ i = 0 ∧ u = true := by
  cases i with
  | zero => simp [S1]
  | succ i =>
    simp only [S1, List.getElem?_cons_succ, List.getElem?_replicate]
    split <;> simp
theorem S1_marks {f c : Int} {u m : Bool} : hasB (S1 f c u m).marks ((0 : Nat) : Int) = m := by rw [hasB_nat]; rfl

theorem ids_S1 {f c : Int} {u m : Bool} : ids (S1 f c u m).used = if u then [0] else [] := by
  cases u
  · cases h : ids (S1 f c false m).used with
    | nil => rfl
    | cons x l =>
      have : x ∈ ids (S1 f c false m).used := by rw [h]; simp
      rw [ids_mem, S1_used] at this
      cases this.2
  · have hr := ids_rise (S1 f c true m).used
    cases h : ids (S1 f c true m).used with
    | nil =>
      have : 0 ∈ ids (S1 f c true m).used := by rw [ids_mem, S1_used]; exact ⟨rfl, rfl⟩
      rw [h] at this; cases this
    | cons x l =>
      have hx : x ∈ ids (S1 f c true m).used := by rw [h]; simp
      rw [ids_mem, S1_used] at hx
      obtain ⟨rfl, _⟩ := hx
      cases l with
      | nil => rfl
      | cons y l =>
        have hy : y ∈ ids (S1 f c true m).used := by rw [h]; simp
        rw [ids_mem, S1_used] at hy
        rw [h, List.pairwise_cons] at hr
        have := hr.1 y (by simp)
        omega

theorem S1_gone {f c : Int} {u m : Bool} : (S1 f c u m).gone = if u && !m then [0] else [] := by
  unfold Sp.gone
  rw [ids_S1]
  cases u <;> cases m <;> rfl

/-- So many spans, of one object or none each. -/
def Rows (st : Ar) (N : Nat) (f c : Nat → Int) (u m : Nat → Bool) : Prop :=
  (∀ j : Nat, j < N → (0 ≤ c j ∧ c j < 16) ∧ st.sp (j : Int) = some (S1 (f j) (c j) (u j) (m j))) ∧ ∀ j : Nat, N ≤ j → st.sp (j : Int) = none

def up {α : Type} (f : Nat → α) (n : Nat) (a : α) : Nat → α := fun j => if j = n then a else f j
theorem up_eq {α : Type} {f : Nat → α} {n : Nat} {a : α} : up f n a n = a := by simp [up]
theorem up_ne {α : Type} {f : Nat → α} {n j : Nat} {a : α} (h : j ≠ n) : up f n a j = f j := by simp [up, h]

theorem Rows.objs {st : Ar} {N : Nat} {f c : Nat → Int} {u m : Nat → Bool} (r : Rows st N f c u m) (ok : AOk st N) (y : Int) : (st.ob y).isSome = true ↔ ∃ j : Nat, j < N ∧ u j = true ∧ y = f j * 64 := by
  rw [ok.ob]
  constructor
  · rintro ⟨id, s, i, e, h1, rfl⟩
    obtain ⟨h2, h3, _⟩ := ok.sp id s e
    obtain ⟨j, rfl⟩ : ∃ j : Nat, id = j := ⟨id.toNat, by omega⟩
    have hj := (r.1 j (by omega)).2
    rw [e] at hj
    obtain rfl := Option.some.inj hj
    rw [S1_used] at h1
    obtain ⟨rfl, h1⟩ := h1
    exact ⟨j, by omega, h1, S1_addr⟩
  · rintro ⟨j, h1, h2, rfl⟩
    exact ⟨j, _, 0, (r.1 j h1).2, S1_used.2 ⟨rfl, h2⟩, S1_addr.symm⟩

theorem Rows.least {st : Ar} {N : Nat} {f c : Nat → Int} {u m : Nat → Bool} (r : Rows st N f c u m) {id : Int} (h : Least st.sp id) : id = N := by
  refine Least_uniq h ⟨by omega, r.2 N (Nat.le_refl N), fun j h1 h2 => ?_⟩
  obtain ⟨j, rfl⟩ : ∃ k : Nat, j = k := ⟨j.toNat, by omega⟩
  rw [(r.1 j (by omega)).2]
  simp

/-- A span more. -/
theorem Rows.more {st st' : Ar} {N : Nat} {f c : Nat → Int} {u m : Nat → Bool} (r : Rows st N f c u m) {fk ck : Int} {uk mk : Bool} (hc : 0 ≤ ck ∧ ck < 16) (e : st'.sp = fput st.sp (N : Int) (S1 fk ck uk mk)) : Rows st' (N + 1) (up f N fk) (up c N ck) (up u N uk) (up m N mk) := by
  refine ⟨fun j hj => ?_, fun j hj => ?_⟩
  · rw [e]
    by_cases hn : j = N
    · subst hn; rw [fput_eq, up_eq, up_eq, up_eq, up_eq]; exact ⟨hc, rfl⟩
    · rw [fput_ne (by omega), up_ne hn, up_ne hn, up_ne hn, up_ne hn]; exact r.1 j (by omega)
  · rw [e, fput_ne (by omega)]; exact r.2 j (by omega)

/-- A span turned. -/
theorem Rows.turn {st st' : Ar} {N n : Nat} {f c : Nat → Int} {u m : Nat → Bool} (r : Rows st N f c u m) (hn : n < N) {uk mk : Bool} (e : st'.sp = fput st.sp (n : Int) (S1 (f n) (c n) uk mk)) : Rows st' N f c (up u n uk) (up m n mk) := by
  refine ⟨fun j hj => ?_, fun j hj => ?_⟩
  · rw [e]
    by_cases h : j = n
    · subst h; rw [fput_eq, up_eq, up_eq]; exact ⟨(r.1 j hj).1, rfl⟩
    · rw [fput_ne (by omega), up_ne h, up_ne h]; exact r.1 j hj
  · rw [e, fput_ne (by omega)]; exact r.2 j hj

theorem tot_zero {sp : Int → Option Sp} : ∀ {N : Nat}, (∀ j : Nat, j < N → wt (sp (j : Int)) = 0) → tot sp N = 0
  | 0, _ => rfl
  | N + 1, h => by rw [tot, tot_zero (N := N) fun j hj => h j (by omega), h N (by omega)]; rfl

theorem Rows.empty {st : Ar} {N : Nat} {f c : Nat → Int} {u m : Nat → Bool} (r : Rows st N f c u m) (ok : AOk st N) (hu : ∀ j, j < N → u j = false) : st.live = 0 ∧ ∀ y, y ∈ ([] : List Int) ↔ (st.ob y).isSome = true := by
  refine ⟨?_, fun y => ?_⟩
  · rw [ok.live]
    refine tot_zero fun j hj => ?_
    rw [(r.1 j hj).2, hu j hj]
    show (((S1 (f j) (c j) false (m j)).used.count true : Nat) : Int) * szS (c j) = 0
    rw [← ids_len, ids_S1]
    simp
  · rw [r.objs ok]
    constructor
    · intro h; cases h
    · rintro ⟨j, h1, h2, _⟩
      rw [hu j h1] at h2
      cases h2

end Go.Proofs

/-
  The spans' keys, in order: as the objects' keys (Ky), at the map of spans.
-/
set_option maxRecDepth 100000
namespace Go.Proofs
open Go.Sl Go.RowKit Go.Shelf

def keysS_ren : Ren := ⟨fun | 10 => 90 | n => n, fun | 0 => 0 | 4 => 4 | 23 => 60 | 26 => 3 | 3 => 64 | 33 => 31 | n => n, fun | n => n⟩
theorem keysS : SlLaysZI.n10 Tryz.prog keysS_ren where
  mixed := by kernel_rfl
  f10 := ⟨"maps.Keys[map[int]*treadmill/span.Span,int,*treadmill/span.Span]$1", by decide, Tryz.func90.trans (congrArg some (by kernel_rfl))⟩
  t0 := Tryz.underlying0
  a0 := Tryz.isAgg0
  z0 := Tryz.sizeOf0
  v0 := Tryz.zeroValue0
  t4 := Tryz.underlying4
  a4 := Tryz.isAgg4
  z4 := Tryz.sizeOf4
  v4 := Tryz.zeroValue4
  t23 := Tryz.underlying60
  a23 := Tryz.isAgg60
  z23 := Tryz.sizeOf60
  v23 := Tryz.zeroValue60
  t26 := Tryz.underlying3
  a26 := Tryz.isAgg3
  z26 := Tryz.sizeOf3
  v26 := Tryz.zeroValue3
  t33 := Tryz.underlying31
  a33 := Tryz.isAgg31
  z33 := Tryz.sizeOf31
  v33 := Tryz.zeroValue31

/-- The spans' keys, in order. -/
theorem use_keysS {rb : Nat} {f : Int → Option Value} {l : List Int} {F : Asrt} {K : Value → Hp → Prop} {h : Hp} (hl : Rise l) (hm : ∀ k, k ∈ l ↔ (f k).isSome = true) (hbd : ∀ k ∈ l, -9223372036854775808 ≤ k ∧ k ≤ 9223372036854775807) (hlen : l.length ≤ 1000000)
    (hh : (MP rb f * (F * tt)) h) (hK : ∀ v h', (SG iE 3 v l * (MP rb f * (F * tt))) h' → K v h') :
    CallH Tryz.prog 47 #[.map (some rb)] (fun v1 h1 => CallH Tryz.prog 46 #[v1] K h1) h := by
  refine C47 ?_
  unfold D47
  refine vA_new (o := .cells #[.map (some rb)] 60 (0, 0)) (f := ptrV) hh fun r h1 hh1 => ?_
  repeat (with_reducible first | refine vP_so ?_ | refine vB_t ?_ | refine vB_f ?_ | refine vE_tt ?_ | refine vE_ff ?_ | refine vE_tf ?_ | refine vE_ft ?_ | refine vE_u ?_ | refine vP_to (by simp (disch := omega) only [gdW_true, gdW_false, gB_true, gB_false, gB_undef, pickV_true, pickV_false, Bool.not_true, Bool.not_false, Option.map_some, bin_add, bin_sub, bin_mul, bin_quo, bin_rem, lss_t, lss_f, leq_t, leq_f, gtr_t, gtr_f, geq_t, geq_f, eqi_t, eqi_f, nei_t, nei_f, rem_uw, conv_ui, conv_iu, conv_ii, not_bool, nil_ptr, fa_mk, ptrV, len_mk, cap_mk, eq_ptr_nil, ne_ptr_nil, eq_nil_nil, ne_nil_nil, eq_slice_nil, eq_nil_slice, ia_1]; exact so_so) ?_)
  refine C46 ?_
  unfold D46
  refine C88 ?_
  unfold D88
  have hh2 : (MP rb f * (pt r (.cells #[.map (some rb)] 60 (0, 0)) * (F * tt))) h1 := asr (by ac_rfl) hh1
  obtain ⟨es, c, hok, hf, hp⟩ := MP_elim hh2
  have hkeys : ∀ x, x ∈ es.map Ent.key ↔ x ∈ l := fun x => by
    rw [hm, ← hf x, List.mem_map]
    unfold mget
    constructor
    · rintro ⟨e, he, rfl⟩
      cases hq : es.find? (fun q => q.key == e.key) with
      | some q => rfl
      | none => have := List.find?_eq_none.1 hq e he; simp at this
    · intro hs
      cases hq : es.find? (fun q => q.key == x) with
      | none => rw [hq] at hs; cases hs
      | some q =>
        have h1 := List.find?_some hq
        exact ⟨q, List.mem_of_find?_eq_some hq, by simpa using h1⟩
  have hnd : (es.map Ent.key).Nodup := List.pairwise_map.2 hok.keys
  have hlk : es.length ≤ 1000000 := by
    have h1 : (es.map Ent.key).Perm l := (List.perm_ext_iff_of_nodup hnd (hl.imp fun h => by omega)).2 hkeys
    have := h1.length_eq
    rw [List.length_map] at this
    omega
  refine callH_ownS (E := 3) (S := fun xs => xs.Perm (es.map Ent.key)) hh2 (fun w fr e => ?_) fun v xs h2 hS hh3 => ?_
  · have hbm : w.heap[rb]? = some (.map (es.map Ent.mk').toArray c) := by
      have : w.hp rb = some (.map (es.map Ent.mk').toArray c) := by rw [e]; exact Hp.add_of_left (pt_get hp)
      exact this
    have hbr : w.heap[r]? = some (.cells #[.map (some rb)] 60 (0, 0)) := by
      have : w.hp r = some (.cells #[.map (some rb)] 60 (0, 0)) := by rw [e]; exact Hp.add_of_left (pt_get hh1)
      exact this
    have hcr : w.cell? ⟨r, 0, none⟩ = some (.map (some rb)) := by
      rw [cell?_hp]
      unfold Hp.cell
      have : w.hp r = some (.cells #[.map (some rb)] 60 (0, 0)) := hbr
      simp only [this, Option.bind_some]
      rfl
    obtain ⟨D, hown, hperm, hsize⟩ := owns_of (P := Tryz.prog) (tk := 3) Tryz.underlying3 hbm hok (fun x hx => hbd _ ((hkeys _).1 (List.mem_map_of_mem hx))) hlk
    have hg := AnyZI.keys_gives keysS Fence.wide 1 trivial rfl (Nat.le_refl 1) r rb es.length D (R := anyR) w (Array.getElem?_eq_some_iff.1 hbr).1 hcr hown
    refine (callsIn_wide.1 (AnyZI.appendSeq_in appQ Fence.wide 2 trivial rfl (Nat.le_refl 2) 90 #[.pointer (some ⟨r, 0, none⟩)] trivial (enters_of Tryz.func90 (by kernel_rfl) rfl) _ (Maps.size D) (by rw [hsize]; unfold maxLen; omega) (by rw [hsize]; omega) w hg)).mono ?_
    rintro e' w' ⟨v, ss, rfl, hS, hrow, _, hb⟩
    exact ⟨v, ss, rfl, hS.trans hperm, hrow, hb⟩
  · have hxl : xs.length ≤ 1000000 := by rw [hS.length_eq, List.length_map]; exact hlk
    refine use_sort sortC (by omega) hh3 fun h4 hh4 => ?_
    rw [srt_of_perm hS hnd hl fun x => (hkeys x).symm] at hh4
    exact hK v h4 (dropL (P := pt r (.cells #[.map (some rb)] 60 (0, 0))) (Q := SG iE 3 v l * (MP rb f * F)) (asr (by ac_rfl) hh4) |> asr (by ac_rfl))

end Go.Proofs

/-
  The spans' numbers, in order.
-/
set_option maxRecDepth 100000
set_option maxHeartbeats 1000000
namespace Go.Proofs
open Go.Sl

theorem use_aspans {g : Hp} {a : Nat} {st : Ar} {N : Nat} {l : List Int} (ok : AOk st N) (hl : Rise l) (hm : ∀ k, k ∈ l ↔ (st.sp k).isSome = true) (hlen : l.length ≤ 1000000) (hN : N ≤ 1000000) {F : Asrt} {K : Value → Hp → Prop} {h : Hp} (hh : (AR a st * (own g * (F * tt))) h)
    (hK : ∀ v h', (SG iE 3 v l * (AR a st * (own g * (F * tt)))) h' → K v h') : CallH Tryz.prog 18 #[pB a] K h := by
  refine C18 ?_
  unfold D18
  obtain ⟨ap, rs, ro, rb, hp⟩ := AR_elim hh
  have l1 := ar_ld hp
  obtain ⟨f, H, e1, hq, c1⟩ := MPO_map (show (MPO rs spA st.sp * (pt a (.cells #[pv ap, .map (some rs), .map (some ro), .map (some rb), .int .i64 st.live] 63 (0, 0)) * (PG ap st.n st.runs * (MPO rb obA st.ob * (MP ro (owF st.ow) * (own g * (F * tt))))))) h from asr (by ac_rfl) hp)
  repeat (with_reducible first | refine vP_so ?_ | refine vB_t ?_ | refine vB_f ?_ | refine vE_tt ?_ | refine vE_ff ?_ | refine vE_tf ?_ | refine vE_ft ?_ | refine vE_u ?_ | refine vP_to (by simp (disch := omega) only [gdW_true, gdW_false, gB_true, gB_false, gB_undef, pickV_true, pickV_false, Bool.not_true, Bool.not_false, Option.map_some, bin_add, bin_sub, bin_mul, bin_quo, bin_rem, lss_t, lss_f, leq_t, leq_f, gtr_t, gtr_f, geq_t, geq_f, eqi_t, eqi_f, nei_t, nei_f, rem_uw, conv_ui, conv_iu, conv_ii, not_bool, nil_ptr, fa_mk, ptrV, len_mk, cap_mk, eq_ptr_nil, ne_ptr_nil, eq_nil_nil, ne_nil_nil, eq_slice_nil, eq_nil_slice, ia_1, nilP, l1.2.1]; exact so_so) ?_)
  refine use_keysS (l := l) (F := H * (pt a (.cells #[pv ap, .map (some rs), .map (some ro), .map (some rb), .int .i64 st.live] 63 (0, 0)) * (PG ap st.n st.runs * (MPO rb obA st.ob * (MP ro (owF st.ow) * (own g * F)))))) hl (fun k => by rw [hm, e1]) (fun k hk => ?_) hlen (asr (by ac_rfl) hq) fun v h1 hh1 => ?_
  · have h1 := (hm k).1 hk
    cases hs : st.sp k with
    | none => rw [hs] at h1; cases h1
    | some s => have := ok.sp k s hs; omega
  have hh2 := c1 (SG iE 3 v l * (pt a (.cells #[pv ap, .map (some rs), .map (some ro), .map (some rb), .int .i64 st.live] 63 (0, 0)) * (PG ap st.n st.runs * (MPO rb obA st.ob * (MP ro (owF st.ow) * (own g * (F * tt))))))) h1 (asr (by ac_rfl) hh1)
  have hh3 : (AR a st * (SG iE 3 v l * (own g * (F * tt)))) h1 := AR_intro (asr (by ac_rfl) hh2)
  exact hK v h1 (asr (by ac_rfl) hh3)

end Go.Proofs

/-
  ArenaDrops returns true.
-/
set_option maxRecDepth 100000
set_option maxHeartbeats 2000000
namespace Go.Proofs
open Go.Sl

/-- The first numbers. -/
def firsts (N : Nat) : List Int := (List.range N).map fun (j : Nat) => (j : Int)
theorem firsts_rise (N : Nat) : Rise (firsts N) := by
  unfold Rise firsts
  rw [List.pairwise_map]
  exact List.pairwise_lt_range.imp fun h => by omega
theorem firsts_mem {N : Nat} {y : Int} : y ∈ firsts N ↔ 0 ≤ y ∧ y < N := by
  unfold firsts
  rw [List.mem_map]
  constructor
  · rintro ⟨j, h1, rfl⟩; rw [List.mem_range] at h1; omega
  · rintro ⟨h1, h2⟩; exact ⟨y.toNat, by rw [List.mem_range]; omega, by omega⟩
theorem firsts_len (N : Nat) : (firsts N).length = N := by simp [firsts]

theorem S1_ff {f c : Int} {m : Bool} : ff (S1 f c false m).used = some 0 := by
  cases h : ff (S1 f c false m).used with
  | none =>
    have := ff_none h 0 (by simp [S1])
    simp [S1] at this
  | some k =>
    obtain ⟨b, c⟩ := ff_some h
    cases k with
    | zero => rfl
    | succ k => have := c 0 (by omega); simp [S1] at this

theorem drops_tr (g : Hp) (sv : Value) (xs : List Int) (which klass : Int) (hg : TabG 0 g) (hx : IntsAt g sv xs) : Tr Tryz.prog 3 #[sv, .int .i64 which, .int .i64 klass] (own g) (fun v => pr (v = .bool true) * own g) := by
  refine Tr.of fun h hh => C3 ?_
  unfold D3
  have hlt := hx.lt
  have hh : (own g * (emp * tt)) h := asr (by rw [emp_star]) hh
  by_cases hl0 : xs.length = 0
  · repeat (with_reducible first | refine vP_so ?_ | refine vB_t ?_ | refine vB_f ?_ | refine vE_tt ?_ | refine vE_ff ?_ | refine vE_tf ?_ | refine vE_ft ?_ | refine vE_u ?_ | refine vP_to (by simp (disch := omega) only [gdW_true, gdW_false, gB_true, gB_false, gB_undef, pickV_true, pickV_false, Bool.not_true, Bool.not_false, Option.map_some, bin_add, bin_sub, bin_mul, bin_quo, bin_rem, lss_t, lss_f, leq_t, leq_f, gtr_t, gtr_f, geq_t, geq_f, eqi_t, eqi_f, nei_t, nei_f, rem_uw, conv_ui, conv_iu, conv_ii, not_bool, nil_ptr, fa_mk, ptrV, len_mk, cap_mk, eq_ptr_nil, ne_ptr_nil, eq_nil_nil, ne_nil_nil, eq_slice_nil, eq_nil_slice, ia_1, hx.len]; exact so_so) ?_)
    refine use_told7 hg hh fun h1 hh1 => ?_
    exact ret rfl (asr (by rw [emp_star]) hh1)
  by_cases hlen : 12 < xs.length
  · repeat (with_reducible first | refine vP_so ?_ | refine vB_t ?_ | refine vB_f ?_ | refine vE_tt ?_ | refine vE_ff ?_ | refine vE_tf ?_ | refine vE_ft ?_ | refine vE_u ?_ | refine vP_to (by simp (disch := omega) only [gdW_true, gdW_false, gB_true, gB_false, gB_undef, pickV_true, pickV_false, Bool.not_true, Bool.not_false, Option.map_some, bin_add, bin_sub, bin_mul, bin_quo, bin_rem, lss_t, lss_f, leq_t, leq_f, gtr_t, gtr_f, geq_t, geq_f, eqi_t, eqi_f, nei_t, nei_f, rem_uw, conv_ui, conv_iu, conv_ii, not_bool, nil_ptr, fa_mk, ptrV, len_mk, cap_mk, eq_ptr_nil, ne_ptr_nil, eq_nil_nil, ne_nil_nil, eq_slice_nil, eq_nil_slice, ia_1, hx.len]; exact so_so) ?_)
    refine use_told7 hg hh fun h1 hh1 => ?_
    exact ret rfl (asr (by rw [emp_star]) hh1)
  repeat (with_reducible first | refine vP_so ?_ | refine vB_t ?_ | refine vB_f ?_ | refine vE_tt ?_ | refine vE_ff ?_ | refine vE_tf ?_ | refine vE_ft ?_ | refine vE_u ?_ | refine vP_to (by simp (disch := omega) only [gdW_true, gdW_false, gB_true, gB_false, gB_undef, pickV_true, pickV_false, Bool.not_true, Bool.not_false, Option.map_some, bin_add, bin_sub, bin_mul, bin_quo, bin_rem, lss_t, lss_f, leq_t, leq_f, gtr_t, gtr_f, geq_t, geq_f, eqi_t, eqi_f, nei_t, nei_f, rem_uw, conv_ui, conv_iu, conv_ii, not_bool, nil_ptr, fa_mk, ptrV, len_mk, cap_mk, eq_ptr_nil, ne_ptr_nil, eq_nil_nil, ne_nil_nil, eq_slice_nil, eq_nil_slice, ia_1, hx.len]; exact so_so) ?_)
  refine use_anew (w := 16384) (F := own g * emp) (asr (by ac_rfl) hh) (fun hb => (hb (by unfold goodW; omega)).elim) fun a h2 _ hh2 => ?_
  have e256 : (16384 : Int) / 64 = 256 := by decide
  rw [e256] at hh2
  have hh2 : (AR a (newAr 256) * (own g * (emp * tt))) h2 := asr (by ac_rfl) hh2
  have hlf : leftS (newAr 256).runs = 255 := by rfl
  repeat (with_reducible first | refine vP_so ?_ | refine vB_t ?_ | refine vB_f ?_ | refine vE_tt ?_ | refine vE_ff ?_ | refine vE_tf ?_ | refine vE_ft ?_ | refine vE_u ?_ | refine vP_to (by simp (disch := omega) only [gdW_true, gdW_false, gB_true, gB_false, gB_undef, pickV_true, pickV_false, Bool.not_true, Bool.not_false, Option.map_some, bin_add, bin_sub, bin_mul, bin_quo, bin_rem, lss_t, lss_f, leq_t, leq_f, gtr_t, gtr_f, geq_t, geq_f, eqi_t, eqi_f, nei_t, nei_f, rem_uw, conv_ui, conv_iu, conv_ii, not_bool, nil_ptr, fa_mk, ptrV, len_mk, cap_mk, eq_ptr_nil, ne_ptr_nil, eq_nil_nil, ne_nil_nil, eq_slice_nil, eq_nil_slice, ia_1, exT0, exT1, ne_refl, nilP]; exact so_so) ?_)
  refine ⟨fun m zs h' => ∃ (i : Nat) (st : Ar) (f c : Nat → Int), zs = [.int .i64 i, .int .i64 (leftS st.runs)] ∧ m = xs.length - i ∧ i ≤ xs.length ∧ AOk st i ∧ Room st.runs (255 - 4 * i) ∧ 255 - 4 * i ≤ leftS st.runs ∧ leftS st.runs ≤ 255 ∧ Rows st i f c (fun _ => false) (fun _ => false) ∧ (∀ j x, j < i → xs[j]? = some x → c j = urem x 16) ∧ (AR a st * (own g * (emp * tt))) h',
    ⟨_, 0, newAr 256, fun _ => 0, fun _ => 0, by rw [hlf]; rfl, rfl, by omega, newAr_ok (by omega), newAr_room (by omega), by rw [hlf]; omega, by rw [hlf]; omega, ⟨fun j hj => by omega, fun j _ => rfl⟩, fun j x hj => by omega, hh2⟩, ?_⟩
  rintro m v10 v9 h3 ⟨i, st, f, c, hzs, rfl, hi, ok, hroom, hl1, hl2, hrow, hcx, hh3⟩ _
  obtain ⟨rfl, rfl⟩ : v10 = .int .i64 i ∧ v9 = .int .i64 (leftS st.runs) := by simpa using hzs
  by_cases hil : i < xs.length
  · have hown : (own g * (AR a st * (emp * tt))) h3 := asr (by ac_rfl) hh3
    obtain ⟨p, f1, f2⟩ := hx.get i xs[i] .i64 (List.getElem?_eq_getElem hil)
    have f2 := own_ld1 hown f2
    have hxi : xs[i]? = some xs[i] := List.getElem?_eq_getElem hil
    generalize xs[i] = x at *
    have hn := urem_lt (x := x) (b := 16) (by omega)
    repeat (with_reducible first | refine vP_so ?_ | refine vB_t ?_ | refine vB_f ?_ | refine vE_tt ?_ | refine vE_ff ?_ | refine vE_tf ?_ | refine vE_ft ?_ | refine vE_u ?_ | refine vP_to (by simp (disch := omega) only [gdW_true, gdW_false, gB_true, gB_false, gB_undef, pickV_true, pickV_false, Bool.not_true, Bool.not_false, Option.map_some, bin_add, bin_sub, bin_mul, bin_quo, bin_rem, lss_t, lss_f, leq_t, leq_f, gtr_t, gtr_f, geq_t, geq_f, eqi_t, eqi_f, nei_t, nei_f, rem_uw, conv_ui, conv_iu, conv_ii, not_bool, nil_ptr, fa_mk, ptrV, len_mk, cap_mk, eq_ptr_nil, ne_ptr_nil, eq_nil_nil, ne_nil_nil, eq_slice_nil, eq_nil_slice, ia_1, hx.len, f1, f2, conv_u .i64 x]; exact so_so) ?_)
    generalize hck : urem x 16 = ck at *
    have hc : 0 ≤ ck ∧ ck < 16 := by omega
    have hpg := pgS_pos hc
    refine use_span1 ok (by omega) hc hroom (by omega) hh3 fun st1 id b h5 r ok1 hh5 => ?_
    obtain rfl := hrow.least r.lst
    have hlr := r.left
    have hroom1 : Room st1.runs (255 - 4 * ((i + 1 : Nat) : Int)) := room_le (SpanR.room ok hc r hroom (by omega)) (by omega)
    have hsp : st1.sp = fput st.sp (i : Int) (S1 b.1 ck false false) := by rw [r.sp, S1_new hc]
    have hspi : st1.sp i = some (S1 b.1 ck false false) := by rw [hsp, fput_eq]
    repeat (with_reducible first | refine vP_so ?_ | refine vB_t ?_ | refine vB_f ?_ | refine vE_tt ?_ | refine vE_ff ?_ | refine vE_tf ?_ | refine vE_ft ?_ | refine vE_u ?_ | refine vP_to (by simp (disch := omega) only [gdW_true, gdW_false, gB_true, gB_false, gB_undef, pickV_true, pickV_false, Bool.not_true, Bool.not_false, Option.map_some, bin_add, bin_sub, bin_mul, bin_quo, bin_rem, lss_t, lss_f, leq_t, leq_f, gtr_t, gtr_f, geq_t, geq_f, eqi_t, eqi_f, nei_t, nei_f, rem_uw, conv_ui, conv_iu, conv_ii, not_bool, nil_ptr, fa_mk, ptrV, len_mk, cap_mk, eq_ptr_nil, ne_ptr_nil, eq_nil_nil, ne_nil_nil, eq_slice_nil, eq_nil_slice, ia_1, exV0, exV1, ne_refl]; exact so_so) ?_)
    refine use_refPages (F := AR a st1 * (own g * emp)) hc (asr (by ac_rfl) hh5) fun h6 hh6 => ?_
    have hh6 : (AR a st1 * (own g * (emp * tt))) h6 := asr (by ac_rfl) hh6
    repeat (with_reducible first | refine vP_so ?_ | refine vB_t ?_ | refine vB_f ?_ | refine vE_tt ?_ | refine vE_ff ?_ | refine vE_tf ?_ | refine vE_ft ?_ | refine vE_u ?_ | refine vP_to (by simp (disch := omega) only [gdW_true, gdW_false, gB_true, gB_false, gB_undef, pickV_true, pickV_false, Bool.not_true, Bool.not_false, Option.map_some, bin_add, bin_sub, bin_mul, bin_quo, bin_rem, lss_t, lss_f, leq_t, leq_f, gtr_t, gtr_f, geq_t, geq_f, eqi_t, eqi_f, nei_t, nei_f, rem_uw, conv_ui, conv_iu, conv_ii, not_bool, nil_ptr, fa_mk, ptrV, len_mk, cap_mk, eq_ptr_nil, ne_ptr_nil, eq_nil_nil, ne_nil_nil, eq_slice_nil, eq_nil_slice, ia_1, ne_refl]; exact so_so) ?_)
    refine use_aclass hh6 ?_
    have e1 : clsV (st1.sp i) = ck := by rw [hspi]; rfl
    rw [e1]
    repeat (with_reducible first | refine vP_so ?_ | refine vB_t ?_ | refine vB_f ?_ | refine vE_tt ?_ | refine vE_ff ?_ | refine vE_tf ?_ | refine vE_ft ?_ | refine vE_u ?_ | refine vP_to (by simp (disch := omega) only [gdW_true, gdW_false, gB_true, gB_false, gB_undef, pickV_true, pickV_false, Bool.not_true, Bool.not_false, Option.map_some, bin_add, bin_sub, bin_mul, bin_quo, bin_rem, lss_t, lss_f, leq_t, leq_f, gtr_t, gtr_f, geq_t, geq_f, eqi_t, eqi_f, nei_t, nei_f, rem_uw, conv_ui, conv_iu, conv_ii, not_bool, nil_ptr, fa_mk, ptrV, len_mk, cap_mk, eq_ptr_nil, ne_ptr_nil, eq_nil_nil, ne_nil_nil, eq_slice_nil, eq_nil_slice, ia_1, ne_refl]; exact so_so) ?_)
    refine use_afull hg ok1 hh6 ?_
    have e2 : fullV (st1.sp i) = false := by rw [hspi]; show (ff (S1 b.1 ck false false).used).isNone = false; rw [S1_ff]; rfl
    rw [e2]
    repeat (with_reducible first | refine vP_so ?_ | refine vB_t ?_ | refine vB_f ?_ | refine vE_tt ?_ | refine vE_ff ?_ | refine vE_tf ?_ | refine vE_ft ?_ | refine vE_u ?_ | refine vP_to (by simp (disch := omega) only [gdW_true, gdW_false, gB_true, gB_false, gB_undef, pickV_true, pickV_false, Bool.not_true, Bool.not_false, Option.map_some, bin_add, bin_sub, bin_mul, bin_quo, bin_rem, lss_t, lss_f, leq_t, leq_f, gtr_t, gtr_f, geq_t, geq_f, eqi_t, eqi_f, nei_t, nei_f, rem_uw, conv_ui, conv_iu, conv_ii, not_bool, nil_ptr, fa_mk, ptrV, len_mk, cap_mk, eq_ptr_nil, ne_ptr_nil, eq_nil_nil, ne_nil_nil, eq_slice_nil, eq_nil_slice, ia_1]; exact so_so) ?_)
    refine use_aleft ok1 hh6 fun h8 hh8 => ?_
    rw [hlr]
    repeat (with_reducible first | refine vP_so ?_ | refine vB_t ?_ | refine vB_f ?_ | refine vE_tt ?_ | refine vE_ff ?_ | refine vE_tf ?_ | refine vE_ft ?_ | refine vE_u ?_ | refine vP_to (by simp (disch := omega) only [gdW_true, gdW_false, gB_true, gB_false, gB_undef, pickV_true, pickV_false, Bool.not_true, Bool.not_false, Option.map_some, bin_add, bin_sub, bin_mul, bin_quo, bin_rem, lss_t, lss_f, leq_t, leq_f, gtr_t, gtr_f, geq_t, geq_f, eqi_t, eqi_f, nei_t, nei_f, rem_uw, conv_ui, conv_iu, conv_ii, not_bool, nil_ptr, fa_mk, ptrV, len_mk, cap_mk, eq_ptr_nil, ne_ptr_nil, eq_nil_nil, ne_nil_nil, eq_slice_nil, eq_nil_slice, ia_1, ne_refl]; exact so_so) ?_)
    have hrow1 := hrow.more hc hsp
    have hu : (up (fun _ => false) i false : Nat → Bool) = fun _ => false := by funext j; unfold up; split <;> rfl
    rw [hu] at hrow1
    refine ⟨xs.length - (i + 1), by omega, i + 1, st1, _, _, by rw [hlr]; rfl, rfl, by omega, ok1, hroom1, by omega, by omega, hrow1, fun j y hj hy => ?_, hh8⟩
    by_cases hj' : j = i
    · subst hj'; rw [hxi] at hy; obtain rfl := Option.some.inj hy; rw [up_eq]; exact hck.symm
    · rw [up_ne hj']; exact hcx j y (by omega) hy
  obtain rfl : i = xs.length := by omega
  have hL := hx.len
  have hcu : convV .u64 (.int .i64 xs.length) = some (.int .u64 xs.length) := conv_iu (by omega)
  have hw := urem_lt (x := which) (b := xs.length) (by omega)
  repeat (with_reducible first | refine vP_so ?_ | refine vB_t ?_ | refine vB_f ?_ | refine vE_tt ?_ | refine vE_ff ?_ | refine vE_tf ?_ | refine vE_ft ?_ | refine vE_u ?_ | refine vP_to (by simp (disch := omega) only [gdW_true, gdW_false, gB_true, gB_false, gB_undef, pickV_true, pickV_false, Bool.not_true, Bool.not_false, Option.map_some, bin_add, bin_sub, bin_mul, bin_quo, bin_rem, lss_t, lss_f, leq_t, leq_f, gtr_t, gtr_f, geq_t, geq_f, eqi_t, eqi_f, nei_t, nei_f, rem_uw, conv_ui, conv_iu, conv_ii, not_bool, nil_ptr, fa_mk, ptrV, len_mk, cap_mk, eq_ptr_nil, ne_ptr_nil, eq_nil_nil, ne_nil_nil, eq_slice_nil, eq_nil_slice, ia_1, hx.len, hcu, conv_u .i64 which, rem_uw (show 1 ≤ (xs.length : Int) by omega)]; exact so_so) ?_)
  obtain ⟨d, hd⟩ : ∃ d : Nat, urem which xs.length = d := ⟨(urem which xs.length).toNat, by omega⟩
  rw [hd]
  have hdl : d < xs.length := by omega
  obtain ⟨hcd, hspd⟩ := hrow.1 d hdl
  have hszd := szS_pos hcd
  have hspd' : st.sp d = some (newSp (f d) (c d)) := by rw [S1_new hcd]; exact hspd
  refine use_alloc1 (n := 1) (black := false) hg ok (by omega) hcd hspd' ⟨by omega, by omega⟩ hh3 fun h4 ok4 hh4 => ?_
  have ea : (newSp (f d) (c d)).addr 0 = f d * 64 := by rw [S1_new hcd, S1_addr]
  rw [ea]
  have hsp4 : (st.put d (newSp (f d) (c d)) 0 (1 : Int).toNat false).sp = fput st.sp (d : Int) (S1 (f d) (c d) true false) := by rw [put_sp, S1_new hcd, S1_take]; rfl
  have hspd4 : (st.put d (newSp (f d) (c d)) 0 (1 : Int).toNat false).sp d = some (S1 (f d) (c d) true false) := by rw [hsp4, fput_eq]
  have hruns4 : (st.put d (newSp (f d) (c d)) 0 (1 : Int).toNat false).runs = st.runs := rfl
  generalize st.put d (newSp (f d) (c d)) 0 (1 : Int).toNat false = st4 at *
  repeat (with_reducible first | refine vP_so ?_ | refine vB_t ?_ | refine vB_f ?_ | refine vE_tt ?_ | refine vE_ff ?_ | refine vE_tf ?_ | refine vE_ft ?_ | refine vE_u ?_ | refine vP_to (by simp (disch := omega) only [gdW_true, gdW_false, gB_true, gB_false, gB_undef, pickV_true, pickV_false, Bool.not_true, Bool.not_false, Option.map_some, bin_add, bin_sub, bin_mul, bin_quo, bin_rem, lss_t, lss_f, leq_t, leq_f, gtr_t, gtr_f, geq_t, geq_f, eqi_t, eqi_f, nei_t, nei_f, rem_uw, conv_ui, conv_iu, conv_ii, not_bool, nil_ptr, fa_mk, ptrV, len_mk, cap_mk, eq_ptr_nil, ne_ptr_nil, eq_nil_nil, ne_nil_nil, eq_slice_nil, eq_nil_slice, ia_1, exV0, exV1, ne_refl]; exact so_so) ?_)
  refine use_adrop ok4 hh4 (fun e => by rw [hspd4] at e; cases e) (fun s e _ => ?_) fun s st' h' e h0 _ _ => ?_
  rotate_left
  · rw [hspd4] at e; obtain rfl := Option.some.inj e; rw [← ids_len, ids_S1] at h0; simp at h0
  repeat (with_reducible first | refine vP_so ?_ | refine vB_t ?_ | refine vB_f ?_ | refine vE_tt ?_ | refine vE_ff ?_ | refine vE_tf ?_ | refine vE_ft ?_ | refine vE_u ?_ | refine vP_to (by simp (disch := omega) only [gdW_true, gdW_false, gB_true, gB_false, gB_undef, pickV_true, pickV_false, Bool.not_true, Bool.not_false, Option.map_some, bin_add, bin_sub, bin_mul, bin_quo, bin_rem, lss_t, lss_f, leq_t, leq_f, gtr_t, gtr_f, geq_t, geq_f, eqi_t, eqi_f, nei_t, nei_f, rem_uw, conv_ui, conv_iu, conv_ii, not_bool, nil_ptr, fa_mk, ptrV, len_mk, cap_mk, eq_ptr_nil, ne_ptr_nil, eq_nil_nil, ne_nil_nil, eq_slice_nil, eq_nil_slice, ia_1, ne_refl]; exact so_so) ?_)
  refine use_asweep hg ok4 (by omega) hh4 (fun e => by rw [hspd4] at e; cases e) fun s v115 h5 e hh5 => ?_
  rw [hspd4] at e
  obtain rfl := Option.some.inj e
  rw [S1_gone] at hh5
  have ok5 := swept_ok ok4 hspd4
  have hsp5 : (st4.swept d (S1 (f d) (c d) true false)).sp = fput st.sp (d : Int) (S1 (f d) (c d) false false) := by
    show fput st4.sp _ _ = _
    rw [S1_swept, hsp4]
    funext y
    by_cases hy : y = d
    · subst hy; rw [fput_eq, fput_eq]
    · rw [fput_ne hy, fput_ne hy, fput_ne hy]
  have hruns5 : (st4.swept d (S1 (f d) (c d) true false)).runs = st.runs := hruns4
  generalize st4.swept d (S1 (f d) (c d) true false) = st5 at *
  have hspd5 : st5.sp d = some (S1 (f d) (c d) false false) := by rw [hsp5, fput_eq]
  have hob5 : st5.ob (f d * 64) = none := by rw [← S1_addr (c := c d) (u := false) (m := false)]; exact free_ob ok5 hspd5 rfl
  have hh5 : (SG iE 3 v115 [f d * 64] * (AR a st5 * (own g * (emp * tt)))) h5 := by
    have : (((if (true && !false) = true then [0] else []) : List Nat).map (S1 (f d) (c d) true false).addr) = [f d * 64] := by simp [S1_addr]
    rw [this] at hh5
    exact hh5
  have eb : bldV #[.int .i64 0] [(0, 1, .int .i64 (f d * 64))] = some #[.int .i64 (f d * 64)] := rfl
  repeat (with_reducible first | refine vP_so ?_ | refine vB_t ?_ | refine vB_f ?_ | refine vE_tt ?_ | refine vE_ff ?_ | refine vE_tf ?_ | refine vE_ft ?_ | refine vE_u ?_ | refine vP_to (by simp (disch := omega) only [gdW_true, gdW_false, gB_true, gB_false, gB_undef, pickV_true, pickV_false, Bool.not_true, Bool.not_false, Option.map_some, bin_add, bin_sub, bin_mul, bin_quo, bin_rem, lss_t, lss_f, leq_t, leq_f, gtr_t, gtr_f, geq_t, geq_f, eqi_t, eqi_f, nei_t, nei_f, rem_uw, conv_ui, conv_iu, conv_ii, not_bool, nil_ptr, fa_mk, ptrV, len_mk, cap_mk, eq_ptr_nil, ne_ptr_nil, eq_nil_nil, ne_nil_nil, eq_slice_nil, eq_nil_slice, ia_1, exT0, exT1, eb]; exact so_so) ?_)
  refine vA_new (o := .cells #[.int .i64 (f d * 64)] 3 (0, 0)) (f := fun r => .slice (some ⟨r, 0, none⟩) 1 1) hh5 fun r6 h6 hh6 => ?_
  have hz : (([] : List Value) ++ (iE.cs ([f d * 64] : List Int) ++ [])).toArray = (#[.int .i64 (f d * 64)] : Array Value) := rfl
  have hh6 : (SG iE 3 (.slice (some ⟨r6, 0, none⟩) 1 1) [f d * 64] * (SG iE 3 v115 [f d * 64] * (AR a st5 * (own g * (emp * tt))))) h6 :=
      SG_intro iE (pre := []) (post := []) rfl rfl (by simp) (by omega) (by simp) (asr (by rw [hz]) hh6)
  refine use_ints (SG_ints (E := 3) (l := [f d * 64]) (F := SG iE 3 (.slice (some ⟨r6, 0, none⟩) 1 1) [f d * 64] * (AR a st5 * (own g * (emp * tt)))) (asr (by ac_rfl) hh6)) (SG_ints hh6) ?_
  rw [decide_eq_true rfl]
  have hh6 : (AR a st5 * (own g * (emp * tt))) h6 := dropL (P := SG iE 3 (.slice (some ⟨r6, 0, none⟩) 1 1) [f d * 64] * SG iE 3 v115 [f d * 64]) (Q := AR a st5 * (own g * emp)) (asr (by ac_rfl) hh6) |> asr (by ac_rfl)
  repeat (with_reducible first | refine vP_so ?_ | refine vB_t ?_ | refine vB_f ?_ | refine vE_tt ?_ | refine vE_ff ?_ | refine vE_tf ?_ | refine vE_ft ?_ | refine vE_u ?_ | refine vP_to (by simp (disch := omega) only [gdW_true, gdW_false, gB_true, gB_false, gB_undef, pickV_true, pickV_false, Bool.not_true, Bool.not_false, Option.map_some, bin_add, bin_sub, bin_mul, bin_quo, bin_rem, lss_t, lss_f, leq_t, leq_f, gtr_t, gtr_f, geq_t, geq_f, eqi_t, eqi_f, nei_t, nei_f, rem_uw, conv_ui, conv_iu, conv_ii, not_bool, nil_ptr, fa_mk, ptrV, len_mk, cap_mk, eq_ptr_nil, ne_ptr_nil, eq_nil_nil, ne_nil_nil, eq_slice_nil, eq_nil_slice, ia_1]; exact so_so) ?_)
  refine use_adrop ok5 hh6 (fun e => by rw [hspd5] at e; cases e) (fun s e h0 => ?_) fun s st6 h7 e _ rd hh7 => ?_
  · rw [hspd5] at e; obtain rfl := Option.some.inj e; rw [← ids_len, ids_S1] at h0; simp at h0
  have ok6 := rd.ok ok5 e (by assumption)
  rw [hspd5] at e
  obtain rfl := Option.some.inj e
  have hsp6 : st6.sp = fdel st5.sp d := rd.sp
  have hnone6 : st6.sp d = none := by rw [hsp6]; exact fdel_eq _ _
  have hleft6 : leftS st6.runs = leftS st.runs + pgS (c d) := by rw [rd.left, hruns5]; rfl
  have hob6 : st6.ob (f d * 64) = none := by rw [rd.ob]; exact hob5
  have hroom6 : Room st6.runs 4 := DropR.room ok5 rd (m := 4) (by rw [hruns5]; exact room_le hroom (by omega)) (by omega)
  repeat (with_reducible first | refine vP_so ?_ | refine vB_t ?_ | refine vB_f ?_ | refine vE_tt ?_ | refine vE_ff ?_ | refine vE_tf ?_ | refine vE_ft ?_ | refine vE_u ?_ | refine vP_to (by simp (disch := omega) only [gdW_true, gdW_false, gB_true, gB_false, gB_undef, pickV_true, pickV_false, Bool.not_true, Bool.not_false, Option.map_some, bin_add, bin_sub, bin_mul, bin_quo, bin_rem, lss_t, lss_f, leq_t, leq_f, gtr_t, gtr_f, geq_t, geq_f, eqi_t, eqi_f, nei_t, nei_f, rem_uw, conv_ui, conv_iu, conv_ii, not_bool, nil_ptr, fa_mk, ptrV, len_mk, cap_mk, eq_ptr_nil, ne_ptr_nil, eq_nil_nil, ne_nil_nil, eq_slice_nil, eq_nil_slice, ia_1, ne_refl]; exact so_so) ?_)
  refine use_adrop ok6 hh7 (fun _ => ?_) (fun s e h0 => by rw [hnone6] at e; cases e) fun s st6 h7 e _ _ _ => by rw [hnone6] at e; cases e
  repeat (with_reducible first | refine vP_so ?_ | refine vB_t ?_ | refine vB_f ?_ | refine vE_tt ?_ | refine vE_ff ?_ | refine vE_tf ?_ | refine vE_ft ?_ | refine vE_u ?_ | refine vP_to (by simp (disch := omega) only [gdW_true, gdW_false, gB_true, gB_false, gB_undef, pickV_true, pickV_false, Bool.not_true, Bool.not_false, Option.map_some, bin_add, bin_sub, bin_mul, bin_quo, bin_rem, lss_t, lss_f, leq_t, leq_f, gtr_t, gtr_f, geq_t, geq_f, eqi_t, eqi_f, nei_t, nei_f, rem_uw, conv_ui, conv_iu, conv_ii, not_bool, nil_ptr, fa_mk, ptrV, len_mk, cap_mk, eq_ptr_nil, ne_ptr_nil, eq_nil_nil, ne_nil_nil, eq_slice_nil, eq_nil_slice, ia_1, ne_refl]; exact so_so) ?_)
  refine use_aclass hh7 ?_
  have e3 : clsV (st6.sp d) = -1 := by rw [hnone6]; rfl
  rw [e3]
  repeat (with_reducible first | refine vP_so ?_ | refine vB_t ?_ | refine vB_f ?_ | refine vE_tt ?_ | refine vE_ff ?_ | refine vE_tf ?_ | refine vE_ft ?_ | refine vE_u ?_ | refine vP_to (by simp (disch := omega) only [gdW_true, gdW_false, gB_true, gB_false, gB_undef, pickV_true, pickV_false, Bool.not_true, Bool.not_false, Option.map_some, bin_add, bin_sub, bin_mul, bin_quo, bin_rem, lss_t, lss_f, leq_t, leq_f, gtr_t, gtr_f, geq_t, geq_f, eqi_t, eqi_f, nei_t, nei_f, rem_uw, conv_ui, conv_iu, conv_ii, not_bool, nil_ptr, fa_mk, ptrV, len_mk, cap_mk, eq_ptr_nil, ne_ptr_nil, eq_nil_nil, ne_nil_nil, eq_slice_nil, eq_nil_slice, ia_1, ne_refl]; exact so_so) ?_)
  refine use_afull hg ok6 hh7 ?_
  have e4 : fullV (st6.sp d) = true := by rw [hnone6]; rfl
  rw [e4]
  have hown : (own g * (AR a st6 * (emp * tt))) h7 := asr (by ac_rfl) hh7
  obtain ⟨p, f1, f2⟩ := hx.get d xs[d] .i64 (List.getElem?_eq_getElem hdl)
  have f3 := own_ld1 hown f2
  have hcd' := hcx d xs[d] hdl (List.getElem?_eq_getElem hdl)
  generalize xs[d] = x at *
  have hn := urem_lt (x := x) (b := 16) (by omega)
  have hpgd := pgS_pos hcd
  repeat (with_reducible first | refine vP_so ?_ | refine vB_t ?_ | refine vB_f ?_ | refine vE_tt ?_ | refine vE_ff ?_ | refine vE_tf ?_ | refine vE_ft ?_ | refine vE_u ?_ | refine vP_to (by simp (disch := omega) only [gdW_true, gdW_false, gB_true, gB_false, gB_undef, pickV_true, pickV_false, Bool.not_true, Bool.not_false, Option.map_some, bin_add, bin_sub, bin_mul, bin_quo, bin_rem, lss_t, lss_f, leq_t, leq_f, gtr_t, gtr_f, geq_t, geq_f, eqi_t, eqi_f, nei_t, nei_f, rem_uw, conv_ui, conv_iu, conv_ii, not_bool, nil_ptr, fa_mk, ptrV, len_mk, cap_mk, eq_ptr_nil, ne_ptr_nil, eq_nil_nil, ne_nil_nil, eq_slice_nil, eq_nil_slice, ia_1, f1, f3, conv_u .i64 x]; exact so_so) ?_)
  refine use_aleft ok6 hh7 fun h9 hh9 => ?_
  have hown : (own g * (AR a st6 * (emp * tt))) h9 := asr (by ac_rfl) hh9
  have f4 := own_ld1 hown f2
  rw [hleft6, ← hcd']
  refine ⟨f4, ?_⟩
  repeat (with_reducible first | refine vP_so ?_ | refine vB_t ?_ | refine vB_f ?_ | refine vE_tt ?_ | refine vE_ff ?_ | refine vE_tf ?_ | refine vE_ft ?_ | refine vE_u ?_ | refine vP_to (by simp (disch := omega) only [gdW_true, gdW_false, gB_true, gB_false, gB_undef, pickV_true, pickV_false, Bool.not_true, Bool.not_false, Option.map_some, bin_add, bin_sub, bin_mul, bin_quo, bin_rem, lss_t, lss_f, leq_t, leq_f, gtr_t, gtr_f, geq_t, geq_f, eqi_t, eqi_f, nei_t, nei_f, rem_uw, conv_ui, conv_iu, conv_ii, not_bool, nil_ptr, fa_mk, ptrV, len_mk, cap_mk, eq_ptr_nil, ne_ptr_nil, eq_nil_nil, ne_nil_nil, eq_slice_nil, eq_nil_slice, ia_1]; exact so_so) ?_)
  refine use_refPages (F := AR a st6 * (own g * emp)) hcd (asr (by ac_rfl) hh9) fun h10 hh10 => ?_
  have hh10 : (AR a st6 * (own g * (emp * tt))) h10 := asr (by ac_rfl) hh10
  repeat (with_reducible first | refine vP_so ?_ | refine vB_t ?_ | refine vB_f ?_ | refine vE_tt ?_ | refine vE_ff ?_ | refine vE_tf ?_ | refine vE_ft ?_ | refine vE_u ?_ | refine vP_to (by simp (disch := omega) only [gdW_true, gdW_false, gB_true, gB_false, gB_undef, pickV_true, pickV_false, Bool.not_true, Bool.not_false, Option.map_some, bin_add, bin_sub, bin_mul, bin_quo, bin_rem, lss_t, lss_f, leq_t, leq_f, gtr_t, gtr_f, geq_t, geq_f, eqi_t, eqi_f, nei_t, nei_f, rem_uw, conv_ui, conv_iu, conv_ii, not_bool, nil_ptr, fa_mk, ptrV, len_mk, cap_mk, eq_ptr_nil, ne_ptr_nil, eq_nil_nil, ne_nil_nil, eq_slice_nil, eq_nil_slice, ia_1, ne_refl]; exact so_so) ?_)
  refine use_afind ok6 hh10 (fun h11 _ hh11 => ?_) (fun id s i l h' e _ _ e2 _ => by rw [hob6] at e2; cases e2)
  repeat (with_reducible first | refine vP_so ?_ | refine vB_t ?_ | refine vB_f ?_ | refine vE_tt ?_ | refine vE_ff ?_ | refine vE_tf ?_ | refine vE_ft ?_ | refine vE_u ?_ | refine vP_to (by simp (disch := omega) only [gdW_true, gdW_false, gB_true, gB_false, gB_undef, pickV_true, pickV_false, Bool.not_true, Bool.not_false, Option.map_some, bin_add, bin_sub, bin_mul, bin_quo, bin_rem, lss_t, lss_f, leq_t, leq_f, gtr_t, gtr_f, geq_t, geq_f, eqi_t, eqi_f, nei_t, nei_f, rem_uw, conv_ui, conv_iu, conv_ii, not_bool, nil_ptr, fa_mk, ptrV, len_mk, cap_mk, eq_ptr_nil, ne_ptr_nil, eq_nil_nil, ne_nil_nil, eq_slice_nil, eq_nil_slice, ia_1, exT0, exT1]; exact so_so) ?_)
  refine vA_new hh11 fun rr h12 hh12 => ?_
  refine stN_mk (cs := #[.int .i64 0, .int .i64 0]) hh12 rfl rfl (by simp) fun h13 hh13 => ?_
  have hh13 : (AR a st6 * (own g * (emp * tt))) h13 := dropL (P := pt rr _) (Q := AR a st6 * (own g * emp)) (asr (by ac_rfl) hh13) |> asr (by ac_rfl)
  repeat (with_reducible first | refine vP_so ?_ | refine vB_t ?_ | refine vB_f ?_ | refine vE_tt ?_ | refine vE_ff ?_ | refine vE_tf ?_ | refine vE_ft ?_ | refine vE_u ?_ | refine vP_to (by simp (disch := omega) only [gdW_true, gdW_false, gB_true, gB_false, gB_undef, pickV_true, pickV_false, Bool.not_true, Bool.not_false, Option.map_some, bin_add, bin_sub, bin_mul, bin_quo, bin_rem, lss_t, lss_f, leq_t, leq_f, gtr_t, gtr_f, geq_t, geq_f, eqi_t, eqi_f, nei_t, nei_f, rem_uw, conv_ui, conv_iu, conv_ii, not_bool, nil_ptr, fa_mk, ptrV, len_mk, cap_mk, eq_ptr_nil, ne_ptr_nil, eq_nil_nil, ne_nil_nil, eq_slice_nil, eq_nil_slice, ia_1]; exact so_so) ?_)
  refine use_alen hh13 ?_
  have e5 : ((((st6.ob (f d * 64)).getD []).length : Nat) : Int) = 0 := by rw [hob6]; rfl
  rw [e5]
  have hn2 := urem_lt (x := klass) (b := 16) (by omega)
  repeat (with_reducible first | refine vP_so ?_ | refine vB_t ?_ | refine vB_f ?_ | refine vE_tt ?_ | refine vE_ff ?_ | refine vE_tf ?_ | refine vE_ft ?_ | refine vE_u ?_ | refine vP_to (by simp (disch := omega) only [gdW_true, gdW_false, gB_true, gB_false, gB_undef, pickV_true, pickV_false, Bool.not_true, Bool.not_false, Option.map_some, bin_add, bin_sub, bin_mul, bin_quo, bin_rem, lss_t, lss_f, leq_t, leq_f, gtr_t, gtr_f, geq_t, geq_f, eqi_t, eqi_f, nei_t, nei_f, rem_uw, conv_ui, conv_iu, conv_ii, not_bool, nil_ptr, fa_mk, ptrV, len_mk, cap_mk, eq_ptr_nil, ne_ptr_nil, eq_nil_nil, ne_nil_nil, eq_slice_nil, eq_nil_slice, ia_1, ne_refl, conv_u .i64 klass]; exact so_so) ?_)
  generalize urem klass 16 = ck at *
  have hc : 0 ≤ ck ∧ ck < 16 := by omega
  have hpg := pgS_pos hc
  refine use_span1 ok6 (by omega) hc hroom6 (by omega) hh13 fun st7 id b h14 r ok7 hh14 => ?_
  obtain rfl : id = d := Least_uniq r.lst ⟨by omega, hnone6, fun j j1 j2 => by
    obtain ⟨j, rfl⟩ : ∃ k : Nat, j = k := ⟨j.toNat, by omega⟩
    rw [hsp6, fdel_ne (by omega), hsp5, fput_ne (by omega), (hrow.1 j (by omega)).2]
    simp⟩
  have hsp7 : st7.sp = fput st.sp (d : Int) (S1 b.1 ck false false) := by
    rw [r.sp, S1_new hc, hsp6, hsp5]
    funext y
    by_cases hy : y = d
    · subst hy; rw [fput_eq, fput_eq]
    · rw [fput_ne hy, fdel_ne hy, fput_ne hy, fput_ne hy]
  have hmem : ∀ y, y ∈ firsts xs.length ↔ (st7.sp y).isSome = true := fun y => by
    rw [firsts_mem, hsp7]
    by_cases hy : y = d
    · subst hy; rw [fput_eq]; simp; omega
    · rw [fput_ne hy]
      constructor
      · rintro ⟨y1, y2⟩
        obtain ⟨j, rfl⟩ : ∃ k : Nat, y = k := ⟨y.toNat, by omega⟩
        rw [(hrow.1 j (by omega)).2]; rfl
      · intro q
        cases hs : st.sp y with
        | none => rw [hs] at q; cases q
        | some s => have := ok.sp y s hs; omega
  have hlive : st7.live = 0 := by
    rw [ok7.live]
    refine tot_zero fun j hj => ?_
    have z : ∀ f c : Int, wt (some (S1 f c false false)) = 0 := fun f c => by
      show (((S1 f c false false).used.count true : Nat) : Int) * szS c = 0
      rw [← ids_len, ids_S1]; simp
    rw [hsp7]
    by_cases hy : (j : Int) = d
    · rw [hy, fput_eq]; exact z _ _
    · rw [fput_ne hy]
      rcases Nat.lt_or_ge j xs.length with q | q
      · rw [(hrow.1 j q).2]; exact z _ _
      · rw [hrow.2 j q]; rfl
  repeat (with_reducible first | refine vP_so ?_ | refine vB_t ?_ | refine vB_f ?_ | refine vE_tt ?_ | refine vE_ff ?_ | refine vE_tf ?_ | refine vE_ft ?_ | refine vE_u ?_ | refine vP_to (by simp (disch := omega) only [gdW_true, gdW_false, gB_true, gB_false, gB_undef, pickV_true, pickV_false, Bool.not_true, Bool.not_false, Option.map_some, bin_add, bin_sub, bin_mul, bin_quo, bin_rem, lss_t, lss_f, leq_t, leq_f, gtr_t, gtr_f, geq_t, geq_f, eqi_t, eqi_f, nei_t, nei_f, rem_uw, conv_ui, conv_iu, conv_ii, not_bool, nil_ptr, fa_mk, ptrV, len_mk, cap_mk, eq_ptr_nil, ne_ptr_nil, eq_nil_nil, ne_nil_nil, eq_slice_nil, eq_nil_slice, ia_1, exV0, exV1]; exact so_so) ?_)
  refine use_told7 hg (F := AR a st7 * emp) (asr (by ac_rfl) hh14) fun h15 hh15 => ?_
  have hh15 : (AR a st7 * (own g * (emp * tt))) h15 := asr (by ac_rfl) hh15
  repeat (with_reducible first | refine vP_so ?_ | refine vB_t ?_ | refine vB_f ?_ | refine vE_tt ?_ | refine vE_ff ?_ | refine vE_tf ?_ | refine vE_ft ?_ | refine vE_u ?_ | refine vP_to (by simp (disch := omega) only [gdW_true, gdW_false, gB_true, gB_false, gB_undef, pickV_true, pickV_false, Bool.not_true, Bool.not_false, Option.map_some, bin_add, bin_sub, bin_mul, bin_quo, bin_rem, lss_t, lss_f, leq_t, leq_f, gtr_t, gtr_f, geq_t, geq_f, eqi_t, eqi_f, nei_t, nei_f, rem_uw, conv_ui, conv_iu, conv_ii, not_bool, nil_ptr, fa_mk, ptrV, len_mk, cap_mk, eq_ptr_nil, ne_ptr_nil, eq_nil_nil, ne_nil_nil, eq_slice_nil, eq_nil_slice, ia_1, eq_refl']; exact so_so) ?_)
  refine use_aspans ok7 (firsts_rise xs.length) hmem (by rw [firsts_len]; omega) (by omega) hh15 fun v195 h16 hh16 => ?_
  have hl16 := SG_len iE hh16
  rw [firsts_len] at hl16
  have hh16 : (AR a st7 * (own g * (emp * tt))) h16 := dropL (P := SG iE 3 v195 (firsts xs.length)) (Q := AR a st7 * (own g * emp)) (asr (by ac_rfl) hh16) |> asr (by ac_rfl)
  repeat (with_reducible first | refine vP_so ?_ | refine vB_t ?_ | refine vB_f ?_ | refine vE_tt ?_ | refine vE_ff ?_ | refine vE_tf ?_ | refine vE_ft ?_ | refine vE_u ?_ | refine vP_to (by simp (disch := omega) only [gdW_true, gdW_false, gB_true, gB_false, gB_undef, pickV_true, pickV_false, Bool.not_true, Bool.not_false, Option.map_some, bin_add, bin_sub, bin_mul, bin_quo, bin_rem, lss_t, lss_f, leq_t, leq_f, gtr_t, gtr_f, geq_t, geq_f, eqi_t, eqi_f, nei_t, nei_f, rem_uw, conv_ui, conv_iu, conv_ii, not_bool, nil_ptr, fa_mk, ptrV, len_mk, cap_mk, eq_ptr_nil, ne_ptr_nil, eq_nil_nil, ne_nil_nil, eq_slice_nil, eq_nil_slice, ia_1, hl16, hx.len, eq_refl']; exact so_so) ?_)
  refine use_alive hh16 ?_
  rw [hlive]
  repeat (with_reducible first | refine vP_so ?_ | refine vB_t ?_ | refine vB_f ?_ | refine vE_tt ?_ | refine vE_ff ?_ | refine vE_tf ?_ | refine vE_ft ?_ | refine vE_u ?_ | refine vP_to (by simp (disch := omega) only [gdW_true, gdW_false, gB_true, gB_false, gB_undef, pickV_true, pickV_false, Bool.not_true, Bool.not_false, Option.map_some, bin_add, bin_sub, bin_mul, bin_quo, bin_rem, lss_t, lss_f, leq_t, leq_f, gtr_t, gtr_f, geq_t, geq_f, eqi_t, eqi_f, nei_t, nei_f, rem_uw, conv_ui, conv_iu, conv_ii, not_bool, nil_ptr, fa_mk, ptrV, len_mk, cap_mk, eq_ptr_nil, ne_ptr_nil, eq_nil_nil, ne_nil_nil, eq_slice_nil, eq_nil_slice, ia_1, eq_refl']; exact so_so) ?_)
  exact ret rfl (dropL (P := AR a st7) (Q := own g) (asr (by rw [emp_star]) hh16))

end Go.Proofs
