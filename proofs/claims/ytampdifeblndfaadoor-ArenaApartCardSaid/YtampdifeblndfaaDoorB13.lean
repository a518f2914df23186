/-
  Texts of the proof, in one file: Ky, Ar4, Aw, Aw2, AwApart.
-/
import Derived.Test.YtampdifeblndfaaDoorB12
import Derived.Test.YtampdifeblndfaaDoorB8
import Derived.Test.YtampdifeblndfaaDoorB9
import Derived.Test.YtampdifeblndfaaDoorB11
import Derived.Test.YtampdifeblndfaaDoorB5
import Derived.Shelf.SlIterI.Collect
set_option linter.unusedVariables false
set_option linter.unusedSimpArgs false
/-
  slices.Sorted(maps.Keys(m)) at keys that are numbers: the library's own contracts, at memory that is owned.
-/
set_option maxRecDepth 100000
namespace Go.Sl
open Go.RowKit Go.Shelf Go.WideElems

/-- A call that makes a slice of its own, of one of these lists, and keeps all that was. -/
theorem callH_ownS {P : Program} {f : FuncId} {args : Array Value} {K : Value → Hp → Prop} {h : Hp} {E : Nat} {S : List Int → Prop} {F : Asrt} (hF : F h)
    (hc : ∀ (w : World) (fr : Hp), w.hp = h.add fr → Calls P f args w fun e w' => ∃ (v : Value) (xs : List Int), e = .returned v ∧ S xs ∧ w'.ownsRow w.heap.size E 1 v xs.length (xs.map (Value.int .i64)) ∧ Below w.heap.size w w')
    (hK : ∀ v xs h', S xs → (SG iE E v xs * F) h' → K v h') : CallH P f args K h := by
  intro w fr tg d ⟨e, et⟩
  refine (hc w fr e).mono ?_
  rintro e' w' ⟨v, xs, rfl, hS, hrow, hb⟩
  have hkeep : ∀ b o, w.hp b = some o → w'.hp b = some o := fun b o hq => by
    have hlt : b < w.heap.size := (Array.getElem?_eq_some_iff.1 hq).1
    exact (hb.block b hlt).trans hq
  have hh : ∀ b o, h b = some o → w.hp b = some o := fun b o q => by rw [e]; exact Hp.add_of_left q
  have main : ∀ h' : Hp, (∀ b o, h' b = some o → w'.hp b = some o) → (∀ b x, fr b = some x → h' b = none) → K v h' → ∃ v' h'' fr', Ending.returned v = .returned v' ∧ Disj h'' fr' ∧ w'.At tg (h''.add fr') ∧ Grows fr fr' ∧ K v' h'' := fun h' h1 h2 hk => by
    refine ⟨v, h', w'.hp.minus h', rfl, ?_, ⟨?_, ?_⟩, ?_, hk⟩
    · intro b
      rw [Hp.minus_apply]
      cases hq : h' b with
      | none => exact .inl rfl
      | some x => exact .inr (by simp)
    · apply Hp.ext'
      intro b
      rw [Hp.add_apply, Hp.minus_apply]
      cases hq : h' b with
      | none => simp
      | some x => simp [h1 b x hq]
    · rw [hb.os, hb.output, hb.tape]; exact et
    · intro b x hx
      rw [Hp.minus_apply, h2 b x hx]
      simp only [Option.isSome_none, Bool.false_eq_true, if_false]
      refine hkeep b x ?_
      rw [e, Hp.add_apply]
      have hn : h b = none := by
        rcases d b with q | q
        · exact q
        · rw [hx] at q; cases q
      rw [hn]
      simpa using hx
  have hfr : ∀ b x, fr b = some x → h b = none := fun b x hx => by
    rcases d b with q | q
    · exact q
    · rw [hx] at q; cases q
  rcases hrow.2 with ⟨rfl, hn⟩ | ⟨g, cap, cur, rfl, hg, hgb, h1, h2, h3, h4⟩
  · obtain rfl : xs = [] := List.length_eq_zero_iff.1 hn
    exact main h (fun b o q => hkeep b o (hh b o q)) hfr (hK _ _ _ hS (SG_nil iE hF))
  · have hgn : w.hp g = none := by
      show w.heap[g]? = none
      exact Array.getElem?_eq_none hg
    have hng : h g = none := by
      cases hq : h g with
      | none => rfl
      | some x => rw [hh g x hq] at hgn; cases hgn
    have hnf : fr g = none := by
      cases hq : fr g with
      | none => rfl
      | some x =>
        have : w.hp g = some x := by rw [e, Hp.add_apply, hng]; simpa using hq
        rw [this] at hgn; cases hgn
    refine main (h.upd g (.cells cur E (0, 0))) (fun b o q => ?_) (fun b x hx => ?_) (hK _ xs _ hS ?_)
    · by_cases hbg : b = g
      · subst hbg
        rw [Hp.upd_self] at q
        cases q
        exact hgb
      · rw [Hp.upd_ne hbg] at q
        exact hkeep b o (hh b o q)
    · have hbg : b ≠ g := fun q => by rw [q, hnf] at hx; cases hx
      rw [Hp.upd_ne hbg]
      exact hfr b x hx
    · have hcur : cur = ([] ++ (iE.cs xs ++ cur.toList.drop (xs.length * 1))).toArray := by
        apply Array.ext'
        rw [List.nil_append, iE_cs]
        show cur.toList = xs.map _ ++ cur.toList.drop (xs.length * 1)
        rw [← h4, List.take_append_drop]
      have hp := pt_new (o := .cells cur E (0, 0)) hF hng
      have hp : (pt g (.cells ([] ++ (iE.cs xs ++ cur.toList.drop (xs.length * 1))).toArray E (0, 0)) * F) (h.upd g (.cells cur E (0, 0))) := by rw [← hcur]; exact hp
      refine SG_intro iE (pre := []) rfl rfl h1 (by unfold maxLen at h2; omega) ?_ hp
      show (cap - xs.length) * 1 ≤ (cur.toList.drop (xs.length * 1)).length
      have hz : cur.toList.length = cap * 1 := h3
      rw [List.length_drop, hz]
      omega

/-- Whatever a map's values are. -/
def anyR : Value → Option (DataW Unit × List MemPlace) := fun _ => some (.nil, [])

def entL (e : Ent) : Lit × DataW Unit := (.int .i64 e.key, .nil)

theorem keyOf_int {P : Program} {k : TypeId} (hk : P.underlying k = some (.int .i64)) {x : Int} (hx : -9223372036854775808 ≤ x ∧ x ≤ 9223372036854775807) : keyOf P k (.int .i64 x) = some (.int .i64 x) := by
  have hw : (Lit.int .i64 x).wf = true := by
    simp only [Lit.wf, Bool.and_eq_true, decide_eq_true_eq]
    exact ⟨hx.1, hx.2⟩
  unfold keyOf
  rw [hk]
  simp only [mapKey, hk, hw]
  simp

/-- A map that is owned, in a world: the kit's own word for it. -/
theorem owns_of {P : Program} {tk : TypeId} (hk : P.underlying tk = some (.int .i64)) {w : World} {r : Nat} {es : List Ent} {c : Nat} (hb : w.heap[r]? = some (.map (es.map Ent.mk').toArray c)) (hok : MapOk es c)
    (hx : ∀ e ∈ es, -9223372036854775808 ≤ e.key ∧ e.key ≤ 9223372036854775807) (hl : es.length ≤ 1000000) :
    ∃ D : DataW Unit, w.ownsMap P tk anyR r es.length D ∧ (intKeys D).Perm (es.map Ent.key) ∧ Maps.size D = es.length := by
  have hrd : ∀ e ∈ es, rd P tk anyR e.mk' = some (entL e) := fun e he => rd_mk (yv := (.nil, [])) (key := .int .i64 e.key) (val := e.val) (born := e.born) (keyOf_int hk (hx e he)) rfl
  have hmap : (es.map Ent.mk').map (rg P tk anyR) = es.map entL := by
    rw [List.map_map]
    apply List.map_congr_left
    intro e he
    exact rg_of (hrd e he)
  refine ⟨.map ((es.map entL).foldr DataW.insert []), ⟨(es.map Ent.mk').toArray, c, hb, ⟨by simp; unfold maxLen; omega, ⟨?_, ?_, ?_⟩, ?_⟩, by simp, by simp only [List.toList_toArray]; rw [hmap]⟩, ?_, ?_⟩
  · intro x h
    simp only [List.toList_toArray, List.mem_map] at h
    obtain ⟨e, he, rfl⟩ := h
    exact hok.lt e he
  · simp only [List.toList_toArray, List.map_map]
    exact List.pairwise_map.2 (hok.borns.imp fun h => h)
  · simp only [List.toList_toArray, List.map_map]
    refine List.pairwise_map.2 (hok.keys.imp fun {a b} h q => h ?_)
    have : Value.int .i64 a.key = Value.int .i64 b.key := q
    simpa using this
  · intro x h
    simp only [List.toList_toArray, List.mem_map] at h
    obtain ⟨e, he, rfl⟩ := h
    exact ⟨_, hrd e he⟩
  · have h1 : ((es.map entL).foldr DataW.insert []).Perm (es.map entL) := WideShapes.sorted_perm _
    have h2 := h1.map fun p : Lit × DataW Unit => intOf p.1
    rw [List.map_map] at h2
    exact h2
  · have h1 : ((es.map entL).foldr DataW.insert []).Perm (es.map entL) := WideShapes.sorted_perm _
    have := h1.length_eq
    rw [List.length_map] at this
    exact this

end Go.Sl

namespace Go.Proofs
open Go.Sl Go.RowKit Go.Shelf

def keysO_ren : Ren := ⟨fun | 10 => 69 | n => n, fun | 0 => 0 | 4 => 4 | 23 => 52 | 26 => 3 | 3 => 32 | 33 => 30 | n => n, fun | n => n⟩
theorem keysO : SlLaysZI.n10 Tryd.prog keysO_ren where
  mixed := by kernel_rfl
  f10 := ⟨"maps.Keys[map[int][]int,int,[]int]$1", by decide, Tryd.func69.trans (congrArg some (by kernel_rfl))⟩
  t0 := Tryd.underlying0
  a0 := Tryd.isAgg0
  z0 := Tryd.sizeOf0
  v0 := Tryd.zeroValue0
  t4 := Tryd.underlying4
  a4 := Tryd.isAgg4
  z4 := Tryd.sizeOf4
  v4 := Tryd.zeroValue4
  t23 := Tryd.underlying52
  a23 := Tryd.isAgg52
  z23 := Tryd.sizeOf52
  v23 := Tryd.zeroValue52
  t26 := Tryd.underlying3
  a26 := Tryd.isAgg3
  z26 := Tryd.sizeOf3
  v26 := Tryd.zeroValue3
  t33 := Tryd.underlying30
  a33 := Tryd.isAgg30
  z33 := Tryd.sizeOf30
  v33 := Tryd.zeroValue30

def appQ_ren : Ren := ⟨fun | 11 => 79 | n => n, fun | 0 => 0 | 24 => 32 | 26 => 3 | 28 => 66 | 33 => 30 | n => n, fun | n => n⟩
theorem appQ : SlLaysZI.n11 Tryd.prog appQ_ren where
  mixed := by kernel_rfl
  f11 := ⟨"slices.AppendSeq[[]int,int]", by decide, Tryd.func79.trans (congrArg some (by kernel_rfl))⟩
  t0 := Tryd.underlying0
  a0 := Tryd.isAgg0
  z0 := Tryd.sizeOf0
  v0 := Tryd.zeroValue0
  t24 := Tryd.underlying32
  a24 := Tryd.isAgg32
  z24 := Tryd.sizeOf32
  v24 := Tryd.zeroValue32
  t26 := Tryd.underlying3
  a26 := Tryd.isAgg3
  z26 := Tryd.sizeOf3
  v26 := Tryd.zeroValue3
  t28 := Tryd.underlying66
  a28 := Tryd.isAgg66
  z28 := Tryd.sizeOf66
  v28 := Tryd.zeroValue66
  i26 := by kernel_rfl

/-- Rising lists with the same numbers, whatever the order in which they came. -/
theorem srt_of_perm {xs ks l : List Int} (hp : xs.Perm ks) (hn : ks.Nodup) (hl : Rise l) (hm : ∀ x, x ∈ l ↔ x ∈ ks) : srt xs = l :=
  Rise_ext (srt_rise (hp.nodup_iff.2 hn)) hl fun x => by rw [srt_mem, hp.mem_iff, hm]

/-- The objects' keys, in order. -/
theorem use_keysO {rb : Nat} {f : Int → Option Value} {l : List Int} {F : Asrt} {K : Value → Hp → Prop} {h : Hp} (hl : Rise l) (hm : ∀ k, k ∈ l ↔ (f k).isSome = true) (hbd : ∀ k ∈ l, -9223372036854775808 ≤ k ∧ k ≤ 9223372036854775807) (hlen : l.length ≤ 1000000)
    (hh : (MP rb f * (F * tt)) h) (hK : ∀ v h', (SG iE 3 v l * (MP rb f * (F * tt))) h' → K v h') :
    CallH Tryd.prog 44 #[.map (some rb)] (fun v1 h1 => CallH Tryd.prog 43 #[v1] K h1) h := by
  refine C44 ?_
  unfold D44
  refine vA_new (o := .cells #[.map (some rb)] 52 (0, 0)) (f := ptrV) hh fun r h1 hh1 => ?_
  repeat (with_reducible first | refine vP_so ?_ | refine vB_t ?_ | refine vB_f ?_ | refine vE_tt ?_ | refine vE_ff ?_ | refine vE_tf ?_ | refine vE_ft ?_ | refine vE_u ?_ | refine vP_to (by simp (disch := omega) only [gdW_true, gdW_false, gB_true, gB_false, gB_undef, pickV_true, pickV_false, Bool.not_true, Bool.not_false, Option.map_some, bin_add, bin_sub, bin_mul, bin_quo, bin_rem, lss_t, lss_f, leq_t, leq_f, gtr_t, gtr_f, geq_t, geq_f, eqi_t, eqi_f, nei_t, nei_f, rem_uw, conv_ui, conv_iu, conv_ii, not_bool, nil_ptr, fa_mk, ptrV, len_mk, cap_mk, eq_ptr_nil, ne_ptr_nil, eq_nil_nil, ne_nil_nil, eq_slice_nil, eq_nil_slice, ia_1]; exact so_so) ?_)
  refine C43 ?_
  unfold D43
  refine C67 ?_
  unfold D67
  have hh2 : (MP rb f * (pt r (.cells #[.map (some rb)] 52 (0, 0)) * (F * tt))) h1 := asr (by ac_rfl) hh1
  obtain ⟨es, c, hok, hf, hp⟩ := MP_elim hh2
  have hkeys : ∀ x, x ∈ es.map Ent.key ↔ x ∈ l := fun x => by
    rw [hm, ← hf x, List.mem_map]
    unfold mget
    constructor
    · rintro ⟨e, he, rfl⟩
      cases hq : es.find? (fun q => q.key == e.key) with
      | some q => rfl
      | none => have := List.find?_eq_none.1 hq e he; simp at this
    · intro hs
      cases hq : es.find? (fun q => q.key == x) with
      | none => rw [hq] at hs; cases hs
      | some q =>
        have h1 := List.find?_some hq
        exact ⟨q, List.mem_of_find?_eq_some hq, by simpa using h1⟩
  have hnd : (es.map Ent.key).Nodup := List.pairwise_map.2 hok.keys
  have hlk : es.length ≤ 1000000 := by
    have h1 : (es.map Ent.key).Perm l := (List.perm_ext_iff_of_nodup hnd (hl.imp fun h => by omega)).2 hkeys
    have := h1.length_eq
    rw [List.length_map] at this
    omega
  refine callH_ownS (E := 3) (S := fun xs => xs.Perm (es.map Ent.key)) hh2 (fun w fr e => ?_) fun v xs h2 hS hh3 => ?_
  · have hbm : w.heap[rb]? = some (.map (es.map Ent.mk').toArray c) := by
      have : w.hp rb = some (.map (es.map Ent.mk').toArray c) := by rw [e]; exact Hp.add_of_left (pt_get hp)
      exact this
    have hbr : w.heap[r]? = some (.cells #[.map (some rb)] 52 (0, 0)) := by
      have : w.hp r = some (.cells #[.map (some rb)] 52 (0, 0)) := by rw [e]; exact Hp.add_of_left (pt_get hh1)
      exact this
    have hcr : w.cell? ⟨r, 0, none⟩ = some (.map (some rb)) := by
      rw [cell?_hp]
      unfold Hp.cell
      have : w.hp r = some (.cells #[.map (some rb)] 52 (0, 0)) := hbr
      simp only [this, Option.bind_some]
      rfl
    obtain ⟨D, hown, hperm, hsize⟩ := owns_of (P := Tryd.prog) (tk := 3) Tryd.underlying3 hbm hok (fun x hx => hbd _ ((hkeys _).1 (List.mem_map_of_mem hx))) hlk
    have hg := AnyZI.keys_gives keysO Fence.wide 1 trivial rfl (Nat.le_refl 1) r rb es.length D (R := anyR) w (Array.getElem?_eq_some_iff.1 hbr).1 hcr hown
    refine (callsIn_wide.1 (AnyZI.appendSeq_in appQ Fence.wide 2 trivial rfl (Nat.le_refl 2) 69 #[.pointer (some ⟨r, 0, none⟩)] trivial (enters_of Tryd.func69 (by kernel_rfl) rfl) _ (Maps.size D) (by rw [hsize]; unfold maxLen; omega) (by rw [hsize]; omega) w hg)).mono ?_
    rintro e' w' ⟨v, ss, rfl, hS, hrow, _, hb⟩
    exact ⟨v, ss, rfl, hS.trans hperm, hrow, hb⟩
  · have hxl : xs.length ≤ 1000000 := by rw [hS.length_eq, List.length_map]; exact hlk
    refine use_sort sortC (by omega) hh3 fun h4 hh4 => ?_
    rw [srt_of_perm hS hnd hl fun x => (hkeys x).symm] at hh4
    exact hK v h4 (dropL (P := pt r (.cells #[.map (some rb)] 52 (0, 0))) (Q := SG iE 3 v l * (MP rb f * F)) (asr (by ac_rfl) hh4) |> asr (by ac_rfl))

end Go.Proofs

/-
  Objects, in order; what is told of a few.
-/
set_option maxRecDepth 100000
set_option maxHeartbeats 1000000
namespace Go.Proofs
open Go.Sl

theorem ob_bd {st : Ar} {N : Nat} (ok : AOk st N) {a : Int} (h : (st.ob a).isSome = true) : 64 ≤ a ∧ a ≤ 16800000 := by
  obtain ⟨id, s, i, e, h1, rfl⟩ := (ok.ob a).1 h
  have := addr_bd (ok.sp id s e).2.2.1 (List.getElem?_eq_some_iff.1 h1).1
  omega

theorem use_aobjects {g : Hp} {a : Nat} {st : Ar} {N : Nat} {l : List Int} (ok : AOk st N) (hl : Rise l) (hm : ∀ k, k ∈ l ↔ (st.ob k).isSome = true) (hlen : l.length ≤ 1000000) {F : Asrt} {K : Value → Hp → Prop} {h : Hp} (hh : (AR a st * (own g * (F * tt))) h)
    (hK : ∀ v h', (SG iE 3 v l * (AR a st * (own g * (F * tt)))) h' → K v h') : CallH Tryd.prog 21 #[pB a] K h := by
  refine C21 ?_
  unfold D21
  obtain ⟨ap, rs, ro, rb, hp⟩ := AR_elim hh
  have l1 := ar_ld hp
  obtain ⟨f, H, e1, hq, c1⟩ := MPO_map (show (MPO rb obA st.ob * (pt a (.cells #[pv ap, .map (some rs), .map (some ro), .map (some rb), .int .i64 st.live] 54 (0, 0)) * (PG ap st.n st.runs * (MPO rs spA st.sp * (MP ro (owF st.ow) * (own g * (F * tt))))))) h from asr (by ac_rfl) hp)
  repeat (with_reducible first | refine vP_so ?_ | refine vB_t ?_ | refine vB_f ?_ | refine vE_tt ?_ | refine vE_ff ?_ | refine vE_tf ?_ | refine vE_ft ?_ | refine vE_u ?_ | refine vP_to (by simp (disch := omega) only [gdW_true, gdW_false, gB_true, gB_false, gB_undef, pickV_true, pickV_false, Bool.not_true, Bool.not_false, Option.map_some, bin_add, bin_sub, bin_mul, bin_quo, bin_rem, lss_t, lss_f, leq_t, leq_f, gtr_t, gtr_f, geq_t, geq_f, eqi_t, eqi_f, nei_t, nei_f, rem_uw, conv_ui, conv_iu, conv_ii, not_bool, nil_ptr, fa_mk, ptrV, len_mk, cap_mk, eq_ptr_nil, ne_ptr_nil, eq_nil_nil, ne_nil_nil, eq_slice_nil, eq_nil_slice, ia_1, nilP, l1.2.2.2.1]; exact so_so) ?_)
  refine use_keysO (l := l) (F := H * (pt a (.cells #[pv ap, .map (some rs), .map (some ro), .map (some rb), .int .i64 st.live] 54 (0, 0)) * (PG ap st.n st.runs * (MPO rs spA st.sp * (MP ro (owF st.ow) * (own g * F)))))) hl (fun k => by rw [hm, e1]) (fun k hk => by have := ob_bd ok ((hm k).1 hk); omega) hlen (asr (by ac_rfl) hq) fun v h1 hh1 => ?_
  have hh2 := c1 (SG iE 3 v l * (pt a (.cells #[pv ap, .map (some rs), .map (some ro), .map (some rb), .int .i64 st.live] 54 (0, 0)) * (PG ap st.n st.runs * (MPO rs spA st.sp * (MP ro (owF st.ow) * (own g * (F * tt))))))) h1 (asr (by ac_rfl) hh1)
  have hh3 : (AR a st * (SG iE 3 v l * (own g * (F * tt)))) h1 := AR_intro (asr (by ac_rfl) hh2)
  exact hK v h1 (asr (by ac_rfl) hh3)

theorem least0 : Least (fun _ => none) 0 := ⟨by omega, rfl, fun j h1 h2 => by omega⟩

/-- The first span of a new arena. -/
theorem first_span {n : Int} (hn : 6 ≤ n ∧ n ≤ 262144 ∨ n = 4) {k : Int} {st' : Ar} {id : Int} {b : Run} (hk : 0 ≤ k ∧ k < 16) (r : SpanR (newAr n) k st' id b) : b.1 = 1 ∧ id = 0 := by
  have hm := r.mem
  have e : newL n = [(1, n - 1)] := by
    unfold newL
    have e : newN n = n := by unfold newN; omega
    rw [e, if_pos (by omega)]
  have hm : b ∈ newL n := hm
  rw [e, List.mem_singleton] at hm
  exact ⟨by rw [hm], Least_uniq r.lst least0⟩

theorem new_room {n : Int} (hn : 6 ≤ n ∧ n ≤ 262144 ∨ n = 4) : (1, n - 1) ∈ (newAr n).runs := by
  have e : newL n = [(1, n - 1)] := by
    unfold newL
    have e : newN n = n := by unfold newN; omega
    rw [e, if_pos (by omega)]
  show (1, n - 1) ∈ newL n
  rw [e]; simp

theorem use_told7 {g : Hp} (hg : TabG 0 g) {F : Asrt} {K : Value → Hp → Prop} {h : Hp} (hh : (own g * (F * tt)) h) (hK : ∀ h', (own g * (F * tt)) h' → K (.bool true) h') : CallH Tryd.prog 18 #[] K h := by
  refine C18 ?_
  unfold D18
  refine use_anew (w := 256) (F := own g * F) (asr (by ac_rfl) hh) (fun hb => (hb (by unfold goodW; omega)).elim) fun a h1 _ hh1 => ?_
  repeat (with_reducible first | refine vP_so ?_ | refine vB_t ?_ | refine vB_f ?_ | refine vE_tt ?_ | refine vE_ff ?_ | refine vE_tf ?_ | refine vE_ft ?_ | refine vE_u ?_ | refine vP_to (by simp (disch := omega) only [gdW_true, gdW_false, gB_true, gB_false, gB_undef, pickV_true, pickV_false, Bool.not_true, Bool.not_false, Option.map_some, bin_add, bin_sub, bin_mul, bin_quo, bin_rem, lss_t, lss_f, leq_t, leq_f, gtr_t, gtr_f, geq_t, geq_f, eqi_t, eqi_f, nei_t, nei_f, rem_uw, conv_ui, conv_iu, conv_ii, not_bool, nil_ptr, fa_mk, ptrV, len_mk, cap_mk, eq_ptr_nil, ne_ptr_nil, eq_nil_nil, ne_nil_nil, eq_slice_nil, eq_nil_slice, ia_1, exT0, exT1]; exact so_so) ?_)
  refine use_anew (w := 255) (F := AR a (newAr (256 / 64)) * (own g * F)) (asr (by ac_rfl) hh1) (fun _ => ?_) fun a' h2 hb _ => (by unfold goodW at hb; omega)
  have z : eqV 1 true (.int .i64 0) (.int .i64 0) = some (.bool false) := rfl
  have z2 : eqV 1 true (.int .i64 1) (.int .i64 1) = some (.bool false) := rfl
  repeat (with_reducible first | refine vP_so ?_ | refine vB_t ?_ | refine vB_f ?_ | refine vE_tt ?_ | refine vE_ff ?_ | refine vE_tf ?_ | refine vE_ft ?_ | refine vE_u ?_ | refine vP_to (by simp (disch := omega) only [gdW_true, gdW_false, gB_true, gB_false, gB_undef, pickV_true, pickV_false, Bool.not_true, Bool.not_false, Option.map_some, bin_add, bin_sub, bin_mul, bin_quo, bin_rem, lss_t, lss_f, leq_t, leq_f, gtr_t, gtr_f, geq_t, geq_f, eqi_t, eqi_f, nei_t, nei_f, rem_uw, conv_ui, conv_iu, conv_ii, not_bool, nil_ptr, fa_mk, ptrV, len_mk, cap_mk, eq_ptr_nil, ne_ptr_nil, eq_nil_nil, ne_nil_nil, eq_slice_nil, eq_nil_slice, ia_1, exT0, exT1, z, z2, nilP]; exact so_so) ?_)
  have e4 : (256 : Int) / 64 = 4 := by decide
  rw [e4] at hh1
  have hh1 : (AR a (newAr 4) * (own g * (F * tt))) h1 := asr (by ac_rfl) hh1
  have ok0 := newAr_ok (n := 4) (by omega)
  refine use_aspan (k := 0) ok0 (by omega) hh1 (fun _ hb _ => (hb (by omega)).elim) (fun _ _ hno _ => ?_) fun st1 id b h3 hk r hh3 => ?_
  · have := hno _ (new_room (.inr rfl))
    have : pgS 0 = 1 := by decide
    simp only at *
    omega
  obtain ⟨hb1, rfl⟩ := first_span (.inr rfl) hk r
  have ok1 := r.ok ok0 hk
  have hsp : st1.sp 0 = some (newSp 1 0) := by rw [r.sp, fput_eq, hb1]
  repeat (with_reducible first | refine vP_so ?_ | refine vB_t ?_ | refine vB_f ?_ | refine vE_tt ?_ | refine vE_ff ?_ | refine vE_tf ?_ | refine vE_ft ?_ | refine vE_u ?_ | refine vP_to (by simp (disch := omega) only [gdW_true, gdW_false, gB_true, gB_false, gB_undef, pickV_true, pickV_false, Bool.not_true, Bool.not_false, Option.map_some, bin_add, bin_sub, bin_mul, bin_quo, bin_rem, lss_t, lss_f, leq_t, leq_f, gtr_t, gtr_f, geq_t, geq_f, eqi_t, eqi_f, nei_t, nei_f, rem_uw, conv_ui, conv_iu, conv_ii, not_bool, nil_ptr, fa_mk, ptrV, len_mk, cap_mk, eq_ptr_nil, ne_ptr_nil, eq_nil_nil, ne_nil_nil, eq_slice_nil, eq_nil_slice, ia_1, exV0, exV1]; exact so_so) ?_)
  have hff : ff (newSp 1 0).used = some 0 := ff_new (by decide)
  refine use_aalloc (id := 0) (n := 1) (black := true) hg ok1 (by omega) hh3 (fun e => ?_) (fun s _ e hb _ => ?_) (fun s _ e _ hf _ => ?_) fun s i h4 e hn hf hh4 => ?_
  · rw [hsp] at e; cases e
  · rw [hsp] at e; obtain rfl := Option.some.inj e; exact (hb (by decide)).elim
  · rw [hsp] at e; obtain rfl := Option.some.inj e; rw [hff] at hf; cases hf
  rw [hsp] at e
  obtain rfl := Option.some.inj e
  rw [hff] at hf
  obtain rfl := Option.some.inj hf
  have ok2 := put_ok (black := true) (n := 1) ok1 hsp hff (by decide)
  have ea : (newSp 1 0).addr 0 = 64 := by decide
  have e1 : (1 : Int).toNat = 1 := rfl
  rw [e1] at hh4
  rw [ea]
  generalize hst : st1.put 0 (newSp 1 0) 0 1 true = st2 at *
  have hob : st2.ob 64 = some [0] := by rw [← hst]; show fput st1.ob ((newSp 1 0).addr 0) (List.replicate 1 0) 64 = _; rw [ea, fput_eq]; rfl
  repeat (with_reducible first | refine vP_so ?_ | refine vB_t ?_ | refine vB_f ?_ | refine vE_tt ?_ | refine vE_ff ?_ | refine vE_tf ?_ | refine vE_ft ?_ | refine vE_u ?_ | refine vP_to (by simp (disch := omega) only [gdW_true, gdW_false, gB_true, gB_false, gB_undef, pickV_true, pickV_false, Bool.not_true, Bool.not_false, Option.map_some, bin_add, bin_sub, bin_mul, bin_quo, bin_rem, lss_t, lss_f, leq_t, leq_f, gtr_t, gtr_f, geq_t, geq_f, eqi_t, eqi_f, nei_t, nei_f, rem_uw, conv_ui, conv_iu, conv_ii, not_bool, nil_ptr, fa_mk, ptrV, len_mk, cap_mk, eq_ptr_nil, ne_ptr_nil, eq_nil_nil, ne_nil_nil, eq_slice_nil, eq_nil_slice, ia_1, exV0, exV1]; exact so_so) ?_)
  refine use_astore (x := 64) (i := 0) (v := 7) hh4 (fun e => by rw [hob] at e; cases e) (fun l e ho => ?_) fun l c h5 e _ hc hh5 => ?_
  · rw [hob] at e; obtain rfl := Option.some.inj e; exact (ho (by simp)).elim
  rw [hob] at e
  obtain rfl := Option.some.inj e
  have ok3 := store_ok ok2 (a := 64) (l' := [0].set (0 : Int).toNat 7) hob (by simp)
  generalize hst3 : ({ st2 with ob := fput st2.ob 64 ([0].set (0 : Int).toNat 7) } : Ar) = st3 at *
  have hob3 : st3.ob 64 = some [7] := by rw [← hst3]; show fput st2.ob 64 _ 64 = _; rw [fput_eq]; rfl
  have hsp3 : st3.sp 0 = some ((newSp 1 0).take 0 true) := by rw [← hst3]; show st2.sp 0 = _; rw [← hst]; show fput st1.sp 0 _ 0 = _; rw [fput_eq]
  have hlive : st3.live = 1 := by
    rw [← hst3]; show st2.live = 1; rw [← hst]; show st1.live + szS (newSp 1 0).cls = 1; rw [r.live]; rfl
  have hleft : leftS st3.runs = 2 := by
    rw [← hst3]; show leftS st2.runs = 2; rw [← hst]; show leftS st1.runs = 2; rw [r.left]; rfl
  repeat (with_reducible first | refine vP_so ?_ | refine vB_t ?_ | refine vB_f ?_ | refine vE_tt ?_ | refine vE_ff ?_ | refine vE_tf ?_ | refine vE_ft ?_ | refine vE_u ?_ | refine vP_to (by simp (disch := omega) only [gdW_true, gdW_false, gB_true, gB_false, gB_undef, pickV_true, pickV_false, Bool.not_true, Bool.not_false, Option.map_some, bin_add, bin_sub, bin_mul, bin_quo, bin_rem, lss_t, lss_f, leq_t, leq_f, gtr_t, gtr_f, geq_t, geq_f, eqi_t, eqi_f, nei_t, nei_f, rem_uw, conv_ui, conv_iu, conv_ii, not_bool, nil_ptr, fa_mk, ptrV, len_mk, cap_mk, eq_ptr_nil, ne_ptr_nil, eq_nil_nil, ne_nil_nil, eq_slice_nil, eq_nil_slice, ia_1]; exact so_so) ?_)
  refine use_aload (x := 64) (i := 0) hh5 (fun e => by rw [hob3] at e; cases e) (fun l e ho => ?_) fun l c e _ hc => ?_
  · rw [hob3] at e; obtain rfl := Option.some.inj e; exact (ho (by simp)).elim
  rw [hob3] at e
  obtain rfl := Option.some.inj e
  obtain rfl : c = 7 := by have : some (7 : Int) = some c := hc; exact (Option.some.inj this).symm
  repeat (with_reducible first | refine vP_so ?_ | refine vB_t ?_ | refine vB_f ?_ | refine vE_tt ?_ | refine vE_ff ?_ | refine vE_tf ?_ | refine vE_ft ?_ | refine vE_u ?_ | refine vP_to (by simp (disch := omega) only [gdW_true, gdW_false, gB_true, gB_false, gB_undef, pickV_true, pickV_false, Bool.not_true, Bool.not_false, Option.map_some, bin_add, bin_sub, bin_mul, bin_quo, bin_rem, lss_t, lss_f, leq_t, leq_f, gtr_t, gtr_f, geq_t, geq_f, eqi_t, eqi_f, nei_t, nei_f, rem_uw, conv_ui, conv_iu, conv_ii, not_bool, nil_ptr, fa_mk, ptrV, len_mk, cap_mk, eq_ptr_nil, ne_ptr_nil, eq_nil_nil, ne_nil_nil, eq_slice_nil, eq_nil_slice, ia_1, exV0, exV1]; exact so_so) ?_)
  refine use_aload (x := 64) (i := 1) hh5 (fun e => by rw [hob3] at e; cases e) (fun l e ho => ?_) fun l c e h0 hc => ?_
  rotate_left
  · rw [hob3] at e; obtain rfl := Option.some.inj e; have : ([7] : List Int)[1]? = some c := hc; simp at this
  have zz : eqV 1 false (.int .i64 0) (.int .i64 0) = some (.bool true) := rfl
  have z64 : eqV 1 false (.int .i64 64) (.int .i64 64) = some (.bool true) := rfl
  have z7 : eqV 1 false (.int .i64 7) (.int .i64 7) = some (.bool true) := rfl
  have z22 : eqV 1 false (.int .i64 2) (.int .i64 2) = some (.bool true) := rfl
  have z11 : eqV 1 false (.int .i64 1) (.int .i64 1) = some (.bool true) := rfl
  repeat (with_reducible first | refine vP_so ?_ | refine vB_t ?_ | refine vB_f ?_ | refine vE_tt ?_ | refine vE_ff ?_ | refine vE_tf ?_ | refine vE_ft ?_ | refine vE_u ?_ | refine vP_to (by simp (disch := omega) only [gdW_true, gdW_false, gB_true, gB_false, gB_undef, pickV_true, pickV_false, Bool.not_true, Bool.not_false, Option.map_some, bin_add, bin_sub, bin_mul, bin_quo, bin_rem, lss_t, lss_f, leq_t, leq_f, gtr_t, gtr_f, geq_t, geq_f, eqi_t, eqi_f, nei_t, nei_f, rem_uw, conv_ui, conv_iu, conv_ii, not_bool, nil_ptr, fa_mk, ptrV, len_mk, cap_mk, eq_ptr_nil, ne_ptr_nil, eq_nil_nil, ne_nil_nil, eq_slice_nil, eq_nil_slice, ia_1, exV0, exV1, zz, z64, z7, z22]; exact so_so) ?_)
  have huse : ((newSp 1 0).take 0 true).used[0]? = some true := by decide
  refine use_amarked ok3 hh5 (fun _ e _ => by rw [hob3] at e; cases e) fun id s i h6 e h1' h2' hh6 => ?_
  obtain ⟨rfl, rfl⟩ := addr_inj ok3 e hsp3 (List.getElem?_eq_some_iff.1 h1').1 (i' := 0) (by decide) (by rw [← h2']; rfl)
  rw [hsp3] at e
  obtain rfl := Option.some.inj e
  have hmk : hasB ((newSp 1 0).take 0 true).marks ((0 : Nat) : Int) = true := by decide
  rw [hmk]
  repeat (with_reducible first | refine vP_so ?_ | refine vB_t ?_ | refine vB_f ?_ | refine vE_tt ?_ | refine vE_ff ?_ | refine vE_tf ?_ | refine vE_ft ?_ | refine vE_u ?_ | refine vP_to (by simp (disch := omega) only [gdW_true, gdW_false, gB_true, gB_false, gB_undef, pickV_true, pickV_false, Bool.not_true, Bool.not_false, Option.map_some, bin_add, bin_sub, bin_mul, bin_quo, bin_rem, lss_t, lss_f, leq_t, leq_f, gtr_t, gtr_f, geq_t, geq_f, eqi_t, eqi_f, nei_t, nei_f, rem_uw, conv_ui, conv_iu, conv_ii, not_bool, nil_ptr, fa_mk, ptrV, len_mk, cap_mk, eq_ptr_nil, ne_ptr_nil, eq_nil_nil, ne_nil_nil, eq_slice_nil, eq_nil_slice, ia_1]; exact so_so) ?_)
  refine use_amark ok3 hh6 (fun _ e _ => by rw [hob3] at e; cases e) fun id s i h7 e h1' h2' hh7 => ?_
  obtain ⟨rfl, rfl⟩ := addr_inj ok3 e hsp3 (List.getElem?_eq_some_iff.1 h1').1 (i' := 0) (by decide) (by rw [← h2']; rfl)
  rw [hsp3] at e
  obtain rfl := Option.some.inj e
  have ok4 := mark_ok ok3 hsp3 huse
  rw [hmk]
  repeat (with_reducible first | refine vP_so ?_ | refine vB_t ?_ | refine vB_f ?_ | refine vE_tt ?_ | refine vE_ff ?_ | refine vE_tf ?_ | refine vE_ft ?_ | refine vE_u ?_ | refine vP_to (by simp (disch := omega) only [gdW_true, gdW_false, gB_true, gB_false, gB_undef, pickV_true, pickV_false, Bool.not_true, Bool.not_false, Option.map_some, bin_add, bin_sub, bin_mul, bin_quo, bin_rem, lss_t, lss_f, leq_t, leq_f, gtr_t, gtr_f, geq_t, geq_f, eqi_t, eqi_f, nei_t, nei_f, rem_uw, conv_ui, conv_iu, conv_ii, not_bool, nil_ptr, fa_mk, ptrV, len_mk, cap_mk, eq_ptr_nil, ne_ptr_nil, eq_nil_nil, ne_nil_nil, eq_slice_nil, eq_nil_slice, ia_1]; exact so_so) ?_)
  refine use_alive hh7 ?_
  have hl4 : ({ st3 with sp := fput st3.sp 0 (((newSp 1 0).take 0 true).mark 0) } : Ar).live = 1 := hlive
  rw [hl4]
  repeat (with_reducible first | refine vP_so ?_ | refine vB_t ?_ | refine vB_f ?_ | refine vE_tt ?_ | refine vE_ff ?_ | refine vE_tf ?_ | refine vE_ft ?_ | refine vE_u ?_ | refine vP_to (by simp (disch := omega) only [gdW_true, gdW_false, gB_true, gB_false, gB_undef, pickV_true, pickV_false, Bool.not_true, Bool.not_false, Option.map_some, bin_add, bin_sub, bin_mul, bin_quo, bin_rem, lss_t, lss_f, leq_t, leq_f, gtr_t, gtr_f, geq_t, geq_f, eqi_t, eqi_f, nei_t, nei_f, rem_uw, conv_ui, conv_iu, conv_ii, not_bool, nil_ptr, fa_mk, ptrV, len_mk, cap_mk, eq_ptr_nil, ne_ptr_nil, eq_nil_nil, ne_nil_nil, eq_slice_nil, eq_nil_slice, ia_1, z11]; exact so_so) ?_)
  refine use_aleft ok4 hh7 fun h8 hh8 => ?_
  have hl5 : leftS ({ st3 with sp := fput st3.sp 0 (((newSp 1 0).take 0 true).mark 0) } : Ar).runs = 2 := hleft
  rw [hl5]
  repeat (with_reducible first | refine vP_so ?_ | refine vB_t ?_ | refine vB_f ?_ | refine vE_tt ?_ | refine vE_ff ?_ | refine vE_tf ?_ | refine vE_ft ?_ | refine vE_u ?_ | refine vP_to (by simp (disch := omega) only [gdW_true, gdW_false, gB_true, gB_false, gB_undef, pickV_true, pickV_false, Bool.not_true, Bool.not_false, Option.map_some, bin_add, bin_sub, bin_mul, bin_quo, bin_rem, lss_t, lss_f, leq_t, leq_f, gtr_t, gtr_f, geq_t, geq_f, eqi_t, eqi_f, nei_t, nei_f, rem_uw, conv_ui, conv_iu, conv_ii, not_bool, nil_ptr, fa_mk, ptrV, len_mk, cap_mk, eq_ptr_nil, ne_ptr_nil, eq_nil_nil, ne_nil_nil, eq_slice_nil, eq_nil_slice, ia_1, z22]; exact so_so) ?_)
  exact hK h8 (dropL (P := AR a _) (Q := own g * F) (asr (by ac_rfl) hh8) |> asr (by ac_rfl))

end Go.Proofs

/-
  Laws of arena: what they have in common.
-/
set_option maxRecDepth 100000
set_option maxHeartbeats 1000000
namespace Go.Proofs
open Go.Sl

/-- There is a run of so many pages. -/
def Room (l : List Run) (m : Int) : Prop := ∃ r ∈ l, m ≤ r.2

theorem Room.le {l : List Run} {m m' : Int} (h : Room l m) (hm : m' ≤ m) : Room l m' := let ⟨r, h1, h2⟩ := h; ⟨r, h1, by omega⟩

theorem run_start {n : Int} {l : List Run} (hw : WF n l) {r b : Run} (hr : r ∈ l) (hb : b ∈ l) {x : Int} (h1 : r.1 ≤ x ∧ x < r.1 + r.2) (h2 : b.1 ≤ x ∧ x < b.1 + b.2) : r.1 = b.1 := by
  rcases Int.lt_trichotomy r.1 b.1 with q | q | q
  · exact (fr_start hw b hb (fr_mem.2 ⟨r, hr, by omega, by omega⟩)).elim
  · exact q
  · exact (fr_start hw r hr (fr_mem.2 ⟨b, hb, by omega, by omega⟩)).elim

theorem SpanR.room {st st' : Ar} {N : Nat} {k id m : Int} {b : Run} (h : AOk st N) (hk : 0 ≤ k ∧ k < 16) (r : SpanR st k st' id b) (hm : Room st.runs m) (h1 : 1 ≤ m - pgS k) : Room st'.runs (m - pgS k) := by
  obtain ⟨q, hq, hq2⟩ := hm
  have hp := pgS_pos hk
  have hle := r.le
  obtain ⟨s, hs, a1, a2⟩ := fr_run (a := q.1 + pgS k) (b := q.1 + q.2) (by omega) r.wf fun x x1 x2 => by
    rw [r.fr]
    refine ⟨fr_mem.2 ⟨q, hq, by omega, by omega⟩, fun hx => ?_⟩
    have := run_start h.wf hq r.mem (x := x) ⟨by omega, by omega⟩ ⟨hx.1, by omega⟩
    omega
  exact ⟨s, hs, by omega⟩

theorem DropR.room {st st' : Ar} {N : Nat} {id m : Int} {s : Sp} (h : AOk st N) (r : DropR st id s st') (hm : Room st.runs m) (h1 : 1 ≤ m) : Room st'.runs m := by
  obtain ⟨q, hq, hq2⟩ := hm
  obtain ⟨t, ht, a1, a2⟩ := fr_run (a := q.1) (b := q.1 + q.2) (by omega) r.wf fun x x1 x2 => by
    rw [r.fr]
    exact .inl (fr_mem.2 ⟨q, hq, by omega, by omega⟩)
  exact ⟨t, ht, by omega⟩

theorem newAr_room {n : Int} (hn : 2 ≤ n ∧ n ≤ 262144) : Room (newAr n).runs (n - 1) := by
  refine ⟨(1, n - 1), ?_, by simp⟩
  show (1, n - 1) ∈ newL n
  unfold newL
  have e : newN n = n := by unfold newN; omega
  rw [e, if_pos (by omega)]
  simp

theorem ofS_spec {n : Int} (h : 1 ≤ n ∧ n ≤ 256) : (0 ≤ ofS n ∧ ofS n < 16) ∧ n ≤ szS (ofS n) := by
  obtain ⟨a, b, _⟩ := ofN_spec (n := n) h.2
  unfold ofS
  rw [if_pos h]
  exact ⟨by omega, b⟩

theorem use_span1 {g : Hp} {a : Nat} {st : Ar} {N : Nat} {k m : Int} (ok : AOk st N) (hN : N ≤ 1000000) (hk : 0 ≤ k ∧ k < 16) (hm : Room st.runs m) (hp : pgS k ≤ m) {F : Asrt} {K : Value → Hp → Prop} {h : Hp} (hh : (AR a st * (own g * (F * tt))) h)
    (hK : ∀ st' id b h', SpanR st k st' id b → AOk st' (N + 1) → (AR a st' * (own g * (F * tt))) h' → K (tup id 0) h') : CallH Tryd.prog 9 #[pB a, .int .i64 k] K h := by
  refine use_aspan ok hN hh (fun _ hb _ => (hb hk).elim) (fun _ _ hno _ => ?_) fun st' id b h' _ r hh' => hK st' id b h' r (r.ok ok hk) hh'
  obtain ⟨q, hq, hq2⟩ := hm
  have := hno q hq
  omega

theorem newSp_ff {first k : Int} (hk : 0 ≤ k ∧ k < 16) : ff (newSp first k).used = some 0 := ff_new (by have := slS_pos hk; omega)

theorem use_alloc1 {g : Hp} (hg : TabG 0 g) {a : Nat} {st : Ar} {N : Nat} {id n first k : Int} {black : Bool} (ok : AOk st N) (hN : N ≤ 1000000) (hk : 0 ≤ k ∧ k < 16) (hs : st.sp id = some (newSp first k)) (hn : 1 ≤ n ∧ n ≤ szS k) {F : Asrt} {K : Value → Hp → Prop} {h : Hp} (hh : (AR a st * (own g * (F * tt))) h)
    (hK : ∀ h', AOk (st.put id (newSp first k) 0 n.toNat black) N → (AR a (st.put id (newSp first k) 0 n.toNat black) * (own g * (F * tt))) h' → K (tup ((newSp first k).addr 0) 0) h') : CallH Tryd.prog 11 #[pB a, .int .i64 id, .int .i64 n, .bool black] K h := by
  refine use_aalloc hg ok hN hh (fun e => ?_) (fun s _ e hb _ => ?_) (fun s _ e _ hf _ => ?_) fun s i h4 e hn' hf hh4 => ?_
  · rw [hs] at e; cases e
  · rw [hs] at e; obtain rfl := Option.some.inj e; exact (hb hn).elim
  · rw [hs] at e; obtain rfl := Option.some.inj e; rw [newSp_ff hk] at hf; cases hf
  · rw [hs] at e
    obtain rfl := Option.some.inj e
    have hf' := hf
    rw [newSp_ff hk] at hf
    obtain rfl := Option.some.inj hf
    exact hK h4 (put_ok ok hs hf' ⟨by omega, by show ((n.toNat : Nat) : Int) ≤ szS k; omega⟩) hh4

theorem put_sp {st : Ar} {id : Int} {s : Sp} {i n : Nat} {b : Bool} : (st.put id s i n b).sp = fput st.sp id (s.take i b) := rfl
theorem put_ob {st : Ar} {id : Int} {s : Sp} {i n : Nat} {b : Bool} : (st.put id s i n b).ob = fput st.ob (s.addr i) (List.replicate n 0) := rfl
theorem put_live {st : Ar} {id : Int} {s : Sp} {i n : Nat} {b : Bool} : (st.put id s i n b).live = st.live + szS s.cls := rfl
theorem put_runs {st : Ar} {id : Int} {s : Sp} {i n : Nat} {b : Bool} : (st.put id s i n b).runs = st.runs := rfl

theorem rise1 (x : Int) : Rise [x] := by simp [Rise]
theorem rise0 : Rise [] := by simp [Rise]

theorem ne_refl {x : Int} : eqV 1 true (.int .i64 x) (.int .i64 x) = some (.bool false) := nei_f rfl
theorem eq_refl' {x : Int} : eqV 1 false (.int .i64 x) (.int .i64 x) = some (.bool true) := eqi_t rfl

end Go.Proofs

/-
  Laws of arena: fresh spans, lists of objects.
-/
set_option maxRecDepth 100000
set_option maxHeartbeats 1000000
namespace Go.Proofs
open Go.Sl

theorem free_ob {st : Ar} {N : Nat} (ok : AOk st N) {id : Int} {s : Sp} {i : Nat} (hs : st.sp id = some s) (hi : s.used[i]? = some false) : st.ob (s.addr i) = none := by
  cases ho : st.ob (s.addr i) with
  | none => rfl
  | some l =>
    obtain ⟨j, t, m, e, h1, h2⟩ := (ok.ob _).1 (show (st.ob (s.addr i)).isSome = true by rw [ho]; rfl)
    obtain ⟨rfl, rfl⟩ := addr_inj ok hs e (List.getElem?_eq_some_iff.1 hi).1 (List.getElem?_eq_some_iff.1 h1).1 h2
    rw [hs] at e
    obtain rfl := Option.some.inj e
    rw [hi] at h1
    cases h1

theorem newSp_f {first k : Int} (hk : 0 ≤ k ∧ k < 16) : (newSp first k).used[0]? = some false := by
  show (List.replicate (slS k).toNat false)[0]? = _
  rw [List.getElem?_replicate, if_pos (by have := slS_pos hk; omega)]

/-- The places of all objects, rising. -/
def Objs (st : Ar) (l : List Int) : Prop := Rise l ∧ ∀ y, y ∈ l ↔ (st.ob y).isSome = true

theorem Objs_new (n : Int) : Objs (newAr n) [] := ⟨by simp [Rise], fun y => by simp [newAr]⟩

theorem Objs_ob {st st' : Ar} {l : List Int} (h : Objs st l) (e : st'.ob = st.ob) : Objs st' l := ⟨h.1, fun y => by rw [e]; exact h.2 y⟩

theorem Objs_put {st : Ar} {l l' : List Int} (h : Objs st l) {id : Int} {s : Sp} {i n : Nat} {b : Bool} (hr : Rise l') (hm : ∀ y, y ∈ l' ↔ y ∈ l ∨ y = s.addr i) : Objs (st.put id s i n b) l' := by
  refine ⟨hr, fun y => ?_⟩
  rw [hm, put_ob, h.2]
  by_cases hy : y = s.addr i
  · subst hy; rw [fput_eq]; simp
  · rw [fput_ne hy]; simp [hy]

theorem sp_uniq {st : Ar} {N : Nat} (ok : AOk st N) {id id' : Int} {s s' : Sp} {i i' : Nat} (h1 : st.sp id = some s) (h2 : st.sp id' = some s') (hi : i < s.used.length) (hi' : s'.used[i']? = some true) (he : s.addr i = s'.addr i') : id' = id ∧ s' = s ∧ i' = i := by
  obtain ⟨rfl, rfl⟩ := addr_inj ok h1 h2 hi (List.getElem?_eq_some_iff.1 hi').1 he
  rw [h1] at h2
  exact ⟨rfl, (Option.some.inj h2).symm, rfl⟩

theorem take_mark {first k : Int} (hk : 0 ≤ k ∧ k < 16) (b : Bool) : hasB ((newSp first k).take 0 b).marks ((0 : Nat) : Int) = b := by
  have h := slS_pos hk
  have hl : 0 < (slS k).toNat := by omega
  rw [hasB_nat]
  have e : ((newSp first k).take 0 b).marks = if b then (List.replicate (slS k).toNat false).set 0 true else List.replicate (slS k).toNat false := rfl
  rw [e]
  cases b
  · simp [List.getElem?_replicate, hl]
  · simp [List.getElem?_set, hl]

theorem take_used {first k : Int} (hk : 0 ≤ k ∧ k < 16) (b : Bool) : ((newSp first k).take 0 b).used[0]? = some true := by
  have h := slS_pos hk
  show ((List.replicate (slS k).toNat false).set 0 true)[0]? = some true
  rw [List.getElem?_set_self (by rw [List.length_replicate]; omega)]

theorem bne_refl (b : Bool) : eqV 2 true (.bool b) (.bool b) = some (.bool false) := by cases b <;> rfl

theorem room_le {l : List Run} {m m' : Int} (h : Room l m) (hm : m' ≤ m) : Room l m' := h.le hm

theorem goodW_32768 : goodW 32768 := by unfold goodW; omega

end Go.Proofs

/-
  ArenaApart returns true.
-/
set_option maxRecDepth 100000
set_option maxHeartbeats 2000000
namespace Go.Proofs
open Go.Sl

/-- All objects, with their lengths and what lies in them. -/
structure Got (st : Ar) (A L : List Int) (D : Nat → Nat → Int) : Prop where
  len : L.length = A.length
  nd : A.Nodup
  mem : ∀ y, y ∈ A ↔ (st.ob y).isSome = true
  bd : ∀ k ∈ L, 1 ≤ k ∧ k ≤ 256
  val : ∀ (n : Nat) (x k : Int), A[n]? = some x → L[n]? = some k → ∃ l, st.ob x = some l ∧ (l.length : Int) = k ∧ ∀ q : Nat, (q : Int) < k → l[q]? = some (D n q)

theorem Got.ob {st st' : Ar} {A L : List Int} {D : Nat → Nat → Int} (h : Got st A L D) (e : st'.ob = st.ob) : Got st' A L D :=
  ⟨h.len, h.nd, fun y => by rw [e]; exact h.mem y, h.bd, fun n x k h1 h2 => by rw [e]; exact h.val n x k h1 h2⟩

theorem Got.congr {st : Ar} {A L : List Int} {D D' : Nat → Nat → Int} (h : Got st A L D) (e : ∀ (n q : Nat) (k : Int), L[n]? = some k → (q : Int) < k → D n q = D' n q) : Got st A L D' :=
  ⟨h.len, h.nd, h.mem, h.bd, fun n x k h1 h2 => by
    obtain ⟨l, l1, l2, l3⟩ := h.val n x k h1 h2
    exact ⟨l, l1, l2, fun q hq => by rw [l3 q hq, e n q k h2 hq]⟩⟩

/-- One more. -/
theorem Got.more {st : Ar} {A L : List Int} (h : Got st A L fun _ _ => 0) {id : Int} {s : Sp} {i : Nat} {k : Int} (hk : 1 ≤ k ∧ k ≤ 256) (hx : st.ob (s.addr i) = none) : Got (st.put id s i k.toNat false) (A ++ [s.addr i]) (L ++ [k]) fun _ _ => 0 := by
  have hno : s.addr i ∉ A := fun hy => by rw [h.mem, hx] at hy; cases hy
  refine ⟨by simp [h.len], ?_, fun y => ?_, fun z hz => ?_, fun n x z h1 h2 => ?_⟩
  · rw [List.nodup_append]
    refine ⟨h.nd, by simp, fun a ha b hb => ?_⟩
    rw [List.mem_singleton] at hb
    subst hb
    intro e
    exact hno (e ▸ ha)
  · rw [List.mem_append, List.mem_singleton, h.mem, put_ob]
    by_cases hy : y = s.addr i
    · subst hy; rw [fput_eq]; simp
    · rw [fput_ne hy]; simp [hy]
  · rw [List.mem_append, List.mem_singleton] at hz
    rcases hz with hz | rfl
    · exact h.bd z hz
    · exact hk
  · have hn : n < A.length + 1 := by have := (List.getElem?_eq_some_iff.1 h1).1; simpa using this
    by_cases hn' : n < A.length
    · rw [List.getElem?_append_left hn'] at h1
      rw [List.getElem?_append_left (by have := h.len; omega)] at h2
      obtain ⟨l, l1, l2, l3⟩ := h.val n x z h1 h2
      refine ⟨l, ?_, l2, l3⟩
      rw [put_ob, fput_ne (fun e => hno (by rw [← e]; exact List.mem_of_getElem? h1))]
      exact l1
    · obtain rfl : n = A.length := by omega
      rw [List.getElem?_append_right (Nat.le_refl _)] at h1
      rw [List.getElem?_append_right (by have := h.len; omega)] at h2
      have h1 : some (s.addr i) = some x := by simpa using h1
      obtain rfl := Option.some.inj h1
      have h2 : some k = some z := by simpa [h.len] using h2
      obtain rfl := Option.some.inj h2
      refine ⟨List.replicate k.toNat 0, by rw [put_ob, fput_eq], by rw [List.length_replicate]; omega, fun q hq => ?_⟩
      rw [List.getElem?_replicate, if_pos (by omega)]

/-- One slot turned. -/
theorem Got.store {st : Ar} {A L : List Int} {D : Nat → Nat → Int} (h : Got st A L D) {i j : Nat} {x v : Int} {l : List Int} (hx : A[i]? = some x) (hl : st.ob x = some l) : Got { st with ob := fput st.ob x (l.set j v) } A L (fun n q => if n = i ∧ q = j then v else D n q) := by
  refine ⟨h.len, h.nd, fun y => ?_, h.bd, fun n y k h1 h2 => ?_⟩
  · rw [h.mem]
    show _ ↔ (fput st.ob x (l.set j v) y).isSome = true
    by_cases hy : y = x
    · subst hy; rw [fput_eq, hl]; simp
    · rw [fput_ne hy]
  · obtain ⟨m, l1, l2, l3⟩ := h.val n y k h1 h2
    by_cases hn : n = i
    · subst hn
      rw [hx] at h1
      obtain rfl := Option.some.inj h1
      rw [hl] at l1
      obtain rfl := Option.some.inj l1
      refine ⟨_, fput_eq _ _ _, by rw [List.length_set]; exact l2, fun q hq => ?_⟩
      rw [List.getElem?_set]
      by_cases hqj : j = q
      · subst hqj; rw [if_pos rfl, if_pos (by omega), if_pos ⟨rfl, rfl⟩]
      · rw [if_neg hqj, if_neg (fun e => hqj e.2.symm)]; exact l3 q hq
    · have hne : y ≠ x := fun e => by
        subst e
        obtain ⟨p1, e1⟩ := List.getElem?_eq_some_iff.1 h1
        obtain ⟨p2, e2⟩ := List.getElem?_eq_some_iff.1 hx
        exact hn ((List.getElem_inj h.nd).1 (e1.trans e2.symm))
      refine ⟨m, by show fput st.ob x _ y = _; rw [fput_ne hne]; exact l1, l2, fun q hq => ?_⟩
      rw [if_neg (fun e => hn e.1)]
      exact l3 q hq

theorem sorted_of {A : List Int} (hn : A.Nodup) : ∃ l : List Int, Rise l ∧ l.length = A.length ∧ ∀ y, y ∈ l ↔ y ∈ A := by
  refine ⟨A.mergeSort (fun a b => decide (a ≤ b)), ?_, by rw [List.length_mergeSort], fun y => List.mem_mergeSort⟩
  have h1 : (A.mergeSort (fun a b => decide (a ≤ b))).Pairwise fun a b => (decide (a ≤ b)) = true := List.pairwise_mergeSort (fun a b c h1 h2 => by simp at *; omega) (fun a b => by simp; omega) A
  have h2 : (A.mergeSort (fun a b => decide (a ≤ b))).Nodup := (List.mergeSort_perm A _).nodup_iff.2 hn
  unfold Rise
  refine (h1.and h2).imp fun {a b} h => ?_
  have h3 : a ≤ b := by simpa using h.1
  have h4 : a ≠ b := h.2
  omega

theorem apart7_tr (g : Hp) (sv : Value) (xs : List Int) (hg : TabG 0 g) (hx : IntsAt g sv xs) : Tr Tryd.prog 5 #[sv] (own g) (fun v => pr (v = .bool true) * own g) := by
  refine Tr.of fun h hh => C5 ?_
  unfold D5
  have hlt := hx.lt
  have hh : (own g * (emp * tt)) h := asr (by rw [emp_star]) hh
  by_cases hl0 : xs.length = 0
  · repeat (with_reducible first | refine vP_so ?_ | refine vB_t ?_ | refine vB_f ?_ | refine vE_tt ?_ | refine vE_ff ?_ | refine vE_tf ?_ | refine vE_ft ?_ | refine vE_u ?_ | refine vP_to (by simp (disch := omega) only [gdW_true, gdW_false, gB_true, gB_false, gB_undef, pickV_true, pickV_false, Bool.not_true, Bool.not_false, Option.map_some, bin_add, bin_sub, bin_mul, bin_quo, bin_rem, lss_t, lss_f, leq_t, leq_f, gtr_t, gtr_f, geq_t, geq_f, eqi_t, eqi_f, nei_t, nei_f, rem_uw, conv_ui, conv_iu, conv_ii, not_bool, nil_ptr, fa_mk, ptrV, len_mk, cap_mk, eq_ptr_nil, ne_ptr_nil, eq_nil_nil, ne_nil_nil, eq_slice_nil, eq_nil_slice, ia_1, hx.len]; exact so_so) ?_)
    refine use_told7 hg hh fun h1 hh1 => ?_
    exact ret rfl (asr (by rw [emp_star]) hh1)
  by_cases hlen : 30 < xs.length
  · repeat (with_reducible first | refine vP_so ?_ | refine vB_t ?_ | refine vB_f ?_ | refine vE_tt ?_ | refine vE_ff ?_ | refine vE_tf ?_ | refine vE_ft ?_ | refine vE_u ?_ | refine vP_to (by simp (disch := omega) only [gdW_true, gdW_false, gB_true, gB_false, gB_undef, pickV_true, pickV_false, Bool.not_true, Bool.not_false, Option.map_some, bin_add, bin_sub, bin_mul, bin_quo, bin_rem, lss_t, lss_f, leq_t, leq_f, gtr_t, gtr_f, geq_t, geq_f, eqi_t, eqi_f, nei_t, nei_f, rem_uw, conv_ui, conv_iu, conv_ii, not_bool, nil_ptr, fa_mk, ptrV, len_mk, cap_mk, eq_ptr_nil, ne_ptr_nil, eq_nil_nil, ne_nil_nil, eq_slice_nil, eq_nil_slice, ia_1, hx.len]; exact so_so) ?_)
    refine use_told7 hg hh fun h1 hh1 => ?_
    exact ret rfl (asr (by rw [emp_star]) hh1)
  repeat (with_reducible first | refine vP_so ?_ | refine vB_t ?_ | refine vB_f ?_ | refine vE_tt ?_ | refine vE_ff ?_ | refine vE_tf ?_ | refine vE_ft ?_ | refine vE_u ?_ | refine vP_to (by simp (disch := omega) only [gdW_true, gdW_false, gB_true, gB_false, gB_undef, pickV_true, pickV_false, Bool.not_true, Bool.not_false, Option.map_some, bin_add, bin_sub, bin_mul, bin_quo, bin_rem, lss_t, lss_f, leq_t, leq_f, gtr_t, gtr_f, geq_t, geq_f, eqi_t, eqi_f, nei_t, nei_f, rem_uw, conv_ui, conv_iu, conv_ii, not_bool, nil_ptr, fa_mk, ptrV, len_mk, cap_mk, eq_ptr_nil, ne_ptr_nil, eq_nil_nil, ne_nil_nil, eq_slice_nil, eq_nil_slice, ia_1, hx.len]; exact so_so) ?_)
  refine use_anew (w := 32768) (F := own g * emp) (asr (by ac_rfl) hh) (fun hb => (hb goodW_32768).elim) fun a h2 _ hh2 => ?_
  have e512 : (32768 : Int) / 64 = 512 := by decide
  rw [e512] at hh2
  have hh2 : (AR a (newAr 512) * (own g * (emp * tt))) h2 := asr (by ac_rfl) hh2
  rw [emp_star] at hh2
  repeat (with_reducible first | refine vP_so ?_ | refine vB_t ?_ | refine vB_f ?_ | refine vE_tt ?_ | refine vE_ff ?_ | refine vE_tf ?_ | refine vE_ft ?_ | refine vE_u ?_ | refine vP_to (by simp (disch := omega) only [gdW_true, gdW_false, gB_true, gB_false, gB_undef, pickV_true, pickV_false, Bool.not_true, Bool.not_false, Option.map_some, bin_add, bin_sub, bin_mul, bin_quo, bin_rem, lss_t, lss_f, leq_t, leq_f, gtr_t, gtr_f, geq_t, geq_f, eqi_t, eqi_f, nei_t, nei_f, rem_uw, conv_ui, conv_iu, conv_ii, not_bool, nil_ptr, fa_mk, ptrV, len_mk, cap_mk, eq_ptr_nil, ne_ptr_nil, eq_nil_nil, ne_nil_nil, eq_slice_nil, eq_nil_slice, ia_1, exT0, exT1, ne_refl, nilP]; exact so_so) ?_)
  refine ⟨fun m zs h' => ∃ (i : Nat) (v6 v5 : Value) (st : Ar) (A L : List Int), zs = [.int .i64 i, v6, v5] ∧ m = xs.length - i ∧ i ≤ xs.length ∧ AOk st i ∧ Room st.runs (511 - 4 * i) ∧ Got st A L (fun _ _ => 0) ∧ A.length ≤ 2 * i ∧ (AR a st * (own g * (SG iE 3 v5 A * SG iE 3 v6 L * tt))) h',
    ⟨_, 0, .slice none 0 0, .slice none 0 0, newAr 512, [], [], rfl, rfl, by omega, newAr_ok (by omega), newAr_room (by omega), ⟨rfl, by simp, fun y => by simp [newAr], by simp, by simp⟩, Nat.le_refl 0, asr (by ac_rfl) (SG_nil iE (E := 3) (SG_nil iE (E := 3) hh2))⟩, ?_⟩
  rintro m v7 v6 v5 h3 ⟨i, v6', v5', st, A, L, hzs, rfl, hi, ok, hroom, hgot, hAl, hh3⟩ _
  obtain ⟨rfl, rfl, rfl⟩ : v7 = .int .i64 i ∧ v6 = v6' ∧ v5 = v5' := by simpa using hzs
  by_cases hil : i < xs.length
  · have hown : (own g * (AR a st * (SG iE 3 v5 A * SG iE 3 v6 L * tt))) h3 := asr (by ac_rfl) hh3
    obtain ⟨p, f1, f2⟩ := hx.get i xs[i] .i64 (List.getElem?_eq_getElem hil)
    have f2 := own_ld1 hown f2
    generalize xs[i] = x at *
    have hn := urem_lt (x := x) (b := 256) (by omega)
    repeat (with_reducible first | refine vP_so ?_ | refine vB_t ?_ | refine vB_f ?_ | refine vE_tt ?_ | refine vE_ff ?_ | refine vE_tf ?_ | refine vE_ft ?_ | refine vE_u ?_ | refine vP_to (by simp (disch := omega) only [gdW_true, gdW_false, gB_true, gB_false, gB_undef, pickV_true, pickV_false, Bool.not_true, Bool.not_false, Option.map_some, bin_add, bin_sub, bin_mul, bin_quo, bin_rem, lss_t, lss_f, leq_t, leq_f, gtr_t, gtr_f, geq_t, geq_f, eqi_t, eqi_f, nei_t, nei_f, rem_uw, conv_ui, conv_iu, conv_ii, not_bool, nil_ptr, fa_mk, ptrV, len_mk, cap_mk, eq_ptr_nil, ne_ptr_nil, eq_nil_nil, ne_nil_nil, eq_slice_nil, eq_nil_slice, ia_1, hx.len]; exact so_so) ?_)
    intro J2 hJ2
    have hJ : ∀ (v6' v5' : Value) (st' : Ar) (A' L' : List Int) (h' : Hp), AOk st' (i + 1) → Room st'.runs (511 - 4 * ((i + 1 : Nat) : Int)) → Got st' A' L' (fun _ _ => 0) → A'.length ≤ 2 * (i + 1) → (AR a st' * (own g * (SG iE 3 v5' A' * SG iE 3 v6' L' * tt))) h' → J2 [v6', v5'] h' := fun v6' v5' st' A' L' h' a1 a2 a3 a4 a5 => by
      refine hJ2 _ _ _ fun _ => ?_
      repeat (with_reducible first | refine vP_so ?_ | refine vB_t ?_ | refine vB_f ?_ | refine vE_tt ?_ | refine vE_ff ?_ | refine vE_tf ?_ | refine vE_ft ?_ | refine vE_u ?_ | refine vP_to (by simp (disch := omega) only [gdW_true, gdW_false, gB_true, gB_false, gB_undef, pickV_true, pickV_false, Bool.not_true, Bool.not_false, Option.map_some, bin_add, bin_sub, bin_mul, bin_quo, bin_rem, lss_t, lss_f, leq_t, leq_f, gtr_t, gtr_f, geq_t, geq_f, eqi_t, eqi_f, nei_t, nei_f, rem_uw, conv_ui, conv_iu, conv_ii, not_bool, nil_ptr, fa_mk, ptrV, len_mk, cap_mk, eq_ptr_nil, ne_ptr_nil, eq_nil_nil, ne_nil_nil, eq_slice_nil, eq_nil_slice, ia_1]; exact so_so) ?_)
      exact ⟨xs.length - (i + 1), by omega, i + 1, v6', v5', st', A', L', rfl, rfl, by omega, a1, a2, a3, a4, a5⟩
    clear hJ2
    repeat (with_reducible first | refine vP_so ?_ | refine vB_t ?_ | refine vB_f ?_ | refine vE_tt ?_ | refine vE_ff ?_ | refine vE_tf ?_ | refine vE_ft ?_ | refine vE_u ?_ | refine vP_to (by simp (disch := omega) only [gdW_true, gdW_false, gB_true, gB_false, gB_undef, pickV_true, pickV_false, Bool.not_true, Bool.not_false, Option.map_some, bin_add, bin_sub, bin_mul, bin_quo, bin_rem, lss_t, lss_f, leq_t, leq_f, gtr_t, gtr_f, geq_t, geq_f, eqi_t, eqi_f, nei_t, nei_f, rem_uw, conv_ui, conv_iu, conv_ii, not_bool, nil_ptr, fa_mk, ptrV, len_mk, cap_mk, eq_ptr_nil, ne_ptr_nil, eq_nil_nil, ne_nil_nil, eq_slice_nil, eq_nil_slice, ia_1, hx.len, f1, f2, conv_u .i64 x]; exact so_so) ?_)
    have hk : 1 ≤ 1 + urem x 256 ∧ 1 + urem x 256 ≤ 256 := by omega
    generalize 1 + urem x 256 = k at *
    clear hn f1 f2 hown
    obtain ⟨hc, hkc⟩ := ofS_spec hk
    refine use_rof (F := AR a st * (own g * (SG iE 3 v5 A * SG iE 3 v6 L))) (asr (by ac_rfl) hh3) fun h4 hh4 => ?_
    generalize ofS k = c at *
    have hpg := pgS_pos hc
    repeat (with_reducible first | refine vP_so ?_ | refine vB_t ?_ | refine vB_f ?_ | refine vE_tt ?_ | refine vE_ff ?_ | refine vE_tf ?_ | refine vE_ft ?_ | refine vE_u ?_ | refine vP_to (by simp (disch := omega) only [gdW_true, gdW_false, gB_true, gB_false, gB_undef, pickV_true, pickV_false, Bool.not_true, Bool.not_false, Option.map_some, bin_add, bin_sub, bin_mul, bin_quo, bin_rem, lss_t, lss_f, leq_t, leq_f, gtr_t, gtr_f, geq_t, geq_f, eqi_t, eqi_f, nei_t, nei_f, rem_uw, conv_ui, conv_iu, conv_ii, not_bool, nil_ptr, fa_mk, ptrV, len_mk, cap_mk, eq_ptr_nil, ne_ptr_nil, eq_nil_nil, ne_nil_nil, eq_slice_nil, eq_nil_slice, ia_1]; exact so_so) ?_)
    refine use_span1 (F := SG iE 3 v5 A * SG iE 3 v6 L) ok (by omega) hc hroom (by omega) (asr (by ac_rfl) hh4) fun st1 id b h5 r ok1 hh5 => ?_
    have hsp1 : st1.sp id = some (newSp b.1 c) := by rw [r.sp, fput_eq]
    have hroom1 : Room st1.runs (511 - 4 * ((i + 1 : Nat) : Int)) := room_le (SpanR.room ok hc r hroom (by omega)) (by omega)
    repeat (with_reducible first | refine vP_so ?_ | refine vB_t ?_ | refine vB_f ?_ | refine vE_tt ?_ | refine vE_ff ?_ | refine vE_tf ?_ | refine vE_ft ?_ | refine vE_u ?_ | refine vP_to (by simp (disch := omega) only [gdW_true, gdW_false, gB_true, gB_false, gB_undef, pickV_true, pickV_false, Bool.not_true, Bool.not_false, Option.map_some, bin_add, bin_sub, bin_mul, bin_quo, bin_rem, lss_t, lss_f, leq_t, leq_f, gtr_t, gtr_f, geq_t, geq_f, eqi_t, eqi_f, nei_t, nei_f, rem_uw, conv_ui, conv_iu, conv_ii, not_bool, nil_ptr, fa_mk, ptrV, len_mk, cap_mk, eq_ptr_nil, ne_ptr_nil, eq_nil_nil, ne_nil_nil, eq_slice_nil, eq_nil_slice, ia_1, exV0, exV1, ne_refl]; exact so_so) ?_)
    refine ⟨fun m zs h' => ∃ (j : Nat) (v6 v5 : Value) (st : Ar) (s : Sp) (A L : List Int), zs = [v6, v5, .int .i64 j] ∧ m = 2 - j ∧ j ≤ 2 ∧ AOk st (i + 1) ∧ Room st.runs (511 - 4 * ((i + 1 : Nat) : Int)) ∧ st.sp id = some s ∧ s.cls = c ∧ (j = 0 → ff s.used ≠ none) ∧ Got st A L (fun _ _ => 0) ∧ A.length ≤ 2 * i + j ∧ (AR a st * (own g * (SG iE 3 v5 A * SG iE 3 v6 L * tt))) h',
      ⟨_, 0, v6, v5, st1, _, A, L, rfl, rfl, by omega, ok1, hroom1, hsp1, rfl, fun _ => by rw [newSp_ff hc]; simp, hgot.ob r.ob, by omega, hh5⟩, ?_⟩
    clear hh5 hh4 hh3 hgot hAl hroom1 hsp1 ok1 r hroom ok st1 st A L v5 v6 b hzs
    rintro m v6 v5 v11 h6 ⟨j, v6', v5', st, s, A, L, hzs, rfl, hj, ok, hroom, hs, hsc, hff, hgot, hAl, hh6⟩ _
    obtain ⟨rfl, rfl, rfl⟩ : v6 = v6' ∧ v5 = v5' ∧ v11 = .int .i64 j := by simpa using hzs
    by_cases hj2 : j < 2
    · repeat (with_reducible first | refine vP_so ?_ | refine vB_t ?_ | refine vB_f ?_ | refine vE_tt ?_ | refine vE_ff ?_ | refine vE_tf ?_ | refine vE_ft ?_ | refine vE_u ?_ | refine vP_to (by simp (disch := omega) only [gdW_true, gdW_false, gB_true, gB_false, gB_undef, pickV_true, pickV_false, Bool.not_true, Bool.not_false, Option.map_some, bin_add, bin_sub, bin_mul, bin_quo, bin_rem, lss_t, lss_f, leq_t, leq_f, gtr_t, gtr_f, geq_t, geq_f, eqi_t, eqi_f, nei_t, nei_f, rem_uw, conv_ui, conv_iu, conv_ii, not_bool, nil_ptr, fa_mk, ptrV, len_mk, cap_mk, eq_ptr_nil, ne_ptr_nil, eq_nil_nil, ne_nil_nil, eq_slice_nil, eq_nil_slice, ia_1]; exact so_so) ?_)
      refine use_aalloc (id := id) (n := k) (black := false) hg ok (by omega) hh6 (fun e => by rw [hs] at e; cases e) (fun s' h7 e hb _ => ?_) (fun s' h7 e _ hfull hh7 => ?_) fun s' i' h7 e _ hf hh7 => ?_
      · rw [hs] at e; obtain rfl := Option.some.inj e; exact (hb ⟨by omega, by rw [hsc]; exact hkc⟩).elim
      · rw [hs] at e; obtain rfl := Option.some.inj e
        have hj1 : j = 1 := by
          rcases Nat.lt_or_ge j 1 with q | q
          · exact (hff (by omega) hfull).elim
          · omega
        subst hj1
        have z3 : eqV 1 false (.int .i64 3) (.int .i64 3) = some (.bool true) := rfl
        have z1 : eqV 1 false (.int .i64 ((1 : Nat) : Int)) (.int .i64 1) = some (.bool true) := rfl
        repeat (with_reducible first | refine vP_so ?_ | refine vB_t ?_ | refine vB_f ?_ | refine vE_tt ?_ | refine vE_ff ?_ | refine vE_tf ?_ | refine vE_ft ?_ | refine vE_u ?_ | refine vP_to (by simp (disch := omega) only [gdW_true, gdW_false, gB_true, gB_false, gB_undef, pickV_true, pickV_false, Bool.not_true, Bool.not_false, Option.map_some, bin_add, bin_sub, bin_mul, bin_quo, bin_rem, lss_t, lss_f, leq_t, leq_f, gtr_t, gtr_f, geq_t, geq_f, eqi_t, eqi_f, nei_t, nei_f, rem_uw, conv_ui, conv_iu, conv_ii, not_bool, nil_ptr, fa_mk, ptrV, len_mk, cap_mk, eq_ptr_nil, ne_ptr_nil, eq_nil_nil, ne_nil_nil, eq_slice_nil, eq_nil_slice, ia_1, exV0, exV1, z3, z1]; exact so_so) ?_)
        exact hJ v6 v5 st A L h7 ok hroom hgot (by omega) hh7
      rw [hs] at e; obtain rfl := Option.some.inj e
      obtain ⟨hu, _⟩ := ff_some hf
      have hfree := free_ob ok hs hu
      have okp := put_ok (black := false) (n := k.toNat) ok hs hf ⟨by omega, by rw [hsc]; omega⟩
      have hgp := hgot.more (id := id) hk hfree
      have hobx : (st.put id s i' k.toNat false).ob (s.addr i') = some (List.replicate k.toNat 0) := by rw [put_ob, fput_eq]
      have hspx : (st.put id s i' k.toNat false).sp id = some (s.take i' false) := by rw [put_sp, fput_eq]
      have hroomx : Room (st.put id s i' k.toNat false).runs (511 - 4 * ((i + 1 : Nat) : Int)) := hroom
      have hsc' : (s.take i' false).cls = c := hsc
      generalize st.put id s i' k.toNat false = st2 at *
      generalize s.take i' false = s2 at *
      generalize s.addr i' = y at *
      have hlw : (((st2.ob y).getD []).length : Int) = k := by rw [hobx, Option.getD_some, List.length_replicate]; omega
      have z03 : eqV 1 false (.int .i64 0) (.int .i64 3) = some (.bool false) := rfl
      repeat (with_reducible first | refine vP_so ?_ | refine vB_t ?_ | refine vB_f ?_ | refine vE_tt ?_ | refine vE_ff ?_ | refine vE_tf ?_ | refine vE_ft ?_ | refine vE_u ?_ | refine vP_to (by simp (disch := omega) only [gdW_true, gdW_false, gB_true, gB_false, gB_undef, pickV_true, pickV_false, Bool.not_true, Bool.not_false, Option.map_some, bin_add, bin_sub, bin_mul, bin_quo, bin_rem, lss_t, lss_f, leq_t, leq_f, gtr_t, gtr_f, geq_t, geq_f, eqi_t, eqi_f, nei_t, nei_f, rem_uw, conv_ui, conv_iu, conv_ii, not_bool, nil_ptr, fa_mk, ptrV, len_mk, cap_mk, eq_ptr_nil, ne_ptr_nil, eq_nil_nil, ne_nil_nil, eq_slice_nil, eq_nil_slice, ia_1, exV0, exV1, z03, ne_refl]; exact so_so) ?_)
      refine use_alen hh7 ?_
      rw [hlw]
      have eb1 : bldV #[.int .i64 0] [(0, 1, .int .i64 y)] = some #[.int .i64 y] := rfl
      have eb2 : bldV #[.int .i64 0] [(0, 1, .int .i64 k)] = some #[.int .i64 k] := rfl
      repeat (with_reducible first | refine vP_so ?_ | refine vB_t ?_ | refine vB_f ?_ | refine vE_tt ?_ | refine vE_ff ?_ | refine vE_tf ?_ | refine vE_ft ?_ | refine vE_u ?_ | refine vP_to (by simp (disch := omega) only [gdW_true, gdW_false, gB_true, gB_false, gB_undef, pickV_true, pickV_false, Bool.not_true, Bool.not_false, Option.map_some, bin_add, bin_sub, bin_mul, bin_quo, bin_rem, lss_t, lss_f, leq_t, leq_f, gtr_t, gtr_f, geq_t, geq_f, eqi_t, eqi_f, nei_t, nei_f, rem_uw, conv_ui, conv_iu, conv_ii, not_bool, nil_ptr, fa_mk, ptrV, len_mk, cap_mk, eq_ptr_nil, ne_ptr_nil, eq_nil_nil, ne_nil_nil, eq_slice_nil, eq_nil_slice, ia_1, ne_refl, eb1, eb2]; exact so_so) ?_)
      have hLl := hgot.len
      refine vA_new (o := .cells #[.int .i64 y] 3 (0, 0)) (f := fun r => .slice (some ⟨r, 0, none⟩) 1 1) hh7 fun r8 h8 hh8 => ?_
      refine ap_new iE (l := A) (m := [y]) (F := AR a st2 * (own g * SG iE 3 v6 L)) elInt rfl rfl niInts rfl (by omega) (asr (by ac_rfl) hh8) rfl rfl (by simp only [List.length_singleton]; omega) fun v93 h9 hh9 => ?_
      refine vA_new (o := .cells #[.int .i64 k] 3 (0, 0)) (f := fun r => .slice (some ⟨r, 0, none⟩) 1 1) hh9 fun r10 h10 hh10 => ?_
      refine ap_new iE (l := L) (m := [k]) (F := AR a st2 * (own g * SG iE 3 v93 (A ++ [y]))) elInt rfl rfl niInts rfl (by omega) (asr (by ac_rfl) hh10) rfl rfl (by simp only [List.length_singleton]; omega) fun v97 h11 hh11 => ?_
      repeat (with_reducible first | refine vP_so ?_ | refine vB_t ?_ | refine vB_f ?_ | refine vE_tt ?_ | refine vE_ff ?_ | refine vE_tf ?_ | refine vE_ft ?_ | refine vE_u ?_ | refine vP_to (by simp (disch := omega) only [gdW_true, gdW_false, gB_true, gB_false, gB_undef, pickV_true, pickV_false, Bool.not_true, Bool.not_false, Option.map_some, bin_add, bin_sub, bin_mul, bin_quo, bin_rem, lss_t, lss_f, leq_t, leq_f, gtr_t, gtr_f, geq_t, geq_f, eqi_t, eqi_f, nei_t, nei_f, rem_uw, conv_ui, conv_iu, conv_ii, not_bool, nil_ptr, fa_mk, ptrV, len_mk, cap_mk, eq_ptr_nil, ne_ptr_nil, eq_nil_nil, ne_nil_nil, eq_slice_nil, eq_nil_slice, ia_1]; exact so_so) ?_)
      exact ⟨2 - (j + 1), by omega, j + 1, v97, v93, st2, s2, A ++ [y], L ++ [k], rfl, rfl, by omega, okp, hroomx, hspx, hsc', fun e => by omega, hgp, by simp only [List.length_append, List.length_singleton]; omega, asr (by ac_rfl) hh11⟩
    · repeat (with_reducible first | refine vP_so ?_ | refine vB_t ?_ | refine vB_f ?_ | refine vE_tt ?_ | refine vE_ff ?_ | refine vE_tf ?_ | refine vE_ft ?_ | refine vE_u ?_ | refine vP_to (by simp (disch := omega) only [gdW_true, gdW_false, gB_true, gB_false, gB_undef, pickV_true, pickV_false, Bool.not_true, Bool.not_false, Option.map_some, bin_add, bin_sub, bin_mul, bin_quo, bin_rem, lss_t, lss_f, leq_t, leq_f, gtr_t, gtr_f, geq_t, geq_f, eqi_t, eqi_f, nei_t, nei_f, rem_uw, conv_ui, conv_iu, conv_ii, not_bool, nil_ptr, fa_mk, ptrV, len_mk, cap_mk, eq_ptr_nil, ne_ptr_nil, eq_nil_nil, ne_nil_nil, eq_slice_nil, eq_nil_slice, ia_1]; exact so_so) ?_)
      exact hJ v6 v5 st A L h6 ok hroom hgot (by omega) hh6
  obtain rfl : i = xs.length := by omega
  generalize hN : xs.length = N at *
  repeat (with_reducible first | refine vP_so ?_ | refine vB_t ?_ | refine vB_f ?_ | refine vE_tt ?_ | refine vE_ff ?_ | refine vE_tf ?_ | refine vE_ft ?_ | refine vE_u ?_ | refine vP_to (by simp (disch := omega) only [gdW_true, gdW_false, gB_true, gB_false, gB_undef, pickV_true, pickV_false, Bool.not_true, Bool.not_false, Option.map_some, bin_add, bin_sub, bin_mul, bin_quo, bin_rem, lss_t, lss_f, leq_t, leq_f, gtr_t, gtr_f, geq_t, geq_f, eqi_t, eqi_f, nei_t, nei_f, rem_uw, conv_ui, conv_iu, conv_ii, not_bool, nil_ptr, fa_mk, ptrV, len_mk, cap_mk, eq_ptr_nil, ne_ptr_nil, eq_nil_nil, ne_nil_nil, eq_slice_nil, eq_nil_slice, ia_1, hx.len]; exact so_so) ?_)
  have hLl := hgot.len
  clear hroom
  refine ⟨fun m zs h' => ∃ (i : Nat) (st : Ar), zs = [.int .i64 i] ∧ m = A.length - i ∧ i ≤ A.length ∧ AOk st N ∧ Got st A L (fun n q => if n < i then (n : Int) + 1 else 0) ∧ (AR a st * (own g * (SG iE 3 v5 A * SG iE 3 v6 L * tt))) h',
    ⟨_, 0, st, rfl, rfl, by omega, ok, hgot.congr (fun n q k _ _ => by rw [if_neg (by omega)]), hh3⟩, ?_⟩
  clear hh3 hgot ok st
  rintro m v14 h4 ⟨i, st, hzs, rfl, hi, ok, hgot, hh4⟩ _
  obtain rfl : v14 = .int .i64 i := by simpa using hzs
  have hlA := SG_len (E := 3) (sv := v5) (l := A) iE (F := SG iE 3 v6 L * (AR a st * (own g * tt))) (asr (by ac_rfl) hh4)
  by_cases hiA : i < A.length
  · obtain ⟨x, hAx⟩ : ∃ x, A[i]? = some x := ⟨_, List.getElem?_eq_getElem hiA⟩
    obtain ⟨k, hLk⟩ : ∃ k, L[i]? = some k := ⟨_, List.getElem?_eq_getElem (by omega)⟩
    have hkb := hgot.bd k (List.mem_of_getElem? hLk)
    repeat (with_reducible first | refine vP_so ?_ | refine vB_t ?_ | refine vB_f ?_ | refine vE_tt ?_ | refine vE_ff ?_ | refine vE_tf ?_ | refine vE_ft ?_ | refine vE_u ?_ | refine vP_to (by simp (disch := omega) only [gdW_true, gdW_false, gB_true, gB_false, gB_undef, pickV_true, pickV_false, Bool.not_true, Bool.not_false, Option.map_some, bin_add, bin_sub, bin_mul, bin_quo, bin_rem, lss_t, lss_f, leq_t, leq_f, gtr_t, gtr_f, geq_t, geq_f, eqi_t, eqi_f, nei_t, nei_f, rem_uw, conv_ui, conv_iu, conv_ii, not_bool, nil_ptr, fa_mk, ptrV, len_mk, cap_mk, eq_ptr_nil, ne_ptr_nil, eq_nil_nil, ne_nil_nil, eq_slice_nil, eq_nil_slice, ia_1, hlA]; exact so_so) ?_)
    refine ⟨fun m zs h' => ∃ (j : Nat) (st : Ar), zs = [.int .i64 j] ∧ m = k.toNat - j ∧ (j : Int) ≤ k ∧ AOk st N ∧ Got st A L (fun n q => if n < i ∨ (n = i ∧ q < j) then (n : Int) + 1 else 0) ∧ (AR a st * (own g * (SG iE 3 v5 A * SG iE 3 v6 L * tt))) h',
      ⟨_, 0, st, rfl, rfl, by omega, ok, hgot.congr (fun n q k _ _ => by by_cases h : n < i <;> simp [h]), hh4⟩, ?_⟩
    clear hh4 hgot ok st hlA
    rintro m v15 h5 ⟨j, st, hzs, rfl, hj, ok, hgot, hh5⟩ _
    obtain rfl : v15 = .int .i64 j := by simpa using hzs
    have sA : ∀ {st' : Ar} {h' : Hp}, (AR a st' * (own g * (SG iE 3 v5 A * SG iE 3 v6 L * tt))) h' → (SG iE 3 v5 A * (SG iE 3 v6 L * (AR a st' * (own g * tt)))) h' := fun q => asr (by ac_rfl) q
    have sL : ∀ {st' : Ar} {h' : Hp}, (AR a st' * (own g * (SG iE 3 v5 A * SG iE 3 v6 L * tt))) h' → (SG iE 3 v6 L * (SG iE 3 v5 A * (AR a st' * (own g * tt)))) h' := fun q => asr (by ac_rfl) q
    obtain ⟨p, c1, c2, _⟩ := el1 (sL hh5) hLk .i64
    by_cases hjk : (j : Int) < k
    · obtain ⟨p2, d1, d2, _⟩ := el1 (sA hh5) hAx .i64
      obtain ⟨l, l1, l2, l3⟩ := hgot.val i x k hAx hLk
      have l3 := l3 j hjk
      rw [if_neg (by omega)] at l3
      have z00 : eqV 1 true (.int .i64 0) (.int .i64 0) = some (.bool false) := rfl
      repeat (with_reducible first | refine vP_so ?_ | refine vB_t ?_ | refine vB_f ?_ | refine vE_tt ?_ | refine vE_ff ?_ | refine vE_tf ?_ | refine vE_ft ?_ | refine vE_u ?_ | refine vP_to (by simp (disch := omega) only [gdW_true, gdW_false, gB_true, gB_false, gB_undef, pickV_true, pickV_false, Bool.not_true, Bool.not_false, Option.map_some, bin_add, bin_sub, bin_mul, bin_quo, bin_rem, lss_t, lss_f, leq_t, leq_f, gtr_t, gtr_f, geq_t, geq_f, eqi_t, eqi_f, nei_t, nei_f, rem_uw, conv_ui, conv_iu, conv_ii, not_bool, nil_ptr, fa_mk, ptrV, len_mk, cap_mk, eq_ptr_nil, ne_ptr_nil, eq_nil_nil, ne_nil_nil, eq_slice_nil, eq_nil_slice, ia_1, c1, c2, d1, d2]; exact so_so) ?_)
      refine use_aload (x := x) (i := (j : Int)) hh5 (fun e => by rw [l1] at e; cases e) (fun l' e ho => ?_) fun l' c' e _ hc' => ?_
      · rw [l1] at e; obtain rfl := Option.some.inj e; exact (ho (by omega)).elim
      rw [l1] at e
      obtain rfl := Option.some.inj e
      rw [Int.toNat_natCast, l3] at hc'
      obtain rfl := Option.some.inj hc'
      have hAN : (A.length : Int) ≤ 60 := by omega
      repeat (with_reducible first | refine vP_so ?_ | refine vB_t ?_ | refine vB_f ?_ | refine vE_tt ?_ | refine vE_ff ?_ | refine vE_tf ?_ | refine vE_ft ?_ | refine vE_u ?_ | refine vP_to (by simp (disch := omega) only [gdW_true, gdW_false, gB_true, gB_false, gB_undef, pickV_true, pickV_false, Bool.not_true, Bool.not_false, Option.map_some, bin_add, bin_sub, bin_mul, bin_quo, bin_rem, lss_t, lss_f, leq_t, leq_f, gtr_t, gtr_f, geq_t, geq_f, eqi_t, eqi_f, nei_t, nei_f, rem_uw, conv_ui, conv_iu, conv_ii, not_bool, nil_ptr, fa_mk, ptrV, len_mk, cap_mk, eq_ptr_nil, ne_ptr_nil, eq_nil_nil, ne_nil_nil, eq_slice_nil, eq_nil_slice, ia_1, exV0, exV1, z00, d1, d2]; exact so_so) ?_)
      refine use_astore (x := x) (i := (j : Int)) (v := (i : Int) + 1) hh5 (fun e => by rw [l1] at e; cases e) (fun l' e ho => ?_) fun l' c' h6 e _ hc' hh6 => ?_
      · rw [l1] at e; obtain rfl := Option.some.inj e; exact (ho (by omega)).elim
      rw [l1] at e
      obtain rfl := Option.some.inj e
      rw [Int.toNat_natCast] at hh6
      repeat (with_reducible first | refine vP_so ?_ | refine vB_t ?_ | refine vB_f ?_ | refine vE_tt ?_ | refine vE_ff ?_ | refine vE_tf ?_ | refine vE_ft ?_ | refine vE_u ?_ | refine vP_to (by simp (disch := omega) only [gdW_true, gdW_false, gB_true, gB_false, gB_undef, pickV_true, pickV_false, Bool.not_true, Bool.not_false, Option.map_some, bin_add, bin_sub, bin_mul, bin_quo, bin_rem, lss_t, lss_f, leq_t, leq_f, gtr_t, gtr_f, geq_t, geq_f, eqi_t, eqi_f, nei_t, nei_f, rem_uw, conv_ui, conv_iu, conv_ii, not_bool, nil_ptr, fa_mk, ptrV, len_mk, cap_mk, eq_ptr_nil, ne_ptr_nil, eq_nil_nil, ne_nil_nil, eq_slice_nil, eq_nil_slice, ia_1, z00]; exact so_so) ?_)
      refine ⟨k.toNat - (j + 1), by omega, j + 1, _, rfl, rfl, by omega, store_ok ok l1 (by simp), (hgot.store (j := j) (v := (i : Int) + 1) hAx l1).congr (fun n q k' _ _ => ?_), hh6⟩
      by_cases h1 : n = i
      · subst h1
        by_cases h2 : q = j
        · subst h2; simp
        · by_cases h3 : q < j
          · simp [h2, h3, show q < j + 1 by omega]
          · simp [h2, h3, show ¬ q < j + 1 by omega]
      · simp [h1]
    · obtain rfl : (j : Int) = k := by omega
      repeat (with_reducible first | refine vP_so ?_ | refine vB_t ?_ | refine vB_f ?_ | refine vE_tt ?_ | refine vE_ff ?_ | refine vE_tf ?_ | refine vE_ft ?_ | refine vE_u ?_ | refine vP_to (by simp (disch := omega) only [gdW_true, gdW_false, gB_true, gB_false, gB_undef, pickV_true, pickV_false, Bool.not_true, Bool.not_false, Option.map_some, bin_add, bin_sub, bin_mul, bin_quo, bin_rem, lss_t, lss_f, leq_t, leq_f, gtr_t, gtr_f, geq_t, geq_f, eqi_t, eqi_f, nei_t, nei_f, rem_uw, conv_ui, conv_iu, conv_ii, not_bool, nil_ptr, fa_mk, ptrV, len_mk, cap_mk, eq_ptr_nil, ne_ptr_nil, eq_nil_nil, ne_nil_nil, eq_slice_nil, eq_nil_slice, ia_1, c1, c2]; exact so_so) ?_)
      refine ⟨A.length - (i + 1), by omega, i + 1, st, rfl, rfl, by omega, ok, hgot.congr (fun n q k' h1 h2 => ?_), hh5⟩
      by_cases h3 : n = i
      · subst h3
        rw [hLk] at h1
        obtain rfl := Option.some.inj h1
        rw [if_pos (.inr ⟨rfl, by omega⟩), if_pos (by omega)]
      · by_cases h4 : n < i
        · rw [if_pos (.inl h4), if_pos (by omega)]
        · rw [if_neg (by omega), if_neg (by omega)]
  obtain rfl : i = A.length := by omega
  repeat (with_reducible first | refine vP_so ?_ | refine vB_t ?_ | refine vB_f ?_ | refine vE_tt ?_ | refine vE_ff ?_ | refine vE_tf ?_ | refine vE_ft ?_ | refine vE_u ?_ | refine vP_to (by simp (disch := omega) only [gdW_true, gdW_false, gB_true, gB_false, gB_undef, pickV_true, pickV_false, Bool.not_true, Bool.not_false, Option.map_some, bin_add, bin_sub, bin_mul, bin_quo, bin_rem, lss_t, lss_f, leq_t, leq_f, gtr_t, gtr_f, geq_t, geq_f, eqi_t, eqi_f, nei_t, nei_f, rem_uw, conv_ui, conv_iu, conv_ii, not_bool, nil_ptr, fa_mk, ptrV, len_mk, cap_mk, eq_ptr_nil, ne_ptr_nil, eq_nil_nil, ne_nil_nil, eq_slice_nil, eq_nil_slice, ia_1, hlA]; exact so_so) ?_)
  have hgot : Got st A L (fun n _ => (n : Int) + 1) := hgot.congr (fun n q k h1 _ => by rw [if_pos (by have := (List.getElem?_eq_some_iff.1 h1).1; omega)])
  refine ⟨fun m zs h' => ∃ (i : Nat), zs = [.int .i64 i] ∧ m = A.length - i ∧ i ≤ A.length ∧ h' = h4, ⟨_, 0, rfl, rfl, by omega, rfl⟩, ?_⟩
  rintro m v18 h5 ⟨i, hzs, rfl, hi, rfl⟩ _
  obtain rfl : v18 = .int .i64 i := by simpa using hzs
  by_cases hiA : i < A.length
  · obtain ⟨x, hAx⟩ : ∃ x, A[i]? = some x := ⟨_, List.getElem?_eq_getElem hiA⟩
    obtain ⟨k, hLk⟩ : ∃ k, L[i]? = some k := ⟨_, List.getElem?_eq_getElem (by omega)⟩
    have hkb := hgot.bd k (List.mem_of_getElem? hLk)
    obtain ⟨p, c1, c2, _⟩ := el1 (show (SG iE 3 v6 L * (SG iE 3 v5 A * (AR a st * (own g * tt)))) _ from asr (by ac_rfl) hh4) hLk .i64
    obtain ⟨p2, d1, d2, _⟩ := el1 (show (SG iE 3 v5 A * (SG iE 3 v6 L * (AR a st * (own g * tt)))) _ from asr (by ac_rfl) hh4) hAx .i64
    obtain ⟨l, l1, l2, l3⟩ := hgot.val i x k hAx hLk
    repeat (with_reducible first | refine vP_so ?_ | refine vB_t ?_ | refine vB_f ?_ | refine vE_tt ?_ | refine vE_ff ?_ | refine vE_tf ?_ | refine vE_ft ?_ | refine vE_u ?_ | refine vP_to (by simp (disch := omega) only [gdW_true, gdW_false, gB_true, gB_false, gB_undef, pickV_true, pickV_false, Bool.not_true, Bool.not_false, Option.map_some, bin_add, bin_sub, bin_mul, bin_quo, bin_rem, lss_t, lss_f, leq_t, leq_f, gtr_t, gtr_f, geq_t, geq_f, eqi_t, eqi_f, nei_t, nei_f, rem_uw, conv_ui, conv_iu, conv_ii, not_bool, nil_ptr, fa_mk, ptrV, len_mk, cap_mk, eq_ptr_nil, ne_ptr_nil, eq_nil_nil, ne_nil_nil, eq_slice_nil, eq_nil_slice, ia_1, hlA]; exact so_so) ?_)
    refine ⟨fun m zs h' => ∃ (j : Nat), zs = [.int .i64 j] ∧ m = k.toNat - j ∧ (j : Int) ≤ k ∧ h' = h5, ⟨_, 0, rfl, rfl, by omega, rfl⟩, ?_⟩
    rintro m v19 h6 ⟨j, hzs, rfl, hj, rfl⟩ _
    obtain rfl : v19 = .int .i64 j := by simpa using hzs
    by_cases hjk : (j : Int) < k
    · have l3 := l3 j hjk
      have z00 : eqV 1 true (.int .i64 0) (.int .i64 0) = some (.bool false) := rfl
      have hAN : (A.length : Int) ≤ 60 := by omega
      repeat (with_reducible first | refine vP_so ?_ | refine vB_t ?_ | refine vB_f ?_ | refine vE_tt ?_ | refine vE_ff ?_ | refine vE_tf ?_ | refine vE_ft ?_ | refine vE_u ?_ | refine vP_to (by simp (disch := omega) only [gdW_true, gdW_false, gB_true, gB_false, gB_undef, pickV_true, pickV_false, Bool.not_true, Bool.not_false, Option.map_some, bin_add, bin_sub, bin_mul, bin_quo, bin_rem, lss_t, lss_f, leq_t, leq_f, gtr_t, gtr_f, geq_t, geq_f, eqi_t, eqi_f, nei_t, nei_f, rem_uw, conv_ui, conv_iu, conv_ii, not_bool, nil_ptr, fa_mk, ptrV, len_mk, cap_mk, eq_ptr_nil, ne_ptr_nil, eq_nil_nil, ne_nil_nil, eq_slice_nil, eq_nil_slice, ia_1, c1, c2, d1, d2]; exact so_so) ?_)
      refine use_aload (x := x) (i := (j : Int)) hh4 (fun e => by rw [l1] at e; cases e) (fun l' e ho => ?_) fun l' c' e _ hc' => ?_
      · rw [l1] at e; obtain rfl := Option.some.inj e; exact (ho (by omega)).elim
      rw [l1] at e
      obtain rfl := Option.some.inj e
      rw [Int.toNat_natCast, l3] at hc'
      obtain rfl := Option.some.inj hc'
      repeat (with_reducible first | refine vP_so ?_ | refine vB_t ?_ | refine vB_f ?_ | refine vE_tt ?_ | refine vE_ff ?_ | refine vE_tf ?_ | refine vE_ft ?_ | refine vE_u ?_ | refine vP_to (by simp (disch := omega) only [gdW_true, gdW_false, gB_true, gB_false, gB_undef, pickV_true, pickV_false, Bool.not_true, Bool.not_false, Option.map_some, bin_add, bin_sub, bin_mul, bin_quo, bin_rem, lss_t, lss_f, leq_t, leq_f, gtr_t, gtr_f, geq_t, geq_f, eqi_t, eqi_f, nei_t, nei_f, rem_uw, conv_ui, conv_iu, conv_ii, not_bool, nil_ptr, fa_mk, ptrV, len_mk, cap_mk, eq_ptr_nil, ne_ptr_nil, eq_nil_nil, ne_nil_nil, eq_slice_nil, eq_nil_slice, ia_1, exV0, exV1, z00, ne_refl]; exact so_so) ?_)
      exact ⟨k.toNat - (j + 1), by omega, j + 1, rfl, rfl, by omega, rfl⟩
    · repeat (with_reducible first | refine vP_so ?_ | refine vB_t ?_ | refine vB_f ?_ | refine vE_tt ?_ | refine vE_ff ?_ | refine vE_tf ?_ | refine vE_ft ?_ | refine vE_u ?_ | refine vP_to (by simp (disch := omega) only [gdW_true, gdW_false, gB_true, gB_false, gB_undef, pickV_true, pickV_false, Bool.not_true, Bool.not_false, Option.map_some, bin_add, bin_sub, bin_mul, bin_quo, bin_rem, lss_t, lss_f, leq_t, leq_f, gtr_t, gtr_f, geq_t, geq_f, eqi_t, eqi_f, nei_t, nei_f, rem_uw, conv_ui, conv_iu, conv_ii, not_bool, nil_ptr, fa_mk, ptrV, len_mk, cap_mk, eq_ptr_nil, ne_ptr_nil, eq_nil_nil, ne_nil_nil, eq_slice_nil, eq_nil_slice, ia_1, c1, c2]; exact so_so) ?_)
      exact ⟨A.length - (i + 1), by omega, i + 1, rfl, rfl, by omega, rfl⟩
  repeat (with_reducible first | refine vP_so ?_ | refine vB_t ?_ | refine vB_f ?_ | refine vE_tt ?_ | refine vE_ff ?_ | refine vE_tf ?_ | refine vE_ft ?_ | refine vE_u ?_ | refine vP_to (by simp (disch := omega) only [gdW_true, gdW_false, gB_true, gB_false, gB_undef, pickV_true, pickV_false, Bool.not_true, Bool.not_false, Option.map_some, bin_add, bin_sub, bin_mul, bin_quo, bin_rem, lss_t, lss_f, leq_t, leq_f, gtr_t, gtr_f, geq_t, geq_f, eqi_t, eqi_f, nei_t, nei_f, rem_uw, conv_ui, conv_iu, conv_ii, not_bool, nil_ptr, fa_mk, ptrV, len_mk, cap_mk, eq_ptr_nil, ne_ptr_nil, eq_nil_nil, ne_nil_nil, eq_slice_nil, eq_nil_slice, ia_1, hlA]; exact so_so) ?_)
  refine use_told7 hg (F := AR a st * (SG iE 3 v5 A * SG iE 3 v6 L)) (asr (by ac_rfl) hh4) fun h15 hh15 => ?_
  obtain ⟨l, s1, s2, s3⟩ := sorted_of hgot.nd
  repeat (with_reducible first | refine vP_so ?_ | refine vB_t ?_ | refine vB_f ?_ | refine vE_tt ?_ | refine vE_ff ?_ | refine vE_tf ?_ | refine vE_ft ?_ | refine vE_u ?_ | refine vP_to (by simp (disch := omega) only [gdW_true, gdW_false, gB_true, gB_false, gB_undef, pickV_true, pickV_false, Bool.not_true, Bool.not_false, Option.map_some, bin_add, bin_sub, bin_mul, bin_quo, bin_rem, lss_t, lss_f, leq_t, leq_f, gtr_t, gtr_f, geq_t, geq_f, eqi_t, eqi_f, nei_t, nei_f, rem_uw, conv_ui, conv_iu, conv_ii, not_bool, nil_ptr, fa_mk, ptrV, len_mk, cap_mk, eq_ptr_nil, ne_ptr_nil, eq_nil_nil, ne_nil_nil, eq_slice_nil, eq_nil_slice, ia_1]; exact so_so) ?_)
  refine use_aobjects (l := l) (F := SG iE 3 v5 A * SG iE 3 v6 L) ok s1 (fun y => by rw [s3]; exact hgot.mem y) (by omega) (asr (by ac_rfl) hh15) fun v140 h16 hh16 => ?_
  have hl16 := SG_len iE hh16
  rw [s2] at hl16
  repeat (with_reducible first | refine vP_so ?_ | refine vB_t ?_ | refine vB_f ?_ | refine vE_tt ?_ | refine vE_ff ?_ | refine vE_tf ?_ | refine vE_ft ?_ | refine vE_u ?_ | refine vP_to (by simp (disch := omega) only [gdW_true, gdW_false, gB_true, gB_false, gB_undef, pickV_true, pickV_false, Bool.not_true, Bool.not_false, Option.map_some, bin_add, bin_sub, bin_mul, bin_quo, bin_rem, lss_t, lss_f, leq_t, leq_f, gtr_t, gtr_f, geq_t, geq_f, eqi_t, eqi_f, nei_t, nei_f, rem_uw, conv_ui, conv_iu, conv_ii, not_bool, nil_ptr, fa_mk, ptrV, len_mk, cap_mk, eq_ptr_nil, ne_ptr_nil, eq_nil_nil, ne_nil_nil, eq_slice_nil, eq_nil_slice, ia_1, hl16, hlA, eq_refl']; exact so_so) ?_)
  refine ret rfl (dropL (P := SG iE 3 v140 l * (AR a st * (SG iE 3 v5 A * SG iE 3 v6 L))) (Q := own g) (asr (by ac_rfl) hh16))

end Go.Proofs
