/-
  Texts of the proof, in one file: Ra, Ar2, Ar3, Ra2.
-/
import Derived.Test.YtampdifeblndfaaGreatDoorB10
import Derived.Test.YtampdifeblndfaaGreatDoorB7
set_option linter.unusedVariables false
set_option linter.unusedSimpArgs false
/-
  The document's own arena (treadmillref5.Arena), over the same plain arena.
-/
set_option maxRecDepth 100000
set_option maxHeartbeats 1000000
namespace Go.Proofs
open Go.Sl
abbrev SlV := Option Addr × Nat × Nat
def slv (s : SlV) : Value := .slice s.1 s.2.1 s.2.2
abbrev pE : Enc Nat := enc1 (fun b => pB b) (fun _ => rfl)
abbrev sE : Enc SlV := enc1 slv (fun _ => rfl)
structure REnt where
  num : Int
  p : Nat
  lv : SlV
  lens : List Int
  s : Sp
abbrev entA (e : REnt) : Asrt := RSP e.p e.s * SG iE 3 (slv e.lv) e.lens
structure ROk (st : Ar) (E : List REnt) (wf : Int → Option Value) : Prop where
  rise : Rise (E.map (·.num))
  mem : ∀ id s, st.sp id = some s ↔ ∃ e ∈ E, e.num = id ∧ e.s = s
  len : ∀ e ∈ E, e.lens.length = e.s.used.length
  val : ∀ e ∈ E, ∀ (j : Nat) l, e.s.used[j]? = some true → st.ob (e.s.addr j) = some l → e.lens[j]? = some (l.length : Int)
  words : ∀ x l (j : Nat) c, st.ob x = some l → l[j]? = some c → wf (x + j) = some (.int .i64 c)
def RAO (a ap rw : Nat) (vi vs vl : Value) (n : Nat) (runs : List Run) (E : List REnt) (wf : Int → Option Value) : Asrt :=
  pt a (.cells #[pB ap, vi, vs, vl, .map (some rw)] 54 (0, 0)) * (FLs ap n runs * (SG iE 3 vi (E.map (·.num)) * (SG pE 80 vs (E.map (·.p)) * (SG sE 22 vl (E.map (·.lv)) * (starL E entA * MP rw wf)))))
def RA (a : Nat) (st : Ar) : Asrt := ex fun ap : Nat => ex fun rw : Nat => ex fun vi : Value => ex fun vs : Value => ex fun vl : Value => ex fun E : List REnt => ex fun wf : Int → Option Value =>
  pr (ROk st E wf) * RAO a ap rw vi vs vl st.n st.runs E wf
theorem RA_elim {a : Nat} {st : Ar} {F : Asrt} {h : Hp} (hh : (RA a st * F) h) : ∃ (ap rw : Nat) (vi vs vl : Value) (E : List REnt) (wf : Int → Option Value), ROk st E wf ∧ (RAO a ap rw vi vs vl st.n st.runs E wf * F) h := by
  obtain ⟨ap, hh⟩ := ex_star.1 hh
  obtain ⟨rw', hh⟩ := ex_star.1 hh
  obtain ⟨vi, hh⟩ := ex_star.1 hh
  obtain ⟨vs, hh⟩ := ex_star.1 hh
  obtain ⟨vl, hh⟩ := ex_star.1 hh
  obtain ⟨E, hh⟩ := ex_star.1 hh
  obtain ⟨wf, hh⟩ := ex_star.1 hh
  rw [star_assoc, pr_star] at hh
  exact ⟨ap, rw', vi, vs, vl, E, wf, hh.1, hh.2⟩
theorem RA_intro {a ap rw : Nat} {vi vs vl : Value} {E : List REnt} {wf : Int → Option Value} {st : Ar} {F : Asrt} {h : Hp} (ro : ROk st E wf) (hh : (RAO a ap rw vi vs vl st.n st.runs E wf * F) h) : (RA a st * F) h := by
  refine ex_star.2 ⟨ap, ex_star.2 ⟨rw, ex_star.2 ⟨vi, ex_star.2 ⟨vs, ex_star.2 ⟨vl, ex_star.2 ⟨E, ex_star.2 ⟨wf, ?_⟩⟩⟩⟩⟩⟩⟩
  rw [star_assoc, pr_star]
  exact ⟨ro, hh⟩
theorem starL_get {α : Type} {f : α → Asrt} {l : List α} {k : Nat} {e : α} (h : l[k]? = some e) : starL l f = f e * (starL (l.take k) f * starL (l.drop (k + 1)) f) := by
  obtain ⟨hk, he⟩ := List.getElem?_eq_some_iff.1 h
  have e1 : l = l.take k ++ e :: l.drop (k + 1) := by
    rw [← he, ← List.drop_eq_getElem_cons hk, List.take_append_drop]
  conv => lhs; rw [e1, starL_append]
  show starL (l.take k) f * (f e * starL (l.drop (k + 1)) f) = _
  ac_rfl
theorem starL_set {α : Type} {f : α → Asrt} {l : List α} {k : Nat} {e : α} (h : k < l.length) : starL (l.set k e) f = f e * (starL (l.take k) f * starL (l.drop (k + 1)) f) := by
  have h1 : (l.set k e)[k]? = some e := List.getElem?_set_self h
  rw [starL_get h1]
  congr 2
  · congr 1
    rw [List.take_set_of_le (Nat.le_refl k)]
  · congr 1
    rw [List.drop_set_of_lt (by omega)]
theorem map_set_same {α β : Type} {g : α → β} {l : List α} {k : Nat} {e e' : α} (h : l[k]? = some e) (hg : g e' = g e) : (l.set k e').map g = l.map g := by
  apply List.ext_getElem?
  intro j
  rw [List.getElem?_map, List.getElem?_map, List.getElem?_set]
  by_cases hj : k = j
  · subst hj
    rw [if_pos rfl, if_pos (List.getElem?_eq_some_iff.1 h).1, h]
    simp [hg]
  · rw [if_neg hj]
variable {a ap rw : Nat} {vi vs vl : Value} {n : Nat} {runs : List Run} {E : List REnt} {wf : Int → Option Value}
theorem rao_open {k : Nat} {e : REnt} (hk : E[k]? = some e) : ∃ R : Asrt, (∀ (F : Asrt) h, (RAO a ap rw vi vs vl n runs E wf * F) h → (RSP e.p e.s * (SG iE 3 (slv e.lv) e.lens * (R * F))) h) ∧
    (∀ s' lens' (F : Asrt) h, (RSP e.p s' * (SG iE 3 (slv e.lv) lens' * (R * F))) h → (RAO a ap rw vi vs vl n runs (E.set k { e with s := s', lens := lens' }) wf * F) h) := by
  refine ⟨pt a (.cells #[pB ap, vi, vs, vl, .map (some rw)] 54 (0, 0)) * (FLs ap n runs * (SG iE 3 vi (E.map (·.num)) * (SG pE 80 vs (E.map (·.p)) * (SG sE 22 vl (E.map (·.lv)) * (starL (E.take k) entA * starL (E.drop (k + 1)) entA * MP rw wf))))), fun F h hh => ?_, fun s' lens' F h hh => ?_⟩
  · unfold RAO at hh
    rw [starL_get hk] at hh
    exact asr (by simp only [entA]; ac_rfl) hh
  · unfold RAO
    rw [map_set_same (g := (·.num)) (e' := { e with s := s', lens := lens' }) hk rfl, map_set_same (g := (·.p)) (e' := { e with s := s', lens := lens' }) hk rfl, map_set_same (g := (·.lv)) (e' := { e with s := s', lens := lens' }) hk rfl, starL_set (List.getElem?_eq_some_iff.1 hk).1]
    exact asr (by simp only [entA]; ac_rfl) hh
theorem rao_ld {F : Asrt} {h : Hp} (hh : (RAO a ap rw vi vs vl n runs E wf * F) h) :
    ld1 (.pointer (some ⟨a, 0 + 0, none⟩)) h = some (pB ap) ∧ ld1 (.pointer (some ⟨a, 0 + 1, none⟩)) h = some vi ∧ ld1 (.pointer (some ⟨a, 0 + 2, none⟩)) h = some vs ∧
    ld1 (.pointer (some ⟨a, 0 + 3, none⟩)) h = some vl ∧ ld1 (.pointer (some ⟨a, 0 + 4, none⟩)) h = some (.map (some rw)) := by
  unfold RAO at hh
  have hh := asr (star_assoc _ _ _) hh
  exact ⟨ld1_mk (pt_get hh) rfl, ld1_mk (pt_get hh) rfl, ld1_mk (pt_get hh) rfl, ld1_mk (pt_get hh) rfl, ld1_mk (pt_get hh) rfl⟩
theorem rao_i {F : Asrt} {h : Hp} (hh : (RAO a ap rw vi vs vl n runs E wf * F) h) : ∃ R : Asrt, (SG iE 3 vi (E.map (·.num)) * (R * F)) h :=
  ⟨pt a (.cells #[pB ap, vi, vs, vl, .map (some rw)] 54 (0, 0)) * (FLs ap n runs * (SG pE 80 vs (E.map (·.p)) * (SG sE 22 vl (E.map (·.lv)) * (starL E entA * MP rw wf)))), asr (by unfold RAO; ac_rfl) hh⟩
theorem rao_s {F : Asrt} {h : Hp} (hh : (RAO a ap rw vi vs vl n runs E wf * F) h) : ∃ R : Asrt, (SG pE 80 vs (E.map (·.p)) * (R * F)) h :=
  ⟨pt a (.cells #[pB ap, vi, vs, vl, .map (some rw)] 54 (0, 0)) * (FLs ap n runs * (SG iE 3 vi (E.map (·.num)) * (SG sE 22 vl (E.map (·.lv)) * (starL E entA * MP rw wf)))), asr (by unfold RAO; ac_rfl) hh⟩
theorem rao_l {F : Asrt} {h : Hp} (hh : (RAO a ap rw vi vs vl n runs E wf * F) h) : ∃ R : Asrt, (SG sE 22 vl (E.map (·.lv)) * (R * F)) h :=
  ⟨pt a (.cells #[pB ap, vi, vs, vl, .map (some rw)] 54 (0, 0)) * (FLs ap n runs * (SG iE 3 vi (E.map (·.num)) * (SG pE 80 vs (E.map (·.p)) * (starL E entA * MP rw wf)))), asr (by unfold RAO; ac_rfl) hh⟩
theorem rao_len {F : Asrt} {h : Hp} (hh : (RAO a ap rw vi vs vl n runs E wf * F) h) : lenV vi = some (.int .i64 E.length) ∧ lenV vs = some (.int .i64 E.length) ∧ E.length < 9223372036854775808 := by
  obtain ⟨R, h1⟩ := rao_i hh
  obtain ⟨R2, h2⟩ := rao_s hh
  have l1 := SG_len iE h1
  have l2 := SG_len pE h2
  have l3 := SG_lt iE h1
  rw [List.length_map] at l1 l2 l3
  exact ⟨l1, l2, l3⟩
theorem rao_id {F : Asrt} {h : Hp} {k : Nat} {e : REnt} (hk : E[k]? = some e) (hh : (RAO a ap rw vi vs vl n runs E wf * F) h) : ∃ q, iaS 1 vi (.int .i64 k) = some q ∧ ld1 q h = some (.int .i64 e.num) := by
  obtain ⟨R, h1⟩ := rao_i hh
  obtain ⟨q, q1, q2, _⟩ := el1 h1 (show (E.map (·.num))[k]? = some e.num by rw [List.getElem?_map, hk]; rfl) .i64
  exact ⟨q, q1, q2⟩
theorem rao_p {F : Asrt} {h : Hp} {k : Nat} {e : REnt} (hk : E[k]? = some e) (hh : (RAO a ap rw vi vs vl n runs E wf * F) h) : ∃ q, iaS 1 vs (.int .i64 k) = some q ∧ ld1 q h = some (pB e.p) := by
  obtain ⟨R, h1⟩ := rao_s hh
  obtain ⟨q, q1, q2, _⟩ := el1 h1 (show (E.map (·.p))[k]? = some e.p by rw [List.getElem?_map, hk]; rfl) .i64
  exact ⟨q, q1, q2⟩
theorem rao_lv {F : Asrt} {h : Hp} {k : Nat} {e : REnt} (hk : E[k]? = some e) (hh : (RAO a ap rw vi vs vl n runs E wf * F) h) : ∃ q, iaS 1 vl (.int .i64 k) = some q ∧ ld1 q h = some (slv e.lv) := by
  obtain ⟨R, h1⟩ := rao_l hh
  obtain ⟨q, q1, q2, _⟩ := el1 h1 (show (E.map (·.lv))[k]? = some e.lv by rw [List.getElem?_map, hk]; rfl) .i64
  exact ⟨q, q1, q2⟩
theorem rao_span {F : Asrt} {h : Hp} {k : Nat} {e : REnt} (hk : E[k]? = some e) (hh : (RAO a ap rw vi vs vl n runs E wf * F) h) : ∃ (vu vm : Value), ld1 (.pointer (some ⟨e.p, 0 + 0, none⟩)) h = some (.int .i64 e.s.first) ∧ ld1 (.pointer (some ⟨e.p, 0 + 1, none⟩)) h = some (.int .i64 e.s.cls) ∧
    ld1 (.pointer (some ⟨e.p, 0 + 2, none⟩)) h = some vu ∧ ld1 (.pointer (some ⟨e.p, 0 + 3, none⟩)) h = some vm ∧ lenV vu = some (.int .i64 e.s.used.length) ∧
    (∀ (j : Nat) b, e.s.used[j]? = some b → ∃ q, iaS 1 vu (.int .i64 j) = some q ∧ ld1 q h = some (.bool b)) ∧ (∀ (j : Nat) b, e.s.marks[j]? = some b → ∃ q, iaS 1 vm (.int .i64 j) = some q ∧ ld1 q h = some (.bool b)) := by
  obtain ⟨R, o1, _⟩ := rao_open (a := a) (ap := ap) (rw := rw) (vi := vi) (vs := vs) (vl := vl) (n := n) (runs := runs) (wf := wf) hk
  obtain ⟨vu, vm, fr, _, _, hp⟩ := RSP_elim (o1 F h hh)
  have l := rsp_ld hp
  refine ⟨vu, vm, l.1, l.2.1, l.2.2.1, l.2.2.2.1, (rsp_u hp).1, fun j b hj => ?_, fun j b hj => ?_⟩
  · obtain ⟨q, q1, q2, _⟩ := el1 (show (SG bE 4 vu e.s.used * (pt e.p (.cells #[.int .i64 e.s.first, .int .i64 e.s.cls, vu, vm, .int .i64 fr] 79 (0, 0)) * (SG bE 4 vm e.s.marks * (SG iE 3 (slv e.lv) e.lens * (R * F))))) h from asr (by ac_rfl) hp) hj .i64
    exact ⟨q, q1, q2⟩
  · obtain ⟨q, q1, q2, _⟩ := el1 (show (SG bE 4 vm e.s.marks * (pt e.p (.cells #[.int .i64 e.s.first, .int .i64 e.s.cls, vu, vm, .int .i64 fr] 79 (0, 0)) * (SG bE 4 vu e.s.used * (SG iE 3 (slv e.lv) e.lens * (R * F))))) h from asr (by ac_rfl) hp) hj .i64
    exact ⟨q, q1, q2⟩
theorem set_self {k : Nat} {e : REnt} (hk : E[k]? = some e) : E.set k { e with s := e.s, lens := e.lens } = E := by
  obtain ⟨h1, h2⟩ := List.getElem?_eq_some_iff.1 hk
  have : ({ e with s := e.s, lens := e.lens } : REnt) = E[k] := h2.symm
  rw [this, List.set_getElem_self]
theorem use_refind {id : Int} {F : Asrt} {K : Value → Hp → Prop} {h : Hp} (hh : (RAO a ap rw vi vs vl n runs E wf * F) h)
    (hnone : (∀ e ∈ E, e.num ≠ id) → K (.int .i64 (-1)) h) (hK : ∀ (k : Nat) e, E[k]? = some e → e.num = id → K (.int .i64 k) h) : CallH Tryz.prog 92 #[pB a, .int .i64 id] K h := by
  refine C92 ?_
  unfold D92
  have l := rao_ld hh
  have hl := rao_len hh
  refine ⟨fun m zs h' => ∃ i : Nat, zs = [.int .i64 i] ∧ m = E.length - i ∧ i ≤ E.length ∧ (∀ j e, j < i → E[j]? = some e → e.num ≠ id) ∧ h' = h, ⟨_, 0, rfl, rfl, by omega, fun j e hj => by omega, rfl⟩, ?_⟩
  rintro m v5 h1 ⟨i, hzs, rfl, hi, hno, rfl⟩ _
  obtain rfl : v5 = .int .i64 i := by simpa using hzs
  by_cases hil : i < E.length
  · obtain ⟨e, he⟩ : ∃ e, E[i]? = some e := ⟨_, List.getElem?_eq_getElem hil⟩
    obtain ⟨q, q1, q2⟩ := rao_id he hh
    by_cases hid : e.num = id
    · repeat (with_reducible first | refine vP_so ?_ | refine vB_t ?_ | refine vB_f ?_ | refine vE_tt ?_ | refine vE_ff ?_ | refine vE_tf ?_ | refine vE_ft ?_ | refine vE_u ?_ | refine vP_to (by simp (disch := omega) only [gdW_true, gdW_false, gB_true, gB_false, gB_undef, pickV_true, pickV_false, Bool.not_true, Bool.not_false, Option.map_some, bin_add, bin_sub, bin_mul, bin_quo, bin_rem, lss_t, lss_f, leq_t, leq_f, gtr_t, gtr_f, geq_t, geq_f, eqi_t, eqi_f, nei_t, nei_f, rem_uw, conv_ui, conv_iu, conv_ii, not_bool, nil_ptr, fa_mk, ptrV, len_mk, cap_mk, eq_ptr_nil, ne_ptr_nil, eq_nil_nil, ne_nil_nil, eq_slice_nil, eq_nil_slice, ia_1, l.2.1, hl.1, q1, q2, eqi_t hid]; exact so_so) ?_)
      exact hK i e he hid
    · repeat (with_reducible first | refine vP_so ?_ | refine vB_t ?_ | refine vB_f ?_ | refine vE_tt ?_ | refine vE_ff ?_ | refine vE_tf ?_ | refine vE_ft ?_ | refine vE_u ?_ | refine vP_to (by simp (disch := omega) only [gdW_true, gdW_false, gB_true, gB_false, gB_undef, pickV_true, pickV_false, Bool.not_true, Bool.not_false, Option.map_some, bin_add, bin_sub, bin_mul, bin_quo, bin_rem, lss_t, lss_f, leq_t, leq_f, gtr_t, gtr_f, geq_t, geq_f, eqi_t, eqi_f, nei_t, nei_f, rem_uw, conv_ui, conv_iu, conv_ii, not_bool, nil_ptr, fa_mk, ptrV, len_mk, cap_mk, eq_ptr_nil, ne_ptr_nil, eq_nil_nil, ne_nil_nil, eq_slice_nil, eq_nil_slice, ia_1, l.2.1, hl.1, q1, q2, eqi_f hid]; exact so_so) ?_)
      exact ⟨E.length - (i + 1), by omega, i + 1, rfl, rfl, by omega, fun j e' hj he' => by
        rcases Nat.lt_or_ge j i with q | q
        · exact hno j e' q he'
        · obtain rfl : j = i := by omega
          rw [he] at he'; obtain rfl := Option.some.inj he'; exact hid, rfl⟩
  · repeat (with_reducible first | refine vP_so ?_ | refine vB_t ?_ | refine vB_f ?_ | refine vE_tt ?_ | refine vE_ff ?_ | refine vE_tf ?_ | refine vE_ft ?_ | refine vE_u ?_ | refine vP_to (by simp (disch := omega) only [gdW_true, gdW_false, gB_true, gB_false, gB_undef, pickV_true, pickV_false, Bool.not_true, Bool.not_false, Option.map_some, bin_add, bin_sub, bin_mul, bin_quo, bin_rem, lss_t, lss_f, leq_t, leq_f, gtr_t, gtr_f, geq_t, geq_f, eqi_t, eqi_f, nei_t, nei_f, rem_uw, conv_ui, conv_iu, conv_ii, not_bool, nil_ptr, fa_mk, ptrV, len_mk, cap_mk, eq_ptr_nil, ne_ptr_nil, eq_nil_nil, ne_nil_nil, eq_slice_nil, eq_nil_slice, ia_1, l.2.1, hl.1]; exact so_so) ?_)
    refine hnone fun e he => ?_
    obtain ⟨j, hj, rfl⟩ := List.mem_iff_getElem.1 he
    exact hno j _ (by omega) (List.getElem?_eq_getElem hj)
theorem ROk.ok {st : Ar} {N : Nat} (ok : AOk st N) (ro : ROk st E wf) {e : REnt} (he : e ∈ E) : SpOk e.s := (ok.sp e.num e.s ((ro.mem _ _).2 ⟨e, he, rfl, rfl⟩)).2.2.1
theorem use_reat {st : Ar} {N : Nat} {x : Int} (ok : AOk st N) (ro : ROk st E wf) {F : Asrt} {K : Value → Hp → Prop} {h : Hp} (hh : (RAO a ap rw vi vs vl n runs E wf * (F * tt)) h)
    (hnone : ∀ h', st.ob x = none → (RAO a ap rw vi vs vl n runs E wf * (F * tt)) h' → K (.tuple #[.int .i64 0, .int .i64 0, .bool false]) h')
    (hK : ∀ (k i : Nat) e l h', E[k]? = some e → e.s.used[i]? = some true → x = e.s.addr i → st.ob x = some l → (RAO a ap rw vi vs vl n runs E wf * (F * tt)) h' → K (.tuple #[.int .i64 k, .int .i64 i, .bool true]) h') : CallH Tryz.prog 96 #[pB a, .int .i64 x] K h := by
  refine C96 ?_
  unfold D96
  refine ⟨fun m zs h' => ∃ k : Nat, zs = [.int .i64 k] ∧ m = E.length - k ∧ k ≤ E.length ∧ (∀ (j : Nat) e (i : Nat), j < k → E[j]? = some e → e.s.used[i]? = some true → x ≠ e.s.addr i) ∧ (RAO a ap rw vi vs vl n runs E wf * (F * tt)) h', ⟨_, 0, rfl, rfl, by omega, fun j e i hj => by omega, hh⟩, ?_⟩
  rintro m v7 h1 ⟨k, hzs, rfl, hk, hno, hh1⟩ _
  obtain rfl : v7 = .int .i64 k := by simpa using hzs
  have l := rao_ld hh1
  have hl := rao_len hh1
  by_cases hkl : k < E.length
  · obtain ⟨e, he⟩ : ∃ e, E[k]? = some e := ⟨_, List.getElem?_eq_getElem hkl⟩
    have hso := ro.ok ok (List.mem_of_getElem? he)
    have hsl := hso.len
    repeat (with_reducible first | refine vP_so ?_ | refine vB_t ?_ | refine vB_f ?_ | refine vE_tt ?_ | refine vE_ff ?_ | refine vE_tf ?_ | refine vE_ft ?_ | refine vE_u ?_ | refine vP_to (by simp (disch := omega) only [gdW_true, gdW_false, gB_true, gB_false, gB_undef, pickV_true, pickV_false, Bool.not_true, Bool.not_false, Option.map_some, bin_add, bin_sub, bin_mul, bin_quo, bin_rem, lss_t, lss_f, leq_t, leq_f, gtr_t, gtr_f, geq_t, geq_f, eqi_t, eqi_f, nei_t, nei_f, rem_uw, conv_ui, conv_iu, conv_ii, not_bool, nil_ptr, fa_mk, ptrV, len_mk, cap_mk, eq_ptr_nil, ne_ptr_nil, eq_nil_nil, ne_nil_nil, eq_slice_nil, eq_nil_slice, ia_1, l.2.2.1, hl.2.1]; exact so_so) ?_)
    refine ⟨fun m zs h' => ∃ i : Nat, zs = [.int .i64 i] ∧ m = e.s.used.length - i ∧ i ≤ e.s.used.length ∧ (∀ j : Nat, j < i → e.s.used[j]? = some true → x ≠ e.s.addr j) ∧ (RAO a ap rw vi vs vl n runs E wf * (F * tt)) h', ⟨_, 0, rfl, rfl, by omega, fun j hj => by omega, hh1⟩, ?_⟩
    clear hh1 l
    rintro m v8 h2 ⟨i, hzs, rfl, hi, hno2, hh2⟩ _
    obtain rfl : v8 = .int .i64 i := by simpa using hzs
    have l := rao_ld hh2
    obtain ⟨q, q1, q2⟩ := rao_p he hh2
    obtain ⟨vu, vm, s1, s2, s3, s4, s5, s6, s7⟩ := rao_span he hh2
    by_cases hil : i < e.s.used.length
    · obtain ⟨b, hb⟩ : ∃ b, e.s.used[i]? = some b := ⟨_, List.getElem?_eq_getElem hil⟩
      obtain ⟨r, r1, r2⟩ := s6 i b hb
      cases b with
      | false =>
        repeat (with_reducible first | refine vP_so ?_ | refine vB_t ?_ | refine vB_f ?_ | refine vE_tt ?_ | refine vE_ff ?_ | refine vE_tf ?_ | refine vE_ft ?_ | refine vE_u ?_ | refine vP_to (by simp (disch := omega) only [gdW_true, gdW_false, gB_true, gB_false, gB_undef, pickV_true, pickV_false, Bool.not_true, Bool.not_false, Option.map_some, bin_add, bin_sub, bin_mul, bin_quo, bin_rem, lss_t, lss_f, leq_t, leq_f, gtr_t, gtr_f, geq_t, geq_f, eqi_t, eqi_f, nei_t, nei_f, rem_uw, conv_ui, conv_iu, conv_ii, not_bool, nil_ptr, fa_mk, ptrV, len_mk, cap_mk, eq_ptr_nil, ne_ptr_nil, eq_nil_nil, ne_nil_nil, eq_slice_nil, eq_nil_slice, ia_1, l.2.2.1, q1, q2, s3, s5, r1, r2]; exact so_so) ?_)
        exact ⟨e.s.used.length - (i + 1), by omega, i + 1, rfl, rfl, by omega, fun j hj hu => (by
          rcases Nat.lt_or_ge j i with q | q
          · exact hno2 j q hu
          · obtain rfl : j = i := by omega
            rw [hb] at hu; cases hu), hh2⟩
      | true =>
        repeat (with_reducible first | refine vP_so ?_ | refine vB_t ?_ | refine vB_f ?_ | refine vE_tt ?_ | refine vE_ff ?_ | refine vE_tf ?_ | refine vE_ft ?_ | refine vE_u ?_ | refine vP_to (by simp (disch := omega) only [gdW_true, gdW_false, gB_true, gB_false, gB_undef, pickV_true, pickV_false, Bool.not_true, Bool.not_false, Option.map_some, bin_add, bin_sub, bin_mul, bin_quo, bin_rem, lss_t, lss_f, leq_t, leq_f, gtr_t, gtr_f, geq_t, geq_f, eqi_t, eqi_f, nei_t, nei_f, rem_uw, conv_ui, conv_iu, conv_ii, not_bool, nil_ptr, fa_mk, ptrV, len_mk, cap_mk, eq_ptr_nil, ne_ptr_nil, eq_nil_nil, ne_nil_nil, eq_slice_nil, eq_nil_slice, ia_1, l.2.2.1, q1, q2, s3, s5, r1, r2]; exact so_so) ?_)
        obtain ⟨R, o1, o2⟩ := rao_open (a := a) (ap := ap) (rw := rw) (vi := vi) (vs := vs) (vl := vl) (n := n) (runs := runs) (wf := wf) he
        refine use_rsaddr hso hil (F := SG iE 3 (slv e.lv) e.lens * (R * F)) (asr (by ac_rfl) (o1 _ _ hh2)) fun h3 hh3 => ?_
        have hh3 := o2 e.s e.lens (F * tt) h3 (asr (by ac_rfl) hh3)
        rw [set_self he] at hh3
        by_cases hx : e.s.addr i = x
        · repeat (with_reducible first | refine vP_so ?_ | refine vB_t ?_ | refine vB_f ?_ | refine vE_tt ?_ | refine vE_ff ?_ | refine vE_tf ?_ | refine vE_ft ?_ | refine vE_u ?_ | refine vP_to (by simp (disch := omega) only [gdW_true, gdW_false, gB_true, gB_false, gB_undef, pickV_true, pickV_false, Bool.not_true, Bool.not_false, Option.map_some, bin_add, bin_sub, bin_mul, bin_quo, bin_rem, lss_t, lss_f, leq_t, leq_f, gtr_t, gtr_f, geq_t, geq_f, eqi_t, eqi_f, nei_t, nei_f, rem_uw, conv_ui, conv_iu, conv_ii, not_bool, nil_ptr, fa_mk, ptrV, len_mk, cap_mk, eq_ptr_nil, ne_ptr_nil, eq_nil_nil, ne_nil_nil, eq_slice_nil, eq_nil_slice, ia_1, eqi_t hx]; exact so_so) ?_)
          cases hob : st.ob x with
          | none =>
            have := (ok.ob x).2 ⟨e.num, e.s, i, (ro.mem _ _).2 ⟨e, List.mem_of_getElem? he, rfl, rfl⟩, hb, hx.symm⟩
            rw [hob] at this; cases this
          | some l => exact hK k i e l h3 he hb hx.symm hob hh3
        · repeat (with_reducible first | refine vP_so ?_ | refine vB_t ?_ | refine vB_f ?_ | refine vE_tt ?_ | refine vE_ff ?_ | refine vE_tf ?_ | refine vE_ft ?_ | refine vE_u ?_ | refine vP_to (by simp (disch := omega) only [gdW_true, gdW_false, gB_true, gB_false, gB_undef, pickV_true, pickV_false, Bool.not_true, Bool.not_false, Option.map_some, bin_add, bin_sub, bin_mul, bin_quo, bin_rem, lss_t, lss_f, leq_t, leq_f, gtr_t, gtr_f, geq_t, geq_f, eqi_t, eqi_f, nei_t, nei_f, rem_uw, conv_ui, conv_iu, conv_ii, not_bool, nil_ptr, fa_mk, ptrV, len_mk, cap_mk, eq_ptr_nil, ne_ptr_nil, eq_nil_nil, ne_nil_nil, eq_slice_nil, eq_nil_slice, ia_1, eqi_f hx]; exact so_so) ?_)
          exact ⟨e.s.used.length - (i + 1), by omega, i + 1, rfl, rfl, by omega, fun j hj hu => by
            rcases Nat.lt_or_ge j i with q | q
            · exact hno2 j q hu
            · obtain rfl : j = i := by omega
              exact fun q => hx q.symm, hh3⟩
    · repeat (with_reducible first | refine vP_so ?_ | refine vB_t ?_ | refine vB_f ?_ | refine vE_tt ?_ | refine vE_ff ?_ | refine vE_tf ?_ | refine vE_ft ?_ | refine vE_u ?_ | refine vP_to (by simp (disch := omega) only [gdW_true, gdW_false, gB_true, gB_false, gB_undef, pickV_true, pickV_false, Bool.not_true, Bool.not_false, Option.map_some, bin_add, bin_sub, bin_mul, bin_quo, bin_rem, lss_t, lss_f, leq_t, leq_f, gtr_t, gtr_f, geq_t, geq_f, eqi_t, eqi_f, nei_t, nei_f, rem_uw, conv_ui, conv_iu, conv_ii, not_bool, nil_ptr, fa_mk, ptrV, len_mk, cap_mk, eq_ptr_nil, ne_ptr_nil, eq_nil_nil, ne_nil_nil, eq_slice_nil, eq_nil_slice, ia_1, l.2.2.1, q1, q2, s3, s5]; exact so_so) ?_)
      exact ⟨E.length - (k + 1), by omega, k + 1, rfl, rfl, by omega, fun j e' i' hj he' hu => by
        rcases Nat.lt_or_ge j k with q | q
        · exact hno j e' i' q he' hu
        · obtain rfl : j = k := by omega
          rw [he] at he'
          obtain rfl := Option.some.inj he'
          exact hno2 i' (by have := (List.getElem?_eq_some_iff.1 hu).1; omega) hu, hh2⟩
  · repeat (with_reducible first | refine vP_so ?_ | refine vB_t ?_ | refine vB_f ?_ | refine vE_tt ?_ | refine vE_ff ?_ | refine vE_tf ?_ | refine vE_ft ?_ | refine vE_u ?_ | refine vP_to (by simp (disch := omega) only [gdW_true, gdW_false, gB_true, gB_false, gB_undef, pickV_true, pickV_false, Bool.not_true, Bool.not_false, Option.map_some, bin_add, bin_sub, bin_mul, bin_quo, bin_rem, lss_t, lss_f, leq_t, leq_f, gtr_t, gtr_f, geq_t, geq_f, eqi_t, eqi_f, nei_t, nei_f, rem_uw, conv_ui, conv_iu, conv_ii, not_bool, nil_ptr, fa_mk, ptrV, len_mk, cap_mk, eq_ptr_nil, ne_ptr_nil, eq_nil_nil, ne_nil_nil, eq_slice_nil, eq_nil_slice, ia_1, l.2.2.1, hl.2.1]; exact so_so) ?_)
    refine hnone h1 ?_ hh1
    cases hob : st.ob x with
    | none => rfl
    | some y =>
      obtain ⟨id, s, i, e1, e2, e3⟩ := (ok.ob x).1 (by rw [hob]; rfl)
      obtain ⟨e, he, _, rfl⟩ := (ro.mem _ _).1 e1
      obtain ⟨j, hj, rfl⟩ := List.mem_iff_getElem.1 he
      exact (hno j _ i (by omega) (List.getElem?_eq_getElem hj) e2 e3).elim
end Go.Proofs

/-
  Contracts of package arena: Alloc, Find, Len, Load, Store, Mark, Marked, Sweep, Live, Left.
-/
set_option maxRecDepth 100000
namespace Go.Proofs
open Go.Sl
theorem ob_get {rb : Nat} {ob : Int → Option (List Int)} {x : Int} {l : List Int} {F : Asrt} {h : Hp} (hs : ob x = some l) (hh : (MPO rb obA ob * F) h) :
    ∃ (v : Value) (f : Int → Option Value) (H : Asrt), f x = some v ∧ l ≠ [] ∧ eqV 5 false v (.slice none 0 0) = some (.bool false) ∧ (MP rb f * (SG iE 3 v l * (H * F))) h ∧
      (∀ (F' : Asrt) l' h', l' ≠ [] → (MP rb f * (SG iE 3 v l' * (H * F'))) h' → (MPO rb obA (fput ob x l') * F') h') ∧
      (∀ (F' : Asrt) h', (MP rb (fun y => if y = x then none else f y) * (H * F')) h' → (MPO rb obA (fdel ob x) * F') h') := by
  obtain ⟨v, f, H, e1, _, hp, c1, c2, _⟩ := MPO_get hs hh
  have hp2 : (obA l v * (MP rb f * (H * F))) h := asr (by ac_rfl) hp
  unfold obA at hp2
  rw [star_assoc, pr_star] at hp2
  obtain ⟨hne, hp3⟩ := hp2
  refine ⟨v, f, H, e1, hne, ?_, asr (by ac_rfl) hp3, fun F' l' h' hl' q => c1 F' l' h' ?_, c2⟩
  · rcases SG_elim iE hp3 with ⟨_, h2, _⟩ | ⟨r, cap, pre, post, rfl, _⟩
    · exact (hne h2).elim
    · rfl
  · have q : (SG iE 3 v l' * (MP rb f * (H * F'))) h' := asr (by ac_rfl) q
    have : (obA l' v * (MP rb f * (H * F'))) h' := by unfold obA; rw [star_assoc, pr_star]; exact ⟨hl', q⟩
    exact asr (by ac_rfl) this
theorem ob_none {rb : Nat} {ob : Int → Option (List Int)} {x : Int} {F : Asrt} {h : Hp} (hs : ob x = none) (hh : (MPO rb obA ob * F) h) :
    lkV Tryz.prog 61 (.map (some rb)) (.int .i64 x) false h = some (.slice none 0 0) := by
  obtain ⟨f, H, e1, _, hp, _⟩ := MPO_none hs hh
  have := (lk_MP (k := x) mapIs intU zInts hp).1
  rw [e1] at this
  exact this
theorem nil_ss : eqV 5 false (.slice none 0 0) (.slice none 0 0) = some (.bool true) := rfl
theorem ob_free {st : Ar} {N : Nat} (h : AOk st N) {id : Int} {s : Sp} {i : Nat} (hs : st.sp id = some s) (hi : s.used[i]? = some false) : st.ob (s.addr i) = none := by
  cases hq : st.ob (s.addr i) with
  | none => rfl
  | some l =>
    obtain ⟨id', s', i', e, h1, h2⟩ := (h.ob (s.addr i)).1 (by rw [hq]; rfl)
    have h3 := addr_inj h hs e (List.getElem?_eq_some_iff.1 hi).1 (List.getElem?_eq_some_iff.1 h1).1 h2
    obtain ⟨rfl, rfl⟩ := h3
    rw [hs] at e
    obtain rfl := Option.some.inj e
    rw [hi] at h1
    cases h1
set_option maxHeartbeats 1000000 in
theorem use_aalloc {g : Hp} (hg : TabG 0 g) {a : Nat} {st : Ar} {N : Nat} {id n : Int} {black : Bool} (ok : AOk st N) (hN : N ≤ 1000000) {F : Asrt} {K : Value → Hp → Prop} {h : Hp} (hh : (AR a st * (own g * (F * tt))) h)
    (hnone : st.sp id = none → K (tup 0 4) h)
    (hbad : ∀ s h', st.sp id = some s → ¬ (1 ≤ n ∧ n ≤ szS s.cls) → (AR a st * (own g * (F * tt))) h' → K (tup 0 1) h')
    (hfull : ∀ s h', st.sp id = some s → 1 ≤ n ∧ n ≤ szS s.cls → ff s.used = none → (AR a st * (own g * (F * tt))) h' → K (tup 0 3) h')
    (hK : ∀ s i h', st.sp id = some s → 1 ≤ n ∧ n ≤ szS s.cls → ff s.used = some i → (AR a (st.put id s i n.toNat black) * (own g * (F * tt))) h' → K (tup (s.addr i) 0) h') : CallH Tryz.prog 12 #[pB a, .int .i64 id, .int .i64 n, .bool black] K h := by
  refine C12 ?_
  unfold D12
  obtain ⟨ap, rs, ro, rb, hp⟩ := AR_elim hh
  have l1 := ar_ld hp
  have hm : (MPO rs spA st.sp * (pt a (.cells #[pv ap, .map (some rs), .map (some ro), .map (some rb), .int .i64 st.live] 63 (0, 0)) * (PG ap st.n st.runs * (MP ro (owF st.ow) * (MPO rb obA st.ob * (own g * (F * tt))))))) h := asr (by ac_rfl) hp
  cases hs : st.sp id with
  | none =>
    have hlk := (sp_look (id := id) hm).1 hs
    repeat (with_reducible first | refine vP_so ?_ | refine vB_t ?_ | refine vB_f ?_ | refine vE_tt ?_ | refine vE_ff ?_ | refine vE_tf ?_ | refine vE_ft ?_ | refine vE_u ?_ | refine vP_to (by simp (disch := omega) only [gdW_true, gdW_false, gB_true, gB_false, gB_undef, pickV_true, pickV_false, Bool.not_true, Bool.not_false, Option.map_some, bin_add, bin_sub, bin_mul, bin_quo, bin_rem, lss_t, lss_f, leq_t, leq_f, gtr_t, gtr_f, geq_t, geq_f, eqi_t, eqi_f, nei_t, nei_f, rem_uw, conv_ui, conv_iu, conv_ii, not_bool, nil_ptr, fa_mk, ptrV, len_mk, cap_mk, eq_ptr_nil, ne_ptr_nil, eq_nil_nil, ne_nil_nil, eq_slice_nil, eq_nil_slice, ia_1, nilP, l1.2.1, hlk, nil_pp]; exact so_so) ?_)
    exact hnone hs
  | some s =>
    obtain ⟨p, f, H, e1, hq, c1, _⟩ := sp_get hs hm
    have hlk := (lk_MP (k := id) mapSp intU zPSpan hq).1
    rw [e1] at hlk
    have hlk : lkV Tryz.prog 60 (.map (some rs)) (.int .i64 id) false h = some (pB p) := hlk
    have hq : (SPN p s * (MP rs f * (H * (pt a (.cells #[pv ap, .map (some rs), .map (some ro), .map (some rb), .int .i64 st.live] 63 (0, 0)) * (PG ap st.n st.runs * (MP ro (owF st.ow) * (MPO rb obA st.ob * (own g * (F * tt))))))))) h := asr (by ac_rfl) hq
    have ho := (ok.sp id s hs).2.2.1
    have hsz := szS_pos ho.cls
    have back : ∀ (s' : Sp) h', (SPN p s' * (MP rs f * (H * (pt a (.cells #[pv ap, .map (some rs), .map (some ro), .map (some rb), .int .i64 st.live] 63 (0, 0)) * (PG ap st.n st.runs * (MP ro (owF st.ow) * (MPO rb obA st.ob * (own g * (F * tt))))))))) h' →
        (pt a (.cells #[pv ap, .map (some rs), .map (some ro), .map (some rb), .int .i64 st.live] 63 (0, 0)) * (PG ap st.n st.runs * (MPO rs spA (fput st.sp id s') * (MP ro (owF st.ow) * (MPO rb obA st.ob * (own g * (F * tt))))))) h' := fun s' h' q => by
      have := c1 (pt a (.cells #[pv ap, .map (some rs), .map (some ro), .map (some rb), .int .i64 st.live] 63 (0, 0)) * (PG ap st.n st.runs * (MP ro (owF st.ow) * (MPO rb obA st.ob * (own g * (F * tt)))))) s' h' (asr (by ac_rfl) q)
      exact asr (by ac_rfl) this
    have back0 : ∀ h', (SPN p s * (MP rs f * (H * (pt a (.cells #[pv ap, .map (some rs), .map (some ro), .map (some rb), .int .i64 st.live] 63 (0, 0)) * (PG ap st.n st.runs * (MP ro (owF st.ow) * (MPO rb obA st.ob * (own g * (F * tt))))))))) h' → (AR a st * (own g * (F * tt))) h' := fun h' q => by
      have := back s h' q
      rw [fput_self hs] at this
      exact AR_intro this
    by_cases h1 : n < 1
    · repeat (with_reducible first | refine vP_so ?_ | refine vB_t ?_ | refine vB_f ?_ | refine vE_tt ?_ | refine vE_ff ?_ | refine vE_tf ?_ | refine vE_ft ?_ | refine vE_u ?_ | refine vP_to (by simp (disch := omega) only [gdW_true, gdW_false, gB_true, gB_false, gB_undef, pickV_true, pickV_false, Bool.not_true, Bool.not_false, Option.map_some, bin_add, bin_sub, bin_mul, bin_quo, bin_rem, lss_t, lss_f, leq_t, leq_f, gtr_t, gtr_f, geq_t, geq_f, eqi_t, eqi_f, nei_t, nei_f, rem_uw, conv_ui, conv_iu, conv_ii, not_bool, nil_ptr, fa_mk, ptrV, len_mk, cap_mk, eq_ptr_nil, ne_ptr_nil, eq_nil_nil, ne_nil_nil, eq_slice_nil, eq_nil_slice, ia_1, nilP, l1.2.1, hlk]; exact so_so) ?_)
      exact hbad s h hs (by omega) hh
    repeat (with_reducible first | refine vP_so ?_ | refine vB_t ?_ | refine vB_f ?_ | refine vE_tt ?_ | refine vE_ff ?_ | refine vE_tf ?_ | refine vE_ft ?_ | refine vE_u ?_ | refine vP_to (by simp (disch := omega) only [gdW_true, gdW_false, gB_true, gB_false, gB_undef, pickV_true, pickV_false, Bool.not_true, Bool.not_false, Option.map_some, bin_add, bin_sub, bin_mul, bin_quo, bin_rem, lss_t, lss_f, leq_t, leq_f, gtr_t, gtr_f, geq_t, geq_f, eqi_t, eqi_f, nei_t, nei_f, rem_uw, conv_ui, conv_iu, conv_ii, not_bool, nil_ptr, fa_mk, ptrV, len_mk, cap_mk, eq_ptr_nil, ne_ptr_nil, eq_nil_nil, ne_nil_nil, eq_slice_nil, eq_nil_slice, ia_1, nilP, l1.2.1, hlk]; exact so_so) ?_)
    refine use_sclass hq ?_
    repeat (with_reducible first | refine vP_so ?_ | refine vB_t ?_ | refine vB_f ?_ | refine vE_tt ?_ | refine vE_ff ?_ | refine vE_tf ?_ | refine vE_ft ?_ | refine vE_u ?_ | refine vP_to (by simp (disch := omega) only [gdW_true, gdW_false, gB_true, gB_false, gB_undef, pickV_true, pickV_false, Bool.not_true, Bool.not_false, Option.map_some, bin_add, bin_sub, bin_mul, bin_quo, bin_rem, lss_t, lss_f, leq_t, leq_f, gtr_t, gtr_f, geq_t, geq_f, eqi_t, eqi_f, nei_t, nei_f, rem_uw, conv_ui, conv_iu, conv_ii, not_bool, nil_ptr, fa_mk, ptrV, len_mk, cap_mk, eq_ptr_nil, ne_ptr_nil, eq_nil_nil, ne_nil_nil, eq_slice_nil, eq_nil_slice, ia_1]; exact so_so) ?_)
    refine use_size (F := SPN p s * (MP rs f * (H * (pt a (.cells #[pv ap, .map (some rs), .map (some ro), .map (some rb), .int .i64 st.live] 63 (0, 0)) * (PG ap st.n st.runs * (MP ro (owF st.ow) * (MPO rb obA st.ob * (own g * F)))))))) (asr (by ac_rfl) hq) fun h2 hh2 => ?_
    have hh2 : (SPN p s * (MP rs f * (H * (pt a (.cells #[pv ap, .map (some rs), .map (some ro), .map (some rb), .int .i64 st.live] 63 (0, 0)) * (PG ap st.n st.runs * (MP ro (owF st.ow) * (MPO rb obA st.ob * (own g * (F * tt))))))))) h2 := asr (by ac_rfl) hh2
    by_cases h2' : szS s.cls < n
    · repeat (with_reducible first | refine vP_so ?_ | refine vB_t ?_ | refine vB_f ?_ | refine vE_tt ?_ | refine vE_ff ?_ | refine vE_tf ?_ | refine vE_ft ?_ | refine vE_u ?_ | refine vP_to (by simp (disch := omega) only [gdW_true, gdW_false, gB_true, gB_false, gB_undef, pickV_true, pickV_false, Bool.not_true, Bool.not_false, Option.map_some, bin_add, bin_sub, bin_mul, bin_quo, bin_rem, lss_t, lss_f, leq_t, leq_f, gtr_t, gtr_f, geq_t, geq_f, eqi_t, eqi_f, nei_t, nei_f, rem_uw, conv_ui, conv_iu, conv_ii, not_bool, nil_ptr, fa_mk, ptrV, len_mk, cap_mk, eq_ptr_nil, ne_ptr_nil, eq_nil_nil, ne_nil_nil, eq_slice_nil, eq_nil_slice, ia_1]; exact so_so) ?_)
      exact hbad s h2 hs (by omega) (back0 h2 hh2)
    repeat (with_reducible first | refine vP_so ?_ | refine vB_t ?_ | refine vB_f ?_ | refine vE_tt ?_ | refine vE_ff ?_ | refine vE_tf ?_ | refine vE_ft ?_ | refine vE_u ?_ | refine vP_to (by simp (disch := omega) only [gdW_true, gdW_false, gB_true, gB_false, gB_undef, pickV_true, pickV_false, Bool.not_true, Bool.not_false, Option.map_some, bin_add, bin_sub, bin_mul, bin_quo, bin_rem, lss_t, lss_f, leq_t, leq_f, gtr_t, gtr_f, geq_t, geq_f, eqi_t, eqi_f, nei_t, nei_f, rem_uw, conv_ui, conv_iu, conv_ii, not_bool, nil_ptr, fa_mk, ptrV, len_mk, cap_mk, eq_ptr_nil, ne_ptr_nil, eq_nil_nil, ne_nil_nil, eq_slice_nil, eq_nil_slice, ia_1]; exact so_so) ?_)
    refine use_salloc hg ho (F := MP rs f * (H * (pt a (.cells #[pv ap, .map (some rs), .map (some ro), .map (some rb), .int .i64 st.live] 63 (0, 0)) * (PG ap st.n st.runs * (MP ro (owF st.ow) * (MPO rb obA st.ob * (F * tt))))))) (asr (by ac_rfl) hh2) (fun hn => ?_) fun i h3 hi hh3 => ?_
    · repeat (with_reducible first | refine vP_so ?_ | refine vB_t ?_ | refine vB_f ?_ | refine vE_tt ?_ | refine vE_ff ?_ | refine vE_tf ?_ | refine vE_ft ?_ | refine vE_u ?_ | refine vP_to (by simp (disch := omega) only [gdW_true, gdW_false, gB_true, gB_false, gB_undef, pickV_true, pickV_false, Bool.not_true, Bool.not_false, Option.map_some, bin_add, bin_sub, bin_mul, bin_quo, bin_rem, lss_t, lss_f, leq_t, leq_f, gtr_t, gtr_f, geq_t, geq_f, eqi_t, eqi_f, nei_t, nei_f, rem_uw, conv_ui, conv_iu, conv_ii, not_bool, nil_ptr, fa_mk, ptrV, len_mk, cap_mk, eq_ptr_nil, ne_ptr_nil, eq_nil_nil, ne_nil_nil, eq_slice_nil, eq_nil_slice, ia_1, exT0, exT1]; exact so_so) ?_)
      exact hfull s h2 hs (by omega) hn (back0 h2 hh2)
    obtain ⟨f1, _⟩ := ff_some hi
    have hil := (List.getElem?_eq_some_iff.1 f1).1
    have ho' := ho.take black hil
    have hil' : i < (s.take i black).used.length := by show i < (s.used.set i true).length; rw [List.length_set]; exact hil
    have hofree := ob_free ok hs f1
    have hh3 : (SPN p (s.take i black) * (pt a (.cells #[pv ap, .map (some rs), .map (some ro), .map (some rb), .int .i64 st.live] 63 (0, 0)) * (MP rs f * (H * (PG ap st.n st.runs * (MP ro (owF st.ow) * (MPO rb obA st.ob * (own g * (F * tt))))))))) h3 := asr (by ac_rfl) hh3
    have l3 := ar_ld (show (pt a (.cells #[pv ap, .map (some rs), .map (some ro), .map (some rb), .int .i64 st.live] 63 (0, 0)) * (SPN p (s.take i black) * (MP rs f * (H * (PG ap st.n st.runs * (MP ro (owF st.ow) * (MPO rb obA st.ob * (own g * (F * tt))))))))) h3 from asr (by ac_rfl) hh3)
    repeat (with_reducible first | refine vP_so ?_ | refine vB_t ?_ | refine vB_f ?_ | refine vE_tt ?_ | refine vE_ff ?_ | refine vE_tf ?_ | refine vE_ft ?_ | refine vE_u ?_ | refine vP_to (by simp (disch := omega) only [gdW_true, gdW_false, gB_true, gB_false, gB_undef, pickV_true, pickV_false, Bool.not_true, Bool.not_false, Option.map_some, bin_add, bin_sub, bin_mul, bin_quo, bin_rem, lss_t, lss_f, leq_t, leq_f, gtr_t, gtr_f, geq_t, geq_f, eqi_t, eqi_f, nei_t, nei_f, rem_uw, conv_ui, conv_iu, conv_ii, not_bool, nil_ptr, fa_mk, ptrV, len_mk, cap_mk, eq_ptr_nil, ne_ptr_nil, eq_nil_nil, ne_nil_nil, eq_slice_nil, eq_nil_slice, ia_1, exT0, exT1, l3.2.2.2.1]; exact so_so) ?_)
    refine use_saddr ho' hil' (F := pt a (.cells #[pv ap, .map (some rs), .map (some ro), .map (some rb), .int .i64 st.live] 63 (0, 0)) * (MP rs f * (H * (PG ap st.n st.runs * (MP ro (owF st.ow) * (MPO rb obA st.ob * (own g * F))))))) (asr (by ac_rfl) hh3) fun h4 hh4 => ?_
    have hh4 : (pt a (.cells #[pv ap, .map (some rs), .map (some ro), .map (some rb), .int .i64 st.live] 63 (0, 0)) * (SPN p (s.take i black) * (MP rs f * (H * (PG ap st.n st.runs * (MP ro (owF st.ow) * (MPO rb obA st.ob * (own g * (F * tt))))))))) h4 := asr (by ac_rfl) hh4
    have ea : (s.take i black).addr i = s.addr i := rfl
    rw [ea]
    refine ⟨(ar_ld hh4).2.2.2.1, ?_⟩
    obtain ⟨m, rfl⟩ : ∃ m : Nat, n = m := ⟨n.toNat, by omega⟩
    refine ms_SG iE (z := 0) (n := m) hh4 rfl rfl (by omega) (by omega) fun v50 h5 hh5 => ?_
    obtain ⟨fo, Ho, _, _, hho, _, co⟩ := MPO_none hofree (show (MPO rb obA st.ob * (SG iE 3 v50 (List.replicate m 0) * (pt a (.cells #[pv ap, .map (some rs), .map (some ro), .map (some rb), .int .i64 st.live] 63 (0, 0)) * (SPN p (s.take i black) * (MP rs f * (H * (PG ap st.n st.runs * (MP ro (owF st.ow) * (own g * (F * tt)))))))))) h5 from asr (by ac_rfl) hh5)
    refine mu_MP (v := v50) mapIs intU hho fun h6 hh6 => ?_
    have hh6 : (obA (List.replicate m 0) v50 * (MP rb (fun x => if x = s.addr i then some v50 else fo x) * (Ho * (pt a (.cells #[pv ap, .map (some rs), .map (some ro), .map (some rb), .int .i64 st.live] 63 (0, 0)) * (SPN p (s.take i black) * (MP rs f * (H * (PG ap st.n st.runs * (MP ro (owF st.ow) * (own g * (F * tt)))))))))) ) h6 := by
      unfold obA
      rw [star_assoc, pr_star]
      refine ⟨fun e => ?_, asr (by ac_rfl) hh6⟩
      have := congrArg List.length e
      rw [List.length_replicate] at this
      simp at this
      omega
    have hh6 := co (pt a (.cells #[pv ap, .map (some rs), .map (some ro), .map (some rb), .int .i64 st.live] 63 (0, 0)) * (SPN p (s.take i black) * (MP rs f * (H * (PG ap st.n st.runs * (MP ro (owF st.ow) * (own g * (F * tt)))))))) (List.replicate m 0) v50 h6 (asr (by ac_rfl) hh6)
    have hh6 : (SPN p (s.take i black) * (pt a (.cells #[pv ap, .map (some rs), .map (some ro), .map (some rb), .int .i64 st.live] 63 (0, 0)) * (MPO rb obA (fput st.ob (s.addr i) (List.replicate m 0)) * (MP rs f * (H * (PG ap st.n st.runs * (MP ro (owF st.ow) * (own g * (F * tt))))))))) h6 := asr (by ac_rfl) hh6
    have l6 := ar_ld (show (pt a (.cells #[pv ap, .map (some rs), .map (some ro), .map (some rb), .int .i64 st.live] 63 (0, 0)) * (SPN p (s.take i black) * (MPO rb obA (fput st.ob (s.addr i) (List.replicate m 0)) * (MP rs f * (H * (PG ap st.n st.runs * (MP ro (owF st.ow) * (own g * (F * tt))))))))) h6 from asr (by ac_rfl) hh6)
    repeat (with_reducible first | refine vP_so ?_ | refine vB_t ?_ | refine vB_f ?_ | refine vE_tt ?_ | refine vE_ff ?_ | refine vE_tf ?_ | refine vE_ft ?_ | refine vE_u ?_ | refine vP_to (by simp (disch := omega) only [gdW_true, gdW_false, gB_true, gB_false, gB_undef, pickV_true, pickV_false, Bool.not_true, Bool.not_false, Option.map_some, bin_add, bin_sub, bin_mul, bin_quo, bin_rem, lss_t, lss_f, leq_t, leq_f, gtr_t, gtr_f, geq_t, geq_f, eqi_t, eqi_f, nei_t, nei_f, rem_uw, conv_ui, conv_iu, conv_ii, not_bool, nil_ptr, fa_mk, ptrV, len_mk, cap_mk, eq_ptr_nil, ne_ptr_nil, eq_nil_nil, ne_nil_nil, eq_slice_nil, eq_nil_slice, ia_1, l6.2.2.2.2]; exact so_so) ?_)
    refine use_sclass hh6 ?_
    refine ⟨l6.2.2.2.2, ?_⟩
    have ec : (s.take i black).cls = s.cls := rfl
    rw [ec]
    refine use_size (F := SPN p (s.take i black) * (pt a (.cells #[pv ap, .map (some rs), .map (some ro), .map (some rb), .int .i64 st.live] 63 (0, 0)) * (MPO rb obA (fput st.ob (s.addr i) (List.replicate m 0)) * (MP rs f * (H * (PG ap st.n st.runs * (MP ro (owF st.ow) * (own g * F)))))))) (asr (by ac_rfl) hh6) fun h8 hh8 => ?_
    have hh8 : (pt a (.cells #[pv ap, .map (some rs), .map (some ro), .map (some rb), .int .i64 st.live] 63 (0, 0)) * (SPN p (s.take i black) * (MPO rb obA (fput st.ob (s.addr i) (List.replicate m 0)) * (MP rs f * (H * (PG ap st.n st.runs * (MP ro (owF st.ow) * (own g * (F * tt))))))))) h8 := asr (by ac_rfl) hh8
    refine ⟨(ar_ld hh8).2.2.2.2, ?_⟩
    have hlb := ok.live_bd
    repeat (with_reducible first | refine vP_so ?_ | refine vB_t ?_ | refine vB_f ?_ | refine vE_tt ?_ | refine vE_ff ?_ | refine vE_tf ?_ | refine vE_ft ?_ | refine vE_u ?_ | refine vP_to (by simp (disch := omega) only [gdW_true, gdW_false, gB_true, gB_false, gB_undef, pickV_true, pickV_false, Bool.not_true, Bool.not_false, Option.map_some, bin_add, bin_sub, bin_mul, bin_quo, bin_rem, lss_t, lss_f, leq_t, leq_f, gtr_t, gtr_f, geq_t, geq_f, eqi_t, eqi_f, nei_t, nei_f, rem_uw, conv_ui, conv_iu, conv_ii, not_bool, nil_ptr, fa_mk, ptrV, len_mk, cap_mk, eq_ptr_nil, ne_ptr_nil, eq_nil_nil, ne_nil_nil, eq_slice_nil, eq_nil_slice, ia_1]; exact so_so) ?_)
    refine st1_mk hh8 rfl (by simp) fun h9 hh9 => ?_
    have hh9 : (SPN p (s.take i black) * (pt a (.cells #[pv ap, .map (some rs), .map (some ro), .map (some rb), .int .i64 (st.live + szS s.cls)] 63 (0, 0)) * (MPO rb obA (fput st.ob (s.addr i) (List.replicate m 0)) * (MP rs f * (H * (PG ap st.n st.runs * (MP ro (owF st.ow) * (own g * (F * tt))))))))) h9 := by
      have : (pt a (.cells #[pv ap, .map (some rs), .map (some ro), .map (some rb), .int .i64 (st.live + szS s.cls)] 63 (0, 0)) * (SPN p (s.take i black) * (MPO rb obA (fput st.ob (s.addr i) (List.replicate m 0)) * (MP rs f * (H * (PG ap st.n st.runs * (MP ro (owF st.ow) * (own g * (F * tt))))))))) h9 := hh9
      exact asr (by ac_rfl) this
    refine use_saddr ho' hil' (F := pt a (.cells #[pv ap, .map (some rs), .map (some ro), .map (some rb), .int .i64 (st.live + szS s.cls)] 63 (0, 0)) * (MPO rb obA (fput st.ob (s.addr i) (List.replicate m 0)) * (MP rs f * (H * (PG ap st.n st.runs * (MP ro (owF st.ow) * (own g * F))))))) (asr (by ac_rfl) hh9) fun h10 hh10 => ?_
    rw [ea]
    have hh10 := c1 (pt a (.cells #[pv ap, .map (some rs), .map (some ro), .map (some rb), .int .i64 (st.live + szS s.cls)] 63 (0, 0)) * (MPO rb obA (fput st.ob (s.addr i) (List.replicate m 0)) * (PG ap st.n st.runs * (MP ro (owF st.ow) * (own g * (F * tt)))))) (s.take i black) h10 (asr (by ac_rfl) hh10)
    refine hK s i h10 hs ⟨by omega, by omega⟩ hi (AR_intro (ap := ap) (rs := rs) (ro := ro) (rb := rb) ?_)
    rw [Int.toNat_natCast]
    show (pt a (.cells #[pv ap, .map (some rs), .map (some ro), .map (some rb), .int .i64 (st.live + szS s.cls)] 63 (0, 0)) * (PG ap st.n st.runs * (MPO rs spA (fput st.sp id (s.take i black)) * (MP ro (owF st.ow) * (MPO rb obA (fput st.ob (s.addr i) (List.replicate m 0)) * (own g * (F * tt))))))) h10
    exact asr (by ac_rfl) hh10
theorem ow_look {ro : Nat} {ow : Int → Option Int} {x id : Int} {F : Asrt} {h : Hp} (ho : ow x = some id) (hh : (MP ro (owF ow) * F) h) : lkV Tryz.prog 52 (.map (some ro)) (.int .i64 x) false h = some (.int .i64 id) := by
  have := (lk_MP (k := x) mapII intU zInt hh).1
  have e : owF ow x = some (.int .i64 id) := by unfold owF; rw [ho]; rfl
  rw [e] at this
  exact this
theorem use_afind {g : Hp} {a : Nat} {st : Ar} {N : Nat} {x : Int} (ok : AOk st N) {F : Asrt} {K : Value → Hp → Prop} {h : Hp} (hh : (AR a st * (own g * (F * tt))) h)
    (hnone : ∀ h', st.ob x = none → (AR a st * (own g * (F * tt))) h' → K (.tuple #[.agg #[.int .i64 0, .int .i64 0], .bool false]) h')
    (hK : ∀ id s (i : Nat) l h', st.sp id = some s → s.used[i]? = some true → x = s.addr i → st.ob x = some l → (AR a st * (own g * (F * tt))) h' → K (.tuple #[.agg #[.int .i64 id, .int .i64 i], .bool true]) h') : CallH Tryz.prog 16 #[pB a, .int .i64 x] K h := by
  refine C16 ?_
  unfold D16
  refine vA_new hh fun r h1 hh1 => ?_
  have hh1a : (AR a st * (pt r (.cells #[.int .i64 0, .int .i64 0] 38 (0, 0)) * (own g * (F * tt)))) h1 := asr (by ac_rfl) hh1
  obtain ⟨ap, rs, ro, rb, hp⟩ := AR_elim hh1a
  have l1 := ar_ld hp
  have hob : (MPO rb obA st.ob * (pt a (.cells #[pv ap, .map (some rs), .map (some ro), .map (some rb), .int .i64 st.live] 63 (0, 0)) * (PG ap st.n st.runs * (MPO rs spA st.sp * (MP ro (owF st.ow) * (pt r (.cells #[.int .i64 0, .int .i64 0] 38 (0, 0)) * (own g * (F * tt)))))))) h1 := asr (by ac_rfl) hp
  have drp : ∀ {c h}, (pt r (.cells c 38 (0, 0)) * (AR a st * (own g * (F * tt)))) h → (AR a st * (own g * (F * tt))) h := fun q => dropL (P := pt r _) (Q := AR a st * (own g * F)) (asr (by ac_rfl) q) |> asr (by ac_rfl)
  cases hob' : st.ob x with
  | none =>
    have hlk := ob_none hob' hob
    have eb : bldV #[.int .i64 0, .int .i64 0] [] = some #[.int .i64 0, .int .i64 0] := rfl
    repeat (with_reducible first | refine vP_so ?_ | refine vB_t ?_ | refine vB_f ?_ | refine vE_tt ?_ | refine vE_ff ?_ | refine vE_tf ?_ | refine vE_ft ?_ | refine vE_u ?_ | refine vP_to (by simp (disch := omega) only [gdW_true, gdW_false, gB_true, gB_false, gB_undef, pickV_true, pickV_false, Bool.not_true, Bool.not_false, Option.map_some, bin_add, bin_sub, bin_mul, bin_quo, bin_rem, lss_t, lss_f, leq_t, leq_f, gtr_t, gtr_f, geq_t, geq_f, eqi_t, eqi_f, nei_t, nei_f, rem_uw, conv_ui, conv_iu, conv_ii, not_bool, nil_ptr, fa_mk, ptrV, len_mk, cap_mk, eq_ptr_nil, ne_ptr_nil, eq_nil_nil, ne_nil_nil, eq_slice_nil, eq_nil_slice, ia_1, nilP, l1.2.2.2.1, hlk, nil_ss, eb]; exact so_so) ?_)
    refine stN_mk (cs := #[.int .i64 0, .int .i64 0]) hh1 rfl rfl (by simp) fun h2 hh2 => ?_
    have d : ldN 2 (.pointer (some ⟨r, 0, none⟩)) h2 = some (.agg #[.int .i64 0, .int .i64 0]) := by rw [ldN_mk (pt_get hh2) (by simp [putL])]; rfl
    repeat (with_reducible first | refine vP_so ?_ | refine vB_t ?_ | refine vB_f ?_ | refine vE_tt ?_ | refine vE_ff ?_ | refine vE_tf ?_ | refine vE_ft ?_ | refine vE_u ?_ | refine vP_to (by simp (disch := omega) only [gdW_true, gdW_false, gB_true, gB_false, gB_undef, pickV_true, pickV_false, Bool.not_true, Bool.not_false, Option.map_some, bin_add, bin_sub, bin_mul, bin_quo, bin_rem, lss_t, lss_f, leq_t, leq_f, gtr_t, gtr_f, geq_t, geq_f, eqi_t, eqi_f, nei_t, nei_f, rem_uw, conv_ui, conv_iu, conv_ii, not_bool, nil_ptr, fa_mk, ptrV, len_mk, cap_mk, eq_ptr_nil, ne_ptr_nil, eq_nil_nil, ne_nil_nil, eq_slice_nil, eq_nil_slice, ia_1, d]; exact so_so) ?_)
    exact hnone h2 hob' (drp hh2)
  | some l =>
    obtain ⟨id, s, i, e, h3, h4⟩ := (ok.ob x).1 (by rw [hob']; rfl)
    have ho := (ok.sp id s e).2.2.1
    have hil := (List.getElem?_eq_some_iff.1 h3).1
    have hpage := addr_page ho hil
    have hbd := addr_bd ho hil
    have how := (ok.pg id s _ e hpage.1 hpage.2).2
    obtain ⟨v, f, H, e1, hne, hnn, hq, _⟩ := ob_get hob' hob
    have hlk := (lk_MP (k := x) mapIs intU zInts hq).1
    rw [e1] at hlk
    have hlk : lkV Tryz.prog 61 (.map (some rb)) (.int .i64 x) false h1 = some v := hlk
    have how' := ow_look how (show (MP ro (owF st.ow) * (pt a (.cells #[pv ap, .map (some rs), .map (some ro), .map (some rb), .int .i64 st.live] 63 (0, 0)) * (PG ap st.n st.runs * (MPO rs spA st.sp * (MPO rb obA st.ob * (pt r (.cells #[.int .i64 0, .int .i64 0] 38 (0, 0)) * (own g * (F * tt)))))))) h1 from asr (by ac_rfl) hp)
    have hm : (MPO rs spA st.sp * (pt a (.cells #[pv ap, .map (some rs), .map (some ro), .map (some rb), .int .i64 st.live] 63 (0, 0)) * (PG ap st.n st.runs * (MP ro (owF st.ow) * (MPO rb obA st.ob * (pt r (.cells #[.int .i64 0, .int .i64 0] 38 (0, 0)) * (own g * (F * tt)))))))) h1 := asr (by ac_rfl) hp
    obtain ⟨p, f2, H2, e2, hq2, c1, _⟩ := sp_get e hm
    have hlk2 := (lk_MP (k := id) mapSp intU zPSpan hq2).1
    rw [e2] at hlk2
    have hlk2 : lkV Tryz.prog 60 (.map (some rs)) (.int .i64 id) false h1 = some (pB p) := hlk2
    rw [h4] at hlk ⊢
    have q1 : s.addr i / 64 = s.addr i / 64 := rfl
    repeat (with_reducible first | refine vP_so ?_ | refine vB_t ?_ | refine vB_f ?_ | refine vE_tt ?_ | refine vE_ff ?_ | refine vE_tf ?_ | refine vE_ft ?_ | refine vE_u ?_ | refine vP_to (by simp (disch := omega) only [gdW_true, gdW_false, gB_true, gB_false, gB_undef, pickV_true, pickV_false, Bool.not_true, Bool.not_false, Option.map_some, bin_add, bin_sub, bin_mul, bin_quo, bin_rem, lss_t, lss_f, leq_t, leq_f, gtr_t, gtr_f, geq_t, geq_f, eqi_t, eqi_f, nei_t, nei_f, rem_uw, conv_ui, conv_iu, conv_ii, not_bool, nil_ptr, fa_mk, ptrV, len_mk, cap_mk, eq_ptr_nil, ne_ptr_nil, eq_nil_nil, ne_nil_nil, eq_slice_nil, eq_nil_slice, ia_1, nilP, l1.2.2.2.1, hlk, hnn, l1.2.2.1, how', l1.2.1, hlk2]; exact so_so) ?_)
    refine use_sat ho hil (p := p) (F := MP rs f2 * (H2 * (pt a (.cells #[pv ap, .map (some rs), .map (some ro), .map (some rb), .int .i64 st.live] 63 (0, 0)) * (PG ap st.n st.runs * (MP ro (owF st.ow) * (MPO rb obA st.ob * (pt r (.cells #[.int .i64 0, .int .i64 0] 38 (0, 0)) * (own g * F)))))))) (asr (by ac_rfl) hq2) fun h3' hh3 => ?_
    have hh3 := c1 (pt a (.cells #[pv ap, .map (some rs), .map (some ro), .map (some rb), .int .i64 st.live] 63 (0, 0)) * (PG ap st.n st.runs * (MP ro (owF st.ow) * (MPO rb obA st.ob * (pt r (.cells #[.int .i64 0, .int .i64 0] 38 (0, 0)) * (own g * (F * tt))))))) s h3' (asr (by ac_rfl) hh3)
    rw [fput_self e] at hh3
    have hh3 : (AR a st * (pt r (.cells #[.int .i64 0, .int .i64 0] 38 (0, 0)) * (own g * (F * tt)))) h3' := AR_intro (asr (by ac_rfl) hh3)
    have hh3 : (pt r (.cells #[.int .i64 0, .int .i64 0] 38 (0, 0)) * (AR a st * (own g * (F * tt)))) h3' := asr (by ac_rfl) hh3
    have eb : bldV #[.int .i64 0, .int .i64 0] [(0, 1, .int .i64 id), (1, 1, .int .i64 (i : Int))] = some #[.int .i64 id, .int .i64 (i : Int)] := rfl
    repeat (with_reducible first | refine vP_so ?_ | refine vB_t ?_ | refine vB_f ?_ | refine vE_tt ?_ | refine vE_ff ?_ | refine vE_tf ?_ | refine vE_ft ?_ | refine vE_u ?_ | refine vP_to (by simp (disch := omega) only [gdW_true, gdW_false, gB_true, gB_false, gB_undef, pickV_true, pickV_false, Bool.not_true, Bool.not_false, Option.map_some, bin_add, bin_sub, bin_mul, bin_quo, bin_rem, lss_t, lss_f, leq_t, leq_f, gtr_t, gtr_f, geq_t, geq_f, eqi_t, eqi_f, nei_t, nei_f, rem_uw, conv_ui, conv_iu, conv_ii, not_bool, nil_ptr, fa_mk, ptrV, len_mk, cap_mk, eq_ptr_nil, ne_ptr_nil, eq_nil_nil, ne_nil_nil, eq_slice_nil, eq_nil_slice, ia_1, exT0, exT1, eb]; exact so_so) ?_)
    refine stN_mk (cs := #[.int .i64 id, .int .i64 (i : Int)]) hh3 rfl rfl (by simp) fun h5 hh5 => ?_
    have d : ldN 2 (.pointer (some ⟨r, 0, none⟩)) h5 = some (.agg #[.int .i64 id, .int .i64 (i : Int)]) := by rw [ldN_mk (pt_get hh5) (by simp [putL])]; rfl
    repeat (with_reducible first | refine vP_so ?_ | refine vB_t ?_ | refine vB_f ?_ | refine vE_tt ?_ | refine vE_ff ?_ | refine vE_tf ?_ | refine vE_ft ?_ | refine vE_u ?_ | refine vP_to (by simp (disch := omega) only [gdW_true, gdW_false, gB_true, gB_false, gB_undef, pickV_true, pickV_false, Bool.not_true, Bool.not_false, Option.map_some, bin_add, bin_sub, bin_mul, bin_quo, bin_rem, lss_t, lss_f, leq_t, leq_f, gtr_t, gtr_f, geq_t, geq_f, eqi_t, eqi_f, nei_t, nei_f, rem_uw, conv_ui, conv_iu, conv_ii, not_bool, nil_ptr, fa_mk, ptrV, len_mk, cap_mk, eq_ptr_nil, ne_ptr_nil, eq_nil_nil, ne_nil_nil, eq_slice_nil, eq_nil_slice, ia_1, d]; exact so_so) ?_)
    exact hK id s i l h5 e h3 h4 hob' (drp hh5)
theorem use_alen {g : Hp} {a : Nat} {st : Ar} {x : Int} {F : Asrt} {K : Value → Hp → Prop} {h : Hp} (hh : (AR a st * (own g * (F * tt))) h)
    (hK : K (.int .i64 (((st.ob x).getD []).length : Nat)) h) : CallH Tryz.prog 17 #[pB a, .int .i64 x] K h := by
  refine C17 ?_
  unfold D17
  obtain ⟨ap, rs, ro, rb, hp⟩ := AR_elim hh
  have l1 := ar_ld hp
  have hob : (MPO rb obA st.ob * (pt a (.cells #[pv ap, .map (some rs), .map (some ro), .map (some rb), .int .i64 st.live] 63 (0, 0)) * (PG ap st.n st.runs * (MPO rs spA st.sp * (MP ro (owF st.ow) * (own g * (F * tt))))))) h := asr (by ac_rfl) hp
  cases hob' : st.ob x with
  | none =>
    rw [hob'] at hK
    have hlk := ob_none hob' hob
    repeat (with_reducible first | refine vP_so ?_ | refine vB_t ?_ | refine vB_f ?_ | refine vE_tt ?_ | refine vE_ff ?_ | refine vE_tf ?_ | refine vE_ft ?_ | refine vE_u ?_ | refine vP_to (by simp (disch := omega) only [gdW_true, gdW_false, gB_true, gB_false, gB_undef, pickV_true, pickV_false, Bool.not_true, Bool.not_false, Option.map_some, bin_add, bin_sub, bin_mul, bin_quo, bin_rem, lss_t, lss_f, leq_t, leq_f, gtr_t, gtr_f, geq_t, geq_f, eqi_t, eqi_f, nei_t, nei_f, rem_uw, conv_ui, conv_iu, conv_ii, not_bool, nil_ptr, fa_mk, ptrV, len_mk, cap_mk, eq_ptr_nil, ne_ptr_nil, eq_nil_nil, ne_nil_nil, eq_slice_nil, eq_nil_slice, ia_1, nilP, l1.2.2.2.1, hlk]; exact so_so) ?_)
    exact hK
  | some l =>
    rw [hob'] at hK
    obtain ⟨v, f, H, e1, hne, hnn, hq, _⟩ := ob_get hob' hob
    have hlk := (lk_MP (k := x) mapIs intU zInts hq).1
    rw [e1] at hlk
    have hlk : lkV Tryz.prog 61 (.map (some rb)) (.int .i64 x) false h = some v := hlk
    have hlen := SG_len iE (show (SG iE 3 v l * (MP rb f * (H * (pt a (.cells #[pv ap, .map (some rs), .map (some ro), .map (some rb), .int .i64 st.live] 63 (0, 0)) * (PG ap st.n st.runs * (MPO rs spA st.sp * (MP ro (owF st.ow) * (own g * (F * tt))))))))) h from asr (by ac_rfl) hq)
    repeat (with_reducible first | refine vP_so ?_ | refine vB_t ?_ | refine vB_f ?_ | refine vE_tt ?_ | refine vE_ff ?_ | refine vE_tf ?_ | refine vE_ft ?_ | refine vE_u ?_ | refine vP_to (by simp (disch := omega) only [gdW_true, gdW_false, gB_true, gB_false, gB_undef, pickV_true, pickV_false, Bool.not_true, Bool.not_false, Option.map_some, bin_add, bin_sub, bin_mul, bin_quo, bin_rem, lss_t, lss_f, leq_t, leq_f, gtr_t, gtr_f, geq_t, geq_f, eqi_t, eqi_f, nei_t, nei_f, rem_uw, conv_ui, conv_iu, conv_ii, not_bool, nil_ptr, fa_mk, ptrV, len_mk, cap_mk, eq_ptr_nil, ne_ptr_nil, eq_nil_nil, ne_nil_nil, eq_slice_nil, eq_nil_slice, ia_1, nilP, l1.2.2.2.1, hlk, hlen]; exact so_so) ?_)
    exact hK
theorem use_aslot {g : Hp} {a : Nat} {st : Ar} {x i : Int} {F : Asrt} {K : Value → Hp → Prop} {h : Hp} (hh : (AR a st * (own g * (F * tt))) h)
    (hnone : st.ob x = none → K (.tuple #[.pointer none, .int .i64 4]) h)
    (hout : ∀ l, st.ob x = some l → ¬ (0 ≤ i ∧ i < l.length) → K (.tuple #[.pointer none, .int .i64 2]) h)
    (hK : ∀ l c b o, st.ob x = some l → 0 ≤ i → l[i.toNat]? = some c → ld1 (.pointer (some ⟨b, o, none⟩)) h = some (.int .i64 c) →
      (∀ v K', (∀ h', (AR a { st with ob := fput st.ob x (l.set i.toNat v) } * (own g * (F * tt))) h' → K' undef h') → st1 (.pointer (some ⟨b, o, none⟩)) (.int .i64 v) K' h) → K (.tuple #[.pointer (some ⟨b, o, none⟩), .int .i64 0]) h) :
    CallH Tryz.prog 65 #[pB a, .int .i64 x, .int .i64 i] K h := by
  refine C65 ?_
  unfold D65
  obtain ⟨ap, rs, ro, rb, hp⟩ := AR_elim hh
  have l1 := ar_ld hp
  have hob : (MPO rb obA st.ob * (pt a (.cells #[pv ap, .map (some rs), .map (some ro), .map (some rb), .int .i64 st.live] 63 (0, 0)) * (PG ap st.n st.runs * (MPO rs spA st.sp * (MP ro (owF st.ow) * (own g * (F * tt))))))) h := asr (by ac_rfl) hp
  cases hob' : st.ob x with
  | none =>
    have hlk := ob_none hob' hob
    repeat (with_reducible first | refine vP_so ?_ | refine vB_t ?_ | refine vB_f ?_ | refine vE_tt ?_ | refine vE_ff ?_ | refine vE_tf ?_ | refine vE_ft ?_ | refine vE_u ?_ | refine vP_to (by simp (disch := omega) only [gdW_true, gdW_false, gB_true, gB_false, gB_undef, pickV_true, pickV_false, Bool.not_true, Bool.not_false, Option.map_some, bin_add, bin_sub, bin_mul, bin_quo, bin_rem, lss_t, lss_f, leq_t, leq_f, gtr_t, gtr_f, geq_t, geq_f, eqi_t, eqi_f, nei_t, nei_f, rem_uw, conv_ui, conv_iu, conv_ii, not_bool, nil_ptr, fa_mk, ptrV, len_mk, cap_mk, eq_ptr_nil, ne_ptr_nil, eq_nil_nil, ne_nil_nil, eq_slice_nil, eq_nil_slice, ia_1, nilP, l1.2.2.2.1, hlk, nil_ss]; exact so_so) ?_)
    exact hnone hob'
  | some l =>
    obtain ⟨v, f, H, e1, hne, hnn, hq, c1, _⟩ := ob_get hob' hob
    have hlk := (lk_MP (k := x) mapIs intU zInts hq).1
    rw [e1] at hlk
    have hlk : lkV Tryz.prog 61 (.map (some rb)) (.int .i64 x) false h = some v := hlk
    have hq : (SG iE 3 v l * (MP rb f * (H * (pt a (.cells #[pv ap, .map (some rs), .map (some ro), .map (some rb), .int .i64 st.live] 63 (0, 0)) * (PG ap st.n st.runs * (MPO rs spA st.sp * (MP ro (owF st.ow) * (own g * (F * tt))))))))) h := asr (by ac_rfl) hq
    have hlen := SG_len iE hq
    by_cases h1 : i < 0
    · repeat (with_reducible first | refine vP_so ?_ | refine vB_t ?_ | refine vB_f ?_ | refine vE_tt ?_ | refine vE_ff ?_ | refine vE_tf ?_ | refine vE_ft ?_ | refine vE_u ?_ | refine vP_to (by simp (disch := omega) only [gdW_true, gdW_false, gB_true, gB_false, gB_undef, pickV_true, pickV_false, Bool.not_true, Bool.not_false, Option.map_some, bin_add, bin_sub, bin_mul, bin_quo, bin_rem, lss_t, lss_f, leq_t, leq_f, gtr_t, gtr_f, geq_t, geq_f, eqi_t, eqi_f, nei_t, nei_f, rem_uw, conv_ui, conv_iu, conv_ii, not_bool, nil_ptr, fa_mk, ptrV, len_mk, cap_mk, eq_ptr_nil, ne_ptr_nil, eq_nil_nil, ne_nil_nil, eq_slice_nil, eq_nil_slice, ia_1, nilP, l1.2.2.2.1, hlk, hnn]; exact so_so) ?_)
      exact hout l hob' (by omega)
    by_cases h2 : (l.length : Int) ≤ i
    · repeat (with_reducible first | refine vP_so ?_ | refine vB_t ?_ | refine vB_f ?_ | refine vE_tt ?_ | refine vE_ff ?_ | refine vE_tf ?_ | refine vE_ft ?_ | refine vE_u ?_ | refine vP_to (by simp (disch := omega) only [gdW_true, gdW_false, gB_true, gB_false, gB_undef, pickV_true, pickV_false, Bool.not_true, Bool.not_false, Option.map_some, bin_add, bin_sub, bin_mul, bin_quo, bin_rem, lss_t, lss_f, leq_t, leq_f, gtr_t, gtr_f, geq_t, geq_f, eqi_t, eqi_f, nei_t, nei_f, rem_uw, conv_ui, conv_iu, conv_ii, not_bool, nil_ptr, fa_mk, ptrV, len_mk, cap_mk, eq_ptr_nil, ne_ptr_nil, eq_nil_nil, ne_nil_nil, eq_slice_nil, eq_nil_slice, ia_1, nilP, l1.2.2.2.1, hlk, hnn, hlen]; exact so_so) ?_)
      exact hout l hob' (by omega)
    obtain ⟨k, rfl⟩ : ∃ k : Nat, i = k := ⟨i.toNat, by omega⟩
    obtain ⟨c, hc⟩ : ∃ c, l[k]? = some c := ⟨_, List.getElem?_eq_getElem (by omega)⟩
    obtain ⟨b, o, g1, g2, _, _, g5⟩ := elG iE (i := k) (a := c) hq hc .i64
    have g1 : iaS 1 v (.int .i64 (k : Int)) = some (.pointer (some ⟨b, o, none⟩)) := g1
    repeat (with_reducible first | refine vP_so ?_ | refine vB_t ?_ | refine vB_f ?_ | refine vE_tt ?_ | refine vE_ff ?_ | refine vE_tf ?_ | refine vE_ft ?_ | refine vE_u ?_ | refine vP_to (by simp (disch := omega) only [gdW_true, gdW_false, gB_true, gB_false, gB_undef, pickV_true, pickV_false, Bool.not_true, Bool.not_false, Option.map_some, bin_add, bin_sub, bin_mul, bin_quo, bin_rem, lss_t, lss_f, leq_t, leq_f, gtr_t, gtr_f, geq_t, geq_f, eqi_t, eqi_f, nei_t, nei_f, rem_uw, conv_ui, conv_iu, conv_ii, not_bool, nil_ptr, fa_mk, ptrV, len_mk, cap_mk, eq_ptr_nil, ne_ptr_nil, eq_nil_nil, ne_nil_nil, eq_slice_nil, eq_nil_slice, ia_1, nilP, l1.2.2.2.1, hlk, hnn, hlen, g1]; exact so_so) ?_)
    refine hK l c b o hob' (by omega) (by rw [Int.toNat_natCast]; exact hc) (g2 0 _ rfl) fun w K' hk' => ?_
    refine g5 0 (.int .i64 w) w K' (by decide) rfl rfl fun h' hh' => hk' h' ?_
    have hl' : l.set k w ≠ [] := fun e => by
      have := congrArg List.length e
      rw [List.length_set] at this
      simp at this
      exact hne this
    have := c1 (pt a (.cells #[pv ap, .map (some rs), .map (some ro), .map (some rb), .int .i64 st.live] 63 (0, 0)) * (PG ap st.n st.runs * (MPO rs spA st.sp * (MP ro (owF st.ow) * (own g * (F * tt)))))) (l.set k w) h' hl' (asr (by ac_rfl) hh')
    rw [Int.toNat_natCast]
    refine AR_intro (ap := ap) (rs := rs) (ro := ro) (rb := rb) ?_
    show (pt a (.cells #[pv ap, .map (some rs), .map (some ro), .map (some rb), .int .i64 st.live] 63 (0, 0)) * (PG ap st.n st.runs * (MPO rs spA st.sp * (MP ro (owF st.ow) * (MPO rb obA (fput st.ob x (l.set k w)) * (own g * (F * tt))))))) h'
    exact asr (by ac_rfl) this
theorem use_aload {g : Hp} {a : Nat} {st : Ar} {x i : Int} {F : Asrt} {K : Value → Hp → Prop} {h : Hp} (hh : (AR a st * (own g * (F * tt))) h)
    (hnone : st.ob x = none → K (tup 0 4) h) (hout : ∀ l, st.ob x = some l → ¬ (0 ≤ i ∧ i < l.length) → K (tup 0 2) h)
    (hK : ∀ l c, st.ob x = some l → 0 ≤ i → l[i.toNat]? = some c → K (tup c 0) h) : CallH Tryz.prog 27 #[pB a, .int .i64 x, .int .i64 i] K h := by
  refine C27 ?_
  unfold D27
  refine use_aslot hh (fun e => ?_) (fun l e ho => ?_) (fun l c b o e h0 hc hl _ => ?_)
  · repeat (with_reducible first | refine vP_so ?_ | refine vB_t ?_ | refine vB_f ?_ | refine vE_tt ?_ | refine vE_ff ?_ | refine vE_tf ?_ | refine vE_ft ?_ | refine vE_u ?_ | refine vP_to (by simp (disch := omega) only [gdW_true, gdW_false, gB_true, gB_false, gB_undef, pickV_true, pickV_false, Bool.not_true, Bool.not_false, Option.map_some, bin_add, bin_sub, bin_mul, bin_quo, bin_rem, lss_t, lss_f, leq_t, leq_f, gtr_t, gtr_f, geq_t, geq_f, eqi_t, eqi_f, nei_t, nei_f, rem_uw, conv_ui, conv_iu, conv_ii, not_bool, nil_ptr, fa_mk, ptrV, len_mk, cap_mk, eq_ptr_nil, ne_ptr_nil, eq_nil_nil, ne_nil_nil, eq_slice_nil, eq_nil_slice, ia_1, exT0, exT1]; exact so_so) ?_)
    exact hnone e
  · repeat (with_reducible first | refine vP_so ?_ | refine vB_t ?_ | refine vB_f ?_ | refine vE_tt ?_ | refine vE_ff ?_ | refine vE_tf ?_ | refine vE_ft ?_ | refine vE_u ?_ | refine vP_to (by simp (disch := omega) only [gdW_true, gdW_false, gB_true, gB_false, gB_undef, pickV_true, pickV_false, Bool.not_true, Bool.not_false, Option.map_some, bin_add, bin_sub, bin_mul, bin_quo, bin_rem, lss_t, lss_f, leq_t, leq_f, gtr_t, gtr_f, geq_t, geq_f, eqi_t, eqi_f, nei_t, nei_f, rem_uw, conv_ui, conv_iu, conv_ii, not_bool, nil_ptr, fa_mk, ptrV, len_mk, cap_mk, eq_ptr_nil, ne_ptr_nil, eq_nil_nil, ne_nil_nil, eq_slice_nil, eq_nil_slice, ia_1, exT0, exT1]; exact so_so) ?_)
    exact hout l e ho
  · repeat (with_reducible first | refine vP_so ?_ | refine vB_t ?_ | refine vB_f ?_ | refine vE_tt ?_ | refine vE_ff ?_ | refine vE_tf ?_ | refine vE_ft ?_ | refine vE_u ?_ | refine vP_to (by simp (disch := omega) only [gdW_true, gdW_false, gB_true, gB_false, gB_undef, pickV_true, pickV_false, Bool.not_true, Bool.not_false, Option.map_some, bin_add, bin_sub, bin_mul, bin_quo, bin_rem, lss_t, lss_f, leq_t, leq_f, gtr_t, gtr_f, geq_t, geq_f, eqi_t, eqi_f, nei_t, nei_f, rem_uw, conv_ui, conv_iu, conv_ii, not_bool, nil_ptr, fa_mk, ptrV, len_mk, cap_mk, eq_ptr_nil, ne_ptr_nil, eq_nil_nil, ne_nil_nil, eq_slice_nil, eq_nil_slice, ia_1, exT0, exT1, hl]; exact so_so) ?_)
    exact hK l c e h0 hc
theorem use_astore {g : Hp} {a : Nat} {st : Ar} {x i v : Int} {F : Asrt} {K : Value → Hp → Prop} {h : Hp} (hh : (AR a st * (own g * (F * tt))) h)
    (hnone : st.ob x = none → K (.int .i64 4) h) (hout : ∀ l, st.ob x = some l → ¬ (0 ≤ i ∧ i < l.length) → K (.int .i64 2) h)
    (hK : ∀ l c h', st.ob x = some l → 0 ≤ i → l[i.toNat]? = some c → (AR a { st with ob := fput st.ob x (l.set i.toNat v) } * (own g * (F * tt))) h' → K (.int .i64 0) h') : CallH Tryz.prog 26 #[pB a, .int .i64 x, .int .i64 i, .int .i64 v] K h := by
  refine C26 ?_
  unfold D26
  refine use_aslot hh (fun e => ?_) (fun l e ho => ?_) (fun l c b o e h0 hc hl hst => ?_)
  · repeat (with_reducible first | refine vP_so ?_ | refine vB_t ?_ | refine vB_f ?_ | refine vE_tt ?_ | refine vE_ff ?_ | refine vE_tf ?_ | refine vE_ft ?_ | refine vE_u ?_ | refine vP_to (by simp (disch := omega) only [gdW_true, gdW_false, gB_true, gB_false, gB_undef, pickV_true, pickV_false, Bool.not_true, Bool.not_false, Option.map_some, bin_add, bin_sub, bin_mul, bin_quo, bin_rem, lss_t, lss_f, leq_t, leq_f, gtr_t, gtr_f, geq_t, geq_f, eqi_t, eqi_f, nei_t, nei_f, rem_uw, conv_ui, conv_iu, conv_ii, not_bool, nil_ptr, fa_mk, ptrV, len_mk, cap_mk, eq_ptr_nil, ne_ptr_nil, eq_nil_nil, ne_nil_nil, eq_slice_nil, eq_nil_slice, ia_1, exT0, exT1]; exact so_so) ?_)
    intro J1 hJ1
    repeat (with_reducible first | refine vP_so ?_ | refine vB_t ?_ | refine vB_f ?_ | refine vE_tt ?_ | refine vE_ff ?_ | refine vE_tf ?_ | refine vE_ft ?_ | refine vE_u ?_ | refine vP_to (by simp (disch := omega) only [gdW_true, gdW_false, gB_true, gB_false, gB_undef, pickV_true, pickV_false, Bool.not_true, Bool.not_false, Option.map_some, bin_add, bin_sub, bin_mul, bin_quo, bin_rem, lss_t, lss_f, leq_t, leq_f, gtr_t, gtr_f, geq_t, geq_f, eqi_t, eqi_f, nei_t, nei_f, rem_uw, conv_ui, conv_iu, conv_ii, not_bool, nil_ptr, fa_mk, ptrV, len_mk, cap_mk, eq_ptr_nil, ne_ptr_nil, eq_nil_nil, ne_nil_nil, eq_slice_nil, eq_nil_slice, ia_1]; exact so_so) ?_)
    exact hJ1 _ fun _ => hnone e
  · repeat (with_reducible first | refine vP_so ?_ | refine vB_t ?_ | refine vB_f ?_ | refine vE_tt ?_ | refine vE_ff ?_ | refine vE_tf ?_ | refine vE_ft ?_ | refine vE_u ?_ | refine vP_to (by simp (disch := omega) only [gdW_true, gdW_false, gB_true, gB_false, gB_undef, pickV_true, pickV_false, Bool.not_true, Bool.not_false, Option.map_some, bin_add, bin_sub, bin_mul, bin_quo, bin_rem, lss_t, lss_f, leq_t, leq_f, gtr_t, gtr_f, geq_t, geq_f, eqi_t, eqi_f, nei_t, nei_f, rem_uw, conv_ui, conv_iu, conv_ii, not_bool, nil_ptr, fa_mk, ptrV, len_mk, cap_mk, eq_ptr_nil, ne_ptr_nil, eq_nil_nil, ne_nil_nil, eq_slice_nil, eq_nil_slice, ia_1, exT0, exT1]; exact so_so) ?_)
    intro J1 hJ1
    repeat (with_reducible first | refine vP_so ?_ | refine vB_t ?_ | refine vB_f ?_ | refine vE_tt ?_ | refine vE_ff ?_ | refine vE_tf ?_ | refine vE_ft ?_ | refine vE_u ?_ | refine vP_to (by simp (disch := omega) only [gdW_true, gdW_false, gB_true, gB_false, gB_undef, pickV_true, pickV_false, Bool.not_true, Bool.not_false, Option.map_some, bin_add, bin_sub, bin_mul, bin_quo, bin_rem, lss_t, lss_f, leq_t, leq_f, gtr_t, gtr_f, geq_t, geq_f, eqi_t, eqi_f, nei_t, nei_f, rem_uw, conv_ui, conv_iu, conv_ii, not_bool, nil_ptr, fa_mk, ptrV, len_mk, cap_mk, eq_ptr_nil, ne_ptr_nil, eq_nil_nil, ne_nil_nil, eq_slice_nil, eq_nil_slice, ia_1]; exact so_so) ?_)
    exact hJ1 _ fun _ => hout l e ho
  · repeat (with_reducible first | refine vP_so ?_ | refine vB_t ?_ | refine vB_f ?_ | refine vE_tt ?_ | refine vE_ff ?_ | refine vE_tf ?_ | refine vE_ft ?_ | refine vE_u ?_ | refine vP_to (by simp (disch := omega) only [gdW_true, gdW_false, gB_true, gB_false, gB_undef, pickV_true, pickV_false, Bool.not_true, Bool.not_false, Option.map_some, bin_add, bin_sub, bin_mul, bin_quo, bin_rem, lss_t, lss_f, leq_t, leq_f, gtr_t, gtr_f, geq_t, geq_f, eqi_t, eqi_f, nei_t, nei_f, rem_uw, conv_ui, conv_iu, conv_ii, not_bool, nil_ptr, fa_mk, ptrV, len_mk, cap_mk, eq_ptr_nil, ne_ptr_nil, eq_nil_nil, ne_nil_nil, eq_slice_nil, eq_nil_slice, ia_1, exT0, exT1]; exact so_so) ?_)
    intro J1 hJ1
    have z : eqV 1 false (.int .i64 0) (.int .i64 0) = some (.bool true) := rfl
    repeat (with_reducible first | refine vP_so ?_ | refine vB_t ?_ | refine vB_f ?_ | refine vE_tt ?_ | refine vE_ff ?_ | refine vE_tf ?_ | refine vE_ft ?_ | refine vE_u ?_ | refine vP_to (by simp (disch := omega) only [gdW_true, gdW_false, gB_true, gB_false, gB_undef, pickV_true, pickV_false, Bool.not_true, Bool.not_false, Option.map_some, bin_add, bin_sub, bin_mul, bin_quo, bin_rem, lss_t, lss_f, leq_t, leq_f, gtr_t, gtr_f, geq_t, geq_f, eqi_t, eqi_f, nei_t, nei_f, rem_uw, conv_ui, conv_iu, conv_ii, not_bool, nil_ptr, fa_mk, ptrV, len_mk, cap_mk, eq_ptr_nil, ne_ptr_nil, eq_nil_nil, ne_nil_nil, eq_slice_nil, eq_nil_slice, ia_1, z]; exact so_so) ?_)
    refine hst v _ fun h' hh' => ?_
    exact hJ1 _ fun _ => hK l c h' e h0 hc hh'
end Go.Proofs

/-
  Contracts of package arena: Mark, Marked, Sweep, Live, Left, Full, Class.
-/
set_option maxRecDepth 100000
namespace Go.Proofs
open Go.Sl
theorem slot_ld {r : Nat} {x y : Int} {F : Asrt} {h : Hp} (hh : (pt r (.cells #[.int .i64 x, .int .i64 y] 38 (0, 0)) * F) h) :
    ld1 (.pointer (some ⟨r, 0 + 0, none⟩)) h = some (.int .i64 x) ∧ ld1 (.pointer (some ⟨r, 0 + 1, none⟩)) h = some (.int .i64 y) := ⟨ld1_mk (pt_get hh) rfl, ld1_mk (pt_get hh) rfl⟩
theorem use_amarked {g : Hp} {a : Nat} {st : Ar} {N : Nat} {x : Int} (ok : AOk st N) {F : Asrt} {K : Value → Hp → Prop} {h : Hp} (hh : (AR a st * (own g * (F * tt))) h)
    (hnone : ∀ h', st.ob x = none → (AR a st * (own g * (F * tt))) h' → K (.bool false) h')
    (hK : ∀ id s (i : Nat) h', st.sp id = some s → s.used[i]? = some true → x = s.addr i → (AR a st * (own g * (F * tt))) h' → K (.bool (hasB s.marks i)) h') : CallH Tryz.prog 28 #[pB a, .int .i64 x] K h := by
  refine C28 ?_
  unfold D28
  have drp : ∀ {r c h}, (pt r (.cells c 38 (0, 0)) * (AR a st * (own g * (F * tt)))) h → (AR a st * (own g * (F * tt))) h := fun {r c h} q => dropL (P := pt r (.cells c 38 (0, 0))) (Q := AR a st * (own g * F)) (asr (by ac_rfl) q) |> asr (by ac_rfl)
  refine use_afind ok hh (fun h1 e hh1 => ?_) (fun id s i l h1 e h3 h4 _ hh1 => ?_)
  · repeat (with_reducible first | refine vP_so ?_ | refine vB_t ?_ | refine vB_f ?_ | refine vE_tt ?_ | refine vE_ff ?_ | refine vE_tf ?_ | refine vE_ft ?_ | refine vE_u ?_ | refine vP_to (by simp (disch := omega) only [gdW_true, gdW_false, gB_true, gB_false, gB_undef, pickV_true, pickV_false, Bool.not_true, Bool.not_false, Option.map_some, bin_add, bin_sub, bin_mul, bin_quo, bin_rem, lss_t, lss_f, leq_t, leq_f, gtr_t, gtr_f, geq_t, geq_f, eqi_t, eqi_f, nei_t, nei_f, rem_uw, conv_ui, conv_iu, conv_ii, not_bool, nil_ptr, fa_mk, ptrV, len_mk, cap_mk, eq_ptr_nil, ne_ptr_nil, eq_nil_nil, ne_nil_nil, eq_slice_nil, eq_nil_slice, ia_1, exT0, exT1]; exact so_so) ?_)
    refine vA_new hh1 fun r h2 hh2 => ?_
    refine stN_mk (cs := #[.int .i64 0, .int .i64 0]) hh2 rfl rfl (by simp) fun h3 hh3 => ?_
    repeat (with_reducible first | refine vP_so ?_ | refine vB_t ?_ | refine vB_f ?_ | refine vE_tt ?_ | refine vE_ff ?_ | refine vE_tf ?_ | refine vE_ft ?_ | refine vE_u ?_ | refine vP_to (by simp (disch := omega) only [gdW_true, gdW_false, gB_true, gB_false, gB_undef, pickV_true, pickV_false, Bool.not_true, Bool.not_false, Option.map_some, bin_add, bin_sub, bin_mul, bin_quo, bin_rem, lss_t, lss_f, leq_t, leq_f, gtr_t, gtr_f, geq_t, geq_f, eqi_t, eqi_f, nei_t, nei_f, rem_uw, conv_ui, conv_iu, conv_ii, not_bool, nil_ptr, fa_mk, ptrV, len_mk, cap_mk, eq_ptr_nil, ne_ptr_nil, eq_nil_nil, ne_nil_nil, eq_slice_nil, eq_nil_slice, ia_1]; exact so_so) ?_)
    exact hnone h3 e (drp hh3)
  · repeat (with_reducible first | refine vP_so ?_ | refine vB_t ?_ | refine vB_f ?_ | refine vE_tt ?_ | refine vE_ff ?_ | refine vE_tf ?_ | refine vE_ft ?_ | refine vE_u ?_ | refine vP_to (by simp (disch := omega) only [gdW_true, gdW_false, gB_true, gB_false, gB_undef, pickV_true, pickV_false, Bool.not_true, Bool.not_false, Option.map_some, bin_add, bin_sub, bin_mul, bin_quo, bin_rem, lss_t, lss_f, leq_t, leq_f, gtr_t, gtr_f, geq_t, geq_f, eqi_t, eqi_f, nei_t, nei_f, rem_uw, conv_ui, conv_iu, conv_ii, not_bool, nil_ptr, fa_mk, ptrV, len_mk, cap_mk, eq_ptr_nil, ne_ptr_nil, eq_nil_nil, ne_nil_nil, eq_slice_nil, eq_nil_slice, ia_1, exT0, exT1]; exact so_so) ?_)
    refine vA_new hh1 fun r h2 hh2 => ?_
    refine stN_mk (cs := #[.int .i64 id, .int .i64 (i : Int)]) hh2 rfl rfl (by simp) fun h3' hh3 => ?_
    have hh3 : (pt r (.cells #[.int .i64 id, .int .i64 (i : Int)] 38 (0, 0)) * (AR a st * (own g * (F * tt)))) h3' := hh3
    have ls := slot_ld hh3
    obtain ⟨ap, rs, ro, rb, hp⟩ := AR_elim (show (AR a st * (pt r (.cells #[.int .i64 id, .int .i64 (i : Int)] 38 (0, 0)) * (own g * (F * tt)))) h3' from asr (by ac_rfl) hh3)
    have l1 := ar_ld hp
    obtain ⟨p, f2, H2, e2, hq2, c1, _⟩ := sp_get e (show (MPO rs spA st.sp * (pt a (.cells #[pv ap, .map (some rs), .map (some ro), .map (some rb), .int .i64 st.live] 63 (0, 0)) * (PG ap st.n st.runs * (MP ro (owF st.ow) * (MPO rb obA st.ob * (pt r (.cells #[.int .i64 id, .int .i64 (i : Int)] 38 (0, 0)) * (own g * (F * tt)))))))) h3' from asr (by ac_rfl) hp)
    have hlk2 := (lk_MP (k := id) mapSp intU zPSpan hq2).1
    rw [e2] at hlk2
    have hlk2 : lkV Tryz.prog 60 (.map (some rs)) (.int .i64 id) false h3' = some (pB p) := hlk2
    repeat (with_reducible first | refine vP_so ?_ | refine vB_t ?_ | refine vB_f ?_ | refine vE_tt ?_ | refine vE_ff ?_ | refine vE_tf ?_ | refine vE_ft ?_ | refine vE_u ?_ | refine vP_to (by simp (disch := omega) only [gdW_true, gdW_false, gB_true, gB_false, gB_undef, pickV_true, pickV_false, Bool.not_true, Bool.not_false, Option.map_some, bin_add, bin_sub, bin_mul, bin_quo, bin_rem, lss_t, lss_f, leq_t, leq_f, gtr_t, gtr_f, geq_t, geq_f, eqi_t, eqi_f, nei_t, nei_f, rem_uw, conv_ui, conv_iu, conv_ii, not_bool, nil_ptr, fa_mk, ptrV, len_mk, cap_mk, eq_ptr_nil, ne_ptr_nil, eq_nil_nil, ne_nil_nil, eq_slice_nil, eq_nil_slice, ia_1, l1.2.1, ls.1, ls.2, hlk2]; exact so_so) ?_)
    refine use_smarked (ok.sp id s e).2.2.1 (show (SPN p s * (MP rs f2 * (H2 * (pt a (.cells #[pv ap, .map (some rs), .map (some ro), .map (some rb), .int .i64 st.live] 63 (0, 0)) * (PG ap st.n st.runs * (MP ro (owF st.ow) * (MPO rb obA st.ob * (pt r (.cells #[.int .i64 id, .int .i64 (i : Int)] 38 (0, 0)) * (own g * (F * tt)))))))))) h3' from asr (by ac_rfl) hq2) ?_
    repeat (with_reducible first | refine vP_so ?_ | refine vB_t ?_ | refine vB_f ?_ | refine vE_tt ?_ | refine vE_ff ?_ | refine vE_tf ?_ | refine vE_ft ?_ | refine vE_u ?_ | refine vP_to (by simp (disch := omega) only [gdW_true, gdW_false, gB_true, gB_false, gB_undef, pickV_true, pickV_false, Bool.not_true, Bool.not_false, Option.map_some, bin_add, bin_sub, bin_mul, bin_quo, bin_rem, lss_t, lss_f, leq_t, leq_f, gtr_t, gtr_f, geq_t, geq_f, eqi_t, eqi_f, nei_t, nei_f, rem_uw, conv_ui, conv_iu, conv_ii, not_bool, nil_ptr, fa_mk, ptrV, len_mk, cap_mk, eq_ptr_nil, ne_ptr_nil, eq_nil_nil, ne_nil_nil, eq_slice_nil, eq_nil_slice, ia_1]; exact so_so) ?_)
    exact hK id s i h3' e h3 h4 (drp hh3)
theorem use_amark {g : Hp} {a : Nat} {st : Ar} {N : Nat} {x : Int} (ok : AOk st N) {F : Asrt} {K : Value → Hp → Prop} {h : Hp} (hh : (AR a st * (own g * (F * tt))) h)
    (hnone : ∀ h', st.ob x = none → (AR a st * (own g * (F * tt))) h' → K (.bool false) h')
    (hK : ∀ id s (i : Nat) h', st.sp id = some s → s.used[i]? = some true → x = s.addr i → (AR a { st with sp := fput st.sp id (s.mark i) } * (own g * (F * tt))) h' → K (.bool !(hasB s.marks i)) h') : CallH Tryz.prog 29 #[pB a, .int .i64 x] K h := by
  refine C29 ?_
  unfold D29
  refine use_afind ok hh (fun h1 e hh1 => ?_) (fun id s i l h1 e h3 h4 _ hh1 => ?_)
  · repeat (with_reducible first | refine vP_so ?_ | refine vB_t ?_ | refine vB_f ?_ | refine vE_tt ?_ | refine vE_ff ?_ | refine vE_tf ?_ | refine vE_ft ?_ | refine vE_u ?_ | refine vP_to (by simp (disch := omega) only [gdW_true, gdW_false, gB_true, gB_false, gB_undef, pickV_true, pickV_false, Bool.not_true, Bool.not_false, Option.map_some, bin_add, bin_sub, bin_mul, bin_quo, bin_rem, lss_t, lss_f, leq_t, leq_f, gtr_t, gtr_f, geq_t, geq_f, eqi_t, eqi_f, nei_t, nei_f, rem_uw, conv_ui, conv_iu, conv_ii, not_bool, nil_ptr, fa_mk, ptrV, len_mk, cap_mk, eq_ptr_nil, ne_ptr_nil, eq_nil_nil, ne_nil_nil, eq_slice_nil, eq_nil_slice, ia_1, exT0, exT1]; exact so_so) ?_)
    refine vA_new hh1 fun r h2 hh2 => ?_
    refine stN_mk (cs := #[.int .i64 0, .int .i64 0]) hh2 rfl rfl (by simp) fun h3 hh3 => ?_
    repeat (with_reducible first | refine vP_so ?_ | refine vB_t ?_ | refine vB_f ?_ | refine vE_tt ?_ | refine vE_ff ?_ | refine vE_tf ?_ | refine vE_ft ?_ | refine vE_u ?_ | refine vP_to (by simp (disch := omega) only [gdW_true, gdW_false, gB_true, gB_false, gB_undef, pickV_true, pickV_false, Bool.not_true, Bool.not_false, Option.map_some, bin_add, bin_sub, bin_mul, bin_quo, bin_rem, lss_t, lss_f, leq_t, leq_f, gtr_t, gtr_f, geq_t, geq_f, eqi_t, eqi_f, nei_t, nei_f, rem_uw, conv_ui, conv_iu, conv_ii, not_bool, nil_ptr, fa_mk, ptrV, len_mk, cap_mk, eq_ptr_nil, ne_ptr_nil, eq_nil_nil, ne_nil_nil, eq_slice_nil, eq_nil_slice, ia_1]; exact so_so) ?_)
    exact hnone h3 e (dropL (P := pt r _) (Q := AR a st * (own g * F)) (asr (by ac_rfl) hh3) |> asr (by ac_rfl))
  · repeat (with_reducible first | refine vP_so ?_ | refine vB_t ?_ | refine vB_f ?_ | refine vE_tt ?_ | refine vE_ff ?_ | refine vE_tf ?_ | refine vE_ft ?_ | refine vE_u ?_ | refine vP_to (by simp (disch := omega) only [gdW_true, gdW_false, gB_true, gB_false, gB_undef, pickV_true, pickV_false, Bool.not_true, Bool.not_false, Option.map_some, bin_add, bin_sub, bin_mul, bin_quo, bin_rem, lss_t, lss_f, leq_t, leq_f, gtr_t, gtr_f, geq_t, geq_f, eqi_t, eqi_f, nei_t, nei_f, rem_uw, conv_ui, conv_iu, conv_ii, not_bool, nil_ptr, fa_mk, ptrV, len_mk, cap_mk, eq_ptr_nil, ne_ptr_nil, eq_nil_nil, ne_nil_nil, eq_slice_nil, eq_nil_slice, ia_1, exT0, exT1]; exact so_so) ?_)
    refine vA_new hh1 fun r h2 hh2 => ?_
    refine stN_mk (cs := #[.int .i64 id, .int .i64 (i : Int)]) hh2 rfl rfl (by simp) fun h3' hh3 => ?_
    have hh3 : (pt r (.cells #[.int .i64 id, .int .i64 (i : Int)] 38 (0, 0)) * (AR a st * (own g * (F * tt)))) h3' := hh3
    have ls := slot_ld hh3
    obtain ⟨ap, rs, ro, rb, hp⟩ := AR_elim (show (AR a st * (pt r (.cells #[.int .i64 id, .int .i64 (i : Int)] 38 (0, 0)) * (own g * (F * tt)))) h3' from asr (by ac_rfl) hh3)
    have l1 := ar_ld hp
    obtain ⟨p, f2, H2, e2, hq2, c1, _⟩ := sp_get e (show (MPO rs spA st.sp * (pt a (.cells #[pv ap, .map (some rs), .map (some ro), .map (some rb), .int .i64 st.live] 63 (0, 0)) * (PG ap st.n st.runs * (MP ro (owF st.ow) * (MPO rb obA st.ob * (pt r (.cells #[.int .i64 id, .int .i64 (i : Int)] 38 (0, 0)) * (own g * (F * tt)))))))) h3' from asr (by ac_rfl) hp)
    have hlk2 := (lk_MP (k := id) mapSp intU zPSpan hq2).1
    rw [e2] at hlk2
    have hlk2 : lkV Tryz.prog 60 (.map (some rs)) (.int .i64 id) false h3' = some (pB p) := hlk2
    repeat (with_reducible first | refine vP_so ?_ | refine vB_t ?_ | refine vB_f ?_ | refine vE_tt ?_ | refine vE_ff ?_ | refine vE_tf ?_ | refine vE_ft ?_ | refine vE_u ?_ | refine vP_to (by simp (disch := omega) only [gdW_true, gdW_false, gB_true, gB_false, gB_undef, pickV_true, pickV_false, Bool.not_true, Bool.not_false, Option.map_some, bin_add, bin_sub, bin_mul, bin_quo, bin_rem, lss_t, lss_f, leq_t, leq_f, gtr_t, gtr_f, geq_t, geq_f, eqi_t, eqi_f, nei_t, nei_f, rem_uw, conv_ui, conv_iu, conv_ii, not_bool, nil_ptr, fa_mk, ptrV, len_mk, cap_mk, eq_ptr_nil, ne_ptr_nil, eq_nil_nil, ne_nil_nil, eq_slice_nil, eq_nil_slice, ia_1, l1.2.1, ls.1, ls.2, hlk2]; exact so_so) ?_)
    refine use_smark (ok.sp id s e).2.2.1 h3 (show (SPN p s * (MP rs f2 * (H2 * (pt a (.cells #[pv ap, .map (some rs), .map (some ro), .map (some rb), .int .i64 st.live] 63 (0, 0)) * (PG ap st.n st.runs * (MP ro (owF st.ow) * (MPO rb obA st.ob * (pt r (.cells #[.int .i64 id, .int .i64 (i : Int)] 38 (0, 0)) * (own g * (F * tt)))))))))) h3' from asr (by ac_rfl) hq2) fun h4' hh4 => ?_
    repeat (with_reducible first | refine vP_so ?_ | refine vB_t ?_ | refine vB_f ?_ | refine vE_tt ?_ | refine vE_ff ?_ | refine vE_tf ?_ | refine vE_ft ?_ | refine vE_u ?_ | refine vP_to (by simp (disch := omega) only [gdW_true, gdW_false, gB_true, gB_false, gB_undef, pickV_true, pickV_false, Bool.not_true, Bool.not_false, Option.map_some, bin_add, bin_sub, bin_mul, bin_quo, bin_rem, lss_t, lss_f, leq_t, leq_f, gtr_t, gtr_f, geq_t, geq_f, eqi_t, eqi_f, nei_t, nei_f, rem_uw, conv_ui, conv_iu, conv_ii, not_bool, nil_ptr, fa_mk, ptrV, len_mk, cap_mk, eq_ptr_nil, ne_ptr_nil, eq_nil_nil, ne_nil_nil, eq_slice_nil, eq_nil_slice, ia_1]; exact so_so) ?_)
    have hh4 := c1 (pt a (.cells #[pv ap, .map (some rs), .map (some ro), .map (some rb), .int .i64 st.live] 63 (0, 0)) * (PG ap st.n st.runs * (MP ro (owF st.ow) * (MPO rb obA st.ob * (pt r (.cells #[.int .i64 id, .int .i64 (i : Int)] 38 (0, 0)) * (own g * (F * tt))))))) (s.mark i) h4' (asr (by ac_rfl) hh4)
    have hh5 : (AR a { st with sp := fput st.sp id (s.mark i) } * (pt r (.cells #[.int .i64 id, .int .i64 (i : Int)] 38 (0, 0)) * (own g * (F * tt)))) h4' := AR_intro (ap := ap) (rs := rs) (ro := ro) (rb := rb) (st := { st with sp := fput st.sp id (s.mark i) }) (asr (by ac_rfl) hh4)
    exact hK id s i h4' e h3 h4 (dropL (P := pt r (.cells #[.int .i64 id, .int .i64 (i : Int)] 38 (0, 0))) (Q := AR a { st with sp := fput st.sp id (s.mark i) } * (own g * F)) (asr (by ac_rfl) hh5) |> asr (by ac_rfl))
theorem use_alive {g : Hp} {a : Nat} {st : Ar} {F : Asrt} {K : Value → Hp → Prop} {h : Hp} (hh : (AR a st * (own g * (F * tt))) h) (hK : K (.int .i64 st.live) h) : CallH Tryz.prog 19 #[pB a] K h := by
  refine C19 ?_
  unfold D19
  obtain ⟨ap, rs, ro, rb, hp⟩ := AR_elim hh
  have l1 := ar_ld hp
  repeat (with_reducible first | refine vP_so ?_ | refine vB_t ?_ | refine vB_f ?_ | refine vE_tt ?_ | refine vE_ff ?_ | refine vE_tf ?_ | refine vE_ft ?_ | refine vE_u ?_ | refine vP_to (by simp (disch := omega) only [gdW_true, gdW_false, gB_true, gB_false, gB_undef, pickV_true, pickV_false, Bool.not_true, Bool.not_false, Option.map_some, bin_add, bin_sub, bin_mul, bin_quo, bin_rem, lss_t, lss_f, leq_t, leq_f, gtr_t, gtr_f, geq_t, geq_f, eqi_t, eqi_f, nei_t, nei_f, rem_uw, conv_ui, conv_iu, conv_ii, not_bool, nil_ptr, fa_mk, ptrV, len_mk, cap_mk, eq_ptr_nil, ne_ptr_nil, eq_nil_nil, ne_nil_nil, eq_slice_nil, eq_nil_slice, ia_1, nilP, l1.2.2.2.2]; exact so_so) ?_)
  exact hK
theorem use_aleft {g : Hp} {a : Nat} {st : Ar} {N : Nat} (ok : AOk st N) {F : Asrt} {K : Value → Hp → Prop} {h : Hp} (hh : (AR a st * (own g * (F * tt))) h) (hK : ∀ h', (AR a st * (own g * (F * tt))) h' → K (.int .i64 (leftS st.runs)) h') : CallH Tryz.prog 11 #[pB a] K h := by
  refine C11 ?_
  unfold D11
  obtain ⟨ap, rs, ro, rb, hp⟩ := AR_elim hh
  have l1 := ar_ld hp
  repeat (with_reducible first | refine vP_so ?_ | refine vB_t ?_ | refine vB_f ?_ | refine vE_tt ?_ | refine vE_ff ?_ | refine vE_tf ?_ | refine vE_ft ?_ | refine vE_u ?_ | refine vP_to (by simp (disch := omega) only [gdW_true, gdW_false, gB_true, gB_false, gB_undef, pickV_true, pickV_false, Bool.not_true, Bool.not_false, Option.map_some, bin_add, bin_sub, bin_mul, bin_quo, bin_rem, lss_t, lss_f, leq_t, leq_f, gtr_t, gtr_f, geq_t, geq_f, eqi_t, eqi_f, nei_t, nei_f, rem_uw, conv_ui, conv_iu, conv_ii, not_bool, nil_ptr, fa_mk, ptrV, len_mk, cap_mk, eq_ptr_nil, ne_ptr_nil, eq_nil_nil, ne_nil_nil, eq_slice_nil, eq_nil_slice, ia_1, nilP, l1.1]; exact so_so) ?_)
  refine use_left (a := ap) ok.wf ⟨by omega, by have := ok.n; omega⟩ (F := pt a (.cells #[pv ap, .map (some rs), .map (some ro), .map (some rb), .int .i64 st.live] 63 (0, 0)) * (MPO rs spA st.sp * (MP ro (owF st.ow) * (MPO rb obA st.ob * (own g * (F * tt)))))) (asr (by ac_rfl) hp) fun h1 hh1 => ?_
  exact hK h1 (AR_intro (asr (by ac_rfl) hh1))
def fullV : Option Sp → Bool
  | none => true
  | some s => (ff s.used).isNone
theorem use_afull {g : Hp} (hg : TabG 0 g) {a : Nat} {st : Ar} {N : Nat} {id : Int} (ok : AOk st N) {F : Asrt} {K : Value → Hp → Prop} {h : Hp} (hh : (AR a st * (own g * (F * tt))) h) (hK : K (.bool (fullV (st.sp id))) h) : CallH Tryz.prog 10 #[pB a, .int .i64 id] K h := by
  refine C10 ?_
  unfold D10
  obtain ⟨ap, rs, ro, rb, hp⟩ := AR_elim hh
  have l1 := ar_ld hp
  have hm : (MPO rs spA st.sp * (pt a (.cells #[pv ap, .map (some rs), .map (some ro), .map (some rb), .int .i64 st.live] 63 (0, 0)) * (PG ap st.n st.runs * (MP ro (owF st.ow) * (MPO rb obA st.ob * (own g * (F * tt))))))) h := asr (by ac_rfl) hp
  cases hs : st.sp id with
  | none =>
    have hlk := (sp_look (id := id) hm).1 hs
    rw [hs] at hK
    repeat (with_reducible first | refine vP_so ?_ | refine vB_t ?_ | refine vB_f ?_ | refine vE_tt ?_ | refine vE_ff ?_ | refine vE_tf ?_ | refine vE_ft ?_ | refine vE_u ?_ | refine vP_to (by simp (disch := omega) only [gdW_true, gdW_false, gB_true, gB_false, gB_undef, pickV_true, pickV_false, Bool.not_true, Bool.not_false, Option.map_some, bin_add, bin_sub, bin_mul, bin_quo, bin_rem, lss_t, lss_f, leq_t, leq_f, gtr_t, gtr_f, geq_t, geq_f, eqi_t, eqi_f, nei_t, nei_f, rem_uw, conv_ui, conv_iu, conv_ii, not_bool, nil_ptr, fa_mk, ptrV, len_mk, cap_mk, eq_ptr_nil, ne_ptr_nil, eq_nil_nil, ne_nil_nil, eq_slice_nil, eq_nil_slice, ia_1, nilP, l1.2.1, hlk]; exact so_so) ?_)
    refine C37 ?_
    unfold D37
    repeat (with_reducible first | refine vP_so ?_ | refine vB_t ?_ | refine vB_f ?_ | refine vE_tt ?_ | refine vE_ff ?_ | refine vE_tf ?_ | refine vE_ft ?_ | refine vE_u ?_ | refine vP_to (by simp (disch := omega) only [gdW_true, gdW_false, gB_true, gB_false, gB_undef, pickV_true, pickV_false, Bool.not_true, Bool.not_false, Option.map_some, bin_add, bin_sub, bin_mul, bin_quo, bin_rem, lss_t, lss_f, leq_t, leq_f, gtr_t, gtr_f, geq_t, geq_f, eqi_t, eqi_f, nei_t, nei_f, rem_uw, conv_ui, conv_iu, conv_ii, not_bool, nil_ptr, fa_mk, ptrV, len_mk, cap_mk, eq_ptr_nil, ne_ptr_nil, eq_nil_nil, ne_nil_nil, eq_slice_nil, eq_nil_slice, ia_1, nil_pp]; exact so_so) ?_)
    exact hK
  | some s =>
    obtain ⟨p, f, H, e1, hq, _, _⟩ := sp_get hs hm
    have hlk := (lk_MP (k := id) mapSp intU zPSpan hq).1
    rw [e1] at hlk
    have hlk : lkV Tryz.prog 60 (.map (some rs)) (.int .i64 id) false h = some (pB p) := hlk
    rw [hs] at hK
    repeat (with_reducible first | refine vP_so ?_ | refine vB_t ?_ | refine vB_f ?_ | refine vE_tt ?_ | refine vE_ff ?_ | refine vE_tf ?_ | refine vE_ft ?_ | refine vE_u ?_ | refine vP_to (by simp (disch := omega) only [gdW_true, gdW_false, gB_true, gB_false, gB_undef, pickV_true, pickV_false, Bool.not_true, Bool.not_false, Option.map_some, bin_add, bin_sub, bin_mul, bin_quo, bin_rem, lss_t, lss_f, leq_t, leq_f, gtr_t, gtr_f, geq_t, geq_f, eqi_t, eqi_f, nei_t, nei_f, rem_uw, conv_ui, conv_iu, conv_ii, not_bool, nil_ptr, fa_mk, ptrV, len_mk, cap_mk, eq_ptr_nil, ne_ptr_nil, eq_nil_nil, ne_nil_nil, eq_slice_nil, eq_nil_slice, ia_1, nilP, l1.2.1, hlk]; exact so_so) ?_)
    refine use_sfull hg (ok.sp id s hs).2.2.1 (F := MP rs f * (H * (pt a (.cells #[pv ap, .map (some rs), .map (some ro), .map (some rb), .int .i64 st.live] 63 (0, 0)) * (PG ap st.n st.runs * (MP ro (owF st.ow) * (MPO rb obA st.ob * (F * tt))))))) (asr (by ac_rfl) hq) ?_
    repeat (with_reducible first | refine vP_so ?_ | refine vB_t ?_ | refine vB_f ?_ | refine vE_tt ?_ | refine vE_ff ?_ | refine vE_tf ?_ | refine vE_ft ?_ | refine vE_u ?_ | refine vP_to (by simp (disch := omega) only [gdW_true, gdW_false, gB_true, gB_false, gB_undef, pickV_true, pickV_false, Bool.not_true, Bool.not_false, Option.map_some, bin_add, bin_sub, bin_mul, bin_quo, bin_rem, lss_t, lss_f, leq_t, leq_f, gtr_t, gtr_f, geq_t, geq_f, eqi_t, eqi_f, nei_t, nei_f, rem_uw, conv_ui, conv_iu, conv_ii, not_bool, nil_ptr, fa_mk, ptrV, len_mk, cap_mk, eq_ptr_nil, ne_ptr_nil, eq_nil_nil, ne_nil_nil, eq_slice_nil, eq_nil_slice, ia_1, nilP]; exact so_so) ?_)
    exact hK
def clsV : Option Sp → Int
  | none => -1
  | some s => s.cls
theorem use_aclass {g : Hp} {a : Nat} {st : Ar} {id : Int} {F : Asrt} {K : Value → Hp → Prop} {h : Hp} (hh : (AR a st * (own g * (F * tt))) h) (hK : K (.int .i64 (clsV (st.sp id))) h) : CallH Tryz.prog 9 #[pB a, .int .i64 id] K h := by
  refine C9 ?_
  unfold D9
  obtain ⟨ap, rs, ro, rb, hp⟩ := AR_elim hh
  have l1 := ar_ld hp
  have hm : (MPO rs spA st.sp * (pt a (.cells #[pv ap, .map (some rs), .map (some ro), .map (some rb), .int .i64 st.live] 63 (0, 0)) * (PG ap st.n st.runs * (MP ro (owF st.ow) * (MPO rb obA st.ob * (own g * (F * tt))))))) h := asr (by ac_rfl) hp
  cases hs : st.sp id with
  | none =>
    have hlk := (sp_look (id := id) hm).1 hs
    rw [hs] at hK
    repeat (with_reducible first | refine vP_so ?_ | refine vB_t ?_ | refine vB_f ?_ | refine vE_tt ?_ | refine vE_ff ?_ | refine vE_tf ?_ | refine vE_ft ?_ | refine vE_u ?_ | refine vP_to (by simp (disch := omega) only [gdW_true, gdW_false, gB_true, gB_false, gB_undef, pickV_true, pickV_false, Bool.not_true, Bool.not_false, Option.map_some, bin_add, bin_sub, bin_mul, bin_quo, bin_rem, lss_t, lss_f, leq_t, leq_f, gtr_t, gtr_f, geq_t, geq_f, eqi_t, eqi_f, nei_t, nei_f, rem_uw, conv_ui, conv_iu, conv_ii, not_bool, nil_ptr, fa_mk, ptrV, len_mk, cap_mk, eq_ptr_nil, ne_ptr_nil, eq_nil_nil, ne_nil_nil, eq_slice_nil, eq_nil_slice, ia_1, nilP, l1.2.1, hlk, nil_pp]; exact so_so) ?_)
    exact hK
  | some s =>
    obtain ⟨p, f, H, e1, hq, _, _⟩ := sp_get hs hm
    have hlk := (lk_MP (k := id) mapSp intU zPSpan hq).1
    rw [e1] at hlk
    have hlk : lkV Tryz.prog 60 (.map (some rs)) (.int .i64 id) false h = some (pB p) := hlk
    rw [hs] at hK
    repeat (with_reducible first | refine vP_so ?_ | refine vB_t ?_ | refine vB_f ?_ | refine vE_tt ?_ | refine vE_ff ?_ | refine vE_tf ?_ | refine vE_ft ?_ | refine vE_u ?_ | refine vP_to (by simp (disch := omega) only [gdW_true, gdW_false, gB_true, gB_false, gB_undef, pickV_true, pickV_false, Bool.not_true, Bool.not_false, Option.map_some, bin_add, bin_sub, bin_mul, bin_quo, bin_rem, lss_t, lss_f, leq_t, leq_f, gtr_t, gtr_f, geq_t, geq_f, eqi_t, eqi_f, nei_t, nei_f, rem_uw, conv_ui, conv_iu, conv_ii, not_bool, nil_ptr, fa_mk, ptrV, len_mk, cap_mk, eq_ptr_nil, ne_ptr_nil, eq_nil_nil, ne_nil_nil, eq_slice_nil, eq_nil_slice, ia_1, nilP, l1.2.1, hlk]; exact so_so) ?_)
    refine use_sclass (F := MP rs f * (H * (pt a (.cells #[pv ap, .map (some rs), .map (some ro), .map (some rb), .int .i64 st.live] 63 (0, 0)) * (PG ap st.n st.runs * (MP ro (owF st.ow) * (MPO rb obA st.ob * (own g * (F * tt)))))))) (asr (by ac_rfl) hq) ?_
    repeat (with_reducible first | refine vP_so ?_ | refine vB_t ?_ | refine vB_f ?_ | refine vE_tt ?_ | refine vE_ff ?_ | refine vE_tf ?_ | refine vE_ft ?_ | refine vE_u ?_ | refine vP_to (by simp (disch := omega) only [gdW_true, gdW_false, gB_true, gB_false, gB_undef, pickV_true, pickV_false, Bool.not_true, Bool.not_false, Option.map_some, bin_add, bin_sub, bin_mul, bin_quo, bin_rem, lss_t, lss_f, leq_t, leq_f, gtr_t, gtr_f, geq_t, geq_f, eqi_t, eqi_f, nei_t, nei_f, rem_uw, conv_ui, conv_iu, conv_ii, not_bool, nil_ptr, fa_mk, ptrV, len_mk, cap_mk, eq_ptr_nil, ne_ptr_nil, eq_nil_nil, ne_nil_nil, eq_slice_nil, eq_nil_slice, ia_1, nilP]; exact so_so) ?_)
    exact hK
def obLess (ob : Int → Option (List Int)) (l : List Int) : Int → Option (List Int) := fun a => if a ∈ l then none else ob a
theorem obLess_step {ob : Int → Option (List Int)} {l : List Int} {i : Nat} {x : Int} (h : l[i]? = some x) : fdel (obLess ob (l.take i)) x = obLess ob (l.take (i + 1)) := by
  funext y
  unfold obLess
  have e : y ∈ l.take (i + 1) ↔ y ∈ l.take i ∨ y = x := by
    rw [List.take_add_one, h, List.mem_append]; simp
  by_cases hy : y = x
  · subst hy; rw [fdel_eq, if_pos (e.2 (.inr rfl))]
  · rw [fdel_ne hy]
    by_cases hm : y ∈ l.take i
    · rw [if_pos hm, if_pos (e.2 (.inl hm))]
    · rw [if_neg hm, if_neg (fun q => (e.1 q).elim hm hy)]
set_option maxHeartbeats 2000000 in
theorem use_asweep {g : Hp} (hg : TabG 0 g) {a : Nat} {st : Ar} {N : Nat} {id : Int} (ok : AOk st N) (hN : N ≤ 1000000) {F : Asrt} {K : Value → Hp → Prop} {h : Hp} (hh : (AR a st * (own g * (F * tt))) h)
    (hnone : st.sp id = none → K (.tuple #[.slice none 0 0, .int .i64 4]) h)
    (hK : ∀ s v h', st.sp id = some s → (SG iE 3 v (s.gone.map s.addr) * (AR a (st.swept id s) * (own g * (F * tt)))) h' → K (.tuple #[v, .int .i64 0]) h') : CallH Tryz.prog 14 #[pB a, .int .i64 id] K h := by
  refine C14 ?_
  unfold D14
  obtain ⟨ap, rs, ro, rb, hp⟩ := AR_elim hh
  have l1 := ar_ld hp
  have hm : (MPO rs spA st.sp * (pt a (.cells #[pv ap, .map (some rs), .map (some ro), .map (some rb), .int .i64 st.live] 63 (0, 0)) * (PG ap st.n st.runs * (MP ro (owF st.ow) * (MPO rb obA st.ob * (own g * (F * tt))))))) h := asr (by ac_rfl) hp
  cases hs : st.sp id with
  | none =>
    have hlk := (sp_look (id := id) hm).1 hs
    repeat (with_reducible first | refine vP_so ?_ | refine vB_t ?_ | refine vB_f ?_ | refine vE_tt ?_ | refine vE_ff ?_ | refine vE_tf ?_ | refine vE_ft ?_ | refine vE_u ?_ | refine vP_to (by simp (disch := omega) only [gdW_true, gdW_false, gB_true, gB_false, gB_undef, pickV_true, pickV_false, Bool.not_true, Bool.not_false, Option.map_some, bin_add, bin_sub, bin_mul, bin_quo, bin_rem, lss_t, lss_f, leq_t, leq_f, gtr_t, gtr_f, geq_t, geq_f, eqi_t, eqi_f, nei_t, nei_f, rem_uw, conv_ui, conv_iu, conv_ii, not_bool, nil_ptr, fa_mk, ptrV, len_mk, cap_mk, eq_ptr_nil, ne_ptr_nil, eq_nil_nil, ne_nil_nil, eq_slice_nil, eq_nil_slice, ia_1, nilP, l1.2.1, hlk, nil_pp]; exact so_so) ?_)
    exact hnone hs
  | some s =>
    obtain ⟨p, f, H, e1, hq, c1, _⟩ := sp_get hs hm
    have hlk := (lk_MP (k := id) mapSp intU zPSpan hq).1
    rw [e1] at hlk
    have hlk : lkV Tryz.prog 60 (.map (some rs)) (.int .i64 id) false h = some (pB p) := hlk
    have ho := (ok.sp id s hs).2.2.1
    have ho' := ho.swept
    have hsz := szS_pos ho.cls
    have hml := ho.ml
    have hlb := ok.live_bd
    have hlb' := (swept_ok ok hs).live_bd
    have hgl := gone_len ho
    have hcl := List.count_le_length (l := s.used) (a := true)
    have hlen := ho.len
    repeat (with_reducible first | refine vP_so ?_ | refine vB_t ?_ | refine vB_f ?_ | refine vE_tt ?_ | refine vE_ff ?_ | refine vE_tf ?_ | refine vE_ft ?_ | refine vE_u ?_ | refine vP_to (by simp (disch := omega) only [gdW_true, gdW_false, gB_true, gB_false, gB_undef, pickV_true, pickV_false, Bool.not_true, Bool.not_false, Option.map_some, bin_add, bin_sub, bin_mul, bin_quo, bin_rem, lss_t, lss_f, leq_t, leq_f, gtr_t, gtr_f, geq_t, geq_f, eqi_t, eqi_f, nei_t, nei_f, rem_uw, conv_ui, conv_iu, conv_ii, not_bool, nil_ptr, fa_mk, ptrV, len_mk, cap_mk, eq_ptr_nil, ne_ptr_nil, eq_nil_nil, ne_nil_nil, eq_slice_nil, eq_nil_slice, ia_1, nilP, l1.2.1, hlk]; exact so_so) ?_)
    refine use_ssweep hg ho (F := MP rs f * (H * (pt a (.cells #[pv ap, .map (some rs), .map (some ro), .map (some rb), .int .i64 st.live] 63 (0, 0)) * (PG ap st.n st.runs * (MP ro (owF st.ow) * (MPO rb obA st.ob * F)))))) (asr (by ac_rfl) hq) fun v28 h1 hh1 => ?_
    have hlen28 := SG_len iE hh1
    have hgI : (goneI s).length = s.gone.length := by unfold goneI; rw [List.length_map]
    rw [hgI] at hlen28
    repeat (with_reducible first | refine vP_so ?_ | refine vB_t ?_ | refine vB_f ?_ | refine vE_tt ?_ | refine vE_ff ?_ | refine vE_tf ?_ | refine vE_ft ?_ | refine vE_u ?_ | refine vP_to (by simp (disch := omega) only [gdW_true, gdW_false, gB_true, gB_false, gB_undef, pickV_true, pickV_false, Bool.not_true, Bool.not_false, Option.map_some, bin_add, bin_sub, bin_mul, bin_quo, bin_rem, lss_t, lss_f, leq_t, leq_f, gtr_t, gtr_f, geq_t, geq_f, eqi_t, eqi_f, nei_t, nei_f, rem_uw, conv_ui, conv_iu, conv_ii, not_bool, nil_ptr, fa_mk, ptrV, len_mk, cap_mk, eq_ptr_nil, ne_ptr_nil, eq_nil_nil, ne_nil_nil, eq_slice_nil, eq_nil_slice, ia_1, hlen28]; exact so_so) ?_)
    obtain ⟨G, hG⟩ : ∃ G : Nat, s.gone.length = G := ⟨_, rfl⟩
    rw [hG]
    have hL : (s.gone.map s.addr).length = G := by rw [List.length_map]; exact hG
    have key : ∀ i : Nat, i ≤ G → 0 ≤ (i : Int) * szS s.cls ∧ (i : Int) * szS s.cls ≤ (G : Int) * szS s.cls := fun i hi => ⟨Int.mul_nonneg (by omega) (by omega), Int.mul_le_mul_of_nonneg_right (by omega) (by omega)⟩
    have hlw : st.live - (G : Int) * szS s.cls = (st.swept id s).live := by rw [← hG]; rfl
    refine ⟨fun m zs h' => ∃ (i : Nat) (v7 : Value), zs = [.int .i64 i, v7] ∧ m = G - i ∧ i ≤ G ∧
        (pt a (.cells #[pv ap, .map (some rs), .map (some ro), .map (some rb), .int .i64 (st.live - (i : Int) * szS s.cls)] 63 (0, 0)) * (SG iE 3 v7 ((s.gone.map s.addr).take i) * (SG iE 3 v28 (goneI s) * (SPN p s.swept * (MPO rb obA (obLess st.ob ((s.gone.map s.addr).take i)) * (MP rs f * (H * (PG ap st.n st.runs * (MP ro (owF st.ow) * (own g * (F * tt))))))))))) h',
      ⟨_, 0, .slice none 0 0, rfl, rfl, by omega, ?_⟩, ?_⟩
    · have e0 : obLess st.ob (List.take 0 (s.gone.map s.addr)) = st.ob := by funext y; unfold obLess; simp
      have e00 : st.live - ((0 : Nat) : Int) * szS s.cls = st.live := by simp
      rw [e0, e00]
      have := SG_nil iE (E := 3) (show (pt a (.cells #[pv ap, .map (some rs), .map (some ro), .map (some rb), .int .i64 st.live] 63 (0, 0)) * (SG iE 3 v28 (goneI s) * (SPN p s.swept * (MPO rb obA st.ob * (MP rs f * (H * (PG ap st.n st.runs * (MP ro (owF st.ow) * (own g * (F * tt)))))))))) h1 from asr (by ac_rfl) hh1)
      exact asr (by simp only [List.take_zero]; ac_rfl) this
    rintro m v30 v7 h2 ⟨i, v7', hzs, rfl, hi, hh2⟩ _
    obtain ⟨rfl, rfl⟩ : v30 = .int .i64 i ∧ v7 = v7' := by simpa using hzs
    by_cases hiG : i < G
    · obtain ⟨y, hy⟩ : ∃ y, s.gone[i]? = some y := ⟨_, List.getElem?_eq_getElem (by omega)⟩
      have hyI : (goneI s)[i]? = some (y : Int) := by unfold goneI; rw [List.getElem?_map, hy]; rfl
      have hyA : (s.gone.map s.addr)[i]? = some (s.addr y) := by rw [List.getElem?_map, hy]; rfl
      have hyu := (gone_mem.1 (List.mem_of_getElem? hy)).1
      have hyl := (List.getElem?_eq_some_iff.1 hyu).1
      have hyl' : y < s.swept.used.length := by show y < s.marks.length; omega
      have hkey := key i hi
      have hkey1 := key (i + 1) hiG
      have hs1 : ((i + 1 : Nat) : Int) * szS s.cls = (i : Int) * szS s.cls + szS s.cls := by rw [Int.natCast_add, Int.add_mul]; simp
      have hh28 : (SG iE 3 v28 (goneI s) * (pt a (.cells #[pv ap, .map (some rs), .map (some ro), .map (some rb), .int .i64 (st.live - (i : Int) * szS s.cls)] 63 (0, 0)) * (SG iE 3 v7 ((s.gone.map s.addr).take i) * (SPN p s.swept * (MPO rb obA (obLess st.ob ((s.gone.map s.addr).take i)) * (MP rs f * (H * (PG ap st.n st.runs * (MP ro (owF st.ow) * (own g * (F * tt))))))))))) h2 := asr (by ac_rfl) hh2
      obtain ⟨q, g1, g2, _⟩ := el1 hh28 hyI .i64
      repeat (with_reducible first | refine vP_so ?_ | refine vB_t ?_ | refine vB_f ?_ | refine vE_tt ?_ | refine vE_ff ?_ | refine vE_tf ?_ | refine vE_ft ?_ | refine vE_u ?_ | refine vP_to (by simp (disch := omega) only [gdW_true, gdW_false, gB_true, gB_false, gB_undef, pickV_true, pickV_false, Bool.not_true, Bool.not_false, Option.map_some, bin_add, bin_sub, bin_mul, bin_quo, bin_rem, lss_t, lss_f, leq_t, leq_f, gtr_t, gtr_f, geq_t, geq_f, eqi_t, eqi_f, nei_t, nei_f, rem_uw, conv_ui, conv_iu, conv_ii, not_bool, nil_ptr, fa_mk, ptrV, len_mk, cap_mk, eq_ptr_nil, ne_ptr_nil, eq_nil_nil, ne_nil_nil, eq_slice_nil, eq_nil_slice, ia_1, g1, g2]; exact so_so) ?_)
      refine use_saddr ho' hyl' (p := p) (F := pt a (.cells #[pv ap, .map (some rs), .map (some ro), .map (some rb), .int .i64 (st.live - (i : Int) * szS s.cls)] 63 (0, 0)) * (SG iE 3 v7 ((s.gone.map s.addr).take i) * (SG iE 3 v28 (goneI s) * (MPO rb obA (obLess st.ob ((s.gone.map s.addr).take i)) * (MP rs f * (H * (PG ap st.n st.runs * (MP ro (owF st.ow) * (own g * F))))))))) (asr (by ac_rfl) hh2) fun h3 hh3 => ?_
      have ea : s.swept.addr y = s.addr y := rfl
      rw [ea]
      have eb : bldV #[.int .i64 0] [(0, 1, .int .i64 (s.addr y))] = some #[.int .i64 (s.addr y)] := rfl
      rw [eb]
      refine vA_new (f := fun r => .slice (some ⟨r, 0, none⟩) 1 1) hh3 fun r9 h9 hh9 => ?_
      refine ap_new iE (l := (s.gone.map s.addr).take i) (m := [s.addr y]) (F := SPN p s.swept * (pt a (.cells #[pv ap, .map (some rs), .map (some ro), .map (some rb), .int .i64 (st.live - (i : Int) * szS s.cls)] 63 (0, 0)) * (SG iE 3 v28 (goneI s) * (MPO rb obA (obLess st.ob ((s.gone.map s.addr).take i)) * (MP rs f * (H * (PG ap st.n st.runs * (MP ro (owF st.ow) * (own g * F))))))))) elInt rfl rfl niInts rfl (by omega) (asr (by ac_rfl) hh9) rfl rfl (by simp only [List.length_singleton, List.length_take, hL]; omega) fun v39 h10 hh10 => ?_
      have e2 : (s.gone.map s.addr).take i ++ [s.addr y] = (s.gone.map s.addr).take (i + 1) := by rw [List.take_add_one, hyA]; rfl
      rw [e2] at hh10
      have l10 := ar_ld (show (pt a (.cells #[pv ap, .map (some rs), .map (some ro), .map (some rb), .int .i64 (st.live - (i : Int) * szS s.cls)] 63 (0, 0)) * (SG iE 3 v39 ((s.gone.map s.addr).take (i + 1)) * (SPN p s.swept * (SG iE 3 v28 (goneI s) * (MPO rb obA (obLess st.ob ((s.gone.map s.addr).take i)) * (MP rs f * (H * (PG ap st.n st.runs * (MP ro (owF st.ow) * (own g * (F * tt))))))))))) h10 from asr (by ac_rfl) hh10)
      repeat (with_reducible first | refine vP_so ?_ | refine vB_t ?_ | refine vB_f ?_ | refine vE_tt ?_ | refine vE_ff ?_ | refine vE_tf ?_ | refine vE_ft ?_ | refine vE_u ?_ | refine vP_to (by simp (disch := omega) only [gdW_true, gdW_false, gB_true, gB_false, gB_undef, pickV_true, pickV_false, Bool.not_true, Bool.not_false, Option.map_some, bin_add, bin_sub, bin_mul, bin_quo, bin_rem, lss_t, lss_f, leq_t, leq_f, gtr_t, gtr_f, geq_t, geq_f, eqi_t, eqi_f, nei_t, nei_f, rem_uw, conv_ui, conv_iu, conv_ii, not_bool, nil_ptr, fa_mk, ptrV, len_mk, cap_mk, eq_ptr_nil, ne_ptr_nil, eq_nil_nil, ne_nil_nil, eq_slice_nil, eq_nil_slice, ia_1, l10.2.2.2.1]; exact so_so) ?_)
      refine use_saddr ho' hyl' (p := p) (F := SG iE 3 v39 ((s.gone.map s.addr).take (i + 1)) * (pt a (.cells #[pv ap, .map (some rs), .map (some ro), .map (some rb), .int .i64 (st.live - (i : Int) * szS s.cls)] 63 (0, 0)) * (SG iE 3 v28 (goneI s) * (MPO rb obA (obLess st.ob ((s.gone.map s.addr).take i)) * (MP rs f * (H * (PG ap st.n st.runs * (MP ro (owF st.ow) * (own g * F))))))))) (asr (by ac_rfl) hh10) fun h11 hh11 => ?_
      rw [ea]
      have l11 := ar_ld (show (pt a (.cells #[pv ap, .map (some rs), .map (some ro), .map (some rb), .int .i64 (st.live - (i : Int) * szS s.cls)] 63 (0, 0)) * (SG iE 3 v39 ((s.gone.map s.addr).take (i + 1)) * (SPN p s.swept * (SG iE 3 v28 (goneI s) * (MPO rb obA (obLess st.ob ((s.gone.map s.addr).take i)) * (MP rs f * (H * (PG ap st.n st.runs * (MP ro (owF st.ow) * (own g * (F * tt))))))))))) h11 from asr (by ac_rfl) hh11)
      refine ⟨l11.2.2.2.1, ?_⟩
      have hnotin : s.addr y ∉ (s.gone.map s.addr).take i := fun hmem => by
        obtain ⟨j, hj, he⟩ := List.getElem_of_mem hmem
        rw [List.length_take, hL] at hj
        rw [List.getElem_take, List.getElem_map] at he
        have hjl : j < s.gone.length := by omega
        have h3 := addr_inj1 ho he
        have h4 := (List.getElem?_eq_some_iff.1 hy).2
        have hnd : s.gone.Pairwise (· < ·) := by
          unfold Sp.gone
          exact (ids_rise s.used).sublist List.filter_sublist
        have hyl2 : i < s.gone.length := by omega
        have := List.pairwise_iff_getElem.1 hnd j i hjl hyl2 (by omega)
        omega
      obtain ⟨lo, hlo⟩ : ∃ lo, obLess st.ob ((s.gone.map s.addr).take i) (s.addr y) = some lo := by
        unfold obLess
        rw [if_neg hnotin]
        have := (ok.ob (s.addr y)).2 ⟨id, s, y, hs, hyu, rfl⟩
        exact Option.isSome_iff_exists.1 this
      obtain ⟨vo, fo, Ho, eo, _, _, hqo, _, co⟩ := ob_get hlo (show (MPO rb obA (obLess st.ob ((s.gone.map s.addr).take i)) * (pt a (.cells #[pv ap, .map (some rs), .map (some ro), .map (some rb), .int .i64 (st.live - (i : Int) * szS s.cls)] 63 (0, 0)) * (SG iE 3 v39 ((s.gone.map s.addr).take (i + 1)) * (SPN p s.swept * (SG iE 3 v28 (goneI s) * (MP rs f * (H * (PG ap st.n st.runs * (MP ro (owF st.ow) * (own g * (F * tt))))))))))) h11 from asr (by ac_rfl) hh11)
      refine dl_MP (k := s.addr y) rfl mapIs intU hqo fun h12 hh12 => ?_
      have hh12 : (MP rb (fun x => if x = s.addr y then none else fo x) * (Ho * (pt a (.cells #[pv ap, .map (some rs), .map (some ro), .map (some rb), .int .i64 (st.live - (i : Int) * szS s.cls)] 63 (0, 0)) * (SG iE 3 v39 ((s.gone.map s.addr).take (i + 1)) * (SPN p s.swept * (SG iE 3 v28 (goneI s) * (MP rs f * (H * (PG ap st.n st.runs * (MP ro (owF st.ow) * (own g * (F * tt)))))))))))) h12 :=
        dropL (P := SG iE 3 vo lo) (Q := MP rb (fun x => if x = s.addr y then none else fo x) * (Ho * (pt a (.cells #[pv ap, .map (some rs), .map (some ro), .map (some rb), .int .i64 (st.live - (i : Int) * szS s.cls)] 63 (0, 0)) * (SG iE 3 v39 ((s.gone.map s.addr).take (i + 1)) * (SPN p s.swept * (SG iE 3 v28 (goneI s) * (MP rs f * (H * (PG ap st.n st.runs * (MP ro (owF st.ow) * (own g * F))))))))))) (asr (by ac_rfl) hh12) |> asr (by ac_rfl)
      have hh12 := co _ h12 hh12
      rw [obLess_step hyA] at hh12
      have hh12 : (SPN p s.swept * (pt a (.cells #[pv ap, .map (some rs), .map (some ro), .map (some rb), .int .i64 (st.live - (i : Int) * szS s.cls)] 63 (0, 0)) * (SG iE 3 v39 ((s.gone.map s.addr).take (i + 1)) * (SG iE 3 v28 (goneI s) * (MPO rb obA (obLess st.ob ((s.gone.map s.addr).take (i + 1))) * (MP rs f * (H * (PG ap st.n st.runs * (MP ro (owF st.ow) * (own g * (F * tt))))))))))) h12 := asr (by ac_rfl) hh12
      have l12 := ar_ld (show (pt a (.cells #[pv ap, .map (some rs), .map (some ro), .map (some rb), .int .i64 (st.live - (i : Int) * szS s.cls)] 63 (0, 0)) * (SPN p s.swept * (SG iE 3 v39 ((s.gone.map s.addr).take (i + 1)) * (SG iE 3 v28 (goneI s) * (MPO rb obA (obLess st.ob ((s.gone.map s.addr).take (i + 1))) * (MP rs f * (H * (PG ap st.n st.runs * (MP ro (owF st.ow) * (own g * (F * tt))))))))))) h12 from asr (by ac_rfl) hh12)
      repeat (with_reducible first | refine vP_so ?_ | refine vB_t ?_ | refine vB_f ?_ | refine vE_tt ?_ | refine vE_ff ?_ | refine vE_tf ?_ | refine vE_ft ?_ | refine vE_u ?_ | refine vP_to (by simp (disch := omega) only [gdW_true, gdW_false, gB_true, gB_false, gB_undef, pickV_true, pickV_false, Bool.not_true, Bool.not_false, Option.map_some, bin_add, bin_sub, bin_mul, bin_quo, bin_rem, lss_t, lss_f, leq_t, leq_f, gtr_t, gtr_f, geq_t, geq_f, eqi_t, eqi_f, nei_t, nei_f, rem_uw, conv_ui, conv_iu, conv_ii, not_bool, nil_ptr, fa_mk, ptrV, len_mk, cap_mk, eq_ptr_nil, ne_ptr_nil, eq_nil_nil, ne_nil_nil, eq_slice_nil, eq_nil_slice, ia_1, l12.2.2.2.2]; exact so_so) ?_)
      refine use_sclass hh12 ?_
      refine ⟨l12.2.2.2.2, ?_⟩
      have ec : s.swept.cls = s.cls := rfl
      rw [ec]
      refine use_size (F := pt a (.cells #[pv ap, .map (some rs), .map (some ro), .map (some rb), .int .i64 (st.live - (i : Int) * szS s.cls)] 63 (0, 0)) * (SPN p s.swept * (SG iE 3 v39 ((s.gone.map s.addr).take (i + 1)) * (SG iE 3 v28 (goneI s) * (MPO rb obA (obLess st.ob ((s.gone.map s.addr).take (i + 1))) * (MP rs f * (H * (PG ap st.n st.runs * (MP ro (owF st.ow) * (own g * F)))))))))) (asr (by ac_rfl) hh12) fun h13 hh13 => ?_
      have hh13 : (pt a (.cells #[pv ap, .map (some rs), .map (some ro), .map (some rb), .int .i64 (st.live - (i : Int) * szS s.cls)] 63 (0, 0)) * (SPN p s.swept * (SG iE 3 v39 ((s.gone.map s.addr).take (i + 1)) * (SG iE 3 v28 (goneI s) * (MPO rb obA (obLess st.ob ((s.gone.map s.addr).take (i + 1))) * (MP rs f * (H * (PG ap st.n st.runs * (MP ro (owF st.ow) * (own g * (F * tt))))))))))) h13 := asr (by ac_rfl) hh13
      refine ⟨(ar_ld hh13).2.2.2.2, ?_⟩
      have hsub : st.live - ((i + 1 : Nat) : Int) * szS s.cls = st.live - (i : Int) * szS s.cls - szS s.cls := by omega
      generalize hz : (i : Int) * szS s.cls = z at *
      generalize hzG : (G : Int) * szS s.cls = zG at *
      repeat (with_reducible first | refine vP_so ?_ | refine vB_t ?_ | refine vB_f ?_ | refine vE_tt ?_ | refine vE_ff ?_ | refine vE_tf ?_ | refine vE_ft ?_ | refine vE_u ?_ | refine vP_to (by simp (disch := omega) only [gdW_true, gdW_false, gB_true, gB_false, gB_undef, pickV_true, pickV_false, Bool.not_true, Bool.not_false, Option.map_some, bin_add, bin_sub, bin_mul, bin_quo, bin_rem, lss_t, lss_f, leq_t, leq_f, gtr_t, gtr_f, geq_t, geq_f, eqi_t, eqi_f, nei_t, nei_f, rem_uw, conv_ui, conv_iu, conv_ii, not_bool, nil_ptr, fa_mk, ptrV, len_mk, cap_mk, eq_ptr_nil, ne_ptr_nil, eq_nil_nil, ne_nil_nil, eq_slice_nil, eq_nil_slice, ia_1]; exact so_so) ?_)
      refine st1_mk hh13 rfl (by simp) fun h14 hh14 => ?_
      repeat (with_reducible first | refine vP_so ?_ | refine vB_t ?_ | refine vB_f ?_ | refine vE_tt ?_ | refine vE_ff ?_ | refine vE_tf ?_ | refine vE_ft ?_ | refine vE_u ?_ | refine vP_to (by simp (disch := omega) only [gdW_true, gdW_false, gB_true, gB_false, gB_undef, pickV_true, pickV_false, Bool.not_true, Bool.not_false, Option.map_some, bin_add, bin_sub, bin_mul, bin_quo, bin_rem, lss_t, lss_f, leq_t, leq_f, gtr_t, gtr_f, geq_t, geq_f, eqi_t, eqi_f, nei_t, nei_f, rem_uw, conv_ui, conv_iu, conv_ii, not_bool, nil_ptr, fa_mk, ptrV, len_mk, cap_mk, eq_ptr_nil, ne_ptr_nil, eq_nil_nil, ne_nil_nil, eq_slice_nil, eq_nil_slice, ia_1]; exact so_so) ?_)
      refine ⟨G - (i + 1), by omega, i + 1, v39, by simp, rfl, by omega, ?_⟩
      rw [hsub]
      have hh14 : (pt a (.cells #[pv ap, .map (some rs), .map (some ro), .map (some rb), .int .i64 (st.live - z - szS s.cls)] 63 (0, 0)) * (SPN p s.swept * (SG iE 3 v39 ((s.gone.map s.addr).take (i + 1)) * (SG iE 3 v28 (goneI s) * (MPO rb obA (obLess st.ob ((s.gone.map s.addr).take (i + 1))) * (MP rs f * (H * (PG ap st.n st.runs * (MP ro (owF st.ow) * (own g * (F * tt))))))))))) h14 := hh14
      exact asr (by ac_rfl) hh14
    · obtain rfl : i = G := by omega
      repeat (with_reducible first | refine vP_so ?_ | refine vB_t ?_ | refine vB_f ?_ | refine vE_tt ?_ | refine vE_ff ?_ | refine vE_tf ?_ | refine vE_ft ?_ | refine vE_u ?_ | refine vP_to (by simp (disch := omega) only [gdW_true, gdW_false, gB_true, gB_false, gB_undef, pickV_true, pickV_false, Bool.not_true, Bool.not_false, Option.map_some, bin_add, bin_sub, bin_mul, bin_quo, bin_rem, lss_t, lss_f, leq_t, leq_f, gtr_t, gtr_f, geq_t, geq_f, eqi_t, eqi_f, nei_t, nei_f, rem_uw, conv_ui, conv_iu, conv_ii, not_bool, nil_ptr, fa_mk, ptrV, len_mk, cap_mk, eq_ptr_nil, ne_ptr_nil, eq_nil_nil, ne_nil_nil, eq_slice_nil, eq_nil_slice, ia_1]; exact so_so) ?_)
      have et : (s.gone.map s.addr).take i = s.gone.map s.addr := by rw [← hL, List.take_length]
      rw [et] at hh2
      have hh3 := c1 (pt a (.cells #[pv ap, .map (some rs), .map (some ro), .map (some rb), .int .i64 (st.live - (i : Int) * szS s.cls)] 63 (0, 0)) * (SG iE 3 v7 (s.gone.map s.addr) * (SG iE 3 v28 (goneI s) * (MPO rb obA (obLess st.ob (s.gone.map s.addr)) * (PG ap st.n st.runs * (MP ro (owF st.ow) * (own g * (F * tt)))))))) s.swept h2 (asr (by ac_rfl) hh2)
      rw [← hG] at hh3
      have hh4 : (AR a (st.swept id s) * (SG iE 3 v28 (goneI s) * (SG iE 3 v7 (s.gone.map s.addr) * (own g * (F * tt))))) h2 := AR_intro (ap := ap) (rs := rs) (ro := ro) (rb := rb) (st := st.swept id s) (asr (by show _ = (pt a (.cells #[pv ap, .map (some rs), .map (some ro), .map (some rb), .int .i64 (st.live - s.gone.length * szS s.cls)] 63 (0, 0)) * (PG ap st.n st.runs * (MPO rs spA (fput st.sp id s.swept) * (MP ro (owF st.ow) * (MPO rb obA (obLess st.ob (s.gone.map s.addr)) * _))))); ac_rfl) hh3)
      exact hK s v7 h2 hs (dropL (P := SG iE 3 v28 (goneI s)) (Q := SG iE 3 v7 (s.gone.map s.addr) * (AR a (st.swept id s) * (own g * F))) (asr (by ac_rfl) hh4) |> asr (by ac_rfl))
end Go.Proofs

/-
  Contracts of the document's own arena: what is asked, and one slot, one span turned.
-/
set_option maxRecDepth 100000
set_option maxHeartbeats 1000000
namespace Go.Proofs
open Go.Sl
variable {a ap rw : Nat} {vi vs vl : Value} {n : Nat} {runs : List Run} {E : List REnt} {wf : Int → Option Value}
theorem ROk.uniq {st : Ar} (ro : ROk st E wf) {i j : Nat} {e e' : REnt} (hi : E[i]? = some e) (hj : E[j]? = some e') (h : e.num = e'.num) : i = j ∧ e = e' := by
  have hr := ro.rise
  unfold Rise at hr
  rw [List.pairwise_map] at hr
  have key : ∀ {i j : Nat} {e e' : REnt}, E[i]? = some e → E[j]? = some e' → i < j → e.num < e'.num := fun {i j e e'} hi hj hij => by
    obtain ⟨h1, rfl⟩ := List.getElem?_eq_some_iff.1 hi
    obtain ⟨h2, rfl⟩ := List.getElem?_eq_some_iff.1 hj
    exact List.pairwise_iff_getElem.1 hr i j h1 h2 hij
  rcases Nat.lt_trichotomy i j with q | q | q
  · have := key hi hj q; omega
  · subst q; rw [hi] at hj; exact ⟨rfl, Option.some.inj hj⟩
  · have := key hj hi q; omega
theorem ROk.at_ {st : Ar} (ro : ROk st E wf) {k : Nat} {e : REnt} (hk : E[k]? = some e) : st.sp e.num = some e.s := (ro.mem _ _).2 ⟨e, List.mem_of_getElem? hk, rfl, rfl⟩
theorem ROk.none {st : Ar} (ro : ROk st E wf) {id : Int} (h : ∀ e ∈ E, e.num ≠ id) : st.sp id = none := by
  cases hs : st.sp id with
  | none => rfl
  | some s =>
    obtain ⟨e, he, h1, _⟩ := (ro.mem _ _).1 hs
    exact (h e he h1).elim
theorem ROk.set_ {st : Ar} (ro : ROk st E wf) {k : Nat} {e : REnt} (hk : E[k]? = some e) {s' : Sp} {lens' : List Int} {ob' : Int → Option (List Int)} {live' : Int} {wf' : Int → Option Value}
    (h1 : lens'.length = s'.used.length) (h2 : ∀ (j : Nat) l, s'.used[j]? = some true → ob' (s'.addr j) = some l → lens'[j]? = some (l.length : Int))
    (h3 : ∀ (k2 : Nat) e2 (j : Nat) l, k2 ≠ k → E[k2]? = some e2 → e2.s.used[j]? = some true → ob' (e2.s.addr j) = some l → st.ob (e2.s.addr j) = some l)
    (h4 : ∀ x l (j : Nat) c, ob' x = some l → l[j]? = some c → wf' (x + j) = some (.int .i64 c)) :
    ROk { st with sp := fput st.sp e.num s', ob := ob', live := live' } (E.set k { e with s := s', lens := lens' }) wf' := by
  have hkl := (List.getElem?_eq_some_iff.1 hk).1
  have hcase : ∀ e' ∈ E.set k { e with s := s', lens := lens' }, e' = { e with s := s', lens := lens' } ∨ ∃ k2 : Nat, k2 ≠ k ∧ E[k2]? = some e' := fun e' he => by
    obtain ⟨j, hj, rfl⟩ := List.mem_iff_getElem.1 he
    rw [List.length_set] at hj
    by_cases hjk : j = k
    · subst hjk; left; rw [List.getElem_set_self]
    · right; exact ⟨j, hjk, by rw [List.getElem_set_ne (fun q => hjk q.symm), List.getElem?_eq_getElem hj]⟩
  refine ⟨?_, fun id s => ?_, fun e' he => ?_, fun e' he j l hu ho => ?_, h4⟩
  · rw [map_set_same (g := (·.num)) (e' := { e with s := s', lens := lens' }) hk rfl]; exact ro.rise
  · show fput st.sp e.num s' id = some s ↔ _
    by_cases hid : id = e.num
    · subst hid
      rw [fput_eq]
      constructor
      · intro q
        exact ⟨{ e with s := s', lens := lens' }, List.mem_of_getElem? (List.getElem?_set_self hkl), rfl, Option.some.inj q⟩
      · rintro ⟨e', he, q1, q2⟩
        rcases hcase e' he with rfl | ⟨k2, q3, q4⟩
        · rw [← q2]
        · exact (q3 (ro.uniq q4 hk q1).1).elim
    · rw [fput_ne hid, ro.mem]
      constructor
      · rintro ⟨e', he, q1, q2⟩
        obtain ⟨j, hj, rfl⟩ := List.mem_iff_getElem.1 he
        have hjk : k ≠ j := fun q => by
          subst q
          have := List.getElem?_eq_some_iff.1 hk
          obtain ⟨_, q3⟩ := this
          rw [q3] at q1
          exact hid q1.symm
        exact ⟨E[j], List.mem_of_getElem? (i := j) (by rw [List.getElem?_set_ne hjk, List.getElem?_eq_getElem hj]), q1, q2⟩
      · rintro ⟨e', he, q1, q2⟩
        rcases hcase e' he with rfl | ⟨k2, q3, q4⟩
        · exact (hid q1.symm).elim
        · exact ⟨e', List.mem_of_getElem? q4, q1, q2⟩
  · rcases hcase e' he with rfl | ⟨k2, q3, q4⟩
    · exact h1
    · exact ro.len e' (List.mem_of_getElem? q4)
  · rcases hcase e' he with rfl | ⟨k2, q3, q4⟩
    · exact h2 j l hu ho
    · exact ro.val e' (List.mem_of_getElem? q4) j l hu (h3 k2 e' j l q3 q4 hu ho)
theorem use_reclass {st : Ar} {id : Int} {F : Asrt} {K : Value → Hp → Prop} {h : Hp} (hh : (RA a st * F) h) (hK : K (.int .i64 (clsV (st.sp id))) h) : CallH Tryz.prog 60 #[pB a, .int .i64 id] K h := by
  refine C60 ?_
  unfold D60
  obtain ⟨ap, rw', vi, vs, vl, E, wf, ro, hp⟩ := RA_elim hh
  have l := rao_ld hp
  have hl := rao_len hp
  refine use_refind hp (fun hno => ?_) fun k e hk he => ?_
  · rw [ro.none hno] at hK
    repeat (with_reducible first | refine vP_so ?_ | refine vB_t ?_ | refine vB_f ?_ | refine vE_tt ?_ | refine vE_ff ?_ | refine vE_tf ?_ | refine vE_ft ?_ | refine vE_u ?_ | refine vP_to (by simp (disch := omega) only [gdW_true, gdW_false, gB_true, gB_false, gB_undef, pickV_true, pickV_false, Bool.not_true, Bool.not_false, Option.map_some, bin_add, bin_sub, bin_mul, bin_quo, bin_rem, lss_t, lss_f, leq_t, leq_f, gtr_t, gtr_f, geq_t, geq_f, eqi_t, eqi_f, nei_t, nei_f, rem_uw, conv_ui, conv_iu, conv_ii, not_bool, nil_ptr, fa_mk, ptrV, len_mk, cap_mk, eq_ptr_nil, ne_ptr_nil, eq_nil_nil, ne_nil_nil, eq_slice_nil, eq_nil_slice, ia_1]; exact so_so) ?_)
    exact hK
  · subst he
    rw [ro.at_ hk] at hK
    have hkl := (List.getElem?_eq_some_iff.1 hk).1
    obtain ⟨q, q1, q2⟩ := rao_p hk hp
    obtain ⟨vu, vm, s1, s2, _⟩ := rao_span hk hp
    repeat (with_reducible first | refine vP_so ?_ | refine vB_t ?_ | refine vB_f ?_ | refine vE_tt ?_ | refine vE_ff ?_ | refine vE_tf ?_ | refine vE_ft ?_ | refine vE_u ?_ | refine vP_to (by simp (disch := omega) only [gdW_true, gdW_false, gB_true, gB_false, gB_undef, pickV_true, pickV_false, Bool.not_true, Bool.not_false, Option.map_some, bin_add, bin_sub, bin_mul, bin_quo, bin_rem, lss_t, lss_f, leq_t, leq_f, gtr_t, gtr_f, geq_t, geq_f, eqi_t, eqi_f, nei_t, nei_f, rem_uw, conv_ui, conv_iu, conv_ii, not_bool, nil_ptr, fa_mk, ptrV, len_mk, cap_mk, eq_ptr_nil, ne_ptr_nil, eq_nil_nil, ne_nil_nil, eq_slice_nil, eq_nil_slice, ia_1, l.2.2.1, q1, q2, s2]; exact so_so) ?_)
    exact hK
theorem use_refull {st : Ar} {N : Nat} {id : Int} (ok : AOk st N) {F : Asrt} {K : Value → Hp → Prop} {h : Hp} (hh : (RA a st * F) h) (hK : K (.bool (fullV (st.sp id))) h) : CallH Tryz.prog 59 #[pB a, .int .i64 id] K h := by
  refine C59 ?_
  unfold D59
  obtain ⟨ap, rw', vi, vs, vl, E, wf, ro, hp⟩ := RA_elim hh
  have l := rao_ld hp
  have hl := rao_len hp
  refine use_refind hp (fun hno => ?_) fun k e hk he => ?_
  · rw [ro.none hno] at hK
    repeat (with_reducible first | refine vP_so ?_ | refine vB_t ?_ | refine vB_f ?_ | refine vE_tt ?_ | refine vE_ff ?_ | refine vE_tf ?_ | refine vE_ft ?_ | refine vE_u ?_ | refine vP_to (by simp (disch := omega) only [gdW_true, gdW_false, gB_true, gB_false, gB_undef, pickV_true, pickV_false, Bool.not_true, Bool.not_false, Option.map_some, bin_add, bin_sub, bin_mul, bin_quo, bin_rem, lss_t, lss_f, leq_t, leq_f, gtr_t, gtr_f, geq_t, geq_f, eqi_t, eqi_f, nei_t, nei_f, rem_uw, conv_ui, conv_iu, conv_ii, not_bool, nil_ptr, fa_mk, ptrV, len_mk, cap_mk, eq_ptr_nil, ne_ptr_nil, eq_nil_nil, ne_nil_nil, eq_slice_nil, eq_nil_slice, ia_1]; exact so_so) ?_)
    exact hK
  · subst he
    rw [ro.at_ hk] at hK
    have hkl := (List.getElem?_eq_some_iff.1 hk).1
    obtain ⟨q, q1, q2⟩ := rao_p hk hp
    obtain ⟨R, o1, o2⟩ := rao_open (a := a) (ap := ap) (rw := rw') (vi := vi) (vs := vs) (vl := vl) (n := st.n) (runs := st.runs) (wf := wf) hk
    repeat (with_reducible first | refine vP_so ?_ | refine vB_t ?_ | refine vB_f ?_ | refine vE_tt ?_ | refine vE_ff ?_ | refine vE_tf ?_ | refine vE_ft ?_ | refine vE_u ?_ | refine vP_to (by simp (disch := omega) only [gdW_true, gdW_false, gB_true, gB_false, gB_undef, pickV_true, pickV_false, Bool.not_true, Bool.not_false, Option.map_some, bin_add, bin_sub, bin_mul, bin_quo, bin_rem, lss_t, lss_f, leq_t, leq_f, gtr_t, gtr_f, geq_t, geq_f, eqi_t, eqi_f, nei_t, nei_f, rem_uw, conv_ui, conv_iu, conv_ii, not_bool, nil_ptr, fa_mk, ptrV, len_mk, cap_mk, eq_ptr_nil, ne_ptr_nil, eq_nil_nil, ne_nil_nil, eq_slice_nil, eq_nil_slice, ia_1, l.2.2.1, q1, q2]; exact so_so) ?_)
    refine use_rsfull (ro.ok ok (List.mem_of_getElem? hk)) (o1 _ _ hp) ?_
    repeat (with_reducible first | refine vP_so ?_ | refine vB_t ?_ | refine vB_f ?_ | refine vE_tt ?_ | refine vE_ff ?_ | refine vE_tf ?_ | refine vE_ft ?_ | refine vE_u ?_ | refine vP_to (by simp (disch := omega) only [gdW_true, gdW_false, gB_true, gB_false, gB_undef, pickV_true, pickV_false, Bool.not_true, Bool.not_false, Option.map_some, bin_add, bin_sub, bin_mul, bin_quo, bin_rem, lss_t, lss_f, leq_t, leq_f, gtr_t, gtr_f, geq_t, geq_f, eqi_t, eqi_f, nei_t, nei_f, rem_uw, conv_ui, conv_iu, conv_ii, not_bool, nil_ptr, fa_mk, ptrV, len_mk, cap_mk, eq_ptr_nil, ne_ptr_nil, eq_nil_nil, ne_nil_nil, eq_slice_nil, eq_nil_slice, ia_1]; exact so_so) ?_)
    exact hK
theorem use_refindA {st : Ar} {N : Nat} {x : Int} (ok : AOk st N) {F : Asrt} {K : Value → Hp → Prop} {h : Hp} (hh : (RA a st * (F * tt)) h)
    (hnone : ∀ h', st.ob x = none → (RA a st * (F * tt)) h' → K (.tuple #[.agg #[.int .i64 0, .int .i64 0], .bool false]) h')
    (hK : ∀ id s (i : Nat) l h', st.sp id = some s → s.used[i]? = some true → x = s.addr i → st.ob x = some l → (RA a st * (F * tt)) h' → K (.tuple #[.agg #[.int .i64 id, .int .i64 i], .bool true]) h') : CallH Tryz.prog 56 #[pB a, .int .i64 x] K h := by
  refine C56 ?_
  unfold D56
  refine vA_new (o := .cells #[.int .i64 0, .int .i64 0] 38 (0, 0)) hh fun r h1 hh1 => ?_
  obtain ⟨ap, rw', vi, vs, vl, E, wf, ro, hp⟩ := RA_elim (show (RA a st * (pt r (.cells #[.int .i64 0, .int .i64 0] 38 (0, 0)) * (F * tt))) h1 from asr (by ac_rfl) hh1)
  have t0 : ∀ x y z : Value, exV (.tuple #[x, y, z]) 0 = some x := fun _ _ _ => rfl
  have t1 : ∀ x y z : Value, exV (.tuple #[x, y, z]) 1 = some y := fun _ _ _ => rfl
  have t2 : ∀ x y z : Value, exV (.tuple #[x, y, z]) 2 = some z := fun _ _ _ => rfl
  refine use_reat (F := pt r (.cells #[.int .i64 0, .int .i64 0] 38 (0, 0)) * F) ok ro (asr (by ac_rfl) hp) (fun h2 e hh2 => ?_) fun k i e l h2 hk hu hx ho hh2 => ?_
  · have e0 : bldV #[.int .i64 0, .int .i64 0] [] = some #[.int .i64 0, .int .i64 0] := rfl
    repeat (with_reducible first | refine vP_so ?_ | refine vB_t ?_ | refine vB_f ?_ | refine vE_tt ?_ | refine vE_ff ?_ | refine vE_tf ?_ | refine vE_ft ?_ | refine vE_u ?_ | refine vP_to (by simp (disch := omega) only [gdW_true, gdW_false, gB_true, gB_false, gB_undef, pickV_true, pickV_false, Bool.not_true, Bool.not_false, Option.map_some, bin_add, bin_sub, bin_mul, bin_quo, bin_rem, lss_t, lss_f, leq_t, leq_f, gtr_t, gtr_f, geq_t, geq_f, eqi_t, eqi_f, nei_t, nei_f, rem_uw, conv_ui, conv_iu, conv_ii, not_bool, nil_ptr, fa_mk, ptrV, len_mk, cap_mk, eq_ptr_nil, ne_ptr_nil, eq_nil_nil, ne_nil_nil, eq_slice_nil, eq_nil_slice, ia_1, t0, t1, t2, e0]; exact so_so) ?_)
    refine stN_mk (cs := #[.int .i64 0, .int .i64 0]) (show (pt r (.cells #[.int .i64 0, .int .i64 0] 38 (0, 0)) * (RAO a ap rw' vi vs vl st.n st.runs E wf * (F * tt))) h2 from asr (by ac_rfl) hh2) rfl rfl (by simp) fun h3 hh3 => ?_
    have hh3 : (pt r (.cells #[.int .i64 0, .int .i64 0] 38 (0, 0)) * (RAO a ap rw' vi vs vl st.n st.runs E wf * (F * tt))) h3 := hh3
    have lN : ldN 2 (.pointer (some ⟨r, 0, none⟩)) h3 = some (.agg #[.int .i64 0, .int .i64 0]) := ldN_mk (pt_get hh3) (by simp)
    repeat (with_reducible first | refine vP_so ?_ | refine vB_t ?_ | refine vB_f ?_ | refine vE_tt ?_ | refine vE_ff ?_ | refine vE_tf ?_ | refine vE_ft ?_ | refine vE_u ?_ | refine vP_to (by simp (disch := omega) only [gdW_true, gdW_false, gB_true, gB_false, gB_undef, pickV_true, pickV_false, Bool.not_true, Bool.not_false, Option.map_some, bin_add, bin_sub, bin_mul, bin_quo, bin_rem, lss_t, lss_f, leq_t, leq_f, gtr_t, gtr_f, geq_t, geq_f, eqi_t, eqi_f, nei_t, nei_f, rem_uw, conv_ui, conv_iu, conv_ii, not_bool, nil_ptr, fa_mk, ptrV, len_mk, cap_mk, eq_ptr_nil, ne_ptr_nil, eq_nil_nil, ne_nil_nil, eq_slice_nil, eq_nil_slice, ia_1, lN]; exact so_so) ?_)
    exact hnone h3 e (RA_intro ro (dropL (P := pt r (.cells #[.int .i64 0, .int .i64 0] 38 (0, 0))) (Q := RAO a ap rw' vi vs vl st.n st.runs E wf * F) (asr (by ac_rfl) hh3) |> asr (by ac_rfl)))
  · have l' := rao_ld hh2
    have hl := rao_len hh2
    have hkl := (List.getElem?_eq_some_iff.1 hk).1
    have hil := (List.getElem?_eq_some_iff.1 hu).1
    have hsl := (ro.ok ok (List.mem_of_getElem? hk)).len
    obtain ⟨q, q1, q2⟩ := rao_id hk hh2
    have e0 : bldV #[.int .i64 0, .int .i64 0] [(0, 1, .int .i64 e.num), (1, 1, .int .i64 (i : Int))] = some #[.int .i64 e.num, .int .i64 (i : Int)] := rfl
    repeat (with_reducible first | refine vP_so ?_ | refine vB_t ?_ | refine vB_f ?_ | refine vE_tt ?_ | refine vE_ff ?_ | refine vE_tf ?_ | refine vE_ft ?_ | refine vE_u ?_ | refine vP_to (by simp (disch := omega) only [gdW_true, gdW_false, gB_true, gB_false, gB_undef, pickV_true, pickV_false, Bool.not_true, Bool.not_false, Option.map_some, bin_add, bin_sub, bin_mul, bin_quo, bin_rem, lss_t, lss_f, leq_t, leq_f, gtr_t, gtr_f, geq_t, geq_f, eqi_t, eqi_f, nei_t, nei_f, rem_uw, conv_ui, conv_iu, conv_ii, not_bool, nil_ptr, fa_mk, ptrV, len_mk, cap_mk, eq_ptr_nil, ne_ptr_nil, eq_nil_nil, ne_nil_nil, eq_slice_nil, eq_nil_slice, ia_1, t0, t1, t2, l'.2.1, q1, q2, e0]; exact so_so) ?_)
    refine stN_mk (cs := #[.int .i64 e.num, .int .i64 (i : Int)]) (show (pt r (.cells #[.int .i64 0, .int .i64 0] 38 (0, 0)) * (RAO a ap rw' vi vs vl st.n st.runs E wf * (F * tt))) h2 from asr (by ac_rfl) hh2) rfl rfl (by simp) fun h3 hh3 => ?_
    have hh3 : (pt r (.cells #[.int .i64 e.num, .int .i64 (i : Int)] 38 (0, 0)) * (RAO a ap rw' vi vs vl st.n st.runs E wf * (F * tt))) h3 := hh3
    have lN : ldN 2 (.pointer (some ⟨r, 0, none⟩)) h3 = some (.agg #[.int .i64 e.num, .int .i64 (i : Int)]) := ldN_mk (pt_get hh3) (by simp)
    repeat (with_reducible first | refine vP_so ?_ | refine vB_t ?_ | refine vB_f ?_ | refine vE_tt ?_ | refine vE_ff ?_ | refine vE_tf ?_ | refine vE_ft ?_ | refine vE_u ?_ | refine vP_to (by simp (disch := omega) only [gdW_true, gdW_false, gB_true, gB_false, gB_undef, pickV_true, pickV_false, Bool.not_true, Bool.not_false, Option.map_some, bin_add, bin_sub, bin_mul, bin_quo, bin_rem, lss_t, lss_f, leq_t, leq_f, gtr_t, gtr_f, geq_t, geq_f, eqi_t, eqi_f, nei_t, nei_f, rem_uw, conv_ui, conv_iu, conv_ii, not_bool, nil_ptr, fa_mk, ptrV, len_mk, cap_mk, eq_ptr_nil, ne_ptr_nil, eq_nil_nil, ne_nil_nil, eq_slice_nil, eq_nil_slice, ia_1, lN]; exact so_so) ?_)
    exact hK e.num e.s i l h3 (ro.at_ hk) hu hx ho (RA_intro ro (dropL (P := pt r (.cells #[.int .i64 e.num, .int .i64 (i : Int)] 38 (0, 0))) (Q := RAO a ap rw' vi vs vl st.n st.runs E wf * F) (asr (by ac_rfl) hh3) |> asr (by ac_rfl)))
theorem t30 {x y z : Value} : exV (.tuple #[x, y, z]) 0 = some x := rfl
theorem t31 {x y z : Value} : exV (.tuple #[x, y, z]) 1 = some y := rfl
theorem t32 {x y z : Value} : exV (.tuple #[x, y, z]) 2 = some z := rfl
theorem use_relen {st : Ar} {N : Nat} {x : Int} (ok : AOk st N) {F : Asrt} {K : Value → Hp → Prop} {h : Hp} (hh : (RA a st * (F * tt)) h)
    (hK : ∀ h', (RA a st * (F * tt)) h' → K (.int .i64 (((st.ob x).getD []).length : Nat)) h') : CallH Tryz.prog 57 #[pB a, .int .i64 x] K h := by
  refine C57 ?_
  unfold D57
  obtain ⟨ap, rw', vi, vs, vl, E, wf, ro, hp⟩ := RA_elim hh
  refine use_reat ok ro hp (fun h2 e hh2 => ?_) fun k i e l h2 hk hu hx ho hh2 => ?_
  · rw [e] at hK
    repeat (with_reducible first | refine vP_so ?_ | refine vB_t ?_ | refine vB_f ?_ | refine vE_tt ?_ | refine vE_ff ?_ | refine vE_tf ?_ | refine vE_ft ?_ | refine vE_u ?_ | refine vP_to (by simp (disch := omega) only [gdW_true, gdW_false, gB_true, gB_false, gB_undef, pickV_true, pickV_false, Bool.not_true, Bool.not_false, Option.map_some, bin_add, bin_sub, bin_mul, bin_quo, bin_rem, lss_t, lss_f, leq_t, leq_f, gtr_t, gtr_f, geq_t, geq_f, eqi_t, eqi_f, nei_t, nei_f, rem_uw, conv_ui, conv_iu, conv_ii, not_bool, nil_ptr, fa_mk, ptrV, len_mk, cap_mk, eq_ptr_nil, ne_ptr_nil, eq_nil_nil, ne_nil_nil, eq_slice_nil, eq_nil_slice, ia_1, t30, t31, t32]; exact so_so) ?_)
    exact hK h2 (RA_intro ro hh2)
  · rw [ho] at hK
    have l' := rao_ld hh2
    have hl := rao_len hh2
    have hkl := (List.getElem?_eq_some_iff.1 hk).1
    have hil := (List.getElem?_eq_some_iff.1 hu).1
    have hsl := (ro.ok ok (List.mem_of_getElem? hk)).len
    obtain ⟨q, q1, q2⟩ := rao_lv hk hh2
    obtain ⟨R, o1, o2⟩ := rao_open (a := a) (ap := ap) (rw := rw') (vi := vi) (vs := vs) (vl := vl) (n := st.n) (runs := st.runs) (wf := wf) hk
    have hh3 : (SG iE 3 (slv e.lv) e.lens * (RSP e.p e.s * (R * (F * tt)))) h2 := asr (by ac_rfl) (o1 _ _ hh2)
    have hv := ro.val e (List.mem_of_getElem? hk) i l hu (hx ▸ ho)
    obtain ⟨r, r1, r2, _⟩ := el1 hh3 hv .i64
    repeat (with_reducible first | refine vP_so ?_ | refine vB_t ?_ | refine vB_f ?_ | refine vE_tt ?_ | refine vE_ff ?_ | refine vE_tf ?_ | refine vE_ft ?_ | refine vE_u ?_ | refine vP_to (by simp (disch := omega) only [gdW_true, gdW_false, gB_true, gB_false, gB_undef, pickV_true, pickV_false, Bool.not_true, Bool.not_false, Option.map_some, bin_add, bin_sub, bin_mul, bin_quo, bin_rem, lss_t, lss_f, leq_t, leq_f, gtr_t, gtr_f, geq_t, geq_f, eqi_t, eqi_f, nei_t, nei_f, rem_uw, conv_ui, conv_iu, conv_ii, not_bool, nil_ptr, fa_mk, ptrV, len_mk, cap_mk, eq_ptr_nil, ne_ptr_nil, eq_nil_nil, ne_nil_nil, eq_slice_nil, eq_nil_slice, ia_1, t30, t31, t32, l'.2.2.2.1, q1, q2, r1, r2]; exact so_so) ?_)
    exact hK h2 (RA_intro ro hh2)
theorem ob_pos {st : Ar} {N : Nat} (ok : AOk st N) {x : Int} {l : List Int} (h : st.ob x = some l) : 1 ≤ l.length ∧ l.length ≤ 256 ∧ 64 ≤ x ∧ x ≤ 16800000 := by
  obtain ⟨id, s, i, e, h1, rfl⟩ := (ok.ob x).1 (by rw [h]; rfl)
  have h2 := ok.ol id s i l e h1 h
  have h3 := szS_pos (ok.sp id s e).2.2.1.cls
  have h4 := addr_bd (ok.sp id s e).2.2.1 (List.getElem?_eq_some_iff.1 h1).1
  omega
theorem use_reload {st : Ar} {N : Nat} {x i : Int} (ok : AOk st N) {F : Asrt} {K : Value → Hp → Prop} {h : Hp} (hh : (RA a st * (F * tt)) h)
    (hnone : ∀ h', st.ob x = none → (RA a st * (F * tt)) h' → K (tup 0 4) h') (hout : ∀ l h', st.ob x = some l → ¬ (0 ≤ i ∧ i < l.length) → (RA a st * (F * tt)) h' → K (tup 0 2) h')
    (hK : ∀ l c h', st.ob x = some l → 0 ≤ i → l[i.toNat]? = some c → (RA a st * (F * tt)) h' → K (tup c 0) h') : CallH Tryz.prog 55 #[pB a, .int .i64 x, .int .i64 i] K h := by
  refine C55 ?_
  unfold D55
  refine use_relen (x := x) ok hh fun h1 hh1 => ?_
  cases ho : st.ob x with
  | none =>
    repeat (with_reducible first | refine vP_so ?_ | refine vB_t ?_ | refine vB_f ?_ | refine vE_tt ?_ | refine vE_ff ?_ | refine vE_tf ?_ | refine vE_ft ?_ | refine vE_u ?_ | refine vP_to (by simp (disch := omega) only [gdW_true, gdW_false, gB_true, gB_false, gB_undef, pickV_true, pickV_false, Bool.not_true, Bool.not_false, Option.map_some, bin_add, bin_sub, bin_mul, bin_quo, bin_rem, lss_t, lss_f, leq_t, leq_f, gtr_t, gtr_f, geq_t, geq_f, eqi_t, eqi_f, nei_t, nei_f, rem_uw, conv_ui, conv_iu, conv_ii, not_bool, nil_ptr, fa_mk, ptrV, len_mk, cap_mk, eq_ptr_nil, ne_ptr_nil, eq_nil_nil, ne_nil_nil, eq_slice_nil, eq_nil_slice, ia_1, eq_refl0]; exact so_so) ?_)
    exact hnone h1 ho hh1
  | some l =>
    have hp := ob_pos ok ho
    have e0 : (some l).getD [] = l := rfl
    rw [e0]
    by_cases h0 : i < 0
    · repeat (with_reducible first | refine vP_so ?_ | refine vB_t ?_ | refine vB_f ?_ | refine vE_tt ?_ | refine vE_ff ?_ | refine vE_tf ?_ | refine vE_ft ?_ | refine vE_u ?_ | refine vP_to (by simp (disch := omega) only [gdW_true, gdW_false, gB_true, gB_false, gB_undef, pickV_true, pickV_false, Bool.not_true, Bool.not_false, Option.map_some, bin_add, bin_sub, bin_mul, bin_quo, bin_rem, lss_t, lss_f, leq_t, leq_f, gtr_t, gtr_f, geq_t, geq_f, eqi_t, eqi_f, nei_t, nei_f, rem_uw, conv_ui, conv_iu, conv_ii, not_bool, nil_ptr, fa_mk, ptrV, len_mk, cap_mk, eq_ptr_nil, ne_ptr_nil, eq_nil_nil, ne_nil_nil, eq_slice_nil, eq_nil_slice, ia_1]; exact so_so) ?_)
      exact hout l h1 ho (by omega) hh1
    by_cases h2 : (l.length : Int) ≤ i
    · repeat (with_reducible first | refine vP_so ?_ | refine vB_t ?_ | refine vB_f ?_ | refine vE_tt ?_ | refine vE_ff ?_ | refine vE_tf ?_ | refine vE_ft ?_ | refine vE_u ?_ | refine vP_to (by simp (disch := omega) only [gdW_true, gdW_false, gB_true, gB_false, gB_undef, pickV_true, pickV_false, Bool.not_true, Bool.not_false, Option.map_some, bin_add, bin_sub, bin_mul, bin_quo, bin_rem, lss_t, lss_f, leq_t, leq_f, gtr_t, gtr_f, geq_t, geq_f, eqi_t, eqi_f, nei_t, nei_f, rem_uw, conv_ui, conv_iu, conv_ii, not_bool, nil_ptr, fa_mk, ptrV, len_mk, cap_mk, eq_ptr_nil, ne_ptr_nil, eq_nil_nil, ne_nil_nil, eq_slice_nil, eq_nil_slice, ia_1]; exact so_so) ?_)
      exact hout l h1 ho (by omega) hh1
    obtain ⟨ap, rw', vi, vs, vl, E, wf, ro, hp1⟩ := RA_elim hh1
    have l' := rao_ld hp1
    obtain ⟨j, rfl⟩ : ∃ j : Nat, i = j := ⟨i.toNat, by omega⟩
    have hj : j < l.length := by omega
    have hw := ro.words x l j l[j] ho (List.getElem?_eq_getElem hj)
    have hg := List.getElem?_eq_getElem hj
    generalize l[j] = c at *
    have hM : (MP rw' wf * (pt a (.cells #[pB ap, vi, vs, vl, .map (some rw')] 54 (0, 0)) * (FLs ap st.n st.runs * (SG iE 3 vi (E.map (·.num)) * (SG pE 80 vs (E.map (·.p)) * (SG sE 22 vl (E.map (·.lv)) * (starL E entA * (F * tt)))))))) h1 := by
      unfold RAO at hp1
      exact asr (by ac_rfl) hp1
    have hlk := (lk_MP (k := x + j) mapII intU zInt hM).1
    rw [hw] at hlk
    have hlk : lkV Tryz.prog 52 (.map (some rw')) (.int .i64 (x + j)) false h1 = some (.int .i64 c) := hlk
    repeat (with_reducible first | refine vP_so ?_ | refine vB_t ?_ | refine vB_f ?_ | refine vE_tt ?_ | refine vE_ff ?_ | refine vE_tf ?_ | refine vE_ft ?_ | refine vE_u ?_ | refine vP_to (by simp (disch := omega) only [gdW_true, gdW_false, gB_true, gB_false, gB_undef, pickV_true, pickV_false, Bool.not_true, Bool.not_false, Option.map_some, bin_add, bin_sub, bin_mul, bin_quo, bin_rem, lss_t, lss_f, leq_t, leq_f, gtr_t, gtr_f, geq_t, geq_f, eqi_t, eqi_f, nei_t, nei_f, rem_uw, conv_ui, conv_iu, conv_ii, not_bool, nil_ptr, fa_mk, ptrV, len_mk, cap_mk, eq_ptr_nil, ne_ptr_nil, eq_nil_nil, ne_nil_nil, eq_slice_nil, eq_nil_slice, ia_1, l'.2.2.2.2, hlk]; exact so_so) ?_)
    exact hK l c h1 ho (by omega) (by rw [Int.toNat_natCast]; exact hg) hh1
end Go.Proofs
