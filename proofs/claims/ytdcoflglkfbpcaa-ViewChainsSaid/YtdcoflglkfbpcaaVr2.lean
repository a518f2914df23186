/-
  Contracts of treadmillref29: walk.
-/
import Derived.Test.YtdcoflglkfbpcaaVr1
set_option linter.unusedVariables false
set_option linter.unusedSimpArgs false
set_option maxRecDepth 100000
namespace Go.Proofs
open Go.Sl

abbrev bE : Enc Bool := enc1 (fun b => .bool b) (fun _ => rfl)

/-- The first place of each address, and 1, of the objects from i on. -/
def atD (os : List Ob) (i : Nat) : Int → Option Value := fun x => ((os.drop i).findIdx? fun o => o.addr == x).map fun (j : Nat) => Value.int .i64 ((i + j + 1 : Nat) : Int)

theorem atD_step {os : List Ob} {i : Nat} {o : Ob} (h : os[i]? = some o) : (fun x => if x = o.addr then some (Value.int .i64 ((i : Int) + 1)) else atD os (i + 1) x) = atD os i := by
  obtain ⟨hi, e⟩ := List.getElem?_eq_some_iff.1 h
  funext x
  unfold atD
  rw [List.drop_eq_getElem_cons hi, e, List.findIdx?_cons]
  by_cases hx : x = o.addr
  · subst hx; simp
  · have : (o.addr == x) = false := by simpa using fun q => hx q.symm
    rw [if_neg hx, this]
    simp only [Bool.false_eq_true, if_false]
    cases (os.drop (i + 1)).findIdx? (fun o => o.addr == x) with
    | none => rfl
    | some j => simp; omega

theorem atD_zero (w : VW) (x : Int) : atD w.objs 0 x = (w.at x).map fun (j : Nat) => Value.int .i64 ((j + 1 : Nat) : Int) := by
  unfold atD VW.at
  simp

/-- What the reference's walk knows: k lists of names behind the roots have been taken up; 'cur' are still to be looked at. -/
structure RInv (w : VW) (k : Nat) (l : List Nat) (lost cur : List Int) : Prop where
  nodup : l.Nodup
  lt : ∀ n ∈ l, n < w.objs.length
  rch : ∀ n ∈ l, ∃ x, Rch w x ∧ w.at x = some n
  rise : Rise lost
  lostOk : ∀ x ∈ lost, Rch w x ∧ w.at x = none
  roots : ∀ x ∈ w.names, x ≠ 0 → x ∈ cur ∨ ((∀ n, w.at x = some n → n ∈ l) ∧ (w.at x = none → x ∈ lost))
  slots : ∀ (j : Nat) n o x, j < k → l[j]? = some n → w.objs[n]? = some o → x ∈ o.slots → x ≠ 0 → x ∈ cur ∨ ((∀ n, w.at x = some n → n ∈ l) ∧ (w.at x = none → x ∈ lost))
  curOk : ∀ x ∈ cur, x ≠ 0 → Rch w x

theorem RInv.done {w : VW} {l : List Nat} {lost : List Int} (h : RInv w l.length l lost []) : (∀ n, n ∈ l ↔ ∃ x, Rch w x ∧ w.at x = some n) ∧ (∀ x, x ∈ lost ↔ Rch w x ∧ w.at x = none) := by
  have key : ∀ x, Rch w x → (∀ n, w.at x = some n → n ∈ l) ∧ (w.at x = none → x ∈ lost) := fun x hr => by
    induction hr with
    | root h1 h2 =>
      rcases h.roots _ h1 h2 with q | q
      · simp at q
      · exact q
    | @step x y k o h1 h2 h3 h4 h5 ih =>
      obtain ⟨j, hj, e⟩ := List.getElem_of_mem (ih.1 k h2)
      rcases h.slots j k o y hj (by rw [List.getElem?_eq_getElem hj, e]) h3 h4 h5 with q | q
      · simp at q
      · exact q
  refine ⟨fun n => ⟨h.rch n, fun ⟨x, h1, h2⟩ => (key x h1).1 n h2⟩, fun x => ⟨h.lostOk x, fun ⟨h1, h2⟩ => (key x h1).2 h2⟩⟩

/-- A name is looked at. -/
theorem RInv.next {w : VW} {k : Nat} {l l' : List Nat} {lost lost' cur : List Int} {x : Int} (h : RInv w k l lost (x :: cur)) (h1 : l'.Nodup) (h2 : ∀ n ∈ l', n ∈ l ∨ (x ≠ 0 ∧ w.at x = some n)) (h3 : ∃ t, l' = l ++ t) (h4 : Rise lost') (h5 : ∀ y, y ∈ lost' → y ∈ lost ∨ (y = x ∧ x ≠ 0 ∧ w.at x = none))
    (h6 : ∀ y ∈ lost, y ∈ lost') (h7 : x ≠ 0 → (∀ n, w.at x = some n → n ∈ l') ∧ (w.at x = none → x ∈ lost')) (hk : k ≤ l.length) : RInv w k l' lost' cur := by
  obtain ⟨t, rfl⟩ := h3
  have hr : x ≠ 0 → Rch w x := h.curOk x (by simp)
  have up : ∀ y, y ≠ 0 → (y ∈ x :: cur ∨ ((∀ n, w.at y = some n → n ∈ l) ∧ (w.at y = none → y ∈ lost))) → (y ∈ cur ∨ ((∀ n, w.at y = some n → n ∈ l ++ t) ∧ (w.at y = none → y ∈ lost'))) := fun y hy0 q => by
    rcases q with q | q
    · rw [List.mem_cons] at q
      rcases q with rfl | q
      · exact .inr (h7 hy0)
      · exact .inl q
    · exact .inr ⟨fun n hn => List.mem_append.2 (.inl (q.1 n hn)), fun hn => h6 y (q.2 hn)⟩
  refine ⟨h1, fun n hn => ?_, fun n hn => ?_, h4, fun y hy => ?_, fun y hy h0 => up y h0 (h.roots y hy h0), fun j n o y hj hn ho hy h0 => up y h0 (h.slots j n o y hj ?_ ho hy h0), fun y hy h0 => h.curOk y (by simp [hy]) h0⟩
  · rcases h2 n hn with q | ⟨_, q⟩
    · exact h.lt n q
    · obtain ⟨o, ho, _⟩ := at_some q
      exact (List.getElem?_eq_some_iff.1 ho).1
  · rcases h2 n hn with q | ⟨q0, q⟩
    · exact h.rch n q
    · exact ⟨x, hr q0, q⟩
  · rcases h5 y hy with q | ⟨rfl, q0, q⟩
    · exact h.lostOk y q
    · exact ⟨hr q0, q⟩
  · rw [List.getElem?_append_left (by omega)] at hn; exact hn

/-- An object's names are taken up. -/
theorem RInv.take {w : VW} {k : Nat} {l : List Nat} {lost : List Int} {n : Nat} {o : Ob} (h : RInv w k l lost []) (hk : l[k]? = some n) (ho : w.objs[n]? = some o) : RInv w (k + 1) l lost o.slots := by
  refine ⟨h.nodup, h.lt, h.rch, h.rise, h.lostOk, fun x hx h0 => ?_, fun j n' o' x hj hn ho' hx h0 => ?_, fun x hx h0 => ?_⟩
  · rcases h.roots x hx h0 with q | q
    · simp at q
    · exact .inr q
  · by_cases hjk : j = k
    · subst hjk
      obtain rfl : n = n' := Option.some.inj (hk.symm.trans hn)
      obtain rfl : o = o' := Option.some.inj (ho.symm.trans ho')
      exact .inl hx
    · rcases h.slots j n' o' x (by omega) hn ho' hx h0 with q | q
      · simp at q
      · exact .inr q
  · obtain ⟨y, hy, hat⟩ := h.rch n (List.mem_of_getElem? hk)
    exact .step hy hat ho hx h0

def inF (n : Nat) (l : List Nat) : List Bool := (List.range n).map fun i => decide (i ∈ l)

theorem inF_len (n : Nat) (l : List Nat) : (inF n l).length = n := by simp [inF]
theorem inF_get {n i : Nat} (l : List Nat) (h : i < n) : (inF n l)[i]? = some (decide (i ∈ l)) := by simp [inF, h]
theorem inF_set {n i : Nat} {l : List Nat} : (inF n l).set i true = inF n (l ++ [i]) := by
  apply List.ext_getElem?
  intro j
  rw [List.getElem?_set, inF_len]
  by_cases hj : j < n
  · rw [inF_get _ hj, inF_get _ hj]
    by_cases hij : i = j
    · subst hij; simp [hj]
    · rw [if_neg hij]
      have : (j ∈ l ++ [i]) ↔ j ∈ l := by
        rw [List.mem_append, List.mem_singleton]
        exact ⟨fun q => q.elim id (fun e => (hij e.symm).elim), .inl⟩
      simp [this]
  · rw [List.getElem?_eq_none (by rw [inF_len]; omega), List.getElem?_eq_none (by rw [inF_len]; omega)]
    by_cases hij : i = j
    · rw [if_pos hij, if_neg (by omega)]
    · rw [if_neg hij]

def natL (l : List Nat) : List Int := l.map fun (n : Nat) => (n : Int)

theorem use_rwalk {g : Hp} {w : VW} {F : Asrt} {K : Value → Hp → Prop} {h : Hp} (hv : VAt g w) (hN : w.all.length ≤ 1000000) (hO : w.objs.length ≤ 1000000) (hh : (own g * (F * tt)) h)
    (hK : ∀ v8 v9 l lost h', l.Nodup → (∀ n, n ∈ l ↔ ∃ x, Rch w x ∧ w.at x = some n) → LostL w lost → l.length ≤ 1000000 → lost.length ≤ 1000000 →
      (SG iE 3 v8 (natL l) * (SG iE 3 v9 lost * (own g * (F * tt)))) h' → K (.tuple #[v8, v9]) h') : CallH Try.prog 59 #[w.val] K h := by
  refine C59 ?_
  unfold D59
  have hol := hv.objs_len
  refine vA_new (o := .cells w.cells 26 (0, 0)) hh fun r1 h1 hh1 => ?_
  refine vA_new (f := fun r => .map (some r)) hh1 fun r14 h2 hh2 => ?_
  have hh2 := MP_new hh2
  have l5 := (vw_ld (r := r1) (w := w) (E := 26) (F := MP r14 (fun _ => none) * (own g * (F * tt))) (asr (by ac_rfl) hh2)).2.2.2.2.2.1
  repeat (with_reducible first | refine vP_so ?_ | refine vB_t ?_ | refine vB_f ?_ | refine vE_tt ?_ | refine vE_ff ?_ | refine vE_tf ?_ | refine vE_ft ?_ | refine vE_u ?_ | refine vP_to (by simp (disch := omega) only [gdW_true, gdW_false, gB_true, gB_false, gB_undef, pickV_true, pickV_false, Bool.not_true, Bool.not_false, Option.map_some, bin_add, bin_sub, bin_mul, bin_quo, bin_rem, lss_t, lss_f, leq_t, leq_f, gtr_t, gtr_f, geq_t, geq_f, eqi_t, eqi_f, nei_t, nei_f, rem_uw, conv_ui, conv_iu, conv_ii, not_bool, nil_ptr, fa_mk, ptrV, len_mk, cap_mk, eq_ptr_nil, ne_ptr_nil, eq_nil_nil, ne_nil_nil, eq_slice_nil, eq_nil_slice, ia_1, l5, hol.1]; exact so_so) ?_)
  have e0 : (fun _ => none : Int → Option Value) = atD w.objs w.objs.length := by funext x; unfold atD; simp
  rw [e0] at hh2
  refine ⟨fun m zs h' => ∃ i : Nat, zs = [.int .i64 ((i : Int) - 1)] ∧ m = i ∧ i ≤ w.objs.length ∧ (MP r14 (atD w.objs i) * (pt r1 (.cells w.cells 26 (0, 0)) * (own g * (F * tt)))) h', ⟨_, w.objs.length, rfl, rfl, by omega, hh2⟩, ?_⟩
  clear l5
  rintro m v5 h3 ⟨i, hzs, rfl, hi, hh3⟩ _
  obtain rfl : v5 = .int .i64 ((m : Int) - 1) := by simpa using hzs
  have l5 := (vw_ld (r := r1) (w := w) (E := 26) (F := MP r14 (atD w.objs m) * (own g * (F * tt))) (asr (by ac_rfl) hh3)).2.2.2.2.2.1
  by_cases hi0 : 0 < m
  · obtain ⟨i, rfl⟩ : ∃ i, m = i + 1 := ⟨m - 1, by omega⟩
    have hw := own_vat (F := MP r14 (atD w.objs (i + 1)) * (pt r1 (.cells w.cells 26 (0, 0)) * (F * tt))) (asr (by ac_rfl) hh3) hv
    have hoi : w.objs[i]? = some w.objs[i] := List.getElem?_eq_getElem (by omega)
    obtain ⟨b, q, e1, e2, _⟩ := hw.obj hoi .i64
    have hst := atD_step hoi
    generalize w.objs[i] = o at *
    have ei : (((i + 1 : Nat) : Int) - 1) = (i : Int) := by omega
    rw [ei]
    repeat (with_reducible first | refine vP_so ?_ | refine vB_t ?_ | refine vB_f ?_ | refine vE_tt ?_ | refine vE_ff ?_ | refine vE_tf ?_ | refine vE_ft ?_ | refine vE_u ?_ | refine vP_to (by simp (disch := omega) only [gdW_true, gdW_false, gB_true, gB_false, gB_undef, pickV_true, pickV_false, Bool.not_true, Bool.not_false, Option.map_some, bin_add, bin_sub, bin_mul, bin_quo, bin_rem, lss_t, lss_f, leq_t, leq_f, gtr_t, gtr_f, geq_t, geq_f, eqi_t, eqi_f, nei_t, nei_f, rem_uw, conv_ui, conv_iu, conv_ii, not_bool, nil_ptr, fa_mk, ptrV, len_mk, cap_mk, eq_ptr_nil, ne_ptr_nil, eq_nil_nil, ne_nil_nil, eq_slice_nil, eq_nil_slice, ia_1, l5, e1, e2]; exact so_so) ?_)
    refine mu_MP mapII intU hh3 fun h4 hh4 => ?_
    rw [hst] at hh4
    repeat (with_reducible first | refine vP_so ?_ | refine vB_t ?_ | refine vB_f ?_ | refine vE_tt ?_ | refine vE_ff ?_ | refine vE_tf ?_ | refine vE_ft ?_ | refine vE_u ?_ | refine vP_to (by simp (disch := omega) only [gdW_true, gdW_false, gB_true, gB_false, gB_undef, pickV_true, pickV_false, Bool.not_true, Bool.not_false, Option.map_some, bin_add, bin_sub, bin_mul, bin_quo, bin_rem, lss_t, lss_f, leq_t, leq_f, gtr_t, gtr_f, geq_t, geq_f, eqi_t, eqi_f, nei_t, nei_f, rem_uw, conv_ui, conv_iu, conv_ii, not_bool, nil_ptr, fa_mk, ptrV, len_mk, cap_mk, eq_ptr_nil, ne_ptr_nil, eq_nil_nil, ne_nil_nil, eq_slice_nil, eq_nil_slice, ia_1]; exact so_so) ?_)
    exact ⟨i, by omega, i, rfl, rfl, by omega, hh4⟩
  obtain rfl : m = 0 := by omega
  repeat (with_reducible first | refine vP_so ?_ | refine vB_t ?_ | refine vB_f ?_ | refine vE_tt ?_ | refine vE_ff ?_ | refine vE_tf ?_ | refine vE_ft ?_ | refine vE_u ?_ | refine vP_to (by simp (disch := omega) only [gdW_true, gdW_false, gB_true, gB_false, gB_undef, pickV_true, pickV_false, Bool.not_true, Bool.not_false, Option.map_some, bin_add, bin_sub, bin_mul, bin_quo, bin_rem, lss_t, lss_f, leq_t, leq_f, gtr_t, gtr_f, geq_t, geq_f, eqi_t, eqi_f, nei_t, nei_f, rem_uw, conv_ui, conv_iu, conv_ii, not_bool, nil_ptr, fa_mk, ptrV, len_mk, cap_mk, eq_ptr_nil, ne_ptr_nil, eq_nil_nil, ne_nil_nil, eq_slice_nil, eq_nil_slice, ia_1, l5, hol.1]; exact so_so) ?_)
  refine ms_SG bE (z := false) (n := w.objs.length) hh3 rfl rfl (by omega) (by omega) fun v35 h5 hh5 => ?_
  have l9 := (vw_ld (r := r1) (w := w) (E := 26) (F := SG bE 4 v35 (List.replicate w.objs.length false) * (MP r14 (atD w.objs 0) * (own g * (F * tt)))) (asr (by ac_rfl) hh5)).2.2.2.2.2.2.2.2.2
  repeat (with_reducible first | refine vP_so ?_ | refine vB_t ?_ | refine vB_f ?_ | refine vE_tt ?_ | refine vE_ff ?_ | refine vE_tf ?_ | refine vE_ft ?_ | refine vE_u ?_ | refine vP_to (by simp (disch := omega) only [gdW_true, gdW_false, gB_true, gB_false, gB_undef, pickV_true, pickV_false, Bool.not_true, Bool.not_false, Option.map_some, bin_add, bin_sub, bin_mul, bin_quo, bin_rem, lss_t, lss_f, leq_t, leq_f, gtr_t, gtr_f, geq_t, geq_f, eqi_t, eqi_f, nei_t, nei_f, rem_uw, conv_ui, conv_iu, conv_ii, not_bool, nil_ptr, fa_mk, ptrV, len_mk, cap_mk, eq_ptr_nil, ne_ptr_nil, eq_nil_nil, ne_nil_nil, eq_slice_nil, eq_nil_slice, ia_1, l9]; exact so_so) ?_)
  have hrep : List.replicate w.objs.length false = inF w.objs.length [] := by
    apply List.ext_getElem?
    intro j
    by_cases hj : j < w.objs.length
    · rw [inF_get _ hj, List.getElem?_replicate, if_pos hj]; simp
    · rw [List.getElem?_eq_none (by simpa using hj), List.getElem?_eq_none (by rw [inF_len]; omega)]
  rw [hrep] at hh5
  refine use_rroots (F := SG bE 4 v35 (inF w.objs.length []) * (MP r14 (atD w.objs 0) * (pt r1 (.cells w.cells 26 (0, 0)) * F))) hv hN (asr (by ac_rfl) hh5) fun v37 h6 hh6 => ?_
  clear hh5 hh3 l5 l9 hh2 hh1
  have hroots : ∀ x, x ∈ w.rootsL ↔ x ∈ w.names ∧ x ≠ 0 := fun x => by unfold VW.rootsL; rw [foldl_once_mem]; simp
  generalize w.rootsL = rl at *
  obtain ⟨g2, hg2, hh6⟩ := own_pick hh6
  have hI37 : IntsAt g2 v37 rl := SG_ints (F := emp) (by rw [star_emp]; exact hg2)
  clear hg2
  obtain ⟨hdis, hh6⟩ := own_join hh6
  have hI37 : IntsAt (g2.add g) v37 rl := hI37.mono
  have hv' : VAt (g2.add g) w := by rw [Hp.add_comm hdis]; exact hv.mono
  have hfin : ∀ {G : Asrt} {h' : Hp}, (own (g2.add g) * (G * tt)) h' → (own g * (G * tt)) h' := fun {G h'} q => by
    have q2 := own_split hdis q
    exact dropL (P := own g2) (Q := own g * G) (asr (by ac_rfl) q2) |> asr (by ac_rfl)
  generalize g2.add g = gg at *
  refine ⟨fun m zs h' => ∃ (k : Nat) (v7 v8 v9 : Value) (l : List Nat) (lost cur : List Int), zs = [v7, v8, v9, .int .i64 k] ∧ m = w.objs.length + 1 - k ∧ k ≤ l.length ∧ IntsAt gg v9 cur ∧ RInv w k l lost cur ∧
      (SG iE 3 v7 (natL l) * (SG iE 3 v8 lost * (SG bE 4 v35 (inF w.objs.length l) * (MP r14 (atD w.objs 0) * (pt r1 (.cells w.cells 26 (0, 0)) * (own gg * (F * tt))))))) h',
    ⟨_, 0, .slice none 0 0, .slice none 0 0, v37, [], [], rl, rfl, rfl, by omega, hI37,
      ⟨by simp, by simp, by simp, by simp [Rise], by simp, fun x hx h0 => .inl ((hroots x).2 ⟨hx, h0⟩), fun j _ _ _ hj => by omega, fun x hx h0 => .root ((hroots x).1 hx).1 h0⟩,
      asr (by rw [show natL [] = [] from rfl]; ac_rfl) (SG_nil iE (E := 3) (SG_nil iE (E := 3) hh6))⟩, ?_⟩
  clear hh6 hI37 hroots
  rintro m v7 v8 v9 v10 h7 ⟨k, v7', v8', v9', l, lost, cur, hzs, rfl, hk, hcur, hI, hh7⟩ _
  obtain ⟨rfl, rfl, rfl, rfl⟩ : v7 = v7' ∧ v8 = v8' ∧ v9 = v9' ∧ v10 = .int .i64 k := by simpa using hzs
  have hclt := hcur.lt
  refine ⟨fun m zs h' => ∃ (i : Nat) (v7 v8 : Value) (l : List Nat) (lost : List Int), zs = [.int .i64 i, v7, v8] ∧ m = cur.length - i ∧ i ≤ cur.length ∧ k ≤ l.length ∧ RInv w k l lost (cur.drop i) ∧
      (SG iE 3 v7 (natL l) * (SG iE 3 v8 lost * (SG bE 4 v35 (inF w.objs.length l) * (MP r14 (atD w.objs 0) * (pt r1 (.cells w.cells 26 (0, 0)) * (own gg * (F * tt))))))) h',
    ⟨_, 0, v7, v8, l, lost, rfl, rfl, by omega, hk, by rw [List.drop_zero]; exact hI, hh7⟩, ?_⟩
  clear hh7 hI hk l lost v7 v8 hzs
  rintro m v11 v7 v8 h8 ⟨i, v7', v8', l, lost, hzs, rfl, hi, hk, hI, hh8⟩ _
  obtain ⟨rfl, rfl, rfl⟩ : v11 = .int .i64 i ∧ v7 = v7' ∧ v8 = v8' := by simpa using hzs
  have hll : l.length ≤ w.objs.length := by
    have := nodup_len (l := natL l) (m := natL (List.range w.objs.length)) (by
      unfold natL
      exact List.Pairwise.map _ (fun a b hab => by omega) hI.nodup) (fun x hx => by
      unfold natL at *
      obtain ⟨n, hn, rfl⟩ := List.mem_map.1 hx
      exact List.mem_map.2 ⟨n, List.mem_range.2 (hI.lt n hn), rfl⟩)
    simpa [natL] using this
  have hlostl : lost.length ≤ w.all.length := nodup_len (hI.rise.imp fun h => by omega) fun x hx => (hI.lostOk x hx).1.all
  by_cases hil : i < cur.length
  · obtain ⟨p, f1, f2⟩ := hcur.get i cur[i] .i64 (List.getElem?_eq_getElem hil)
    have f2 := own_ld1 (F := SG iE 3 v7 (natL l) * (SG iE 3 v8 lost * (SG bE 4 v35 (inF w.objs.length l) * (MP r14 (atD w.objs 0) * (pt r1 (.cells w.cells 26 (0, 0)) * (F * tt)))))) (asr (by ac_rfl) hh8) f2
    rw [List.drop_eq_getElem_cons hil] at hI
    generalize cur[i] = x at *
    have hm : (MP r14 (atD w.objs 0) * (SG iE 3 v7 (natL l) * (SG iE 3 v8 lost * (SG bE 4 v35 (inF w.objs.length l) * (pt r1 (.cells w.cells 26 (0, 0)) * (own gg * (F * tt))))))) h8 := asr (by ac_rfl) hh8
    obtain ⟨hlk, _⟩ := lk_MP (k := x) mapII intU zInt hm
    rw [atD_zero] at hlk
    repeat (with_reducible first | refine vP_so ?_ | refine vB_t ?_ | refine vB_f ?_ | refine vE_tt ?_ | refine vE_ff ?_ | refine vE_tf ?_ | refine vE_ft ?_ | refine vE_u ?_ | refine vP_to (by simp (disch := omega) only [gdW_true, gdW_false, gB_true, gB_false, gB_undef, pickV_true, pickV_false, Bool.not_true, Bool.not_false, Option.map_some, bin_add, bin_sub, bin_mul, bin_quo, bin_rem, lss_t, lss_f, leq_t, leq_f, gtr_t, gtr_f, geq_t, geq_f, eqi_t, eqi_f, nei_t, nei_f, rem_uw, conv_ui, conv_iu, conv_ii, not_bool, nil_ptr, fa_mk, ptrV, len_mk, cap_mk, eq_ptr_nil, ne_ptr_nil, eq_nil_nil, ne_nil_nil, eq_slice_nil, eq_nil_slice, ia_1, hcur.len]; exact so_so) ?_)
    intro J4 hJ4
    have hJ : ∀ v7' v8' l' lost' h', k ≤ l'.length → RInv w k l' lost' (cur.drop (i + 1)) → (SG iE 3 v7' (natL l') * (SG iE 3 v8' lost' * (SG bE 4 v35 (inF w.objs.length l') * (MP r14 (atD w.objs 0) * (pt r1 (.cells w.cells 26 (0, 0)) * (own gg * (F * tt))))))) h' → J4 [v7', v8'] h' := fun v7' v8' l' lost' h' a1 a2 a3 => by
      refine hJ4 _ _ _ fun _ => ?_
      repeat (with_reducible first | refine vP_so ?_ | refine vB_t ?_ | refine vB_f ?_ | refine vE_tt ?_ | refine vE_ff ?_ | refine vE_tf ?_ | refine vE_ft ?_ | refine vE_u ?_ | refine vP_to (by simp (disch := omega) only [gdW_true, gdW_false, gB_true, gB_false, gB_undef, pickV_true, pickV_false, Bool.not_true, Bool.not_false, Option.map_some, bin_add, bin_sub, bin_mul, bin_quo, bin_rem, lss_t, lss_f, leq_t, leq_f, gtr_t, gtr_f, geq_t, geq_f, eqi_t, eqi_f, nei_t, nei_f, rem_uw, conv_ui, conv_iu, conv_ii, not_bool, nil_ptr, fa_mk, ptrV, len_mk, cap_mk, eq_ptr_nil, ne_ptr_nil, eq_nil_nil, ne_nil_nil, eq_slice_nil, eq_nil_slice, ia_1]; exact so_so) ?_)
      exact ⟨cur.length - (i + 1), by omega, i + 1, v7', v8', l', lost', rfl, rfl, by omega, a1, a2, a3⟩
    by_cases h0 : x = 0
    · have hsame : RInv w k l lost (cur.drop (i + 1)) := hI.next hI.nodup (fun n hn => .inl hn) ⟨[], by simp⟩ hI.rise (fun y hy => .inl hy) (fun y hy => hy) (fun q => (q h0).elim) hk
      repeat (with_reducible first | refine vP_so ?_ | refine vB_t ?_ | refine vB_f ?_ | refine vE_tt ?_ | refine vE_ff ?_ | refine vE_tf ?_ | refine vE_ft ?_ | refine vE_u ?_ | refine vP_to (by simp (disch := omega) only [gdW_true, gdW_false, gB_true, gB_false, gB_undef, pickV_true, pickV_false, Bool.not_true, Bool.not_false, Option.map_some, bin_add, bin_sub, bin_mul, bin_quo, bin_rem, lss_t, lss_f, leq_t, leq_f, gtr_t, gtr_f, geq_t, geq_f, eqi_t, eqi_f, nei_t, nei_f, rem_uw, conv_ui, conv_iu, conv_ii, not_bool, nil_ptr, fa_mk, ptrV, len_mk, cap_mk, eq_ptr_nil, ne_ptr_nil, eq_nil_nil, ne_nil_nil, eq_slice_nil, eq_nil_slice, ia_1, f1, f2, hlk]; exact so_so) ?_)
      intro J5 hJ5
      repeat (with_reducible first | refine vP_so ?_ | refine vB_t ?_ | refine vB_f ?_ | refine vE_tt ?_ | refine vE_ff ?_ | refine vE_tf ?_ | refine vE_ft ?_ | refine vE_u ?_ | refine vP_to (by simp (disch := omega) only [gdW_true, gdW_false, gB_true, gB_false, gB_undef, pickV_true, pickV_false, Bool.not_true, Bool.not_false, Option.map_some, bin_add, bin_sub, bin_mul, bin_quo, bin_rem, lss_t, lss_f, leq_t, leq_f, gtr_t, gtr_f, geq_t, geq_f, eqi_t, eqi_f, nei_t, nei_f, rem_uw, conv_ui, conv_iu, conv_ii, not_bool, nil_ptr, fa_mk, ptrV, len_mk, cap_mk, eq_ptr_nil, ne_ptr_nil, eq_nil_nil, ne_nil_nil, eq_slice_nil, eq_nil_slice, ia_1]; exact so_so) ?_)
      refine hJ5 _ _ fun _ => ?_
      repeat (with_reducible first | refine vP_so ?_ | refine vB_t ?_ | refine vB_f ?_ | refine vE_tt ?_ | refine vE_ff ?_ | refine vE_tf ?_ | refine vE_ft ?_ | refine vE_u ?_ | refine vP_to (by simp (disch := omega) only [gdW_true, gdW_false, gB_true, gB_false, gB_undef, pickV_true, pickV_false, Bool.not_true, Bool.not_false, Option.map_some, bin_add, bin_sub, bin_mul, bin_quo, bin_rem, lss_t, lss_f, leq_t, leq_f, gtr_t, gtr_f, geq_t, geq_f, eqi_t, eqi_f, nei_t, nei_f, rem_uw, conv_ui, conv_iu, conv_ii, not_bool, nil_ptr, fa_mk, ptrV, len_mk, cap_mk, eq_ptr_nil, ne_ptr_nil, eq_nil_nil, ne_nil_nil, eq_slice_nil, eq_nil_slice, ia_1]; exact so_so) ?_)
      exact hJ v7 v8 l lost h8 hk hsame hh8
    cases hat : w.at x with
    | none =>
      rw [hat] at hlk
      simp only [Option.map_none, Option.getD_none] at hlk
      repeat (with_reducible first | refine vP_so ?_ | refine vB_t ?_ | refine vB_f ?_ | refine vE_tt ?_ | refine vE_ff ?_ | refine vE_tf ?_ | refine vE_ft ?_ | refine vE_u ?_ | refine vP_to (by simp (disch := omega) only [gdW_true, gdW_false, gB_true, gB_false, gB_undef, pickV_true, pickV_false, Bool.not_true, Bool.not_false, Option.map_some, bin_add, bin_sub, bin_mul, bin_quo, bin_rem, lss_t, lss_f, leq_t, leq_f, gtr_t, gtr_f, geq_t, geq_f, eqi_t, eqi_f, nei_t, nei_f, rem_uw, conv_ui, conv_iu, conv_ii, not_bool, nil_ptr, fa_mk, ptrV, len_mk, cap_mk, eq_ptr_nil, ne_ptr_nil, eq_nil_nil, ne_nil_nil, eq_slice_nil, eq_nil_slice, ia_1, f1, f2, hlk]; exact so_so) ?_)
      intro J5 hJ5
      repeat (with_reducible first | refine vP_so ?_ | refine vB_t ?_ | refine vB_f ?_ | refine vE_tt ?_ | refine vE_ff ?_ | refine vE_tf ?_ | refine vE_ft ?_ | refine vE_u ?_ | refine vP_to (by simp (disch := omega) only [gdW_true, gdW_false, gB_true, gB_false, gB_undef, pickV_true, pickV_false, Bool.not_true, Bool.not_false, Option.map_some, bin_add, bin_sub, bin_mul, bin_quo, bin_rem, lss_t, lss_f, leq_t, leq_f, gtr_t, gtr_f, geq_t, geq_f, eqi_t, eqi_f, nei_t, nei_f, rem_uw, conv_ui, conv_iu, conv_ii, not_bool, nil_ptr, fa_mk, ptrV, len_mk, cap_mk, eq_ptr_nil, ne_ptr_nil, eq_nil_nil, ne_nil_nil, eq_slice_nil, eq_nil_slice, ia_1]; exact so_so) ?_)
      refine use_put (l := lost) (F := SG iE 3 v7 (natL l) * (SG bE 4 v35 (inF w.objs.length l) * (MP r14 (atD w.objs 0) * (pt r1 (.cells w.cells 26 (0, 0)) * (own gg * F))))) (by omega) hI.rise (asr (by ac_rfl) hh8) fun v61 lost' h14 b1 b2 b3 hh14 => ?_
      refine hJ5 _ _ fun _ => ?_
      repeat (with_reducible first | refine vP_so ?_ | refine vB_t ?_ | refine vB_f ?_ | refine vE_tt ?_ | refine vE_ff ?_ | refine vE_tf ?_ | refine vE_ft ?_ | refine vE_u ?_ | refine vP_to (by simp (disch := omega) only [gdW_true, gdW_false, gB_true, gB_false, gB_undef, pickV_true, pickV_false, Bool.not_true, Bool.not_false, Option.map_some, bin_add, bin_sub, bin_mul, bin_quo, bin_rem, lss_t, lss_f, leq_t, leq_f, gtr_t, gtr_f, geq_t, geq_f, eqi_t, eqi_f, nei_t, nei_f, rem_uw, conv_ui, conv_iu, conv_ii, not_bool, nil_ptr, fa_mk, ptrV, len_mk, cap_mk, eq_ptr_nil, ne_ptr_nil, eq_nil_nil, ne_nil_nil, eq_slice_nil, eq_nil_slice, ia_1]; exact so_so) ?_)
      refine hJ v7 v61 l lost' h14 hk (hI.next hI.nodup (fun n hn => .inl hn) ⟨[], by simp⟩ b1 (fun y hy => ?_) (fun y hy => (b2 y).2 (.inl hy)) (fun _ => ⟨(fun n hn => by rw [hat] at hn; cases hn), fun _ => (b2 x).2 (.inr rfl)⟩) hk) (asr (by ac_rfl) hh14)
      rcases (b2 y).1 hy with q | q
      · exact .inl q
      · exact .inr ⟨q, h0, hat⟩
    | some n =>
      rw [hat] at hlk
      simp only [Option.map_some, Option.getD_some] at hlk
      obtain ⟨o, ho, _⟩ := at_some hat
      have hnl : n < w.objs.length := (List.getElem?_eq_some_iff.1 ho).1
      have hS35 : (SG bE 4 v35 (inF w.objs.length l) * (SG iE 3 v7 (natL l) * (SG iE 3 v8 lost * (MP r14 (atD w.objs 0) * (pt r1 (.cells w.cells 26 (0, 0)) * (own gg * (F * tt))))))) h8 := asr (by ac_rfl) hh8
      obtain ⟨p5, c1, c2, c3⟩ := el1 hS35 (inF_get l hnl) .i64
      have en : ((n + 1 : Nat) : Int) - 1 = (n : Int) := by omega
      repeat (with_reducible first | refine vP_so ?_ | refine vB_t ?_ | refine vB_f ?_ | refine vE_tt ?_ | refine vE_ff ?_ | refine vE_tf ?_ | refine vE_ft ?_ | refine vE_u ?_ | refine vP_to (by simp (disch := omega) only [gdW_true, gdW_false, gB_true, gB_false, gB_undef, pickV_true, pickV_false, Bool.not_true, Bool.not_false, Option.map_some, bin_add, bin_sub, bin_mul, bin_quo, bin_rem, lss_t, lss_f, leq_t, leq_f, gtr_t, gtr_f, geq_t, geq_f, eqi_t, eqi_f, nei_t, nei_f, rem_uw, conv_ui, conv_iu, conv_ii, not_bool, nil_ptr, fa_mk, ptrV, len_mk, cap_mk, eq_ptr_nil, ne_ptr_nil, eq_nil_nil, ne_nil_nil, eq_slice_nil, eq_nil_slice, ia_1, f1, f2, hlk]; exact so_so) ?_)
      intro J5 hJ5
      repeat (with_reducible first | refine vP_so ?_ | refine vB_t ?_ | refine vB_f ?_ | refine vE_tt ?_ | refine vE_ff ?_ | refine vE_tf ?_ | refine vE_ft ?_ | refine vE_u ?_ | refine vP_to (by simp (disch := omega) only [gdW_true, gdW_false, gB_true, gB_false, gB_undef, pickV_true, pickV_false, Bool.not_true, Bool.not_false, Option.map_some, bin_add, bin_sub, bin_mul, bin_quo, bin_rem, lss_t, lss_f, leq_t, leq_f, gtr_t, gtr_f, geq_t, geq_f, eqi_t, eqi_f, nei_t, nei_f, rem_uw, conv_ui, conv_iu, conv_ii, not_bool, nil_ptr, fa_mk, ptrV, len_mk, cap_mk, eq_ptr_nil, ne_ptr_nil, eq_nil_nil, ne_nil_nil, eq_slice_nil, eq_nil_slice, ia_1]; exact so_so) ?_)
      refine hJ5 _ _ fun _ => ?_
      by_cases hin : n ∈ l
      · rw [decide_eq_true hin] at c2
        repeat (with_reducible first | refine vP_so ?_ | refine vB_t ?_ | refine vB_f ?_ | refine vE_tt ?_ | refine vE_ff ?_ | refine vE_tf ?_ | refine vE_ft ?_ | refine vE_u ?_ | refine vP_to (by simp (disch := omega) only [gdW_true, gdW_false, gB_true, gB_false, gB_undef, pickV_true, pickV_false, Bool.not_true, Bool.not_false, Option.map_some, bin_add, bin_sub, bin_mul, bin_quo, bin_rem, lss_t, lss_f, leq_t, leq_f, gtr_t, gtr_f, geq_t, geq_f, eqi_t, eqi_f, nei_t, nei_f, rem_uw, conv_ui, conv_iu, conv_ii, not_bool, nil_ptr, fa_mk, ptrV, len_mk, cap_mk, eq_ptr_nil, ne_ptr_nil, eq_nil_nil, ne_nil_nil, eq_slice_nil, eq_nil_slice, ia_1, en, c1, c2]; exact so_so) ?_)
        exact hJ v7 v8 l lost h8 hk (hI.next hI.nodup (fun n hn => .inl hn) ⟨[], by simp⟩ hI.rise (fun y hy => .inl hy) (fun y hy => hy) (fun _ => ⟨(fun n' hn' => by rw [hat] at hn'; cases hn'; exact hin), (fun q => by rw [hat] at q; cases q)⟩) hk) hh8
      · rw [decide_eq_false hin] at c2
        have eb : bldV #[.int .i64 0] [(0, 1, .int .i64 (n : Int))] = some #[.int .i64 (n : Int)] := rfl
        repeat (with_reducible first | refine vP_so ?_ | refine vB_t ?_ | refine vB_f ?_ | refine vE_tt ?_ | refine vE_ff ?_ | refine vE_tf ?_ | refine vE_ft ?_ | refine vE_u ?_ | refine vP_to (by simp (disch := omega) only [gdW_true, gdW_false, gB_true, gB_false, gB_undef, pickV_true, pickV_false, Bool.not_true, Bool.not_false, Option.map_some, bin_add, bin_sub, bin_mul, bin_quo, bin_rem, lss_t, lss_f, leq_t, leq_f, gtr_t, gtr_f, geq_t, geq_f, eqi_t, eqi_f, nei_t, nei_f, rem_uw, conv_ui, conv_iu, conv_ii, not_bool, nil_ptr, fa_mk, ptrV, len_mk, cap_mk, eq_ptr_nil, ne_ptr_nil, eq_nil_nil, ne_nil_nil, eq_slice_nil, eq_nil_slice, ia_1, en, c1, c2]; exact so_so) ?_)
        refine c3 true _ fun h11 hh11 => ?_
        rw [inF_set] at hh11
        repeat (with_reducible first | refine vP_so ?_ | refine vB_t ?_ | refine vB_f ?_ | refine vE_tt ?_ | refine vE_ff ?_ | refine vE_tf ?_ | refine vE_ft ?_ | refine vE_u ?_ | refine vP_to (by simp (disch := omega) only [gdW_true, gdW_false, gB_true, gB_false, gB_undef, pickV_true, pickV_false, Bool.not_true, Bool.not_false, Option.map_some, bin_add, bin_sub, bin_mul, bin_quo, bin_rem, lss_t, lss_f, leq_t, leq_f, gtr_t, gtr_f, geq_t, geq_f, eqi_t, eqi_f, nei_t, nei_f, rem_uw, conv_ui, conv_iu, conv_ii, not_bool, nil_ptr, fa_mk, ptrV, len_mk, cap_mk, eq_ptr_nil, ne_ptr_nil, eq_nil_nil, ne_nil_nil, eq_slice_nil, eq_nil_slice, ia_1, en]; exact so_so) ?_)
        rw [eb]
        refine vA_new (f := fun r => .slice (some ⟨r, 0, none⟩) 1 1) hh11 fun r83 h12 hh12 => ?_
        refine ap_new iE (l := natL l) (m := [(n : Int)]) (F := SG bE 4 v35 (inF w.objs.length (l ++ [n])) * (SG iE 3 v8 lost * (MP r14 (atD w.objs 0) * (pt r1 (.cells w.cells 26 (0, 0)) * (own gg * F))))) elInt rfl rfl niInts rfl (by omega) (asr (by ac_rfl) hh12) rfl rfl (by simp only [natL, List.length_map, List.length_singleton]; omega) fun v84 h13 hh13 => ?_
        have e : natL l ++ [(n : Int)] = natL (l ++ [n]) := by simp [natL]
        rw [e] at hh13
        refine hJ v84 v8 (l ++ [n]) lost h13 (by simp; omega) (hI.next ?_ (fun n' hn' => ?_) ⟨[n], rfl⟩ hI.rise (fun y hy => .inl hy) (fun y hy => hy) (fun _ => ⟨(fun n' hn' => by rw [hat] at hn'; cases hn'; simp), (fun q => by rw [hat] at q; cases q)⟩) hk) (asr (by ac_rfl) hh13)
        · rw [List.nodup_append]
          exact ⟨hI.nodup, by simp, fun a ha b hb => by simp at hb; subst hb; exact fun e => hin (e ▸ ha)⟩
        · rw [List.mem_append, List.mem_singleton] at hn'
          rcases hn' with q | rfl
          · exact .inl q
          · exact .inr ⟨h0, hat⟩
  · obtain rfl : i = cur.length := by omega
    rw [List.drop_length] at hI
    have hlen7 := SG_len iE hh8
    rw [show (natL l).length = l.length by simp [natL]] at hlen7
    by_cases hkl : k < l.length
    · have hkg : l[k]? = some l[k] := List.getElem?_eq_getElem hkl
      have hnl := hI.lt l[k] (List.getElem_mem hkl)
      generalize l[k] = n at *
      have ho : w.objs[n]? = some w.objs[n] := List.getElem?_eq_getElem hnl
      have hmem := List.getElem_mem hnl
      generalize w.objs[n] = o at *
      have l5 := (vw_ld (r := r1) (w := w) (E := 26) (F := SG iE 3 v7 (natL l) * (SG iE 3 v8 lost * (SG bE 4 v35 (inF w.objs.length l) * (MP r14 (atD w.objs 0) * (own gg * (F * tt)))))) (asr (by ac_rfl) hh8)).2.2.2.2.2.1
      obtain ⟨p7, c1, c2, _⟩ := el1 (i := k) (a := (n : Int)) hh8 (by simp [natL, hkg]) .i64
      have hw := own_vat (F := SG iE 3 v7 (natL l) * (SG iE 3 v8 lost * (SG bE 4 v35 (inF w.objs.length l) * (MP r14 (atD w.objs 0) * (pt r1 (.cells w.cells 26 (0, 0)) * (F * tt)))))) (asr (by ac_rfl) hh8) hv'
      obtain ⟨b, q, e1, _, e3, _⟩ := hw.obj ho .i64
      repeat (with_reducible first | refine vP_so ?_ | refine vB_t ?_ | refine vB_f ?_ | refine vE_tt ?_ | refine vE_ff ?_ | refine vE_tf ?_ | refine vE_ft ?_ | refine vE_u ?_ | refine vP_to (by simp (disch := omega) only [gdW_true, gdW_false, gB_true, gB_false, gB_undef, pickV_true, pickV_false, Bool.not_true, Bool.not_false, Option.map_some, bin_add, bin_sub, bin_mul, bin_quo, bin_rem, lss_t, lss_f, leq_t, leq_f, gtr_t, gtr_f, geq_t, geq_f, eqi_t, eqi_f, nei_t, nei_f, rem_uw, conv_ui, conv_iu, conv_ii, not_bool, nil_ptr, fa_mk, ptrV, len_mk, cap_mk, eq_ptr_nil, ne_ptr_nil, eq_nil_nil, ne_nil_nil, eq_slice_nil, eq_nil_slice, ia_1, hcur.len, hlen7, l5, c1, c2, e1, e3]; exact so_so) ?_)
      exact ⟨w.objs.length + 1 - (k + 1), by omega, k + 1, v7, v8, o.sv, l, lost, o.slots, rfl, rfl, by omega, hv'.slots o hmem, hI.take hkg ho, hh8⟩
    · obtain rfl : k = l.length := by omega
      obtain ⟨d1, d2⟩ := hI.done
      repeat (with_reducible first | refine vP_so ?_ | refine vB_t ?_ | refine vB_f ?_ | refine vE_tt ?_ | refine vE_ff ?_ | refine vE_tf ?_ | refine vE_ft ?_ | refine vE_u ?_ | refine vP_to (by simp (disch := omega) only [gdW_true, gdW_false, gB_true, gB_false, gB_undef, pickV_true, pickV_false, Bool.not_true, Bool.not_false, Option.map_some, bin_add, bin_sub, bin_mul, bin_quo, bin_rem, lss_t, lss_f, leq_t, leq_f, gtr_t, gtr_f, geq_t, geq_f, eqi_t, eqi_f, nei_t, nei_f, rem_uw, conv_ui, conv_iu, conv_ii, not_bool, nil_ptr, fa_mk, ptrV, len_mk, cap_mk, eq_ptr_nil, ne_ptr_nil, eq_nil_nil, ne_nil_nil, eq_slice_nil, eq_nil_slice, ia_1, hcur.len, hlen7]; exact so_so) ?_)
      have hh9 : (own g * (SG iE 3 v7 (natL l) * (SG iE 3 v8 lost * F) * tt)) h8 := hfin (dropL (P := SG bE 4 v35 (inF w.objs.length l) * (MP r14 (atD w.objs 0) * pt r1 (.cells w.cells 26 (0, 0)))) (Q := own gg * (SG iE 3 v7 (natL l) * (SG iE 3 v8 lost * F))) (asr (by ac_rfl) hh8) |> asr (by ac_rfl))
      exact hK v7 v8 l lost h8 hI.nodup d1 ⟨hI.rise, d2⟩ (by omega) (by omega) (asr (by ac_rfl) hh9)

end Go.Proofs
