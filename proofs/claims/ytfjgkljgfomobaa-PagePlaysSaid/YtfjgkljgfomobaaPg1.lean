/-
  Page: contracts of the small functions.
-/
import Derived.Test.YtfjgkljgfomobaaV11
import Derived.Test.YtfjgkljgfomobaaPgD
set_option linter.unusedVariables false
set_option linter.unusedSimpArgs false
namespace Go.Proofs
open Go.Sl

abbrev Run := Int × Int
def run (r : Run) : Value := .agg #[.int .i64 r.1, .int .i64 r.2]

theorem eqA_run (a b : Run) : eqA [1, 1] false (run a) (run b) = some (.bool (decide (a = b))) := by
  obtain ⟨a1, a2⟩ := a
  obtain ⟨b1, b2⟩ := b
  have e : eqL [1, 1] [.int .i64 a1, .int .i64 a2] [.int .i64 b1, .int .i64 b2] = some (decide (a1 = b1) && decide (a2 = b2)) := by
    simp only [eqL, eqS, if_true, Bool.and_true]
    rfl
  show Option.map _ (eqL [1, 1] [.int .i64 a1, .int .i64 a2] [.int .i64 b1, .int .i64 b2]) = _
  rw [e]
  simp only [Option.map_some, Prod.mk.injEq, Bool.decide_and]

/-- A run read out of a slice's array. -/
theorem ld_run {sv : Value} {l : List Run} {i : Nat} {a : Run} {h : Hp} {F : Asrt} (hh : (SL enc2 34 sv l * F) h) (hi : l[i]? = some a) {k : IntKind} {x : Int} (hx : x = i) :
    ∃ p, iaS 2 sv (.int k x) = some p ∧ ldN 2 p h = some (run a) := by
  subst hx
  have hlt := (List.getElem?_eq_some_iff.1 hi).1
  rcases SL_elim enc2 hh with ⟨rfl, rfl, _⟩ | ⟨r, cap, post, rfl, h1, h1', h2, hp⟩
  · simp at hlt
  · refine ⟨_, ia_mk (by omega) (by omega), ?_⟩
    rw [Int.toNat_natCast, Nat.zero_add]
    have hb := pt_get hp
    have hsz : i * 2 + 2 ≤ (enc2.arr l post).size := by
      rw [Enc.arr_size]
      show i * 2 + 2 ≤ l.length * 2 + post.length
      omega
    rw [ldN_mk hb hsz]
    have := enc2.arr_elem (post := post) hi
    rw [show (enc2.arr l post).extract (i * 2) (i * 2 + 2) = _ from this]
    rfl

def idxI (l : List Run) (r : Run) : Int := if r ∈ l then (l.idxOf r : Int) else -1

theorem index_tr (sv : Value) (l : List Run) (a : Run) : Tr Try.prog 23 #[sv, run a] (SL enc2 34 sv l) (fun v => pr (v = .int .i64 (idxI l a)) * SL enc2 34 sv l) := by
  refine Tr.of fun h hh => C23 ?_
  unfold D23
  refine vA_new hh fun r h1 hh1 => ?_
  have hlen : lenV sv = some (.int .i64 l.length) := SL_len enc2 (F := pt r (Obj.cells (Value.cells (run a)) 34 (0, 0)) * tt) (h := h1) (asr (by ac_rfl) hh1)
  simp only [hlen, vP_some]
  refine ⟨fun n xs h' => ∃ k : Nat, xs = [.int .i64 k] ∧ k ≤ l.length ∧ n = l.length - k ∧ (∀ j, j < k → l[j]? ≠ some a) ∧ (pt r (Obj.cells (Value.cells (run a)) 34 (0, 0)) * (SL enc2 34 sv l * tt)) h',
    ⟨_, 0, rfl, by omega, rfl, by simp, hh1⟩, ?_⟩
  rintro n v8 h2 ⟨k, hxs, hk, hn, hno, hh2⟩ _
  obtain rfl : v8 = .int .i64 k := by simpa using hxs
  simp only [bin_lss, vP_some, vB_dec]
  have hS : (SL enc2 34 sv l * (pt r (Obj.cells (Value.cells (run a)) 34 (0, 0)) * tt)) h2 := asr (by ac_rfl) hh2
  by_cases hlt : k < l.length
  · have hL := SL_lt enc2 hS
    rw [if_pos (by omega)]
    obtain ⟨p, hp1, hp2⟩ := ld_run (k := .i64) (x := (k : Int)) hS (List.getElem?_eq_getElem hlt) rfl
    have hr : ldN 2 (ptrV r) h2 = some (run a) := ldN_mk (off := 0) (pt_get hh2) (by simp [run, Value.cells])
    simp only [hp1, hp2, hr, vP_some, eqA_run, vB_dec]
    by_cases hq : a = l[k]
    · rw [if_pos hq]
      refine asr (P := pr (Value.int .i64 k = .int .i64 (idxI l a)) * SL enc2 34 sv l * tt) rfl ?_
      rw [star_assoc, pr_star]
      refine ⟨?_, to_tt hS⟩
      unfold idxI
      have hm : a ∈ l := hq ▸ List.getElem_mem hlt
      rw [if_pos hm]
      have h3 : l.idxOf a = k := by
        have h4 : l.idxOf a < l.length := List.idxOf_lt_length_of_mem hm
        have h5 : l[l.idxOf a] = a := List.getElem_idxOf h4
        rcases Nat.lt_trichotomy (l.idxOf a) k with h6 | h6 | h6
        · exact absurd (by rw [List.getElem?_eq_getElem h4, h5]) (hno _ h6)
        · exact h6
        · have h7 := List.not_of_lt_findIdx (p := (· == a)) (xs := l) (i := k) h6
          simp at h7
          exact absurd hq.symm h7
      rw [h3]
    · rw [if_neg hq, bin_add (by omega), vP_some]
      refine ⟨l.length - (k + 1), by omega, k + 1, by simp, by omega, rfl, fun j hj => ?_, hh2⟩
      by_cases hjk : j = k
      · subst hjk
        rw [List.getElem?_eq_getElem hlt]
        simpa using fun e => hq e.symm
      · exact hno j (by omega)
  · rw [if_neg (by omega)]
    rw [star_assoc, pr_star]
    refine ⟨?_, to_tt hS⟩
    unfold idxI
    rw [if_neg]
    intro hm
    obtain ⟨j, hj, e⟩ := List.getElem_of_mem hm
    exact hno j (by omega) (by rw [List.getElem?_eq_getElem hj, e])

theorem elRun : ElOk Try.prog 29 34 2 16 := elB_ok (by kernel_rfl)
theorem niRuns : noInt Try.prog 29 := noInt_sl (e := 34) (by kernel_rfl)

theorem arr_tail {α : Type} (e : Enc α) (l : List α) (post : List Value) (k : Nat) (hk : k ≤ l.length) : e.arr l post = e.arr (l.take k) (e.cs (l.drop k) ++ post) := by
  unfold Enc.arr
  rw [← List.append_assoc, ← e.cs_append, List.take_append_drop]

theorem del_tr (sv : Value) (l : List Run) (i j : Nat) (hij : i ≤ j) (hj : j ≤ l.length) :
    Tr Try.prog 24 #[sv, .int .i64 i, .int .i64 j] (SL enc2 34 sv l) (fun v => SL enc2 34 v (l.take i ++ l.drop j)) := by
  refine Tr.of fun h hh => C24 ?_
  unfold D24
  have hlen := SL_len enc2 hh
  obtain ⟨ii, z, okk, hsz, _, hz⟩ := elRun.ok
  have ok := okk #[29, 29] rfl
  have ok1 := okk #[29] rfl
  by_cases heq : i = j
  · subst heq
    rw [List.take_append_drop]
    rcases SL_elim enc2 hh with ⟨rfl, rfl, hF⟩ | ⟨r, cap, post, rfl, h2, h3, h4, hp⟩
    · simp only [List.length_nil, Nat.le_zero] at hj
      subst hj
      simp only [hlen, List.length_nil, Int.natCast_zero, slN_ftm, vP_some, eq_int, vB_dec, if_true]
      exact hh
    · simp only [hlen, vP_some, sl_ftm hij hj h2, eq_int, vB_dec, if_true]
      exact hh
  · rcases SL_elim enc2 hh with ⟨rfl, rfl, hF⟩ | ⟨r, cap, post, rfl, h2, h3, h4, hp⟩
    · exfalso; simp at hj; omega
    · have hne : ¬ (i : Int) = (j : Int) := by omega
      simp only [hlen, vP_some, sl_ftm hij hj h2, eq_int, vB_dec, if_neg hne, sl_to (show i ≤ cap by omega), sl_from (show j ≤ l.length by omega)]
      have ht : (l.drop j).take (l.length - j) = l.drop j := List.take_of_length_le (by simp)
      have hsrc : srcOf ii.size (l.length - j) (.slice (some ⟨r, cut 0 j 2 cap, none⟩) (l.length - j) (cap - j)) h = some (enc2.cs (l.drop j)).toArray := by
        rw [hsz, ← ht]
        exact src_part enc2 (i := j) (n := l.length - j) (cap := l.length - j) (cc := cap) (xc := cap - j) (pt_get hp) (by omega) h2
      refine apW_fit ok rfl (d := .slice 34) (by kernel_rfl) (fun k e => by cases e) hp (by omega) hsrc (enc2.cs_one _) (by rw [enc2.cs_size, hsz, List.length_drop]; rfl) (by rw [enc2.arr_size, hsz]; show 0 + (i + (l.length - j)) * 2 ≤ l.length * 2 + post.length; omega) ?_
      intro h1 hp1
      rw [Nat.zero_add, hsz] at hp1
      have hput : putL (enc2.arr l post) (i * 2) (enc2.cs (l.drop j)) = enc2.arr (l.take i ++ l.drop j) (enc2.cs (l.drop (i + (l.length - j))) ++ post) := by
        have := enc2.arr_put (l := l) (m := l.drop j) (post := post) (i := i) (by simp; omega)
        rw [show enc2.sz = 2 from rfl] at this
        rw [this, List.length_drop, arr_tail enc2 _ post (i + (l.length - j)) (by simp; omega)]
        congr 1
        · rw [List.take_append_of_le_length (by simp; omega), List.take_of_length_le (by simp; omega)]
        · congr 2
          rw [List.drop_append_of_le_length (by simp; omega), List.drop_of_length_le (l := l.take i ++ l.drop j) (by simp; omega), List.nil_append]
      rw [show (enc2.cs (l.drop j)).toArray.toList = enc2.cs (l.drop j) from rfl, hput] at hp1
      have hl2 : (l.take i ++ l.drop j).length = i + (l.length - j) := by simp; omega
      simp only [len_mk, vP_some]
      rw [sl_ft (by omega) h2, vP_some]
      have hcut : cut 0 (i + (l.length - j)) 2 cap = (i + (l.length - j)) * 2 := by
        unfold cut; rw [if_neg (by omega), Nat.zero_add]
      rw [hcut]
      refine clW_mk ok1 hp1 hz (by
        rw [enc2.arr_size, hsz, hl2, List.length_append, enc2.cs_length, List.length_drop]
        show _ ≤ _ * 2 + (_ * 2 + _)
        omega) ?_
      intro zs h2' hzs hp2
      have hz2 : putL (enc2.arr (l.take i ++ l.drop j) (enc2.cs (l.drop (i + (l.length - j))) ++ post)) ((i + (l.length - j)) * 2) zs.toList = enc2.arr (l.take i ++ l.drop j) (zs.toList ++ post) := by
        unfold Enc.arr
        have hcl : (enc2.cs (l.take i ++ l.drop j)).length = (i + (l.length - j)) * 2 := by rw [enc2.cs_length, hl2]; rfl
        have hzl : zs.toList.length = (l.length - (i + (l.length - j))) * 2 := by rw [Array.length_toList (xs := zs), hzs, hsz]
        have hdl : (enc2.cs (l.drop (i + (l.length - j)))).length = (l.length - (i + (l.length - j))) * 2 := by rw [enc2.cs_length, List.length_drop]; rfl
        rw [putL_toArray _ _ _ (by rw [List.length_append, List.length_append, hcl, hdl, hzl]; omega)]
        generalize enc2.cs (l.take i ++ l.drop j) = X at *
        generalize enc2.cs (l.drop (i + (l.length - j))) = Y at *
        generalize zs.toList = Z at *
        rw [← hcl, List.take_left, show X.length + Z.length = (X ++ Y).length by rw [List.length_append]; omega, ← List.append_assoc, List.drop_left, List.append_assoc]
      rw [hz2] at hp2
      refine SL_intro enc2 hl2.symm (by omega) h3 (post := zs.toList ++ post) ?_ hp2
      rw [hl2, List.length_append, Array.length_toList (xs := zs), hzs, hsz]
      show _ * 2 ≤ _
      have : (cap - l.length) * 2 ≤ post.length := h4
      omega

theorem ovlRun : ovlOk Try.prog 30 29 34 2 :=
  ⟨_, rfl, by kernel_rfl, by kernel_rfl, by kernel_rfl, by kernel_rfl, by kernel_rfl, by kernel_rfl, by kernel_rfl⟩

theorem ins_tr (sv : Value) (l : List Run) (i : Nat) (a : Run) (rx : Nat) (hi : i ≤ l.length) (hb : l.length ≤ 1073741824) :
    Tr Try.prog 25 #[sv, .int .i64 i, .slice (some ⟨rx, 0, none⟩) 1 1] (SL enc2 34 sv l * pt rx (.cells (enc2.arr [a] []) 34 (0, 0))) (fun v => SL enc2 34 v (l.take i ++ a :: l.drop i)) := by
  refine Tr.of fun h hh => C25 ?_
  unfold D25
  rw [star_assoc] at hh
  have hlen := SL_len enc2 hh
  obtain ⟨ii, z, okk, hsz, hby, hz⟩ := elRun.ok
  have h10 : ¬ ((1 : Nat) : Int) = 0 := by omega
  have hpx : (pt rx (.cells (enc2.arr [a] []) 34 (0, 0)) * (SL enc2 34 sv l * tt)) h := asr (by ac_rfl) hh
  have hsrcx : ∀ {F : Asrt} {h : Hp}, (pt rx (.cells (enc2.arr [a] []) 34 (0, 0)) * F) h → srcOf 2 1 (.slice (some ⟨rx, 0, none⟩) 1 1) h = some (enc2.cs [a]).toArray := fun q => src_all enc2 (l := [a]) (pt_get q) (by simp) 1
  by_cases heq : i = l.length
  · subst heq
    have key : apW Try.prog #[29, 29] 29 sv (.slice (some ⟨rx, 0, none⟩) 1 1) (fun v h' => (SL enc2 34 v (l.take l.length ++ a :: l.drop l.length) * tt) h') h := by
      refine ap_SL (F := pt rx (.cells (enc2.arr [a] []) 34 (0, 0))) elRun rfl rfl niRuns rfl (by omega) hh (hsrcx hpx) rfl (by simp only [List.length_singleton]; omega) ?_
      intro v h' hk
      rw [List.take_length, List.drop_length]
      exact to_tt hk
    rcases SL_elim enc2 hh with ⟨rfl, rfl, hF⟩ | ⟨r, cap, post, rfl, h2, h3, h4, hp⟩
    · simp only [hlen, List.length_nil, Int.natCast_zero, slN_from, vP_some, eq_int, vB_dec, if_true, len_mk, if_neg h10]
      exact key
    · simp only [hlen, vP_some, sl_from hi, eq_int, vB_dec, if_true, len_mk, if_neg h10]
      exact key
  · rcases SL_elim enc2 hh with ⟨rfl, rfl, hF⟩ | ⟨r, cap, post, rfl, h2, h3, h4, hp⟩
    · exfalso; simp only [List.length_nil] at hi heq; omega
    · have hne : ¬ (i : Int) = (l.length : Int) := by omega
      simp only [hlen, vP_some, sl_from hi, eq_int, vB_dec, if_neg hne, if_neg h10, len_mk, cap_mk]
      rw [bin_add (by omega), vP_some, bin_gtr, vP_some, vB_dec, show (l.length : Int) + ((1 : Nat) : Int) = ((l.length + 1 : Nat) : Int) by omega]
      have hrx : r ≠ rx := pt_ne hp
      by_cases hcap : cap < l.length + 1
      · rw [if_pos (by omega)]
        rw [sl_to (by omega), vP_some, vP_some, bin_sub (by omega), vP_some, show ((l.length + 1 : Nat) : Int) - (i : Int) = ((l.length + 1 - i : Nat) : Int) by omega]
        have hold : srcOf ii.size i (.slice (some ⟨r, 0, none⟩) i cap) h = some (enc2.cs (l.take i)).toArray := by
          rw [hsz]; exact src_all enc2 (pt_get hp) hi i
        refine apW_zero (okk _ rfl) rfl (k := .i64) (by kernel_rfl) hp (by omega) (by rw [hby]; omega) (by omega) hold ?_
        intro cap' r' spare h1 hc1 hc2 hsp hp1
        have e1 : (enc2.cs (l.take i)).toArray ++ spare = enc2.arr (l.take i) spare.toList := by
          apply Array.ext'; simp [Enc.arr]
        rw [e1] at hp1
        have hl1 : (l.take i).length = i := by simp; omega
        have hspl : spare.toList.length = (cap' - i) * 2 := by rw [Array.length_toList (xs := spare), hsp, hsz]
        rw [sl_from (by omega), vP_some]
        have hcut : cut 0 i 2 cap' = i * 2 := by unfold cut; rw [if_neg (by omega), Nat.zero_add]
        rw [hcut]
        have hq : min 1 (i + (l.length + 1 - i) - i) = 1 := by omega
        have e2 : putL (enc2.arr (l.take i) spare.toList) (i * 2) (enc2.cs [a]) = enc2.arr (l.take i ++ [a]) (spare.toList.drop 2) := by
          have := enc2.arr_app (l := l.take i) (m := [a]) (post := spare.toList) (by rw [hspl]; show 1 * 2 ≤ _; omega)
          rw [hl1] at this
          exact this
        refine cpW_mk (okk #[29, 29] rfl).at0 (okk #[29, 29] rfl).sl (okk #[29, 29] rfl).info hp1 (new := (enc2.cs [a]).toArray) ?_ (enc2.cs_one [a]) ?_ ?_
        · rw [hq, hsz]
          exact hsrcx (F := pt r' (Obj.cells (enc2.arr (l.take i) spare.toList) 34 (0, 0)) * (pt r (Obj.cells (enc2.arr l post) 34 (0, 0)) * tt)) (asr (by ac_rfl) hp1)
        · rw [enc2.arr_size, enc2.cs_size, hl1, hspl]; show i * 2 + 1 * 2 ≤ i * 2 + _; omega
        intro h2' hp2
        rw [show (enc2.cs [a]).toArray.toList = enc2.cs [a] from rfl, e2] at hp2
        rw [bin_add (by omega), vP_some, show (i : Int) + ((1 : Nat) : Int) = ((i + 1 : Nat) : Int) by omega, sl_from (by omega), vP_some]
        have hcut : cut 0 (i + 1) 2 cap' = (i + 1) * 2 := by unfold cut; rw [if_neg (by omega), Nat.zero_add]
        rw [hcut]
        have hl2 : (l.take i ++ [a]).length = i + 1 := by simp; omega
        have hq : min (l.length - i) (i + (l.length + 1 - i) - (i + 1)) = l.length - i := by omega
        have e3 : putL (enc2.arr (l.take i ++ [a]) (spare.toList.drop 2)) ((i + 1) * 2) (enc2.cs (l.drop i)) = enc2.arr (l.take i ++ [a] ++ l.drop i) ((spare.toList.drop 2).drop ((l.length - i) * 2)) := by
          have := enc2.arr_app (l := l.take i ++ [a]) (m := l.drop i) (post := spare.toList.drop 2) (by rw [List.length_drop, List.length_drop, hspl]; show _ * 2 ≤ _; omega)
          rw [hl2, List.length_drop] at this
          exact this
        refine cpW_mk (okk #[29, 29] rfl).at0 (okk #[29, 29] rfl).sl (okk #[29, 29] rfl).info hp2 (new := (enc2.cs (l.drop i)).toArray) ?_ (enc2.cs_one _) ?_ ?_
        · rw [hq, hsz]
          have hpr : (pt r (Obj.cells (enc2.arr l post) 34 (0, 0)) * (pt r' (Obj.cells (enc2.arr (l.take i ++ [a]) (spare.toList.drop 2)) 34 (0, 0)) * (pt rx (.cells (enc2.arr [a] []) 34 (0, 0)) * tt))) h2' := asr (by ac_rfl) hp2
          have := src_part enc2 (i := i) (n := l.length - i) (cap := l.length - i) (cc := cap) (xc := cap - i) (pt_get hpr) (by omega) h2
          rw [List.take_of_length_le (l := l.drop i) (by simp)] at this
          exact this
        · rw [enc2.arr_size, enc2.cs_size, hl2, List.length_drop, List.length_drop, hspl]; show (i + 1) * 2 + _ * 2 ≤ (i + 1) * 2 + _; omega
        intro h3' hp3
        rw [show (enc2.cs (l.drop i)).toArray.toList = enc2.cs (l.drop i) from rfl, e3] at hp3
        have e4 : l.take i ++ a :: l.drop i = l.take i ++ [a] ++ l.drop i := by simp
        rw [e4]
        have hl3 : (l.take i ++ [a] ++ l.drop i).length = l.length + 1 := by simp; omega
        refine SL_intro enc2 (by rw [hl3]; omega) (by omega) hc2 ?_ (to_tt hp3)
        rw [hl3, List.length_drop, List.length_drop, hspl]
        show _ * 2 ≤ _
        omega
      · rw [if_neg (by omega)]
        rw [vP_some, sl_to (by omega), vP_some, bin_add (by omega), vP_some, show (i : Int) + ((1 : Nat) : Int) = ((i + 1 : Nat) : Int) by omega, sl_from (by omega), vP_some]
        have hcut : cut 0 (i + 1) 2 cap = (i + 1) * 2 := by unfold cut; rw [if_neg (by omega), Nat.zero_add]
        have hcut' : cut 0 i 2 cap = i * 2 := by unfold cut; rw [if_neg (by omega), Nat.zero_add]
        rw [hcut]
        refine exW_ovl (a := ⟨rx, 0, none⟩) (b := ⟨r, (i + 1) * 2, none⟩) ovlRun (c := enc2.arr [a] []) (d := enc2.arr l post) (pt_get hpx) (pt_get hp) (fun e => hrx e.symm) ?_
        rw [not_bool, vP_some, Bool.not_false, vB_true, vP_some, sl_from (by omega), vP_some, sl_from (by omega), vP_some, hcut, hcut']
        have hl1 : (l.take (i + 1)).length = i + 1 := by simp; omega
        have hpost : (cap - l.length) * 2 ≤ post.length := h4
        have hq : min (l.length + 1 - i) (l.length + 1 - (i + 1)) = l.length - i := by omega
        have e2 : putL (enc2.arr l post) ((i + 1) * 2) (enc2.cs (l.drop i)) = enc2.arr (l.take (i + 1) ++ l.drop i) ((enc2.cs (l.drop (i + 1)) ++ post).drop ((l.length - i) * 2)) := by
          have := enc2.arr_app (l := l.take (i + 1)) (m := l.drop i) (post := enc2.cs (l.drop (i + 1)) ++ post) (by rw [List.length_drop, List.length_append, enc2.cs_length, List.length_drop]; show _ * 2 ≤ _ * 2 + _; omega)
          rw [hl1, List.length_drop] at this
          rw [arr_tail enc2 l post (i + 1) (by omega)]
          exact this
        refine cpW_mk (okk #[29, 29] rfl).at0 (okk #[29, 29] rfl).sl (okk #[29, 29] rfl).info hp (new := (enc2.cs (l.drop i)).toArray) ?_ (enc2.cs_one _) ?_ ?_
        · rw [hq, hsz]
          have := src_part enc2 (i := i) (n := l.length - i) (cap := l.length + 1 - i) (cc := cap) (xc := cap - i) (pt_get hp) (by omega) h2
          rw [List.take_of_length_le (l := l.drop i) (by simp), show cut 0 i enc2.sz cap = i * 2 from hcut'] at this
          exact this
        · rw [enc2.arr_size, enc2.cs_size, List.length_drop]; show (i + 1) * 2 + _ * 2 ≤ _ * 2 + _; omega
        intro h2' hp2
        rw [show (enc2.cs (l.drop i)).toArray.toList = enc2.cs (l.drop i) from rfl, e2] at hp2
        have hl2 : (l.take (i + 1) ++ l.drop i).length = l.length + 1 := by simp; omega
        have e3 : putL (enc2.arr (l.take (i + 1) ++ l.drop i) ((enc2.cs (l.drop (i + 1)) ++ post).drop ((l.length - i) * 2))) (i * 2) (enc2.cs [a]) = enc2.arr (l.take i ++ a :: l.drop i) ((enc2.cs (l.drop (i + 1)) ++ post).drop ((l.length - i) * 2)) := by
          have := enc2.arr_put (l := l.take (i + 1) ++ l.drop i) (m := [a]) (post := (enc2.cs (l.drop (i + 1)) ++ post).drop ((l.length - i) * 2)) (i := i) (by rw [hl2]; simp; omega)
          rw [show i * enc2.sz = i * 2 from rfl] at this
          rw [this]
          congr 1
          rw [List.take_append_of_le_length (by omega), List.take_take, List.length_singleton, List.drop_append_of_le_length (by omega), List.drop_of_length_le (l := l.take (i + 1)) (by omega)]
          simp [Nat.min_eq_left]
        have hq1 : min 1 (l.length + 1 - i) = 1 := by omega
        refine cpW_mk (okk #[29, 29] rfl).at0 (okk #[29, 29] rfl).sl (okk #[29, 29] rfl).info hp2 (new := (enc2.cs [a]).toArray) ?_ (enc2.cs_one [a]) ?_ ?_
        · rw [hq1, hsz]
          exact hsrcx (F := pt r (Obj.cells (enc2.arr (l.take (i + 1) ++ l.drop i) ((enc2.cs (l.drop (i + 1)) ++ post).drop ((l.length - i) * 2))) 34 (0, 0)) * tt) (asr (by ac_rfl) hp2)
        · rw [enc2.arr_size, enc2.cs_size, hl2]; show i * 2 + 1 * 2 ≤ _ * 2 + _; omega
        intro h3' hp3
        rw [show (enc2.cs [a]).toArray.toList = enc2.cs [a] from rfl, e3] at hp3
        have hl3 : (l.take i ++ a :: l.drop i).length = l.length + 1 := by simp; omega
        refine SL_intro enc2 hl3.symm (by omega) h3 ?_ (to_tt hp3)
        rw [hl3, List.length_drop, List.length_append, enc2.cs_length, List.length_drop]
        show _ * 2 ≤ _ * 2 + _ - _
        omega

end Go.Proofs
