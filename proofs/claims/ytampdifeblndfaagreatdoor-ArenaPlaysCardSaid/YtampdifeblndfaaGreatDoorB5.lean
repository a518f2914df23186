/-
  Texts of the proof, in one file: V14, V15, V16, V17, V18, V19.
-/
import Derived.Test.YtampdifeblndfaaGreatDoorB2
import Derived.ProofKit
import Derived.Carry
set_option linter.unusedVariables false
set_option linter.unusedSimpArgs false
/-
  From a contract to the given row: what was in memory before is as it was.
-/
namespace Go.Sl
open Go.ChangeShapes Go.WideShapes Go.ChangeAt Go.RowKit
theorem Tr.row {P : Program} {f : FuncId} {args : Array Value} {W : World} {r : Value} (t : Tr P f args (own W.hp) (fun v => pr (v = r) * own W.hp)) :
    Calls P f args W (fun e W' => e = .returned r ∧ Below W.heap.size W W') := by
  refine ((t W.hp rfl) W Hp.emp (W.os, W.output, W.tape) (Disj.emp _) ⟨by rw [Hp.add_emp], rfl⟩).mono ?_
  rintro e W' ⟨v, h', fr', rfl, d, ⟨e1, e2⟩, _, hk⟩
  have hk2 := pr_star.1 hk
  obtain ⟨rfl, hk3⟩ := hk2
  obtain rfl : h' = W.hp := hk3
  have hb : ∀ k o, W.heap[k]? = some o → W'.heap[k]? = some o := fun k o hk => by
    have h1 : W'.hp k = some o := by rw [e1]; exact Hp.add_of_left hk
    exact h1
  simp only [Prod.mk.injEq] at e2
  refine ⟨rfl, e2.1, e2.2.2, e2.2.1, ?_, fun k hk => ?_⟩
  · rcases Nat.lt_or_ge W'.heap.size W.heap.size with q | q
    · have h1 := hb W'.heap.size _ (Array.getElem?_eq_getElem q)
      simp at h1
    · exact q
  · rw [Array.getElem?_eq_getElem hk]
    exact hb k _ (Array.getElem?_eq_getElem hk)
theorem intsAt_nil (g : Hp) : IntsAt g (.slice none 0 0) [] := ⟨rfl, by simp, fun j x k h => by simp at h⟩
theorem intsAt_some {W : World} {a : Addr} {len cap : Nat} {zs : List Int} (hl : len ≤ zs.length) (hm : len ≤ maxLen) (hcell : ∀ i, i < zs.length → W.cell? (a.add i) = some (.int .i64 (zs.getD i 0))) :
    IntsAt W.hp (.slice (some a) len cap) (zs.take len) := by
  have hlen : (zs.take len).length = len := by simp; omega
  refine ⟨by rw [hlen]; rfl, by rw [hlen]; unfold maxLen at hm; omega, fun j x k h => ?_⟩
  have hj : j < len := by rw [← hlen]; exact (List.getElem?_eq_some_iff.1 h).1
  have hx : zs[j]? = some x := by rw [List.getElem?_take_of_lt hj] at h; exact h
  refine ⟨.pointer (some (a.add j)), ?_, ?_⟩
  · show (if 0 ≤ (j : Int) ∧ (j : Int) < (len : Int) then some (Value.pointer (some (a.add ((j : Int).toNat * 1)))) else none) = _
    rw [if_pos (by omega), Int.toNat_natCast, Nat.mul_one]
  · show W.hp.cell (a.add j) = _
    rw [← cell?_hp, hcell j (by omega), List.getD_eq_getElem?_getD, hx]
    rfl
end Go.Sl

/-
  The walk's steps: each one alone, what follows is left as it stands; comparisons decided by what is known.
-/
namespace Go.Sl
theorem vP_to {a : Option Value} {x : Value} {K : Value → Prop} (e : a = some x) (k : K x) : vP a K := by rw [e]; exact k
theorem vP_so {x : Value} {K : Value → Prop} (k : K x) : vP (some x) K := k
theorem so_so {x : Value} : some x = some x := rfl
theorem vB_t {p q : Prop} (k : p) : vB (.bool true) p q := k
theorem vB_f {p q : Prop} (k : q) : vB (.bool false) p q := k
theorem vE_t {w : Bool} {T : (Value → Hp → Prop) → Hp → Prop} {K : Value → Hp → Prop} {h : Hp} (e : w = true) (k : T K h) : vE w T K h := by subst e; exact k
theorem vE_f {w : Bool} {T : (Value → Hp → Prop) → Hp → Prop} {K : Value → Hp → Prop} {h : Hp} (e : w = false) (k : K undef h) : vE w T K h := by subst e; exact k
theorem vE_tt {T : (Value → Hp → Prop) → Hp → Prop} {K : Value → Hp → Prop} {h : Hp} (k : T K h) : vE (gB (.bool true) true) T K h := k
theorem vE_ff {T : (Value → Hp → Prop) → Hp → Prop} {K : Value → Hp → Prop} {h : Hp} (k : T K h) : vE (gB (.bool false) false) T K h := k
theorem vE_tf {T : (Value → Hp → Prop) → Hp → Prop} {K : Value → Hp → Prop} {h : Hp} (k : K undef h) : vE (gB (.bool true) false) T K h := k
theorem vE_ft {T : (Value → Hp → Prop) → Hp → Prop} {K : Value → Hp → Prop} {h : Hp} (k : K undef h) : vE (gB (.bool false) true) T K h := k
theorem vE_u {w : Bool} {T : (Value → Hp → Prop) → Hp → Prop} {K : Value → Hp → Prop} {h : Hp} (k : K undef h) : vE (gB undef w) T K h := by cases w <;> exact k
theorem lss_t {k : IntKind} {a b : Int} (h : a < b) : binV .lss (.int k a) (.int k b) = some (.bool true) := by rw [bin_lss, decide_eq_true h]
theorem lss_f {k : IntKind} {a b : Int} (h : b ≤ a) : binV .lss (.int k a) (.int k b) = some (.bool false) := by rw [bin_lss, decide_eq_false (by omega)]
theorem leq_t {k : IntKind} {a b : Int} (h : a ≤ b) : binV .leq (.int k a) (.int k b) = some (.bool true) := by rw [bin_leq, decide_eq_true h]
theorem leq_f {k : IntKind} {a b : Int} (h : b < a) : binV .leq (.int k a) (.int k b) = some (.bool false) := by rw [bin_leq, decide_eq_false (by omega)]
theorem gtr_t {k : IntKind} {a b : Int} (h : b < a) : binV .gtr (.int k a) (.int k b) = some (.bool true) := by rw [bin_gtr, decide_eq_true h]
theorem gtr_f {k : IntKind} {a b : Int} (h : a ≤ b) : binV .gtr (.int k a) (.int k b) = some (.bool false) := by rw [bin_gtr, decide_eq_false (by omega)]
theorem geq_t {k : IntKind} {a b : Int} (h : b ≤ a) : binV .geq (.int k a) (.int k b) = some (.bool true) := by rw [bin_geq, decide_eq_true h]
theorem geq_f {k : IntKind} {a b : Int} (h : a < b) : binV .geq (.int k a) (.int k b) = some (.bool false) := by rw [bin_geq, decide_eq_false (by omega)]
theorem eqi_t {k : IntKind} {a b : Int} (h : a = b) : eqV 1 false (.int k a) (.int k b) = some (.bool true) := by rw [eq_int, decide_eq_true h]
theorem eqi_f {k : IntKind} {a b : Int} (h : a ≠ b) : eqV 1 false (.int k a) (.int k b) = some (.bool false) := by rw [eq_int, decide_eq_false h]
theorem nei_t {k : IntKind} {a b : Int} (h : a ≠ b) : eqV 1 true (.int k a) (.int k b) = some (.bool true) := by rw [ne_int, decide_eq_true h]
theorem nei_f {k : IntKind} {a b : Int} (h : a = b) : eqV 1 true (.int k a) (.int k b) = some (.bool false) := by rw [ne_int, decide_eq_false (fun q => q h)]
theorem rem_uw {x b : Int} (h : 1 ≤ b) : binV .rem (.int .u64 (IntKind.u64.wrap x)) (.int .u64 b) = some (.int .u64 (urem x b)) := bin_rem_u (wrap_u_nonneg x).1 h
theorem conv_ui {x : Int} (h : 0 ≤ x ∧ x ≤ 9223372036854775807) : convV .i64 (.int .u64 x) = some (.int .i64 x) := conv_i (by omega)
theorem conv_ii {x : Int} (h : 0 ≤ x ∧ x ≤ 9223372036854775807) : convV .i64 (.int .i64 x) = some (.int .i64 x) := conv_i (by omega)
theorem conv_iu {k : IntKind} {x : Int} (h : 0 ≤ x ∧ x ≤ 18446744073709551615) : convV .u64 (.int k x) = some (.int .u64 x) := by rw [conv_u, wrap_u_id (by omega)]
theorem exV_mk0 (a : Value) (l : List Value) : exV (.tuple (a :: l).toArray) 0 = some a := rfl
theorem ia_1 {b off len cap : Nat} {k : IntKind} {n : Int} (h : 0 ≤ n ∧ n < (len : Int)) {sz : Nat} : iaS sz (.slice (some ⟨b, off, none⟩) len cap) (.int k n) = some (.pointer (some ⟨b, off + n.toNat * sz, none⟩)) := ia_mk h.1 h.2
end Go.Sl

/-
  Rows: all arguments read as they did; slices of numbers as they came in.
-/
namespace Go.Sl
open Go.ChangeShapes Go.WideShapes Go.ChangeAt Go.RowKit
theorem trodAll_below {H : Type} {enc : TypeId × Value → H} {P : Program} (hl : laidOutB P = true) {W W' : World} (hb : Below W.heap.size W W') :
    ∀ {ts : List TypeId} {vs : List Value} {ds : List (DataW H)} {ps : List MemPlace}, (ts.all fun t => P.readableRec t && decide (t < P.types.size)) = true →
    DataW.TrodAll enc P W 0 (fun _ => true) true ts vs ds ps → (∀ x ∈ ps, x.block < W.heap.size) → DataW.TrodAll enc P W' 0 (fun b => decide (b < W.heap.size)) true ts vs ds ps
  | [], [], [], _, _, h, _ => h
  | t :: ts, v :: vs, d :: ds, ps, hr, ⟨p, q, h1, h2, e⟩, hlt => by
    subst e
    simp only [List.all_cons, Bool.and_eq_true, decide_eq_true_eq] at hr
    exact ⟨p, q, Below.trod hl hr.1.1 hr.1.2 h1 hb fun x hx => hlt x (by simp [hx]), trodAll_below hl hb hr.2 h2 fun x hx => hlt x (by simp [hx]), rfl⟩
  | [], _ :: _, _, _, _, h, _ => h.elim
  | [], [], _ :: _, _, _, h, _ => h.elim
  | _ :: _, [], _, _, _, h, _ => h.elim
  | _ :: _, _ :: _, [], _, _, h, _ => h.elim
theorem ints_in {H : Type} {enc : TypeId × Value → H} {P : Program} {W : World} {base : Nat} {held : Bool} {r : Reach} {t e : TypeId} {v : Value} {d : DataW H} {p : List MemPlace} (ht : P.underlying t = some (.slice e)) (he : P.underlying e = some (.int .i64)) (hc : P.cellsOf e = 1)
    (hv : Value.okWide P W r base t v) (h : DataW.Trod enc P W 0 (fun _ => true) held t v d p) : ∃ xs, IntsAt W.hp v xs := by
  obtain ⟨a0, len, cap, rfl⟩ := okWide_slice ht hv
  obtain ⟨fuel, hf⟩ := h
  rcases open_ints ht he hc hf with ⟨hcs, hx⟩ | ⟨a, len', cap', zs, hcs, _, hl, hm, hz, hx, hcell, hwz⟩
  · simp [Value.cells] at hcs
    obtain ⟨rfl, rfl, rfl⟩ := hcs
    exact ⟨[], intsAt_nil _⟩
  · simp [Value.cells] at hcs
    obtain ⟨rfl, rfl, rfl⟩ := hcs
    simp only [if_true] at hz
    exact ⟨zs.take len, intsAt_some (by omega) (by omega) hcell⟩
theorem int_in {P : Program} {W : World} {base : Nat} {r : Reach} {t : TypeId} {v : Value} (ht : P.underlying t = some (.int .i64)) (hv : Value.okWide P W r base t v) : ∃ n, v = .int .i64 n := okWide_int ht hv
end Go.Sl

/-
  Slices that begin anywhere in their array, which they own: elements, parts, append, make.
-/
namespace Go.Sl
theorem putL_pre {pre X vs : List Value} {off : Nat} (h : off + vs.length ≤ X.length) : putL (pre ++ X).toArray (pre.length + off) vs = (pre ++ (putL X.toArray off vs).toList).toArray := by
  rw [putL_toArray _ _ _ (by rw [List.length_append]; omega), putL_toArray _ _ _ h]
  congr 1
  rw [List.take_length_add_append, show pre.length + off + vs.length = pre.length + (off + vs.length) by omega, List.drop_length_add_append]
  simp [List.append_assoc]
theorem set_pre {pre X : List Value} {off : Nat} {v : Value} : (pre ++ X).toArray.setIfInBounds (pre.length + off) v = (pre ++ (X.toArray.setIfInBounds off v).toList).toArray := by
  rw [List.setIfInBounds_toArray, List.setIfInBounds_toArray]
  congr 1
  rw [List.set_append_right _ _ (by omega)]
  congr 2
  omega
theorem get_pre {pre X : List Value} {off : Nat} : (pre ++ X).toArray[pre.length + off]? = X.toArray[off]? := by
  simp only [List.getElem?_toArray]
  rw [List.getElem?_append_right (by omega)]
  congr 1
  omega
theorem ext_pre {pre X : List Value} {a b : Nat} : (pre ++ X).toArray.extract (pre.length + a) (pre.length + b) = X.toArray.extract a b := by
  apply Array.ext'
  rw [Array.toList_extract, Array.toList_extract, List.extract_eq_take_drop, List.extract_eq_take_drop]
  show ((pre ++ X).drop _).take _ = (X.drop _).take _
  rw [List.drop_length_add_append]
  congr 1
  omega
def enc1 {α : Type} (f : α → Value) (h : ∀ a, one (f a) = true) : Enc α := ⟨fun a => [f a], 1, fun _ => rfl, fun a => by simp [h], by omega⟩
variable {α : Type} (e : Enc α)
def SG (E : Nat) (sv : Value) (l : List α) : Asrt := fun h =>
  (sv = .slice none 0 0 ∧ l = [] ∧ h = Hp.emp) ∨
  ∃ r cap pre post, sv = .slice (some ⟨r, pre.length, none⟩) l.length cap ∧ l.length ≤ cap ∧ cap < 9223372036854775808 ∧ (cap - l.length) * e.sz ≤ post.length ∧ pt r (.cells (pre ++ (e.cs l ++ post)).toArray E (0, 0)) h
theorem SG_elim {E : Nat} {sv : Value} {l : List α} {F : Asrt} {h : Hp} (hh : (SG e E sv l * F) h) :
    (sv = .slice none 0 0 ∧ l = [] ∧ F h) ∨
    ∃ r cap pre post, sv = .slice (some ⟨r, pre.length, none⟩) l.length cap ∧ l.length ≤ cap ∧ cap < 9223372036854775808 ∧ (cap - l.length) * e.sz ≤ post.length ∧ (pt r (.cells (pre ++ (e.cs l ++ post)).toArray E (0, 0)) * F) h := by
  obtain ⟨a, b, d, rfl, p, q⟩ := hh
  rcases p with ⟨h1, h2, h3⟩ | ⟨r, cap, pre, post, h1, h2, h2', h3, h4⟩
  · exact .inl ⟨h1, h2, by rw [h3, Hp.emp_add]; exact q⟩
  · exact .inr ⟨r, cap, pre, post, h1, h2, h2', h3, a, b, d, rfl, h4, q⟩
theorem SG_nil {E : Nat} {F : Asrt} {h : Hp} (hh : F h) : (SG e E (.slice none 0 0) [] * F) h :=
  ⟨Hp.emp, h, Disj.emp_left h, by rw [Hp.emp_add], .inl ⟨rfl, rfl, rfl⟩, hh⟩
theorem SG_intro {E r n cap : Nat} {l : List α} {pre post : List Value} {o : Nat} {F : Asrt} {h : Hp} (ho : o = pre.length) (hn : n = l.length) (h1 : l.length ≤ cap) (h1' : cap < 9223372036854775808) (h2 : (cap - l.length) * e.sz ≤ post.length)
    (hh : (pt r (.cells (pre ++ (e.cs l ++ post)).toArray E (0, 0)) * F) h) : (SG e E (.slice (some ⟨r, o, none⟩) n cap) l * F) h :=
  star_left (fun _ p => .inr ⟨r, cap, pre, post, by rw [hn, ho], h1, h1', h2, p⟩) hh
theorem SG_of {E : Nat} {sv : Value} {l : List α} {F : Asrt} {h : Hp} (hh : (SL e E sv l * F) h) : (SG e E sv l * F) h := by
  rcases SL_elim e hh with ⟨rfl, rfl, hF⟩ | ⟨r, cap, post, rfl, h1, h2, h3, hp⟩
  · exact SG_nil e hF
  · exact SG_intro e (pre := []) rfl rfl h1 h2 h3 hp
theorem SG_one {E : Nat} {sv : Value} {l : List α} {F : Asrt} {h : Hp} (hh : (SG e E sv l * F) h) : one sv = true := by
  rcases SG_elim e hh with ⟨rfl, _⟩ | ⟨r, cap, pre, post, rfl, _⟩ <;> rfl
theorem SG_len {E : Nat} {sv : Value} {l : List α} {F : Asrt} {h : Hp} (hh : (SG e E sv l * F) h) : lenV sv = some (.int .i64 l.length) := by
  rcases SG_elim e hh with ⟨rfl, rfl, _⟩ | ⟨r, cap, pre, post, rfl, _⟩ <;> rfl
theorem SG_lt {E : Nat} {sv : Value} {l : List α} {F : Asrt} {h : Hp} (hh : (SG e E sv l * F) h) : l.length < 9223372036854775808 := by
  rcases SG_elim e hh with ⟨_, rfl, _⟩ | ⟨r, cap, pre, post, _, h1, h2, _⟩
  · exact Nat.zero_lt_of_lt (by decide : 0 < 9223372036854775808)
  · omega
theorem elG {E : Nat} {sv : Value} {l : List α} {i : Nat} {a : α} {F : Asrt} {h : Hp} (hh : (SG e E sv l * F) h) (hi : l[i]? = some a) (k : IntKind) :
    ∃ b o, iaS e.sz sv (.int k (i : Int)) = some (.pointer (some ⟨b, o, none⟩)) ∧ (∀ q v, (e.enc a)[q]? = some v → ld1 (.pointer (some ⟨b, o + q, none⟩)) h = some v) ∧
      ldN e.sz (.pointer (some ⟨b, o, none⟩)) h = some (.agg (e.enc a).toArray) ∧
      (∀ c K, (∀ h', (SG e E sv (l.set i c) * F) h' → K undef h') → stN e.sz (.pointer (some ⟨b, o, none⟩)) (.agg (e.enc c).toArray) K h) ∧
      (∀ q v c K, q < e.sz → (e.enc a).set q v = e.enc c → one v = true → (∀ h', (SG e E sv (l.set i c) * F) h' → K undef h') → st1 (.pointer (some ⟨b, o + q, none⟩)) v K h) := by
  obtain ⟨hlt, ha⟩ := List.getElem?_eq_some_iff.1 hi
  rcases SG_elim e hh with ⟨rfl, rfl, _⟩ | ⟨r, cap, pre, post, rfl, h1, h1', h2, hp⟩
  · simp at hlt
  · have hb := pt_get hp
    have hsz : (pre ++ (e.cs l ++ post)).toArray.size = pre.length + (l.length * e.sz + post.length) := by simp [e.cs_length]
    have hle : i * e.sz + e.sz ≤ l.length * e.sz := by rw [← Nat.succ_mul]; exact Nat.mul_le_mul_right _ hlt
    have key : ∀ b (h' : Hp), (pt r (.cells (pre ++ (e.cs (l.set i b) ++ post)).toArray E (0, 0)) * F) h' → (SG e E (.slice (some ⟨r, pre.length, none⟩) l.length cap) (l.set i b) * F) h' := fun b h' q =>
      SG_intro e rfl (by simp) (by simpa using h1) h1' (by simpa using h2) q
    refine ⟨r, pre.length + i * e.sz, ?_, ?_, ?_, ?_, ?_⟩
    · have := ia_mk (sz := e.sz) (b := r) (off := pre.length) (cap := cap) (k := k) (n := (i : Int)) (len := l.length) (by omega) (by omega)
      rwa [Int.toNat_natCast] at this
    · intro q v hq
      refine ld1_mk hb ?_
      have hqs : q < e.sz := by rw [← e.len a]; exact (List.getElem?_eq_some_iff.1 hq).1
      rw [Nat.add_assoc, get_pre]
      have := e.arr_cell (post := post) hi hqs
      rw [show (e.cs l ++ post).toArray = e.arr l post from rfl, this, hq]
    · rw [ldN_mk hb (by rw [hsz]; omega), Nat.add_assoc, ext_pre]
      have := e.arr_elem (post := post) hi
      rw [show (e.cs l ++ post).toArray = e.arr l post from rfl, this]
    · intro c K hk
      refine stN_mk hp (by simpa using e.one c) (by simp [e.len]) (by rw [hsz]; omega) fun h' hp' => hk h' (key c h' ?_)
      have h3 := putL_pre (pre := pre) (X := e.cs l ++ post) (vs := e.enc c) (off := i * e.sz) (by rw [List.length_append, e.cs_length, e.len]; omega)
      have h4 := e.arr_set (post := post) c hlt
      rw [show (e.cs l ++ post).toArray = e.arr l post from rfl, h4] at h3
      rw [show (e.enc c).toArray.toList = e.enc c from rfl, h3] at hp'
      exact hp'
    · intro q v c K hq hc hv hk
      refine st1_mk hp hv (by rw [hsz]; omega) fun h' hp' => hk h' (key c h' ?_)
      have h3 := set_pre (pre := pre) (X := e.cs l ++ post) (off := i * e.sz + q) (v := v)
      have h4 := e.arr_set1 (post := post) hi hq hc
      rw [show (e.cs l ++ post).toArray = e.arr l post from rfl, h4, ← Nat.add_assoc] at h3
      rw [h3] at hp'
      exact hp'
structure PartOf (E : Nat) (sv : Value) (l : List α) (sv' : Value) (m : List α) : Prop where
  shp : ∃ xa xc, sv' = .slice xa m.length xc
  src : ∀ (h : Hp) (F : Asrt), (SG e E sv l * F) h → srcOf e.sz m.length sv' h = some (e.cs m).toArray
theorem srcG {r n cc xn xc i E : Nat} {l : List α} {pre post : List Value} {h : Hp} (hb : h r = some (.cells (pre ++ (e.cs l ++ post)).toArray E (0, 0))) (hi : i + n ≤ l.length) (hc : l.length ≤ cc) :
    srcOf e.sz n (.slice (some ⟨r, cut pre.length i e.sz cc, none⟩) xn xc) h = some (e.cs ((l.drop i).take n)).toArray := by
  unfold srcOf Hp.row cut
  simp only [hb, Option.bind_some]
  have hsz : i * e.sz + n * e.sz ≤ l.length * e.sz := by rw [← Nat.add_mul]; exact Nat.mul_le_mul_right _ hi
  unfold rowIn
  by_cases hq : cc = i
  · have hn : n = 0 := by omega
    subst hn
    rw [if_pos hq]
    simp [Enc.cs]
  · rw [if_neg hq]
    have h1 : decide (pre.length + i * e.sz + n * e.sz ≤ (pre ++ (e.cs l ++ post)).toArray.size) = true := by rw [decide_eq_true_eq]; simp [e.cs_length]; omega
    simp only [h1, Option.isNone_none, Bool.and_self, if_true]
    have := e.arr_extract (post := post) hi
    rw [Nat.add_mul] at this
    rw [Nat.add_assoc, ext_pre, show (e.cs l ++ post).toArray = e.arr l post from rfl, this]
theorem part_from {E : Nat} {sv : Value} {l : List α} {F : Asrt} {h : Hp} {i : Nat} (hh : (SG e E sv l * F) h) (hi : i ≤ l.length) (k : IntKind) :
    ∃ sv', slV e.sz sv (some (.int k (i : Int))) none none = some sv' ∧ PartOf e E sv l sv' (l.drop i) := by
  rcases SG_elim e hh with ⟨rfl, rfl, _⟩ | ⟨r, cap, pre, post, rfl, h1, h1', h2, hp⟩
  · obtain rfl : i = 0 := by simpa using hi
    refine ⟨.slice none 0 0, rfl, ⟨none, 0, by simp⟩, fun h F _ => by simp [srcOf, Enc.cs]⟩
  · refine ⟨_, sl_from hi, ⟨_, _, by rw [List.length_drop]⟩, fun h F hh => ?_⟩
    rcases SG_elim e hh with ⟨h, _⟩ | ⟨r', cap', pre', post', hs, q1, _, q2, hp'⟩
    · cases h
    · simp only [Value.slice.injEq, Option.some.injEq, Addr.mk.injEq] at hs
      obtain ⟨⟨rfl, hpre, _⟩, _, rfl⟩ := hs
      rw [hpre]
      have := srcG e (i := i) (n := (l.drop i).length) (xn := l.length - i) (xc := cap - i) (pt_get hp') (by rw [List.length_drop]; omega) q1
      rwa [List.take_length] at this
theorem part_to {E : Nat} {sv : Value} {l : List α} {F : Asrt} {h : Hp} {j : Nat} (hh : (SG e E sv l * F) h) (hj : j ≤ l.length) (k : IntKind) :
    ∃ sv', slV e.sz sv none (some (.int k (j : Int))) none = some sv' ∧ PartOf e E sv l sv' (l.take j) := by
  rcases SG_elim e hh with ⟨rfl, rfl, _⟩ | ⟨r, cap, pre, post, rfl, h1, h1', h2, hp⟩
  · obtain rfl : j = 0 := by simpa using hj
    refine ⟨.slice none 0 0, rfl, ⟨none, 0, by simp⟩, fun h F _ => by simp [srcOf, Enc.cs]⟩
  · have hlen : (l.take j).length = j := by rw [List.length_take]; omega
    refine ⟨_, sl_to (by omega), ⟨_, _, by rw [hlen]⟩, fun h F hh => ?_⟩
    rcases SG_elim e hh with ⟨h, _⟩ | ⟨r', cap', pre', post', hs, q1, _, q2, hp'⟩
    · cases h
    · simp only [Value.slice.injEq, Option.some.injEq, Addr.mk.injEq] at hs
      obtain ⟨⟨rfl, hpre, _⟩, _, rfl⟩ := hs
      rw [hpre, hlen]
      have := srcG e (i := 0) (n := j) (cc := l.length + 1) (xn := j) (xc := cap) (pt_get hp') (by omega) (by omega)
      simpa [cut] using this
theorem part_all {E : Nat} {sv : Value} {l : List α} {F : Asrt} {h : Hp} (hh : (SG e E sv l * F) h) : PartOf e E sv l sv l := by
  rcases SG_elim e hh with ⟨rfl, rfl, _⟩ | ⟨r, cap, pre, post, rfl, h1, h1', h2, hp⟩
  · exact ⟨⟨none, 0, rfl⟩, fun h F _ => by simp [srcOf, Enc.cs]⟩
  · refine ⟨⟨_, _, rfl⟩, fun h F hh => ?_⟩
    rcases SG_elim e hh with ⟨h, _⟩ | ⟨r', cap', pre', post', hs, q1, _, q2, hp'⟩
    · cases h
    · simp only [Value.slice.injEq, Option.some.injEq, Addr.mk.injEq] at hs
      obtain ⟨⟨rfl, hpre, _⟩, _, rfl⟩ := hs
      rw [hpre]
      have := srcG e (i := 0) (n := l.length) (cc := l.length + 1) (xn := l.length) (xc := cap) (pt_get hp') (by omega) (by omega)
      simpa [cut] using this
theorem to_from {E : Nat} {sv : Value} {l : List α} {F : Asrt} {h : Hp} {i : Nat} (hh : (SG e E sv l * F) h) (hi : i ≤ l.length) (k : IntKind) :
    ∃ sv', slV e.sz sv (some (.int k (i : Int))) none none = some sv' ∧ (SG e E sv' (l.drop i) * F) h := by
  rcases SG_elim e hh with ⟨rfl, rfl, hF⟩ | ⟨r, cap, pre, post, rfl, h1, h1', h2, hp⟩
  · obtain rfl : i = 0 := by simpa using hi
    exact ⟨.slice none 0 0, rfl, SG_nil e hF⟩
  · refine ⟨_, sl_from hi, ?_⟩
    have hl : (l.drop i).length = l.length - i := List.length_drop
    by_cases hc : cap = i
    · have hli : l.length = i := by omega
      have hd : l.drop i = [] := List.drop_of_length_le (by omega)
      refine SG_intro e (pre := pre) (post := e.cs l ++ post) (by simp [cut, hc]) hl.symm (by omega) (by omega) (by rw [hd]; simp [hc]) ?_
      rw [hd]
      exact hp
    · refine SG_intro e (pre := pre ++ e.cs (l.take i)) (post := post) (by rw [cut, if_neg hc, List.length_append, e.cs_length, List.length_take, Nat.min_eq_left hi]) hl.symm (by omega) (by omega) ?_ ?_
      · rw [hl, show cap - i - (l.length - i) = cap - l.length by omega]; exact h2
      · have : pre ++ e.cs (l.take i) ++ (e.cs (l.drop i) ++ post) = pre ++ (e.cs l ++ post) := by
          rw [List.append_assoc, ← List.append_assoc (e.cs (l.take i)), ← e.cs_append, List.take_append_drop]
        rw [this]; exact hp
theorem to_to {E : Nat} {sv : Value} {l : List α} {F : Asrt} {h : Hp} {j : Nat} (hh : (SG e E sv l * F) h) (hj : j ≤ l.length) (k : IntKind) :
    ∃ sv', slV e.sz sv none (some (.int k (j : Int))) none = some sv' ∧ (SG e E sv' (l.take j) * F) h := by
  rcases SG_elim e hh with ⟨rfl, rfl, hF⟩ | ⟨r, cap, pre, post, rfl, h1, h1', h2, hp⟩
  · obtain rfl : j = 0 := by simpa using hj
    exact ⟨.slice none 0 0, rfl, SG_nil e hF⟩
  · refine ⟨_, sl_to (by omega), ?_⟩
    have hl : (l.take j).length = j := by rw [List.length_take]; omega
    refine SG_intro e (pre := pre) (post := e.cs (l.drop j) ++ post) rfl hl.symm (by omega) h1' ?_ ?_
    · rw [hl, List.length_append, e.cs_length, List.length_drop, show cap - j = (l.length - j) + (cap - l.length) by omega, Nat.add_mul]; omega
    · have : pre ++ (e.cs (l.take j) ++ (e.cs (l.drop j) ++ post)) = pre ++ (e.cs l ++ post) := by
        rw [← List.append_assoc (e.cs (l.take j)), ← e.cs_append, List.take_append_drop]
      rw [this]; exact hp
theorem ap_SG {P : Program} {ts : Array TypeId} {t t0 t1 E sz bytes : Nat} (ok : ElOk P t0 E sz bytes) (h0 : ts[0]? = some t0) (h1 : ts[1]? = some t1) (hd : noInt P t1) (he : sz = e.sz) (hbp : 0 < bytes)
    {sv : Value} {l m : List α} {F : Asrt} {K : Value → Hp → Prop} {h : Hp} {xa : Option Addr} {n xc : Nat} (hh : (SG e E sv l * (F * tt)) h)
    (hsrc : srcOf sz n (.slice xa n xc) h = some (e.cs m).toArray) (hm : n = m.length) (hb : (2 * (l.length + m.length) + 256) * bytes ≤ 281474976710656)
    (hk : ∀ v h', (SG e E v (l ++ m) * (F * tt)) h' → K v h') : apW P ts t sv (.slice xa n xc) K h := by
  obtain ⟨i, z, okk, hsz, hby, _⟩ := ok.ok
  clear ok
  have ok := okk ts h0
  subst hsz; subst hby; subst hm
  have hcs : (e.cs m).toArray.size = m.length * i.size := by rw [he]; simp [e.cs_length]
  obtain ⟨d, hd, hn1⟩ := hd
  rcases SG_elim e hh with ⟨rfl, rfl, hF⟩ | ⟨r, cap, pre, post, rfl, h2, h3, h4, hp⟩
  · rcases Nat.eq_zero_or_pos m.length with hm0 | hm0
    · rw [hm0] at hsrc ⊢
      refine apW_nil ok h1 ⟨d, hd, hn1⟩ hsrc ?_
      have : m = [] := List.length_eq_zero_iff.1 hm0
      subst this
      exact hk _ _ (SG_nil e hF)
    · refine apW_grow ok h1 hd hn1 (old := #[]) hF (by omega) (by simpa using hb) hbp rfl hsrc ?_
      intro cap' r spare h' hc1 hc2 hsp hp'
      refine hk _ _ ?_
      have hq := SG_intro e (l := m) (pre := []) (o := 0) (post := spare.toList) (n := m.length) rfl rfl (by omega) hc2 (by rw [Array.length_toList (xs := spare), hsp, ← he]; simp) (h := h') (E := E) (r := r) (F := F * tt) ?_
      · simpa using hq
      · refine asr ?_ hp'
        congr 3
        apply Array.ext'
        simp
  · by_cases hfit : l.length + m.length ≤ cap
    · have hsz : m.length * e.sz ≤ post.length := Nat.le_trans (Nat.mul_le_mul_right _ (by omega)) h4
      refine apW_fit ok h1 hd hn1 hp hfit hsrc (e.cs_one m) hcs (by simp only [List.size_toArray, List.length_append, e.cs_length]; rw [he, Nat.add_mul]; omega) ?_
      intro h' hp'
      refine hk _ _ ?_
      have hlen : (l ++ m).length = l.length + m.length := by simp
      refine SG_intro e rfl (by rw [hlen]) (by omega) h3 (post := post.drop (m.length * e.sz)) ?_ ?_
      · rw [List.length_drop, hlen, show cap - (l.length + m.length) = cap - l.length - m.length by omega, Nat.sub_mul]
        omega
      · rw [he, show (e.cs m).toArray.toList = e.cs m from rfl, putL_pre (by rw [List.length_append, e.cs_length, e.cs_length]; omega), show (e.cs l ++ post).toArray = e.arr l post from rfl,
          e.arr_app (by omega)] at hp'
        exact hp'
    · have hold : srcOf i.size l.length (.slice (some ⟨r, pre.length, none⟩) l.length cap) h = some (e.cs l).toArray := by
        have := srcG e (i := 0) (n := l.length) (cc := l.length + 1) (xn := l.length) (xc := cap) (pt_get hp) (by omega) (by omega)
        rw [he]
        simpa [cut] using this
      refine apW_grow ok h1 hd hn1 hp (by omega) hb hbp hold hsrc ?_
      intro cap' r' spare h' hc1 hc2 hsp hp'
      refine hk _ _ ?_
      have hlen : (l ++ m).length = l.length + m.length := by simp
      refine SG_intro e (pre := []) (o := 0) rfl (by rw [hlen]) (by omega) hc2 (post := spare.toList) (by rw [Array.length_toList (xs := spare), hsp, ← he, hlen]; exact Nat.le_refl _) ?_
      have : (e.cs l).toArray ++ (e.cs m).toArray ++ spare = ([] ++ (e.cs (l ++ m) ++ spare.toList)).toArray := by
        apply Array.ext'
        simp [e.cs_append]
      rw [this] at hp'
      have h5 : (pt r' (.cells ([] ++ (e.cs (l ++ m) ++ spare.toList)).toArray E (0, 0)) * (F * tt * pt r (.cells (pre ++ (e.cs l ++ post)).toArray E (0, 0)))) h' := asr (by ac_rfl) hp'
      refine star_right (fun x hx => ?_) h5
      have h6 : (F * (tt * pt r (.cells (pre ++ (e.cs l ++ post)).toArray E (0, 0)))) x := asr (by ac_rfl) hx
      exact to_tt h6
theorem ap_part {P : Program} {ts : Array TypeId} {t t0 t1 E E' sz bytes : Nat} (ok : ElOk P t0 E sz bytes) (h0 : ts[0]? = some t0) (h1 : ts[1]? = some t1) (hd : noInt P t1) (he : sz = e.sz) (hbp : 0 < bytes)
    {sv sw sx : Value} {l m lw : List α} {F G : Asrt} {K : Value → Hp → Prop} {h : Hp} (hh : (SG e E sv l * (F * tt)) h) (hp : PartOf e E' sw lw sx m) (hw : (SG e E' sw lw * G) h) (hb : (2 * (l.length + m.length) + 256) * bytes ≤ 281474976710656)
    (hk : ∀ v h', (SG e E v (l ++ m) * (F * tt)) h' → K v h') : apW P ts t sv sx K h := by
  obtain ⟨⟨xa, xc, rfl⟩, hs⟩ := hp
  exact ap_SG e ok h0 h1 hd he hbp hh (he ▸ hs h G hw) rfl hb hk
theorem ap_new {P : Program} {ts : Array TypeId} {t t0 t1 E sz bytes : Nat} (ok : ElOk P t0 E sz bytes) (h0 : ts[0]? = some t0) (h1 : ts[1]? = some t1) (hd : noInt P t1) (he : sz = e.sz) (hbp : 0 < bytes)
    {sv : Value} {l m : List α} {F : Asrt} {K : Value → Hp → Prop} {h : Hp} {r n xc : Nat} {cs : Array Value} {E' : TypeId} (hh : (pt r (.cells cs E' (0, 0)) * (SG e E sv l * (F * tt))) h) (hcs : cs = (e.cs m).toArray) (hn : n = m.length)
    (hb : (2 * (l.length + m.length) + 256) * bytes ≤ 281474976710656) (hk : ∀ v h', (SG e E v (l ++ m) * (F * tt)) h' → K v h') : apW P ts t sv (.slice (some ⟨r, 0, none⟩) n xc) K h := by
  subst hcs; subst hn
  have hs : srcOf sz m.length (.slice (some ⟨r, 0, none⟩) m.length xc) h = some (e.cs m).toArray := by
    rw [he]
    have := src_all e (l := m) (post := []) (b := r) (n := m.length) (cap := xc) (h := h) (E := E') (by rw [show e.arr m [] = (e.cs m).toArray by simp [Enc.arr]]; exact pt_get hh) (Nat.le_refl _) m.length
    rwa [List.take_length] at this
  refine ap_SG e ok h0 h1 hd he hbp (F := F) ?_ hs rfl hb hk
  have h2 : (SG e E sv l * (F * (tt * pt r (.cells (e.cs m).toArray E' (0, 0))))) h := asr (by ac_rfl) hh
  exact star_right (fun x hx => to_tt hx) h2
theorem ms_SG {bytes E sz : Nat} {zero : Array Value} {z : α} {n : Nat} {k k' : IntKind} {K : Value → Hp → Prop} {h : Hp} {F : Asrt} (hF : F h) (hz : zero = (e.enc z).toArray) (hs : sz = e.sz) (hb : n * bytes ≤ 140737488355328) (hn : n < 9223372036854775808)
    (hk : ∀ v h', (SG e E v (List.replicate n z) * F) h' → K v h') : vA (msV bytes sz E zero (.int k n) (.int k' n)) K h := by
  subst hs; subst hz
  have hc : (0 : Int) ≤ n ∧ (n : Int) ≤ n ∧ (n : Int) * bytes ≤ 140737488355328 ∧ (n : Int) ≤ 9223372036854775807 := by
    have : ((n * bytes : Nat) : Int) = (n : Int) * bytes := Int.natCast_mul _ _
    omega
  show vA (if _ then _ else none) K h
  rw [if_pos hc, vA_some]
  intro r hr
  refine hk _ _ ?_
  have hsz : (e.enc z).length = e.sz := e.len z
  have hcell : ((Array.range ((n : Int).toNat * e.sz)).map fun i => (e.enc z).toArray[i % (e.enc z).toArray.size]!) = ([] ++ (e.cs (List.replicate n z) ++ [])).toArray := by
    rw [Int.toNat_natCast]
    apply Array.ext'
    simp only [Array.toList_map, Array.toList_range, List.nil_append, List.append_nil, List.size_toArray, hsz]
    clear hc hn hb hr hk hF
    induction n with
    | zero => simp [Enc.cs]
    | succ n ih =>
      rw [List.replicate_succ', e.cs_append, ← ih, Nat.succ_mul, List.range_add, List.map_append]
      congr 1
      rw [show e.cs [z] = e.enc z by simp [Enc.cs], List.map_map]
      apply List.ext_getElem?
      intro q
      rw [List.getElem?_map]
      by_cases hq : q < e.sz
      · rw [List.getElem?_range hq]
        simp only [Option.map_some, Function.comp_apply]
        rw [show n * e.sz + q = q + e.sz * n by rw [Nat.mul_comm]; omega, Nat.add_mul_mod_self_left, Nat.mod_eq_of_lt hq]
        rw [getElem!_pos (e.enc z).toArray q (by simpa [hsz] using hq)]
        simp [List.getElem?_eq_getElem (show q < (e.enc z).length by omega)]
      · rw [List.getElem?_eq_none (by simpa using hq), List.getElem?_eq_none (by omega)]
        rfl
  rw [hcell]
  refine SG_intro e (pre := []) (post := []) rfl (by simp) (by simp) (by omega) (by simp) (pt_new hF hr)
theorem el1 {f : α → Value} {hf : ∀ a, one (f a) = true} {E : Nat} {sv : Value} {l : List α} {i : Nat} {a : α} {F : Asrt} {h : Hp} (hh : (SG (enc1 f hf) E sv l * F) h) (hi : l[i]? = some a) (k : IntKind) :
    ∃ p, iaS 1 sv (.int k (i : Int)) = some p ∧ ld1 p h = some (f a) ∧ (∀ c K, (∀ h', (SG (enc1 f hf) E sv (l.set i c) * F) h' → K undef h') → st1 p (f c) K h) := by
  obtain ⟨b, o, e1, e2, _, _, e5⟩ := elG (enc1 f hf) hh hi k
  exact ⟨_, e1, e2 0 _ rfl, fun c K hk => e5 0 (f c) c K Nat.one_pos rfl (hf c) hk⟩
end Go.Sl

/-
  What came in: values as the row's opening reads them, whatever their types; slices of triples.
-/
namespace Go.Sl
open Go.ChangeShapes Go.WideShapes Go.ChangeAt Go.RowKit
theorem own_ldN {g : Hp} {F : Asrt} {h : Hp} {n : Nat} {p v : Value} (hh : (own g * F) h) (hg : ldN n p g = some v) : ldN n p h = some v := by
  obtain ⟨x, y, d, rfl, rfl, _⟩ := hh
  exact ldN_mono _ _ _ _ _ hg
structure TrisAt (g : Hp) (sv : Value) (os : List (Int × Int × Int)) : Prop where
  len : lenV sv = some (.int .i64 os.length)
  lt : os.length < 9223372036854775808
  get : ∀ (j : Nat) (o : Int × Int × Int) (k : IntKind), os[j]? = some o → ∃ p, iaS 3 sv (.int k (j : Int)) = some p ∧ ldN 3 p g = some (.agg #[.int .i64 o.1, .int .i64 o.2.1, .int .i64 o.2.2])
  wf : ∀ o ∈ os, (-9223372036854775808 ≤ o.1 ∧ o.1 ≤ 9223372036854775807) ∧ (-9223372036854775808 ≤ o.2.1 ∧ o.2.1 ≤ 9223372036854775807) ∧ (-9223372036854775808 ≤ o.2.2 ∧ o.2.2 ≤ 9223372036854775807)
def OkF (P : Program) (g : Hp) : Nat → TypeId → List Value → Prop
  | 0, _, _ => False
  | f + 1, t, cs =>
    match P.underlying t with
    | some .bool => ∃ b, cs = [.bool b]
    | some (.int k) => ∃ n, cs = [.int k n] ∧ k.min ≤ n ∧ n ≤ k.max
    | some (.slice e) => cs = [.slice none 0 0] ∨ ∃ a len cap, cs = [.slice (some a) len cap] ∧ len ≤ cap ∧ cap ≤ maxLen ∧
        ∀ i, i < len → ∃ c : List Value, c.length = P.cellsOf e ∧ (∀ j, j < P.cellsOf e → g.cell ((a.add (i * P.cellsOf e)).add j) = c[j]?) ∧ OkF P g f e c
    | some (.struct fs) => cs.length = P.cellsOf t ∧ ∀ (i : Nat) (fd : Field), fs[i]? = some fd → OkF P g f fd.type ((cs.drop fd.offset).take (P.cellsOf fd.type))
    | _ => True
theorem trod_okF {H : Type} {enc : TypeId × Value → H} {P : Program} {W : World} {base : Nat} {sp : Nat → Bool} {held : Bool} : ∀ {fuel : Nat} {t : TypeId} {cs : List Value} {x : DataW H × List MemPlace},
    DataW.trod enc P W base sp held fuel t cs = some x → OkF P W.hp fuel t cs
  | 0, t, cs, x, h => by simp [DataW.trod] at h
  | f + 1, t, cs, x, h => by
    unfold OkF
    split
    · rename_i ht
      unfold DataW.trod at h
      rw [ht] at h
      split at h <;> simp_all
    · rename_i k ht
      unfold DataW.trod at h
      rw [ht] at h
      split at h <;> simp_all [Lit.wf]
    · rename_i e ht
      rcases DataW.trod_slice ht h with ⟨h1, _⟩ | ⟨a, len, cap, elems, rest, n, hn, h1, _, hb, hl, hc, hel, hg, _⟩
      · exact .inl h1
      · obtain rfl : f = n := by omega
        refine .inr ⟨a, len, cap, h1, hl, hc, fun i hi => ?_⟩
        have h2 := hg i hi
        rw [List.getElem?_eq_getElem (by omega)] at h2
        obtain ⟨c, h3, h4⟩ := Option.bind_eq_some_iff.1 h2
        obtain ⟨_, h5, h6⟩ := World.cells?_some h3
        exact ⟨c, h5, fun j hj => by rw [← cell?_hp]; exact h6 j hj, trod_okF h4⟩
    · rename_i fs ht
      obtain ⟨xs, n, hn, _, hl, hlen, hg⟩ := DataW.trod_struct ht h
      obtain rfl : f = n := by omega
      refine ⟨hl, fun i fd hf => ?_⟩
      have hi : i < fs.size := (Array.getElem?_eq_some_iff.1 hf).1
      have h2 := hg i fd hf
      rw [List.getElem?_eq_getElem (by omega)] at h2
      exact trod_okF h2
    · trivial
theorem okF_of {H : Type} {enc : TypeId × Value → H} {P : Program} {W : World} {base : Nat} {sp : Nat → Bool} {held : Bool} {t : TypeId} {v : Value} {d : DataW H} {p : List MemPlace} (h : DataW.Trod enc P W base sp held t v d p) : ∃ f, OkF P W.hp f t v.cells.toList :=
  let ⟨f, hf⟩ := h; ⟨f, trod_okF hf⟩
theorem okF_int {P : Program} {g : Hp} {f : Nat} {t : TypeId} {k : IntKind} {cs : List Value} (ht : P.underlying t = some (.int k)) (h : OkF P g f t cs) : ∃ n, cs = [.int k n] ∧ k.min ≤ n ∧ n ≤ k.max := by
  cases f with
  | zero => exact h.elim
  | succ f => unfold OkF at h; rw [ht] at h; exact h
theorem okF_bool {P : Program} {g : Hp} {f : Nat} {t : TypeId} {cs : List Value} (ht : P.underlying t = some .bool) (h : OkF P g f t cs) : ∃ b, cs = [.bool b] := by
  cases f with
  | zero => exact h.elim
  | succ f => unfold OkF at h; rw [ht] at h; exact h
theorem okF_struct {P : Program} {g : Hp} {f : Nat} {t : TypeId} {fs : Array Field} {cs : List Value} (ht : P.underlying t = some (.struct fs)) (h : OkF P g f t cs) :
    cs.length = P.cellsOf t ∧ ∃ f', ∀ (i : Nat) (fd : Field), fs[i]? = some fd → OkF P g f' fd.type ((cs.drop fd.offset).take (P.cellsOf fd.type)) := by
  cases f with
  | zero => exact h.elim
  | succ f => unfold OkF at h; rw [ht] at h; exact ⟨h.1, f, h.2⟩
theorem okF_slice {P : Program} {g : Hp} {f : Nat} {t e : TypeId} {cs : List Value} (ht : P.underlying t = some (.slice e)) (h : OkF P g f t cs) :
    cs = [.slice none 0 0] ∨ ∃ a len cap, cs = [.slice (some a) len cap] ∧ len ≤ cap ∧ cap ≤ maxLen ∧
      ∃ f', ∀ i, i < len → ∃ c : List Value, c.length = P.cellsOf e ∧ (∀ j, j < P.cellsOf e → g.cell ((a.add (i * P.cellsOf e)).add j) = c[j]?) ∧ OkF P g f' e c := by
  cases f with
  | zero => exact h.elim
  | succ f =>
    unfold OkF at h; rw [ht] at h
    rcases h with h | ⟨a, len, cap, h1, h2, h3, h4⟩
    · exact .inl h
    · exact .inr ⟨a, len, cap, h1, h2, h3, f, h4⟩
theorem row_of_cells {g : Hp} {a : Addr} {n : Nat} {c : List Value} (hn : 0 < n) (hl : c.length = n) (h : ∀ j, j < n → g.cell (a.add j) = c[j]?) : g.row a n = some c.toArray := by
  have h0 := h 0 hn
  rw [show a.add 0 = a from by cases a; simp [Addr.add], List.getElem?_eq_getElem (by omega)] at h0
  obtain ⟨o, ho, hc⟩ := Hp.block_of_cell h0
  cases o with
  | cells cs e fz =>
    have hsp : a.spot = none := by
      cases hs : a.spot with
      | none => rfl
      | some s => simp [Obj.cellAt, hs] at hc
    obtain ⟨b, off, sp⟩ := a
    simp only at hsp ho
    subst hsp
    have hcell : ∀ j, j < n → cs[off + j]? = c[j]? := fun j hj => by
      have := h j hj
      rw [add_mk] at this
      unfold Hp.cell at this
      simp only [ho, Option.bind_some, Obj.cellAt, Option.isSome_none, Bool.false_eq_true, if_false] at this
      exact this
    have hsz : off + n ≤ cs.size := by
      have := hcell (n - 1) (by omega)
      rw [List.getElem?_eq_getElem (by omega)] at this
      have := (Array.getElem?_eq_some_iff.1 this).1
      omega
    unfold Hp.row rowIn
    simp only [ho, Option.bind_some, Option.isNone_none, Bool.true_and, decide_eq_true hsz, if_true]
    congr 1
    apply Array.ext'
    rw [Array.toList_extract, List.extract_eq_take_drop]
    apply List.ext_getElem?
    intro j
    by_cases hj : j < n
    · rw [List.getElem?_take_of_lt (by omega), List.getElem?_drop, Array.getElem?_toList, hcell j hj]
    · rw [List.getElem?_eq_none (by rw [List.length_take]; omega), List.getElem?_eq_none (by simp; omega)]
  | _ => simp [Obj.cellAt] at hc
theorem list_of {α : Type} {n : Nat} {R : Nat → α → Prop} (h : ∀ i, i < n → ∃ x, R i x) : ∃ l : List α, l.length = n ∧ ∀ (i : Nat) x, l[i]? = some x → R i x := by
  induction n with
  | zero => exact ⟨[], rfl, fun i x h => by simp at h⟩
  | succ n ih =>
    obtain ⟨l, h1, h2⟩ := ih fun i hi => h i (by omega)
    obtain ⟨x, hx⟩ := h n (by omega)
    refine ⟨l ++ [x], by simp [h1], fun i y hy => ?_⟩
    by_cases hi : i < l.length
    · rw [List.getElem?_append_left hi] at hy
      exact h2 i y hy
    · have hi2 : i = n := by
        have := (List.getElem?_eq_some_iff.1 hy).1
        simp at this; omega
      subst hi2
      rw [List.getElem?_append_right (by omega), h1, Nat.sub_self] at hy
      simp at hy
      exact hy ▸ hx
theorem iaS_at {sz : Nat} {a : Addr} {len cap : Nat} {k : IntKind} {j : Nat} (h : j < len) : iaS sz (.slice (some a) len cap) (.int k (j : Int)) = some (.pointer (some (a.add (j * sz)))) := by
  show (if 0 ≤ (j : Int) ∧ (j : Int) < (len : Int) then some (Value.pointer (some (a.add ((j : Int).toNat * sz)))) else none) = _
  rw [if_pos (by omega), Int.toNat_natCast]
theorem tris_in {H : Type} {enc : TypeId × Value → H} {P : Program} {W : World} {base : Nat} {held : Bool} {r : Reach} {t e ti : TypeId} {f0 f1 f2 : Field} {v : Value} {d : DataW H} {p : List MemPlace} (ht : P.underlying t = some (.slice e)) (he : P.underlying e = some (.struct #[f0, f1, f2]))
    (hi : P.underlying ti = some (.int .i64)) (hc : P.cellsOf e = 3) (hci : P.cellsOf ti = 1) (hf : f0.type = ti ∧ f1.type = ti ∧ f2.type = ti ∧ f0.offset = 0 ∧ f1.offset = 1 ∧ f2.offset = 2)
    (hv : Value.okWide P W r base t v) (h : DataW.Trod enc P W 0 (fun _ => true) held t v d p) : ∃ os, TrisAt W.hp v os := by
  obtain ⟨a0, len0, cap0, rfl⟩ := okWide_slice ht hv
  obtain ⟨f, hF⟩ := okF_of h
  rcases okF_slice ht hF with hcs | ⟨a, len, cap, hcs, hl, hm, f', hel⟩
  · simp [Value.cells] at hcs
    obtain ⟨rfl, rfl, rfl⟩ := hcs
    exact ⟨[], ⟨rfl, by simp, fun j x k h => by simp at h, by simp⟩⟩
  · simp [Value.cells] at hcs
    obtain ⟨rfl, rfl, rfl⟩ := hcs
    rw [hc] at hel
    have hex : ∀ i, i < len0 → ∃ o : Int × Int × Int, ldN 3 (.pointer (some (a.add (i * 3)))) W.hp = some (.agg #[.int .i64 o.1, .int .i64 o.2.1, .int .i64 o.2.2]) ∧
        (-9223372036854775808 ≤ o.1 ∧ o.1 ≤ 9223372036854775807) ∧ (-9223372036854775808 ≤ o.2.1 ∧ o.2.1 ≤ 9223372036854775807) ∧ (-9223372036854775808 ≤ o.2.2 ∧ o.2.2 ≤ 9223372036854775807) := fun i hi' => by
      obtain ⟨c, h1, h2, h3⟩ := hel i hi'
      obtain ⟨_, g, hg⟩ := okF_struct he h3
      have g0 := hg 0 f0 rfl
      have g1 := hg 1 f1 rfl
      have g2 := hg 2 f2 rfl
      rw [hf.1, hf.2.2.2.1, hci] at g0
      rw [hf.2.1, hf.2.2.2.2.1, hci] at g1
      rw [hf.2.2.1, hf.2.2.2.2.2, hci] at g2
      obtain ⟨x, e0, b0⟩ := okF_int hi g0
      obtain ⟨y, e1, b1⟩ := okF_int hi g1
      obtain ⟨z, e2, b2⟩ := okF_int hi g2
      match c, h1 with
      | [c0, c1, c2], _ =>
        simp at e0 e1 e2
        subst e0; subst e1; subst e2
        have hrow := row_of_cells (n := 3) (by omega) rfl h2
        refine ⟨(x, y, z), ?_, b0, b1, b2⟩
        show (W.hp.row _ 3).map Value.agg = _
        rw [hrow]
        rfl
    obtain ⟨os, ho1, ho2⟩ := list_of hex
    subst ho1
    refine ⟨os, ⟨rfl, by unfold maxLen at hm; omega, fun j o k hj => ?_, fun o ho => ?_⟩⟩
    · exact ⟨_, iaS_at (List.getElem?_eq_some_iff.1 hj).1, (ho2 j o hj).1⟩
    · obtain ⟨j, hj, e⟩ := List.getElem_of_mem ho
      exact (ho2 j o (by rw [List.getElem?_eq_getElem hj, e])).2
end Go.Sl

/-
  Maps whose keys are numbers; calls of function values.
-/
namespace Go.Sl
theorem cv_fn {P : Program} {g : FuncId} {caps args : Array Value} {K : Value → Hp → Prop} {h : Hp} (hb : bodied P g = true) (hh : CallH P g (args ++ caps) K h) : cvW P (.func (.func g) #[] caps) args K h := by
  refine ⟨?_⟩
  unfold rawWp
  show Sem.vc P (do let d ← (Pure.pure { target := .fn (.func g) caps, args := #[] ++ args } : Sem Deferred); invoke d.target d.args) _ h
  refine vc_rd_bind (a := { target := .fn (.func g) caps, args := args }) (by rw [rd_pure]; simp) ?_
  show Sem.vc P (callFunc g (args ++ caps)) _ h
  exact callFunc_bodied hb hh
structure Ent where
  key : Int
  val : Value
  born : Nat
def Ent.mk' (e : Ent) : MapEntry := { key := .int .i64 e.key, val := e.val, born := e.born }
def mget (es : List Ent) (k : Int) : Option Value := (es.find? fun e => e.key == k).map (·.val)
structure MapOk (es : List Ent) (c : Nat) : Prop where
  keys : es.Pairwise fun a b => a.key ≠ b.key
  borns : es.Pairwise fun a b => a.born ≠ b.born
  lt : ∀ e ∈ es, e.born < c
def MP (r : Nat) (f : Int → Option Value) : Asrt := ex fun es => ex fun c => pr (MapOk es c ∧ (∀ k, mget es k = f k)) * pt r (.map (es.map Ent.mk').toArray c)
theorem MP_elim {r : Nat} {f : Int → Option Value} {F : Asrt} {h : Hp} (hh : (MP r f * F) h) : ∃ es c, MapOk es c ∧ (∀ k, mget es k = f k) ∧ (pt r (.map (es.map Ent.mk').toArray c) * F) h := by
  obtain ⟨es, hh⟩ := ex_star.1 hh
  obtain ⟨c, hh⟩ := ex_star.1 hh
  rw [star_assoc, pr_star] at hh
  exact ⟨es, c, hh.1.1, hh.1.2, hh.2⟩
theorem MP_intro {r : Nat} {f : Int → Option Value} {F : Asrt} {h : Hp} {es : List Ent} {c : Nat} (h1 : MapOk es c) (h2 : ∀ k, mget es k = f k) (hh : (pt r (.map (es.map Ent.mk').toArray c) * F) h) : (MP r f * F) h := by
  refine ex_star.2 ⟨es, ex_star.2 ⟨c, ?_⟩⟩
  rw [star_assoc, pr_star]
  exact ⟨⟨h1, h2⟩, hh⟩
theorem MP_new {r : Nat} {F : Asrt} {h : Hp} (hh : (pt r (.map #[] 0) * F) h) : (MP r (fun _ => none) * F) h :=
  MP_intro (es := []) (c := 0) ⟨by simp, by simp, by simp⟩ (fun _ => rfl) hh
def fidx (es : List Ent) (k : Int) : Option Nat := es.findIdx? fun e => e.key == k
theorem mget_fidx : ∀ {es : List Ent} {k : Int}, mget es k = (fidx es k).bind fun i => (es[i]?).map (·.val)
  | [], k => rfl
  | e :: es, k => by
    have ih := mget_fidx (es := es) (k := k)
    unfold mget fidx at *
    rw [List.find?_cons, List.findIdx?_cons]
    cases hq : (e.key == k) with
    | true => simp
    | false =>
      simp only [Bool.false_eq_true, if_false, ih, Option.bind_map]
      cases es.findIdx? (fun e => e.key == k) <;> simp
theorem findNow_eq {q : IntKind} (k : Int) : ∀ (es : List Ent) (i : Nat), Instr.findNow (.int q) (.int .i64 k) (es.map Ent.mk') i = some ((fidx es k).bind fun j => (es[j]?).map fun e => (i + j, e.val))
  | [], i => rfl
  | e :: es, i => by
    have ih := findNow_eq (q := q) k es (i + 1)
    unfold fidx at *
    rw [List.map_cons, List.findIdx?_cons]
    show (match Instr.sameNow (.int q) (.int .i64 k) (.int .i64 e.key) with | some true => some (some (i, e.val)) | some false => Instr.findNow (.int q) (.int .i64 k) (es.map Ent.mk') (i + 1) | none => none) = _
    have hs : Instr.sameNow (.int q) (.int .i64 k) (.int .i64 e.key) = some (k == e.key) := by
      show (if IntKind.i64 = IntKind.i64 then some (k == e.key) else none) = _
      rw [if_pos rfl]
    rw [hs]
    by_cases hq : e.key = k
    · have h1 : (k == e.key) = true := by simp [hq]
      have h2 : (e.key == k) = true := by simp [hq]
      simp [h1, h2]
    · have h1 : (k == e.key) = false := by simpa using fun h => hq h.symm
      have h2 : (e.key == k) = false := by simpa using hq
      simp only [h1, h2, Bool.false_eq_true, if_false, ih]
      cases es.findIdx? (fun e => e.key == k) with
      | none => rfl
      | some j => simp; cases es[j]? <;> simp <;> omega
theorem rd_findKey {P : Program} {t : TypeId} {q : IntKind} {k : Int} {es : List Ent} {h : Hp} (ht : P.underlying t = some (.int q)) :
    (Instr.findKey t (.int .i64 k) (es.map Ent.mk')).rd P h = some ((fidx es k).bind fun j => (es[j]?).map fun e => (j, e.val)) := by
  unfold Instr.findKey
  rw [rd_bind', rd_underlying, ht]
  simp only [Option.bind_some, findNow_eq, Nat.zero_add]
  rfl
theorem rd_checkKey {P : Program} {t : TypeId} {q : IntKind} {k : Int} {b : Bool} {h : Hp} (ht : P.underlying t = some (.int q)) : (Instr.checkKey b 10000 t (.int .i64 k)).rd P h = some () := by
  unfold Instr.checkKey
  rw [rd_bind', rd_underlying, ht]
  rfl
theorem rd_getObj {P : Program} {r : Nat} {h : Hp} {es : Array MapEntry} {c : Nat} (hb : h r = some (.map es c)) : (getObj r).rd P h = some (.map es c) := by
  unfold getObj
  simp only [Sem.rd, hb]
  rfl
theorem lk_MP {P : Program} {t tk te : TypeId} {q : IntKind} {z : Value} {r : Nat} {f : Int → Option Value} {F : Asrt} {h : Hp} {k : Int} (ht : P.underlying t = some (.map tk te)) (hk : P.underlying tk = some (.int q)) (hz : zOf P te = some z) (hh : (MP r f * F) h) :
    lkV P t (.map (some r)) (.int .i64 k) false h = some ((f k).getD z) ∧ lkV P t (.map (some r)) (.int .i64 k) true h = some (.tuple #[(f k).getD z, .bool (f k).isSome]) := by
  obtain ⟨es, c, _, hf, hp⟩ := MP_elim hh
  have hb := pt_get hp
  have key : ∀ ok : Bool, lkV P t (.map (some r)) (.int .i64 k) ok h = some (if ok then .tuple #[(f k).getD z, .bool (f k).isSome] else (f k).getD z) := fun ok => by
    unfold lkV Instr.lookup
    rw [rd_seq (by rw [rd_underlying]; exact ht)]
    simp only
    rw [rd_seq (rd_getObj hb)]
    simp only
    rw [rd_seq (a := (es.map Ent.mk').toArray) rd_pure]
    rw [rd_seq (rd_checkKey hk)]
    rw [← hf k, mget_fidx]
    have hfk := rd_findKey (P := P) (k := k) (es := es) (h := h) hk
    cases hi : fidx es k with
    | none =>
      rw [hi] at hfk
      rw [rd_seq hfk]
      simp only [Option.bind_none]
      rw [rd_seq (rd_zero hz), rd_seq (a := (z, false)) rd_pure]
      cases ok <;> rfl
    | some j =>
      rw [hi] at hfk
      have hlt : j < es.length := by
        unfold fidx at hi
        exact (List.findIdx?_eq_some_iff_getElem.1 hi).1
      simp only [Option.bind_some, List.getElem?_eq_getElem hlt, Option.map_some] at hfk ⊢
      rw [rd_seq hfk]
      simp only
      rw [rd_seq (a := (es[j].val, true)) rd_pure]
      cases ok <;> rfl
  exact ⟨key false, key true⟩
theorem lk_nilmap {P : Program} {t tk te : TypeId} {q : IntKind} {z : Value} {h : Hp} {k : Int} (ht : P.underlying t = some (.map tk te)) (hk : P.underlying tk = some (.int q)) (hz : zOf P te = some z) :
    lkV P t (.map none) (.int .i64 k) false h = some z ∧ lkV P t (.map none) (.int .i64 k) true h = some (.tuple #[z, .bool false]) := by
  have key : ∀ ok : Bool, lkV P t (.map none) (.int .i64 k) ok h = some (if ok then .tuple #[z, .bool false] else z) := fun ok => by
    unfold lkV Instr.lookup
    rw [rd_seq (by rw [rd_underlying]; exact ht)]
    simp only
    rw [rd_seq (a := (#[] : Array MapEntry)) rfl]
    rw [rd_seq (rd_checkKey hk)]
    have hfk : (Instr.findKey tk (.int .i64 k) (#[] : Array MapEntry).toList).rd P h = some none := rd_findKey (P := P) (k := k) (es := []) (h := h) hk
    rw [rd_seq (a := none) hfk]
    simp only
    rw [rd_seq (rd_zero hz), rd_seq (a := (z, false)) rd_pure]
    cases ok <;> rfl
  exact ⟨key false, key true⟩
theorem len_MP {r : Nat} {f : Int → Option Value} {F : Asrt} {h : Hp} (hh : (MP r f * F) h) : ∃ n : Nat, lenM (.map (some r)) h = some (.int .i64 n) := by
  obtain ⟨es, c, _, _, hp⟩ := MP_elim hh
  refine ⟨es.length, ?_⟩
  unfold lenM
  simp only [pt_get hp]
  simp
theorem MapOk.set {es : List Ent} {c j : Nat} {v : Value} (h : MapOk es c) (hj : j < es.length) : MapOk (es.set j { es[j] with val := v }) c := by
  have hmap : ∀ {β : Type} (p : Ent → β), (∀ e v, p { e with val := v } = p e) → (es.set j { es[j] with val := v }).map p = es.map p := fun p hp => by
    rw [List.map_set, hp, ← List.getElem_map (f := p) (h := by simpa using hj)]
    exact List.set_getElem_self ..
  refine ⟨?_, ?_, fun e he => ?_⟩
  · have := h.keys
    rw [← List.pairwise_map (f := Ent.key) (R := fun a b => a ≠ b)] at this ⊢
    rwa [hmap Ent.key (fun _ _ => rfl)]
  · have := h.borns
    rw [← List.pairwise_map (f := Ent.born) (R := fun a b => a ≠ b)] at this ⊢
    rwa [hmap Ent.born (fun _ _ => rfl)]
  · rcases List.mem_or_eq_of_mem_set he with h1 | h1
    · exact h.lt e h1
    · rw [h1]; exact h.lt es[j] (List.getElem_mem hj)
theorem fidx_set {es : List Ent} {j : Nat} {v : Value} (hj : j < es.length) (k : Int) : fidx (es.set j { es[j] with val := v }) k = fidx es k := by
  induction es generalizing j with
  | nil => simp at hj
  | cons e es ih =>
    cases j with
    | zero => simp [fidx, List.findIdx?_cons]
    | succ j =>
      simp only [List.set_cons_succ, List.getElem_cons_succ, fidx, List.findIdx?_cons]
      have := ih (j := j) (by simpa using hj)
      unfold fidx at this
      rw [this]
theorem fidx_uniq {es : List Ent} {c i j : Nat} {k : Int} (h : MapOk es c) (hi : i < es.length) (hk : es[i].key = k) (hj : fidx es k = some j) : i = j := by
  unfold fidx at hj
  obtain ⟨hjl, h1, h2⟩ := List.findIdx?_eq_some_iff_getElem.1 hj
  have h1 : es[j].key = k := by simpa using h1
  rcases Nat.lt_trichotomy i j with hlt | heq | hgt
  · have := h2 i hlt
    simp [hk] at this
  · exact heq
  · exact absurd (h1.trans hk.symm) ((List.pairwise_iff_getElem.1 h.keys) j i hjl hi hgt)
theorem mu_MP {P : Program} {t tk te : TypeId} {q : IntKind} {r : Nat} {f : Int → Option Value} {F : Asrt} {h : Hp} {k : Int} {v : Value} {K : Value → Hp → Prop} (ht : P.underlying t = some (.map tk te)) (hk : P.underlying tk = some (.int q)) (hh : (MP r f * F) h)
    (hK : ∀ h', (MP r (fun x => if x = k then some v else f x) * F) h' → K undef h') : muW P t (.map (some r)) (.int .i64 k) v K h := by
  obtain ⟨es, c, hok, hf, hp⟩ := MP_elim hh
  have hb := pt_get hp
  unfold muW Instr.mapUpdate
  refine vc_rd_bind (by rw [rd_underlying]; exact ht) ?_
  simp only
  refine vc_rd_bind (rd_getObj hb) ?_
  simp only
  refine vc_rd_bind (rd_checkKey hk) ?_
  refine vc_rd_bind (rd_findKey hk) ?_
  cases hi : fidx es k with
  | none =>
    simp only [Option.bind_none]
    refine ⟨_, hb, rfl, hK _ ?_⟩
    refine MP_intro (es := es ++ [⟨k, v, c⟩]) (c := c + 1) ?_ ?_ ?_
    · have hnone : ∀ e ∈ es, e.key ≠ k := fun e he => by
        unfold fidx at hi
        rw [List.findIdx?_eq_none_iff] at hi
        simpa using hi e he
      refine ⟨?_, ?_, fun e he => ?_⟩
      · rw [List.pairwise_append]
        exact ⟨hok.keys, by simp, fun a ha b hb => by simp at hb; subst hb; exact hnone a ha⟩
      · rw [List.pairwise_append]
        exact ⟨hok.borns, by simp, fun a ha b hb => by simp at hb; subst hb; have := hok.lt a ha; simp only; omega⟩
      · rw [List.mem_append, List.mem_singleton] at he
        rcases he with he | rfl
        · have := hok.lt e he; omega
        · simp
    · intro x
      have hfx := hf x
      unfold mget at *
      rw [List.find?_append]
      by_cases hx : x = k
      · subst hx
        rw [if_pos rfl]
        have : es.find? (fun e => e.key == x) = none := by
          rw [List.find?_eq_none]
          intro e he
          unfold fidx at hi
          rw [List.findIdx?_eq_none_iff] at hi
          simpa using hi e he
        rw [this]
        simp
      · rw [if_neg hx, ← hfx]
        cases es.find? (fun e => e.key == x) with
        | some e => rfl
        | none =>
          have : (k == x) = false := by simpa using fun h => hx h.symm
          simp [this]
    · have := pt_upd (o' := .map ((es ++ [(⟨k, v, c⟩ : Ent)]).map Ent.mk').toArray (c + 1)) hp
      refine asr rfl ?_
      have e : (es.map Ent.mk').toArray.push { key := .int .i64 k, val := v, born := c } = ((es ++ [(⟨k, v, c⟩ : Ent)]).map Ent.mk').toArray := by simp [Ent.mk']
      rw [e]
      exact this
  | some j =>
    have hlt : j < es.length := by
      unfold fidx at hi
      exact (List.findIdx?_eq_some_iff_getElem.1 hi).1
    have hkey : es[j].key = k := by
      unfold fidx at hi
      have := (List.findIdx?_eq_some_iff_getElem.1 hi).2.1
      simpa using this
    simp only [Option.bind_some, List.getElem?_eq_getElem hlt, Option.map_some]
    have hks : (((es.map Ent.mk').toArray[j]?).map (·.key)).getD (.int .i64 k) = .int .i64 k := by
      simp [List.getElem?_eq_getElem hlt, Ent.mk', hkey]
    rw [hks]
    refine vc_rd_bind (s := Instr.keyThatStays (.int .i64 k) (.int .i64 k)) (a := .int .i64 k) ?_ ?_
    · unfold Instr.keyThatStays
      have : Instr.sameBits 10000 (.int .i64 k) (.int .i64 k) = true := by simp [Instr.sameBits]
      rw [this]
      rfl
    refine ⟨_, hb, rfl, hK _ ?_⟩
    refine MP_intro (es := es.set j { es[j] with val := v }) (c := c) (hok.set hlt) ?_ ?_
    · intro x
      rw [mget_fidx, fidx_set hlt]
      by_cases hx : x = k
      · subst hx
        rw [if_pos rfl, hi]
        simp [hlt]
      · rw [if_neg hx, ← hf x, mget_fidx]
        cases hq : fidx es x with
        | none => rfl
        | some i =>
          have hij : i ≠ j := by
            rintro rfl
            unfold fidx at hq
            have := (List.findIdx?_eq_some_iff_getElem.1 hq).2.1
            have : es[i].key = x := by simpa using this
            exact hx (this.symm.trans hkey)
          simp [List.getElem?_set_ne (fun h => hij h.symm)]
    · have := pt_upd (o' := .map ((es.set j { es[j] with val := v }).map Ent.mk').toArray c) hp
      have e : (es.map Ent.mk').toArray.modify j (fun e => { e with key := .int .i64 k, val := v }) = ((es.set j { es[j] with val := v }).map Ent.mk').toArray := by
        apply Array.ext'
        apply List.ext_getElem?
        intro i
        simp only [Array.getElem?_toList, Array.getElem?_modify, List.getElem?_toArray, List.getElem?_map, List.getElem?_set]
        by_cases hij : j = i
        · subst hij
          simp [hlt, Ent.mk', hkey]
        · simp [hij]
      rw [e]
      exact this
end Go.Sl
