/-
  Slices that begin anywhere in their array, which they own: elements, parts, append, make.
-/
import Derived.Test.YtdcoflglkfbpcaaV15
import Derived.Test.YtdcoflglkfbpcaaV16
set_option linter.unusedVariables false
set_option linter.unusedSimpArgs false
namespace Go.Sl

theorem putL_pre {pre X vs : List Value} {off : Nat} (h : off + vs.length ≤ X.length) : putL (pre ++ X).toArray (pre.length + off) vs = (pre ++ (putL X.toArray off vs).toList).toArray := by
  rw [putL_toArray _ _ _ (by rw [List.length_append]; omega), putL_toArray _ _ _ h]
  congr 1
  rw [List.take_length_add_append, show pre.length + off + vs.length = pre.length + (off + vs.length) by omega, List.drop_length_add_append]
  simp [List.append_assoc]

theorem set_pre {pre X : List Value} {off : Nat} {v : Value} : (pre ++ X).toArray.setIfInBounds (pre.length + off) v = (pre ++ (X.toArray.setIfInBounds off v).toList).toArray := by
  rw [List.setIfInBounds_toArray, List.setIfInBounds_toArray]
  congr 1
  rw [List.set_append_right _ _ (by omega)]
  congr 2
  omega

theorem get_pre {pre X : List Value} {off : Nat} : (pre ++ X).toArray[pre.length + off]? = X.toArray[off]? := by
  simp only [List.getElem?_toArray]
  rw [List.getElem?_append_right (by omega)]
  congr 1
  omega

theorem ext_pre {pre X : List Value} {a b : Nat} : (pre ++ X).toArray.extract (pre.length + a) (pre.length + b) = X.toArray.extract a b := by
  apply Array.ext'
  rw [Array.toList_extract, Array.toList_extract, List.extract_eq_take_drop, List.extract_eq_take_drop]
  show ((pre ++ X).drop _).take _ = (X.drop _).take _
  rw [List.drop_length_add_append]
  congr 1
  omega

/-- One cell each. -/
def enc1 {α : Type} (f : α → Value) (h : ∀ a, one (f a) = true) : Enc α := ⟨fun a => [f a], 1, fun _ => rfl, fun a => by simp [h], by omega⟩

variable {α : Type} (e : Enc α)

/-- A slice that owns its array, wherever in it it begins. -/
def SG (E : Nat) (sv : Value) (l : List α) : Asrt := fun h =>
  (sv = .slice none 0 0 ∧ l = [] ∧ h = Hp.emp) ∨
  ∃ r cap pre post, sv = .slice (some ⟨r, pre.length, none⟩) l.length cap ∧ l.length ≤ cap ∧ cap < 9223372036854775808 ∧ (cap - l.length) * e.sz ≤ post.length ∧ pt r (.cells (pre ++ (e.cs l ++ post)).toArray E (0, 0)) h

theorem SG_elim {E : Nat} {sv : Value} {l : List α} {F : Asrt} {h : Hp} (hh : (SG e E sv l * F) h) :
    (sv = .slice none 0 0 ∧ l = [] ∧ F h) ∨
    ∃ r cap pre post, sv = .slice (some ⟨r, pre.length, none⟩) l.length cap ∧ l.length ≤ cap ∧ cap < 9223372036854775808 ∧ (cap - l.length) * e.sz ≤ post.length ∧ (pt r (.cells (pre ++ (e.cs l ++ post)).toArray E (0, 0)) * F) h := by
  obtain ⟨a, b, d, rfl, p, q⟩ := hh
  rcases p with ⟨h1, h2, h3⟩ | ⟨r, cap, pre, post, h1, h2, h2', h3, h4⟩
  · exact .inl ⟨h1, h2, by rw [h3, Hp.emp_add]; exact q⟩
  · exact .inr ⟨r, cap, pre, post, h1, h2, h2', h3, a, b, d, rfl, h4, q⟩

theorem SG_nil {E : Nat} {F : Asrt} {h : Hp} (hh : F h) : (SG e E (.slice none 0 0) [] * F) h :=
  ⟨Hp.emp, h, Disj.emp_left h, by rw [Hp.emp_add], .inl ⟨rfl, rfl, rfl⟩, hh⟩

theorem SG_intro {E r n cap : Nat} {l : List α} {pre post : List Value} {o : Nat} {F : Asrt} {h : Hp} (ho : o = pre.length) (hn : n = l.length) (h1 : l.length ≤ cap) (h1' : cap < 9223372036854775808) (h2 : (cap - l.length) * e.sz ≤ post.length)
    (hh : (pt r (.cells (pre ++ (e.cs l ++ post)).toArray E (0, 0)) * F) h) : (SG e E (.slice (some ⟨r, o, none⟩) n cap) l * F) h :=
  star_left (fun _ p => .inr ⟨r, cap, pre, post, by rw [hn, ho], h1, h1', h2, p⟩) hh

theorem SG_of {E : Nat} {sv : Value} {l : List α} {F : Asrt} {h : Hp} (hh : (SL e E sv l * F) h) : (SG e E sv l * F) h := by
  rcases SL_elim e hh with ⟨rfl, rfl, hF⟩ | ⟨r, cap, post, rfl, h1, h2, h3, hp⟩
  · exact SG_nil e hF
  · exact SG_intro e (pre := []) rfl rfl h1 h2 h3 hp

theorem SG_one {E : Nat} {sv : Value} {l : List α} {F : Asrt} {h : Hp} (hh : (SG e E sv l * F) h) : one sv = true := by
  rcases SG_elim e hh with ⟨rfl, _⟩ | ⟨r, cap, pre, post, rfl, _⟩ <;> rfl

theorem SG_len {E : Nat} {sv : Value} {l : List α} {F : Asrt} {h : Hp} (hh : (SG e E sv l * F) h) : lenV sv = some (.int .i64 l.length) := by
  rcases SG_elim e hh with ⟨rfl, rfl, _⟩ | ⟨r, cap, pre, post, rfl, _⟩ <;> rfl

theorem SG_lt {E : Nat} {sv : Value} {l : List α} {F : Asrt} {h : Hp} (hh : (SG e E sv l * F) h) : l.length < 9223372036854775808 := by
  rcases SG_elim e hh with ⟨_, rfl, _⟩ | ⟨r, cap, pre, post, _, h1, h2, _⟩
  · exact Nat.zero_lt_of_lt (by decide : 0 < 9223372036854775808)
  · omega

/-- An element: where it lies, what it reads, what a store does. -/
theorem elG {E : Nat} {sv : Value} {l : List α} {i : Nat} {a : α} {F : Asrt} {h : Hp} (hh : (SG e E sv l * F) h) (hi : l[i]? = some a) (k : IntKind) :
    ∃ b o, iaS e.sz sv (.int k (i : Int)) = some (.pointer (some ⟨b, o, none⟩)) ∧ (∀ q v, (e.enc a)[q]? = some v → ld1 (.pointer (some ⟨b, o + q, none⟩)) h = some v) ∧
      ldN e.sz (.pointer (some ⟨b, o, none⟩)) h = some (.agg (e.enc a).toArray) ∧
      (∀ c K, (∀ h', (SG e E sv (l.set i c) * F) h' → K undef h') → stN e.sz (.pointer (some ⟨b, o, none⟩)) (.agg (e.enc c).toArray) K h) ∧
      (∀ q v c K, q < e.sz → (e.enc a).set q v = e.enc c → one v = true → (∀ h', (SG e E sv (l.set i c) * F) h' → K undef h') → st1 (.pointer (some ⟨b, o + q, none⟩)) v K h) := by
  obtain ⟨hlt, ha⟩ := List.getElem?_eq_some_iff.1 hi
  rcases SG_elim e hh with ⟨rfl, rfl, _⟩ | ⟨r, cap, pre, post, rfl, h1, h1', h2, hp⟩
  · simp at hlt
  · have hb := pt_get hp
    have hsz : (pre ++ (e.cs l ++ post)).toArray.size = pre.length + (l.length * e.sz + post.length) := by simp [e.cs_length]
    have hle : i * e.sz + e.sz ≤ l.length * e.sz := by rw [← Nat.succ_mul]; exact Nat.mul_le_mul_right _ hlt
    have key : ∀ b (h' : Hp), (pt r (.cells (pre ++ (e.cs (l.set i b) ++ post)).toArray E (0, 0)) * F) h' → (SG e E (.slice (some ⟨r, pre.length, none⟩) l.length cap) (l.set i b) * F) h' := fun b h' q =>
      SG_intro e rfl (by simp) (by simpa using h1) h1' (by simpa using h2) q
    refine ⟨r, pre.length + i * e.sz, ?_, ?_, ?_, ?_, ?_⟩
    · have := ia_mk (sz := e.sz) (b := r) (off := pre.length) (cap := cap) (k := k) (n := (i : Int)) (len := l.length) (by omega) (by omega)
      rwa [Int.toNat_natCast] at this
    · intro q v hq
      refine ld1_mk hb ?_
      have hqs : q < e.sz := by rw [← e.len a]; exact (List.getElem?_eq_some_iff.1 hq).1
      rw [Nat.add_assoc, get_pre]
      have := e.arr_cell (post := post) hi hqs
      rw [show (e.cs l ++ post).toArray = e.arr l post from rfl, this, hq]
    · rw [ldN_mk hb (by rw [hsz]; omega), Nat.add_assoc, ext_pre]
      have := e.arr_elem (post := post) hi
      rw [show (e.cs l ++ post).toArray = e.arr l post from rfl, this]
    · intro c K hk
      refine stN_mk hp (by simpa using e.one c) (by simp [e.len]) (by rw [hsz]; omega) fun h' hp' => hk h' (key c h' ?_)
      have h3 := putL_pre (pre := pre) (X := e.cs l ++ post) (vs := e.enc c) (off := i * e.sz) (by rw [List.length_append, e.cs_length, e.len]; omega)
      have h4 := e.arr_set (post := post) c hlt
      rw [show (e.cs l ++ post).toArray = e.arr l post from rfl, h4] at h3
      rw [show (e.enc c).toArray.toList = e.enc c from rfl, h3] at hp'
      exact hp'
    · intro q v c K hq hc hv hk
      refine st1_mk hp hv (by rw [hsz]; omega) fun h' hp' => hk h' (key c h' ?_)
      have h3 := set_pre (pre := pre) (X := e.cs l ++ post) (off := i * e.sz + q) (v := v)
      have h4 := e.arr_set1 (post := post) hi hq hc
      rw [show (e.cs l ++ post).toArray = e.arr l post from rfl, h4, ← Nat.add_assoc] at h3
      rw [h3] at hp'
      exact hp'

/-- A part of a slice, read: whatever holds the slice. -/
structure PartOf (E : Nat) (sv : Value) (l : List α) (sv' : Value) (m : List α) : Prop where
  shp : ∃ xa xc, sv' = .slice xa m.length xc
  src : ∀ (h : Hp) (F : Asrt), (SG e E sv l * F) h → srcOf e.sz m.length sv' h = some (e.cs m).toArray

theorem srcG {r n cc xn xc i E : Nat} {l : List α} {pre post : List Value} {h : Hp} (hb : h r = some (.cells (pre ++ (e.cs l ++ post)).toArray E (0, 0))) (hi : i + n ≤ l.length) (hc : l.length ≤ cc) :
    srcOf e.sz n (.slice (some ⟨r, cut pre.length i e.sz cc, none⟩) xn xc) h = some (e.cs ((l.drop i).take n)).toArray := by
  unfold srcOf Hp.row cut
  simp only [hb, Option.bind_some]
  have hsz : i * e.sz + n * e.sz ≤ l.length * e.sz := by rw [← Nat.add_mul]; exact Nat.mul_le_mul_right _ hi
  unfold rowIn
  by_cases hq : cc = i
  · have hn : n = 0 := by omega
    subst hn
    rw [if_pos hq]
    simp [Enc.cs]
  · rw [if_neg hq]
    have h1 : decide (pre.length + i * e.sz + n * e.sz ≤ (pre ++ (e.cs l ++ post)).toArray.size) = true := by rw [decide_eq_true_eq]; simp [e.cs_length]; omega
    simp only [h1, Option.isNone_none, Bool.and_self, if_true]
    have := e.arr_extract (post := post) hi
    rw [Nat.add_mul] at this
    rw [Nat.add_assoc, ext_pre, show (e.cs l ++ post).toArray = e.arr l post from rfl, this]

theorem part_from {E : Nat} {sv : Value} {l : List α} {F : Asrt} {h : Hp} {i : Nat} (hh : (SG e E sv l * F) h) (hi : i ≤ l.length) (k : IntKind) :
    ∃ sv', slV e.sz sv (some (.int k (i : Int))) none none = some sv' ∧ PartOf e E sv l sv' (l.drop i) := by
  rcases SG_elim e hh with ⟨rfl, rfl, _⟩ | ⟨r, cap, pre, post, rfl, h1, h1', h2, hp⟩
  · obtain rfl : i = 0 := by simpa using hi
    refine ⟨.slice none 0 0, rfl, ⟨none, 0, by simp⟩, fun h F _ => by simp [srcOf, Enc.cs]⟩
  · refine ⟨_, sl_from hi, ⟨_, _, by rw [List.length_drop]⟩, fun h F hh => ?_⟩
    rcases SG_elim e hh with ⟨h, _⟩ | ⟨r', cap', pre', post', hs, q1, _, q2, hp'⟩
    · cases h
    · simp only [Value.slice.injEq, Option.some.injEq, Addr.mk.injEq] at hs
      obtain ⟨⟨rfl, hpre, _⟩, _, rfl⟩ := hs
      rw [hpre]
      have := srcG e (i := i) (n := (l.drop i).length) (xn := l.length - i) (xc := cap - i) (pt_get hp') (by rw [List.length_drop]; omega) q1
      rwa [List.take_length] at this

theorem part_to {E : Nat} {sv : Value} {l : List α} {F : Asrt} {h : Hp} {j : Nat} (hh : (SG e E sv l * F) h) (hj : j ≤ l.length) (k : IntKind) :
    ∃ sv', slV e.sz sv none (some (.int k (j : Int))) none = some sv' ∧ PartOf e E sv l sv' (l.take j) := by
  rcases SG_elim e hh with ⟨rfl, rfl, _⟩ | ⟨r, cap, pre, post, rfl, h1, h1', h2, hp⟩
  · obtain rfl : j = 0 := by simpa using hj
    refine ⟨.slice none 0 0, rfl, ⟨none, 0, by simp⟩, fun h F _ => by simp [srcOf, Enc.cs]⟩
  · have hlen : (l.take j).length = j := by rw [List.length_take]; omega
    refine ⟨_, sl_to (by omega), ⟨_, _, by rw [hlen]⟩, fun h F hh => ?_⟩
    rcases SG_elim e hh with ⟨h, _⟩ | ⟨r', cap', pre', post', hs, q1, _, q2, hp'⟩
    · cases h
    · simp only [Value.slice.injEq, Option.some.injEq, Addr.mk.injEq] at hs
      obtain ⟨⟨rfl, hpre, _⟩, _, rfl⟩ := hs
      rw [hpre, hlen]
      have := srcG e (i := 0) (n := j) (cc := l.length + 1) (xn := j) (xc := cap) (pt_get hp') (by omega) (by omega)
      simpa [cut] using this

theorem part_all {E : Nat} {sv : Value} {l : List α} {F : Asrt} {h : Hp} (hh : (SG e E sv l * F) h) : PartOf e E sv l sv l := by
  rcases SG_elim e hh with ⟨rfl, rfl, _⟩ | ⟨r, cap, pre, post, rfl, h1, h1', h2, hp⟩
  · exact ⟨⟨none, 0, rfl⟩, fun h F _ => by simp [srcOf, Enc.cs]⟩
  · refine ⟨⟨_, _, rfl⟩, fun h F hh => ?_⟩
    rcases SG_elim e hh with ⟨h, _⟩ | ⟨r', cap', pre', post', hs, q1, _, q2, hp'⟩
    · cases h
    · simp only [Value.slice.injEq, Option.some.injEq, Addr.mk.injEq] at hs
      obtain ⟨⟨rfl, hpre, _⟩, _, rfl⟩ := hs
      rw [hpre]
      have := srcG e (i := 0) (n := l.length) (cc := l.length + 1) (xn := l.length) (xc := cap) (pt_get hp') (by omega) (by omega)
      simpa [cut] using this

/-- What is before a part, or behind it, is not looked at any more. -/
theorem to_from {E : Nat} {sv : Value} {l : List α} {F : Asrt} {h : Hp} {i : Nat} (hh : (SG e E sv l * F) h) (hi : i ≤ l.length) (k : IntKind) :
    ∃ sv', slV e.sz sv (some (.int k (i : Int))) none none = some sv' ∧ (SG e E sv' (l.drop i) * F) h := by
  rcases SG_elim e hh with ⟨rfl, rfl, hF⟩ | ⟨r, cap, pre, post, rfl, h1, h1', h2, hp⟩
  · obtain rfl : i = 0 := by simpa using hi
    exact ⟨.slice none 0 0, rfl, SG_nil e hF⟩
  · refine ⟨_, sl_from hi, ?_⟩
    have hl : (l.drop i).length = l.length - i := List.length_drop
    by_cases hc : cap = i
    · have hli : l.length = i := by omega
      have hd : l.drop i = [] := List.drop_of_length_le (by omega)
      refine SG_intro e (pre := pre) (post := e.cs l ++ post) (by simp [cut, hc]) hl.symm (by omega) (by omega) (by rw [hd]; simp [hc]) ?_
      rw [hd]
      exact hp
    · refine SG_intro e (pre := pre ++ e.cs (l.take i)) (post := post) (by rw [cut, if_neg hc, List.length_append, e.cs_length, List.length_take, Nat.min_eq_left hi]) hl.symm (by omega) (by omega) ?_ ?_
      · rw [hl, show cap - i - (l.length - i) = cap - l.length by omega]; exact h2
      · have : pre ++ e.cs (l.take i) ++ (e.cs (l.drop i) ++ post) = pre ++ (e.cs l ++ post) := by
          rw [List.append_assoc, ← List.append_assoc (e.cs (l.take i)), ← e.cs_append, List.take_append_drop]
        rw [this]; exact hp

theorem to_to {E : Nat} {sv : Value} {l : List α} {F : Asrt} {h : Hp} {j : Nat} (hh : (SG e E sv l * F) h) (hj : j ≤ l.length) (k : IntKind) :
    ∃ sv', slV e.sz sv none (some (.int k (j : Int))) none = some sv' ∧ (SG e E sv' (l.take j) * F) h := by
  rcases SG_elim e hh with ⟨rfl, rfl, hF⟩ | ⟨r, cap, pre, post, rfl, h1, h1', h2, hp⟩
  · obtain rfl : j = 0 := by simpa using hj
    exact ⟨.slice none 0 0, rfl, SG_nil e hF⟩
  · refine ⟨_, sl_to (by omega), ?_⟩
    have hl : (l.take j).length = j := by rw [List.length_take]; omega
    refine SG_intro e (pre := pre) (post := e.cs (l.drop j) ++ post) rfl hl.symm (by omega) h1' ?_ ?_
    · rw [hl, List.length_append, e.cs_length, List.length_drop, show cap - j = (l.length - j) + (cap - l.length) by omega, Nat.add_mul]; omega
    · have : pre ++ (e.cs (l.take j) ++ (e.cs (l.drop j) ++ post)) = pre ++ (e.cs l ++ post) := by
        rw [← List.append_assoc (e.cs (l.take j)), ← e.cs_append, List.take_append_drop]
      rw [this]; exact hp

/-- Append. -/
theorem ap_SG {P : Program} {ts : Array TypeId} {t t0 t1 E sz bytes : Nat} (ok : ElOk P t0 E sz bytes) (h0 : ts[0]? = some t0) (h1 : ts[1]? = some t1) (hd : noInt P t1) (he : sz = e.sz) (hbp : 0 < bytes)
    {sv : Value} {l m : List α} {F : Asrt} {K : Value → Hp → Prop} {h : Hp} {xa : Option Addr} {n xc : Nat} (hh : (SG e E sv l * (F * tt)) h)
    (hsrc : srcOf sz n (.slice xa n xc) h = some (e.cs m).toArray) (hm : n = m.length) (hb : (2 * (l.length + m.length) + 256) * bytes ≤ 281474976710656)
    (hk : ∀ v h', (SG e E v (l ++ m) * (F * tt)) h' → K v h') : apW P ts t sv (.slice xa n xc) K h := by
  obtain ⟨i, z, okk, hsz, hby, _⟩ := ok.ok
  clear ok
  have ok := okk ts h0
  subst hsz; subst hby; subst hm
  have hcs : (e.cs m).toArray.size = m.length * i.size := by rw [he]; simp [e.cs_length]
  obtain ⟨d, hd, hn1⟩ := hd
  rcases SG_elim e hh with ⟨rfl, rfl, hF⟩ | ⟨r, cap, pre, post, rfl, h2, h3, h4, hp⟩
  · rcases Nat.eq_zero_or_pos m.length with hm0 | hm0
    · rw [hm0] at hsrc ⊢
      refine apW_nil ok h1 ⟨d, hd, hn1⟩ hsrc ?_
      have : m = [] := List.length_eq_zero_iff.1 hm0
      subst this
      exact hk _ _ (SG_nil e hF)
    · refine apW_grow ok h1 hd hn1 (old := #[]) hF (by omega) (by simpa using hb) hbp rfl hsrc ?_
      intro cap' r spare h' hc1 hc2 hsp hp'
      refine hk _ _ ?_
      have hq := SG_intro e (l := m) (pre := []) (o := 0) (post := spare.toList) (n := m.length) rfl rfl (by omega) hc2 (by rw [Array.length_toList (xs := spare), hsp, ← he]; simp) (h := h') (E := E) (r := r) (F := F * tt) ?_
      · simpa using hq
      · refine asr ?_ hp'
        congr 3
        apply Array.ext'
        simp
  · by_cases hfit : l.length + m.length ≤ cap
    · have hsz : m.length * e.sz ≤ post.length := Nat.le_trans (Nat.mul_le_mul_right _ (by omega)) h4
      refine apW_fit ok h1 hd hn1 hp hfit hsrc (e.cs_one m) hcs (by simp only [List.size_toArray, List.length_append, e.cs_length]; rw [he, Nat.add_mul]; omega) ?_
      intro h' hp'
      refine hk _ _ ?_
      have hlen : (l ++ m).length = l.length + m.length := by simp
      refine SG_intro e rfl (by rw [hlen]) (by omega) h3 (post := post.drop (m.length * e.sz)) ?_ ?_
      · rw [List.length_drop, hlen, show cap - (l.length + m.length) = cap - l.length - m.length by omega, Nat.sub_mul]
        omega
      · rw [he, show (e.cs m).toArray.toList = e.cs m from rfl, putL_pre (by rw [List.length_append, e.cs_length, e.cs_length]; omega), show (e.cs l ++ post).toArray = e.arr l post from rfl,
          e.arr_app (by omega)] at hp'
        exact hp'
    · have hold : srcOf i.size l.length (.slice (some ⟨r, pre.length, none⟩) l.length cap) h = some (e.cs l).toArray := by
        have := srcG e (i := 0) (n := l.length) (cc := l.length + 1) (xn := l.length) (xc := cap) (pt_get hp) (by omega) (by omega)
        rw [he]
        simpa [cut] using this
      refine apW_grow ok h1 hd hn1 hp (by omega) hb hbp hold hsrc ?_
      intro cap' r' spare h' hc1 hc2 hsp hp'
      refine hk _ _ ?_
      have hlen : (l ++ m).length = l.length + m.length := by simp
      refine SG_intro e (pre := []) (o := 0) rfl (by rw [hlen]) (by omega) hc2 (post := spare.toList) (by rw [Array.length_toList (xs := spare), hsp, ← he, hlen]; exact Nat.le_refl _) ?_
      have : (e.cs l).toArray ++ (e.cs m).toArray ++ spare = ([] ++ (e.cs (l ++ m) ++ spare.toList)).toArray := by
        apply Array.ext'
        simp [e.cs_append]
      rw [this] at hp'
      have h5 : (pt r' (.cells ([] ++ (e.cs (l ++ m) ++ spare.toList)).toArray E (0, 0)) * (F * tt * pt r (.cells (pre ++ (e.cs l ++ post)).toArray E (0, 0)))) h' := asr (by ac_rfl) hp'
      refine star_right (fun x hx => ?_) h5
      have h6 : (F * (tt * pt r (.cells (pre ++ (e.cs l ++ post)).toArray E (0, 0)))) x := asr (by ac_rfl) hx
      exact to_tt h6

/-- Append of what a part of some slice has. -/
theorem ap_part {P : Program} {ts : Array TypeId} {t t0 t1 E E' sz bytes : Nat} (ok : ElOk P t0 E sz bytes) (h0 : ts[0]? = some t0) (h1 : ts[1]? = some t1) (hd : noInt P t1) (he : sz = e.sz) (hbp : 0 < bytes)
    {sv sw sx : Value} {l m lw : List α} {F G : Asrt} {K : Value → Hp → Prop} {h : Hp} (hh : (SG e E sv l * (F * tt)) h) (hp : PartOf e E' sw lw sx m) (hw : (SG e E' sw lw * G) h) (hb : (2 * (l.length + m.length) + 256) * bytes ≤ 281474976710656)
    (hk : ∀ v h', (SG e E v (l ++ m) * (F * tt)) h' → K v h') : apW P ts t sv sx K h := by
  obtain ⟨⟨xa, xc, rfl⟩, hs⟩ := hp
  exact ap_SG e ok h0 h1 hd he hbp hh (he ▸ hs h G hw) rfl hb hk

/-- Append of a few that were just made. -/
theorem ap_new {P : Program} {ts : Array TypeId} {t t0 t1 E sz bytes : Nat} (ok : ElOk P t0 E sz bytes) (h0 : ts[0]? = some t0) (h1 : ts[1]? = some t1) (hd : noInt P t1) (he : sz = e.sz) (hbp : 0 < bytes)
    {sv : Value} {l m : List α} {F : Asrt} {K : Value → Hp → Prop} {h : Hp} {r n xc : Nat} {cs : Array Value} {E' : TypeId} (hh : (pt r (.cells cs E' (0, 0)) * (SG e E sv l * (F * tt))) h) (hcs : cs = (e.cs m).toArray) (hn : n = m.length)
    (hb : (2 * (l.length + m.length) + 256) * bytes ≤ 281474976710656) (hk : ∀ v h', (SG e E v (l ++ m) * (F * tt)) h' → K v h') : apW P ts t sv (.slice (some ⟨r, 0, none⟩) n xc) K h := by
  subst hcs; subst hn
  have hs : srcOf sz m.length (.slice (some ⟨r, 0, none⟩) m.length xc) h = some (e.cs m).toArray := by
    rw [he]
    have := src_all e (l := m) (post := []) (b := r) (n := m.length) (cap := xc) (h := h) (E := E') (by rw [show e.arr m [] = (e.cs m).toArray by simp [Enc.arr]]; exact pt_get hh) (Nat.le_refl _) m.length
    rwa [List.take_length] at this
  refine ap_SG e ok h0 h1 hd he hbp (F := F) ?_ hs rfl hb hk
  have h2 : (SG e E sv l * (F * (tt * pt r (.cells (e.cs m).toArray E' (0, 0))))) h := asr (by ac_rfl) hh
  exact star_right (fun x hx => to_tt hx) h2

/-- A slice of zeros, made. -/
theorem ms_SG {bytes E sz : Nat} {zero : Array Value} {z : α} {n : Nat} {k k' : IntKind} {K : Value → Hp → Prop} {h : Hp} {F : Asrt} (hF : F h) (hz : zero = (e.enc z).toArray) (hs : sz = e.sz) (hb : n * bytes ≤ 140737488355328) (hn : n < 9223372036854775808)
    (hk : ∀ v h', (SG e E v (List.replicate n z) * F) h' → K v h') : vA (msV bytes sz E zero (.int k n) (.int k' n)) K h := by
  subst hs; subst hz
  have hc : (0 : Int) ≤ n ∧ (n : Int) ≤ n ∧ (n : Int) * bytes ≤ 140737488355328 ∧ (n : Int) ≤ 9223372036854775807 := by
    have : ((n * bytes : Nat) : Int) = (n : Int) * bytes := Int.natCast_mul _ _
    omega
  show vA (if _ then _ else none) K h
  rw [if_pos hc, vA_some]
  intro r hr
  refine hk _ _ ?_
  have hsz : (e.enc z).length = e.sz := e.len z
  have hcell : ((Array.range ((n : Int).toNat * e.sz)).map fun i => (e.enc z).toArray[i % (e.enc z).toArray.size]!) = ([] ++ (e.cs (List.replicate n z) ++ [])).toArray := by
    rw [Int.toNat_natCast]
    apply Array.ext'
    simp only [Array.toList_map, Array.toList_range, List.nil_append, List.append_nil, List.size_toArray, hsz]
    clear hc hn hb hr hk hF
    induction n with
    | zero => simp [Enc.cs]
    | succ n ih =>
      rw [List.replicate_succ', e.cs_append, ← ih, Nat.succ_mul, List.range_add, List.map_append]
      congr 1
      rw [show e.cs [z] = e.enc z by simp [Enc.cs], List.map_map]
      apply List.ext_getElem?
      intro q
      rw [List.getElem?_map]
      by_cases hq : q < e.sz
      · rw [List.getElem?_range hq]
        simp only [Option.map_some, Function.comp_apply]
        rw [show n * e.sz + q = q + e.sz * n by rw [Nat.mul_comm]; omega, Nat.add_mul_mod_self_left, Nat.mod_eq_of_lt hq]
        rw [getElem!_pos (e.enc z).toArray q (by simpa [hsz] using hq)]
        simp [List.getElem?_eq_getElem (show q < (e.enc z).length by omega)]
      · rw [List.getElem?_eq_none (by simpa using hq), List.getElem?_eq_none (by omega)]
        rfl
  rw [hcell]
  refine SG_intro e (pre := []) (post := []) rfl (by simp) (by simp) (by omega) (by simp) (pt_new hF hr)

/-- The only cell of an element. -/
theorem el1 {f : α → Value} {hf : ∀ a, one (f a) = true} {E : Nat} {sv : Value} {l : List α} {i : Nat} {a : α} {F : Asrt} {h : Hp} (hh : (SG (enc1 f hf) E sv l * F) h) (hi : l[i]? = some a) (k : IntKind) :
    ∃ p, iaS 1 sv (.int k (i : Int)) = some p ∧ ld1 p h = some (f a) ∧ (∀ c K, (∀ h', (SG (enc1 f hf) E sv (l.set i c) * F) h' → K undef h') → st1 p (f c) K h) := by
  obtain ⟨b, o, e1, e2, _, _, e5⟩ := elG (enc1 f hf) hh hi k
  exact ⟨_, e1, e2 0 _ rfl, fun c K hk => e5 0 (f c) c K Nat.one_pos rfl (hf c) hk⟩

end Go.Sl
