/-
  Slices as lists of coded elements.
-/
import Derived.Test.YtdcoflglkfbpcaaV7
set_option linter.unusedVariables false
set_option linter.unusedSimpArgs false
namespace Go.Sl

theorem putL_toArray : ∀ (vs l : List Value) (off : Nat), off + vs.length ≤ l.length → putL l.toArray off vs = (l.take off ++ vs ++ l.drop (off + vs.length)).toArray
  | [], l, off, h => by simp [putL, List.take_append_drop]
  | v :: vs, l, off, h => by
    simp only [List.length_cons] at h
    rw [putL, List.setIfInBounds_toArray, putL_toArray vs (l.set off v) (off + 1) (by simp; omega)]
    congr 1
    rw [List.drop_set_of_lt (by omega), List.length_cons, List.take_set, List.take_succ_eq_append_getElem (by omega)]
    rw [List.set_append_right _ _ (by simp [List.length_take]; omega)]
    have : off - min off l.length = 0 := by omega
    simp [List.length_take, this, Nat.add_assoc, Nat.add_comm 1]

structure Enc (α : Type) where
  enc : α → List Value
  sz : Nat
  len : ∀ a, (enc a).length = sz
  one : ∀ a, (enc a).all Sl.one = true
  pos : 0 < sz

variable {α : Type} (e : Enc α)

def Enc.cs (l : List α) : List Value := l.flatMap e.enc

theorem Enc.cs_nil : e.cs [] = [] := rfl
theorem Enc.cs_cons (a : α) (l : List α) : e.cs (a :: l) = e.enc a ++ e.cs l := by simp [Enc.cs]
theorem Enc.cs_append (l m : List α) : e.cs (l ++ m) = e.cs l ++ e.cs m := by simp [Enc.cs]
theorem Enc.cs_length (l : List α) : (e.cs l).length = l.length * e.sz := by
  induction l with
  | nil => simp [Enc.cs]
  | cons a l ih => rw [e.cs_cons, List.length_append, ih, e.len, List.length_cons, Nat.succ_mul, Nat.add_comm]
theorem Enc.cs_one (l : List α) : (e.cs l).all Sl.one = true := by
  induction l with
  | nil => rfl
  | cons a l ih => rw [e.cs_cons, List.all_append, e.one, ih]; rfl

theorem Enc.cs_take : ∀ (l : List α) (i : Nat), (e.cs l).take (i * e.sz) = e.cs (l.take i)
  | [], i => by simp [Enc.cs]
  | a :: l, 0 => by simp [Enc.cs]
  | a :: l, i + 1 => by
    rw [e.cs_cons, List.take_succ_cons, e.cs_cons, ← Enc.cs_take l i, Nat.succ_mul, Nat.add_comm, List.take_append, e.len]
    rw [List.take_of_length_le (by rw [e.len]; omega)]
    congr 2; omega

theorem Enc.cs_drop : ∀ (l : List α) (i : Nat), (e.cs l).drop (i * e.sz) = e.cs (l.drop i)
  | [], i => by simp [Enc.cs]
  | a :: l, 0 => by simp [Enc.cs]
  | a :: l, i + 1 => by
    rw [e.cs_cons, List.drop_succ_cons, ← Enc.cs_drop l i, Nat.succ_mul, Nat.add_comm, List.drop_append, e.len]
    rw [List.drop_of_length_le (by rw [e.len]; omega), List.nil_append]
    congr 1; omega

/-- The cells of an array: the elements, then whatever. -/
def Enc.arr (l : List α) (post : List Value) : Array Value := (e.cs l ++ post).toArray

theorem Enc.arr_size (l : List α) (post : List Value) : (e.arr l post).size = l.length * e.sz + post.length := by
  simp [Enc.arr, e.cs_length]

theorem Enc.cs_get {l : List α} {i : Nat} {a : α} (h : l[i]? = some a) : (e.cs l).take ((i + 1) * e.sz) = (e.cs l).take (i * e.sz) ++ e.enc a := by
  obtain ⟨hi, ha⟩ := List.getElem?_eq_some_iff.1 h
  rw [e.cs_take, e.cs_take, List.take_succ_eq_append_getElem hi, ha, e.cs_append]
  simp [Enc.cs]

theorem Enc.arr_extract {l : List α} {post : List Value} {i n : Nat} (h : i + n ≤ l.length) : (e.arr l post).extract (i * e.sz) ((i + n) * e.sz) = (e.cs ((l.drop i).take n)).toArray := by
  apply Array.ext'
  rw [Array.toList_extract, List.extract_eq_take_drop]
  simp only [Enc.arr]
  have h1 : i * e.sz ≤ (e.cs l).length := by rw [e.cs_length]; exact Nat.mul_le_mul_right _ (by omega)
  rw [List.drop_append_of_le_length h1, e.cs_drop]
  have h2 : (i + n) * e.sz - i * e.sz = n * e.sz := by rw [Nat.add_mul]; omega
  rw [h2, List.take_append_of_le_length (by rw [e.cs_length]; exact Nat.mul_le_mul_right _ (by simp; omega)), e.cs_take]

theorem Enc.arr_elem {l : List α} {post : List Value} {i : Nat} {a : α} (h : l[i]? = some a) : (e.arr l post).extract (i * e.sz) (i * e.sz + e.sz) = (e.enc a).toArray := by
  obtain ⟨hi, ha⟩ := List.getElem?_eq_some_iff.1 h
  have := e.arr_extract (post := post) (l := l) (i := i) (n := 1) (by omega)
  rw [Nat.succ_mul] at this
  rw [this]
  congr 1
  rw [List.drop_eq_getElem_cons hi, ha]
  simp [Enc.cs]

theorem Enc.arr_cell {l : List α} {post : List Value} {i j : Nat} {a : α} (h : l[i]? = some a) (hj : j < e.sz) : (e.arr l post)[i * e.sz + j]? = (e.enc a)[j]? := by
  obtain ⟨hi, ha⟩ := List.getElem?_eq_some_iff.1 h
  have hsz : i * e.sz + e.sz ≤ l.length * e.sz := by rw [← Nat.succ_mul]; exact Nat.mul_le_mul_right _ hi
  have h1 := congrArg (fun x => x[j]?) (e.arr_elem (post := post) h)
  simp only [Array.getElem?_extract] at h1
  rw [if_pos (by rw [e.arr_size]; omega)] at h1
  rw [h1]
  simp

theorem Enc.arr_put {l m : List α} {post : List Value} {i : Nat} (h : i + m.length ≤ l.length) : putL (e.arr l post) (i * e.sz) (e.cs m) = e.arr (l.take i ++ m ++ l.drop (i + m.length)) post := by
  have h1 : i * e.sz + m.length * e.sz ≤ l.length * e.sz := by rw [← Nat.add_mul]; exact Nat.mul_le_mul_right _ h
  unfold Enc.arr
  rw [putL_toArray _ _ _ (by rw [List.length_append, e.cs_length, e.cs_length]; omega)]
  congr 1
  rw [e.cs_length, ← Nat.add_mul, List.take_append_of_le_length (by rw [e.cs_length]; omega), List.drop_append_of_le_length (by rw [e.cs_length, Nat.add_mul]; omega), e.cs_take, e.cs_drop, e.cs_append, e.cs_append]
  simp [List.append_assoc]

theorem Enc.arr_set {l : List α} {post : List Value} {i : Nat} (a : α) (h : i < l.length) : putL (e.arr l post) (i * e.sz) (e.enc a) = e.arr (l.set i a) post := by
  have := e.arr_put (l := l) (m := [a]) (post := post) (i := i) (by simp; omega)
  rw [show e.cs [a] = e.enc a by simp [Enc.cs]] at this
  rw [this]
  congr 1
  rw [List.set_eq_take_append_cons_drop, if_pos h]
  simp

theorem Enc.arr_app {l m : List α} {post : List Value} (h : m.length * e.sz ≤ post.length) : putL (e.arr l post) (l.length * e.sz) (e.cs m) = e.arr (l ++ m) (post.drop (m.length * e.sz)) := by
  unfold Enc.arr
  rw [putL_toArray _ _ _ (by rw [List.length_append, e.cs_length, e.cs_length]; omega)]
  congr 1
  rw [e.cs_length, List.take_append_of_le_length (by rw [e.cs_length]; omega), ← e.cs_length, List.take_length, List.drop_append, List.drop_of_length_le (by omega), e.cs_append, e.cs_length]
  simp [List.append_assoc]

/-- One cell of one element. -/
theorem Enc.arr_set1 {l : List α} {post : List Value} {i j : Nat} {a b : α} {v : Value} (h : l[i]? = some a) (hj : j < e.sz) (hb : (e.enc a).set j v = e.enc b) : (e.arr l post).setIfInBounds (i * e.sz + j) v = e.arr (l.set i b) post := by
  obtain ⟨hi, ha⟩ := List.getElem?_eq_some_iff.1 h
  have hsz : i * e.sz + e.sz ≤ l.length * e.sz := by rw [← Nat.succ_mul]; exact Nat.mul_le_mul_right _ hi
  rw [← e.arr_set b hi, ← hb]
  unfold Enc.arr
  rw [putL_toArray _ _ _ (by rw [List.length_append, e.cs_length, List.length_set, e.len]; omega), List.setIfInBounds_toArray]
  congr 1
  rw [List.length_set, e.len]
  have hlen : i * e.sz + j < (e.cs l ++ post).length := by rw [List.length_append, e.cs_length]; omega
  have htl : ((e.cs l ++ post).take (i * e.sz)).length = i * e.sz := by rw [List.length_take, List.length_append, e.cs_length]; omega
  have hcell : ∀ q, q < e.sz → (e.cs l ++ post)[i * e.sz + q]? = (e.enc a)[q]? := fun q hq => by
    have := e.arr_cell (post := post) h hq
    simpa [Enc.arr] using this
  generalize e.cs l ++ post = L at *
  apply List.ext_getElem?
  intro k
  rw [List.getElem?_set]
  by_cases h1 : i * e.sz + j = k
  · subst h1
    rw [if_pos rfl, if_pos hlen]
    rw [List.append_assoc, List.getElem?_append_right (by omega), htl, Nat.add_sub_cancel_left, List.getElem?_append_left (by rw [List.length_set, e.len]; exact hj), List.getElem?_set_self (by rw [e.len]; exact hj)]
  · rw [if_neg h1]
    by_cases h2 : k < i * e.sz
    · rw [List.append_assoc, List.getElem?_append_left (by omega), List.getElem?_take_of_lt h2]
    · by_cases h3 : k < i * e.sz + e.sz
      · obtain ⟨q, rfl⟩ : ∃ q, k = i * e.sz + q := ⟨k - i * e.sz, by omega⟩
        rw [hcell q (by omega), List.append_assoc, List.getElem?_append_right (by omega), htl, Nat.add_sub_cancel_left, List.getElem?_append_left (by rw [List.length_set, e.len]; omega), List.getElem?_set_ne (by omega)]
      · rw [List.getElem?_append_right (by rw [List.length_append, htl, List.length_set, e.len]; omega), List.length_append, htl, List.length_set, e.len, List.getElem?_drop]
        congr 1; omega

/-- A slice that starts at its array's head and owns it. -/
def SL (E : Nat) (sv : Value) (l : List α) : Asrt := fun h =>
  (sv = .slice none 0 0 ∧ l = [] ∧ h = Hp.emp) ∨
  ∃ r cap post, sv = .slice (some ⟨r, 0, none⟩) l.length cap ∧ l.length ≤ cap ∧ cap < 9223372036854775808 ∧ (cap - l.length) * e.sz ≤ post.length ∧ pt r (.cells (e.arr l post) E (0, 0)) h

theorem SL_elim {E : Nat} {sv : Value} {l : List α} {F : Asrt} {h : Hp} (hh : (SL e E sv l * F) h) :
    (sv = .slice none 0 0 ∧ l = [] ∧ F h) ∨
    ∃ r cap post, sv = .slice (some ⟨r, 0, none⟩) l.length cap ∧ l.length ≤ cap ∧ cap < 9223372036854775808 ∧ (cap - l.length) * e.sz ≤ post.length ∧ (pt r (.cells (e.arr l post) E (0, 0)) * F) h := by
  obtain ⟨a, b, d, rfl, p, q⟩ := hh
  rcases p with ⟨h1, h2, h3⟩ | ⟨r, cap, post, h1, h2, h2', h3, h4⟩
  · exact .inl ⟨h1, h2, by rw [h3, Hp.emp_add]; exact q⟩
  · exact .inr ⟨r, cap, post, h1, h2, h2', h3, a, b, d, rfl, h4, q⟩

theorem SL_nil {E : Nat} {F : Asrt} {h : Hp} (hh : F h) : (SL e E (.slice none 0 0) [] * F) h := by
  refine ⟨Hp.emp, h, Disj.emp_left h, by rw [Hp.emp_add], .inl ⟨rfl, rfl, rfl⟩, hh⟩

theorem SL_intro {E r n cap : Nat} {l : List α} {post : List Value} {F : Asrt} {h : Hp} (hn : n = l.length) (h1 : l.length ≤ cap) (h1' : cap < 9223372036854775808) (h2 : (cap - l.length) * e.sz ≤ post.length) (hh : (pt r (.cells (e.arr l post) E (0, 0)) * F) h) :
    (SL e E (.slice (some ⟨r, 0, none⟩) n cap) l * F) h :=
  star_left (fun _ p => .inr ⟨r, cap, post, by rw [hn], h1, h1', h2, p⟩) hh

theorem SL_one {E : Nat} {sv : Value} {l : List α} {F : Asrt} {h : Hp} (hh : (SL e E sv l * F) h) : one sv = true := by
  rcases SL_elim e hh with ⟨rfl, _⟩ | ⟨r, cap, post, rfl, _⟩ <;> rfl

theorem SL_len {E : Nat} {sv : Value} {l : List α} {F : Asrt} {h : Hp} (hh : (SL e E sv l * F) h) : lenV sv = some (.int .i64 l.length) := by
  rcases SL_elim e hh with ⟨rfl, rfl, _⟩ | ⟨r, cap, post, rfl, _⟩ <;> rfl

theorem SL_lt {E : Nat} {sv : Value} {l : List α} {F : Asrt} {h : Hp} (hh : (SL e E sv l * F) h) : l.length < 9223372036854775808 := by
  rcases SL_elim e hh with ⟨_, rfl, _⟩ | ⟨r, cap, post, _, h1, h2, _⟩
  · exact Nat.zero_lt_of_lt (by decide : 0 < 9223372036854775808)
  · omega

def encI : Enc Int := ⟨fun n => [.int .i64 n], 1, fun _ => rfl, fun _ => rfl, by omega⟩
def encB : Enc Bool := ⟨fun b => [.bool b], 1, fun _ => rfl, fun _ => rfl, by omega⟩
/-- Two ints: a run, a slot, a pair. -/
def enc2 : Enc (Int × Int) := ⟨fun p => [.int .i64 p.1, .int .i64 p.2], 2, fun _ => rfl, fun _ => rfl, by omega⟩

end Go.Sl
