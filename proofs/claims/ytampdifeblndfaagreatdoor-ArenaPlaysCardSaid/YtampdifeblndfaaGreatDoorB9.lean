/-
  Texts of the proof, in one file: V23, V24, V25, V26, V27, V28.
-/
import Derived.Test.YtampdifeblndfaaGreatDoorB6
import Derived.Laws.Bits64b
import Derived.Lib.TrailingZeros
set_option linter.unusedVariables false
set_option linter.unusedSimpArgs false
/-
  Sets of small numbers as one word: its bits as a list.
-/
namespace Go.Sl
def wd : List Bool → Nat
  | [] => 0
  | b :: l => b.toNat + 2 * wd l
theorem wd_lt : ∀ l : List Bool, wd l < 2 ^ l.length
  | [] => by simp [wd]
  | b :: l => by
    have := wd_lt l
    rw [wd, List.length_cons, Nat.pow_succ]
    cases b <;> simp <;> omega
theorem wd_64 {l : List Bool} (h : l.length ≤ 64) : wd l < 18446744073709551616 := by
  have h1 := wd_lt l
  have h2 : 2 ^ l.length ≤ 2 ^ 64 := Nat.pow_le_pow_right (by omega) h
  omega
theorem wd_div : ∀ (l : List Bool) (i : Nat), wd l / 2 ^ i = wd (l.drop i)
  | l, 0 => by simp
  | [], i + 1 => by simp [wd]
  | b :: l, i + 1 => by
    rw [List.drop_succ_cons, ← wd_div l i, Nat.pow_succ, Nat.mul_comm, ← Nat.div_div_eq_div_mul]
    congr 1
    rw [wd]
    cases b <;> simp <;> omega
theorem wd_mod (l : List Bool) : wd l % 2 = (l.headD false).toNat := by
  cases l with
  | nil => rfl
  | cons b l => rw [wd]; cases b <;> simp <;> omega
theorem wd_bit (l : List Bool) (i : Nat) : wd l / 2 ^ i % 2 = (l[i]?.getD false).toNat := by
  rw [wd_div, wd_mod]
  congr 1
  cases h : l.drop i with
  | nil =>
    have : l.length ≤ i := by simpa using h
    rw [List.getElem?_eq_none this]; rfl
  | cons b t =>
    have := congrArg List.head? h
    rw [List.head?_drop] at this
    rw [this]; rfl
theorem wd_testBit : ∀ (l : List Bool) (i : Nat), (wd l).testBit i = l[i]?.getD false
  | [], i => by simp [wd]
  | b :: l, 0 => by
    simp only [wd, Nat.testBit_zero, List.getElem?_cons_zero, Option.getD_some]
    cases b <;> simp <;> omega
  | b :: l, i + 1 => by
    rw [Nat.testBit_succ, List.getElem?_cons_succ, ← wd_testBit l i]
    congr 1
    rw [wd]
    cases b <;> simp <;> omega
theorem wd_xor {l : List Bool} {i : Nat} (h : i < l.length) : wd l ^^^ 2 ^ i = wd (l.set i (!l[i])) := by
  apply Nat.eq_of_testBit_eq
  intro j
  rw [Nat.testBit_xor, wd_testBit, wd_testBit, Nat.testBit_two_pow, List.getElem?_set]
  by_cases hj : i = j
  · subst hj
    simp [h]
  · simp [hj]
theorem wd_pad (l : List Bool) (k : Nat) : wd (l ++ List.replicate k false) = wd l := by
  apply Nat.eq_of_testBit_eq
  intro j
  rw [wd_testBit, wd_testBit]
  by_cases hj : j < l.length
  · rw [List.getElem?_append_left hj]
  · rw [List.getElem?_append_right (by omega), List.getElem?_eq_none (l := l) (by omega), List.getElem?_replicate]
    split <;> rfl
theorem wd_not : ∀ l : List Bool, wd (l.map not) + wd l + 1 = 2 ^ l.length
  | [] => by simp [wd]
  | b :: l => by
    have := wd_not l
    rw [List.map_cons, wd, wd, List.length_cons, Nat.pow_succ]
    cases b <;> simp <;> omega
theorem wd_zero : ∀ {l : List Bool}, wd l = 0 ↔ ∀ b ∈ l, b = false
  | [] => by simp [wd]
  | b :: l => by
    rw [wd, List.forall_mem_cons, ← wd_zero (l := l)]
    cases b <;> simp <;> omega
theorem ctzFrom_wd : ∀ (f : Nat) (l : List Bool), l.length ≤ f → wd l ≠ 0 → Lib.ctzFrom f (wd l) = l.findIdx id
  | f, [], _, h => by simp [wd] at h
  | 0, b :: l, hl, _ => by simp at hl
  | f + 1, b :: l, hl, h => by
    rw [Lib.ctzFrom, List.findIdx_cons]
    have h2 : wd (b :: l) / 2 = wd l := by rw [wd]; cases b <;> simp <;> omega
    have h1 : wd (b :: l) % 2 = b.toNat := by rw [wd]; cases b <;> simp <;> omega
    rw [h1, h2]
    cases b with
    | true => rfl
    | false =>
      have := ctzFrom_wd f l (by simpa using hl) (by rw [wd] at h; simp at h; omega)
      simp [this]; omega
theorem ctz_wd {l : List Bool} (hl : l.length ≤ 64) (h : wd l ≠ 0) : Lib.ctz 64 (wd l) = l.findIdx id := by
  rw [Lib.ctz, if_neg h, ctzFrom_wd 64 l hl h]
theorem shr_wd {l : List Bool} {k : IntKind} {i : Nat} (hi : i ≤ 64) : binV .shr (.int .u64 (wd l)) (.int k (i : Int)) = some (.int .u64 (wd (l.drop i))) := by
  show (if (i : Int) < 0 then none else some (Value.int .u64 (Int.fdiv (wd l) (2 ^ (min (i : Int).toNat 64))))) = _
  rw [if_neg (by omega), Int.toNat_natCast, Nat.min_eq_left hi, ← wd_div]
  congr 2
  rw [Int.fdiv_eq_ediv_of_nonneg _ (by exact_mod_cast Nat.zero_le _)]
  norm_cast
theorem and_one (n : Nat) (h : n < 18446744073709551616) : binV .and (.int .u64 (n : Int)) (.int .u64 1) = some (.int .u64 ((n % 2 : Nat) : Int)) := by
  show some (Value.int .u64 (bits .and .u64 (n : Int) ((1 : Nat) : Int))) = _
  rw [bits_and_u64_nat n 1 h (by omega), Nat.and_one_is_mod]
theorem xor_nat (a b : Nat) (ha : a < 18446744073709551616) (hb : b < 18446744073709551616) : binV .xor (.int .u64 (a : Int)) (.int .u64 (b : Int)) = some (.int .u64 ((a ^^^ b : Nat) : Int)) := by
  have hx : a ^^^ b < 2 ^ 64 := Nat.xor_lt_two_pow (by omega) (by omega)
  have h1 : (BitVec.ofInt 64 (a : Int)).toNat = a := by
    rw [BitVec.ofInt_natCast, BitVec.toNat_ofNat]; exact Nat.mod_eq_of_lt (by omega)
  have h2 : (BitVec.ofInt 64 (b : Int)).toNat = b := by
    rw [BitVec.ofInt_natCast, BitVec.toNat_ofNat]; exact Nat.mod_eq_of_lt (by omega)
  show some (Value.int .u64 (IntKind.u64.wrap ((BitVec.ofInt 64 (a : Int) ^^^ BitVec.ofInt 64 (b : Int)).toNat : Int))) = _
  rw [BitVec.toNat_xor, h1, h2, IntKind.wrap_u64]
  congr 2
  omega
theorem shl_one {k : IntKind} {i : Nat} (hi : i < 64) : binV .shl (.int .u64 1) (.int k (i : Int)) = some (.int .u64 ((2 ^ i : Nat) : Int)) := by
  have h1 : 2 ^ i < 2 ^ 64 := Nat.pow_lt_pow_right (by omega) hi
  show (if (i : Int) < 0 then none else some (Value.int .u64 (IntKind.u64.wrap (1 * 2 ^ (min (i : Int).toNat 64))))) = _
  rw [if_neg (by omega), Int.toNat_natCast, Nat.min_eq_left (by omega), IntKind.wrap_u64]
  congr 2
  have : ((2 ^ i : Nat) : Int) = (2 : Int) ^ i := by norm_cast
  rw [← this, Int.one_mul]
  have h2 : (2 : Nat) ^ 64 = 18446744073709551616 := by decide
  rw [h2] at h1
  generalize 2 ^ i = n at *
  omega
theorem xor_wd {l : List Bool} {i : Nat} (h : i < l.length) (hl : l.length ≤ 64) : binV .xor (.int .u64 (wd l)) (.int .u64 ((2 ^ i : Nat) : Int)) = some (.int .u64 (wd (l.set i (!l[i])))) := by
  have h1 : 2 ^ i < 2 ^ 64 := Nat.pow_lt_pow_right (by omega) (by omega)
  rw [xor_nat _ _ (wd_64 hl) (by omega), wd_xor h]
def pad (l : List Bool) : List Bool := l ++ List.replicate (64 - l.length) false
theorem pad_len {l : List Bool} (h : l.length ≤ 64) : (pad l).length = 64 := by simp [pad]; omega
theorem pad_wd (l : List Bool) : wd (pad l) = wd l := wd_pad _ _
theorem not_wd {l : List Bool} (h : l.length ≤ 64) : unV .xor (.int .u64 (wd l)) = some (.int .u64 (wd ((pad l).map not))) := by
  have h1 := wd_not (pad l)
  rw [pad_len h, pad_wd] at h1
  have h2 := wd_64 h
  have e1 : (BitVec.ofInt 64 (18446744073709551615 : Int)).toNat = 18446744073709551615 := by decide
  have e2 : (BitVec.ofInt 64 (wd l : Int)).toNat = wd l := by
    rw [BitVec.ofInt_natCast, BitVec.toNat_ofNat]; exact Nat.mod_eq_of_lt (by omega)
  have e3 : (18446744073709551615 ^^^ wd l) = wd ((pad l).map not) := by
    apply Nat.eq_of_testBit_eq
    intro j
    rw [Nat.testBit_xor, wd_testBit, wd_testBit, List.getElem?_map]
    have e4 : (18446744073709551615 : Nat) = 2 ^ 64 - 1 := by decide
    rw [e4, Nat.testBit_two_pow_sub_one]
    by_cases hj : j < 64
    · have hp : j < (pad l).length := by rw [pad_len h]; exact hj
      rw [List.getElem?_eq_getElem hp]
      have : (pad l)[j] = l[j]?.getD false := by
        have h3 := List.getElem?_eq_getElem hp
        have h4 : (pad l)[j]? = some (l[j]?.getD false) := by
          unfold pad
          by_cases hjl : j < l.length
          · rw [List.getElem?_append_left hjl, List.getElem?_eq_getElem hjl]; rfl
          · rw [List.getElem?_append_right (by omega), List.getElem?_eq_none (l := l) (by omega), List.getElem?_replicate, if_pos (by omega)]; rfl
        rw [h3] at h4
        exact Option.some.inj h4
      simp [this, hj]
    · have h3 : (pad l).length ≤ j := by rw [pad_len h]; omega
      rw [List.getElem?_eq_none h3, List.getElem?_eq_none (by omega)]
      simp [hj]
  show some (Value.int .u64 (IntKind.u64.wrap ((BitVec.ofInt 64 (if IntKind.u64.signed = true then -1 else IntKind.u64.max) ^^^ BitVec.ofInt 64 (wd l : Int)).toNat : Int))) = _
  have e5 : (if IntKind.u64.signed = true then -1 else IntKind.u64.max) = (18446744073709551615 : Int) := by decide
  rw [e5, BitVec.toNat_xor, e1, e2, e3, IntKind.wrap_u64]
  have h3 : wd ((pad l).map not) < 18446744073709551616 := wd_64 (by simp [pad_len h])
  congr 2
  omega
def nx (l : List Bool) (i : Nat) (has : Bool) : Option Nat := ((l.drop i).findIdx? (· == has)).map (· + i)
def lookB (l : List Bool) (has : Bool) : List Bool := if has then pad l else (pad l).map not
theorem lookB_len {l : List Bool} {has : Bool} (h : l.length ≤ 64) : (lookB l has).length = 64 := by
  unfold lookB; split <;> simp [pad_len h]
theorem lookB_get {l : List Bool} {has : Bool} {j : Nat} (h : j < l.length) : (lookB l has)[j]? = some (l[j] == has) := by
  unfold lookB pad
  cases has
  · rw [if_neg (by simp), List.getElem?_map, List.getElem?_append_left h, List.getElem?_eq_getElem h]; simp
  · rw [if_pos rfl, List.getElem?_append_left h, List.getElem?_eq_getElem h]; simp
theorem nx_lookB {l : List Bool} {i : Nat} {has : Bool} (h : l.length ≤ 64) (hi : i < l.length) :
    (match nx l i has with
      | some j => wd ((lookB l has).drop i) ≠ 0 ∧ ((lookB l has).drop i).findIdx id + i = j ∧ j < l.length
      | none => wd ((lookB l has).drop i) = 0 ∨ l.length ≤ ((lookB l has).drop i).findIdx id + i) := by
  have hlen := lookB_len (has := has) h
  have hget : ∀ j, (hj : i + j < l.length) → ((lookB l has).drop i)[j]? = some (l[i + j] == has) := fun j hj => by
    rw [List.getElem?_drop, lookB_get hj]
  unfold nx
  cases hq : (l.drop i).findIdx? (· == has) with
  | some j =>
    obtain ⟨hj, h1, h2⟩ := List.findIdx?_eq_some_iff_getElem.1 hq
    have hj' : i + j < l.length := by rw [List.length_drop] at hj; omega
    have g := hget j hj'
    rw [List.getElem_drop] at h1
    rw [h1] at g
    have hlt : j < ((lookB l has).drop i).length := (List.getElem?_eq_some_iff.1 g).1
    have hgj : ((lookB l has).drop i)[j] = true := (List.getElem?_eq_some_iff.1 g).2
    have hf : ((lookB l has).drop i).findIdx id = j := by
      rw [List.findIdx_eq hlt]
      refine ⟨hgj, fun m hm => ?_⟩
      have g' := hget m (by omega)
      have := h2 m hm
      rw [List.getElem_drop] at this
      have e := (List.getElem?_eq_some_iff.1 g').2
      simp only [id, e]
      simpa using this
    refine ⟨fun h0 => ?_, by rw [hf], ?_⟩
    · have := wd_zero.1 h0 _ (List.getElem_mem hlt)
      rw [hgj] at this; cases this
    · show j + i < l.length; omega
  | none =>
    have hn := List.findIdx?_eq_none_iff.1 hq
    refine .inr ?_
    rcases Nat.lt_or_ge (((lookB l has).drop i).findIdx id + i) l.length with hc | hc
    · exfalso
      have hlt : ((lookB l has).drop i).findIdx id < ((lookB l has).drop i).length := by rw [List.length_drop, hlen]; omega
      have h1 := List.findIdx_getElem (w := hlt)
      have g := hget (((lookB l has).drop i).findIdx id) (by omega)
      have e := (List.getElem?_eq_some_iff.1 g).2
      rw [e] at h1
      have h2 := hn (l[i + ((lookB l has).drop i).findIdx id]'(by omega)) (by
        rw [List.mem_iff_getElem]
        refine ⟨((lookB l has).drop i).findIdx id, by rw [List.length_drop]; omega, by rw [List.getElem_drop]⟩)
      simp only [id] at h1
      rw [h1] at h2; cases h2
    · exact hc
end Go.Sl

/-
  Maps whose values own memory; delete.
-/
namespace Go.Sl
def starL {α : Type} : List α → (α → Asrt) → Asrt
  | [], _ => emp
  | a :: l, f => f a * starL l f
theorem starL_congr {α : Type} {f g : α → Asrt} : ∀ {l : List α}, (∀ a ∈ l, f a = g a) → starL l f = starL l g
  | [], _ => rfl
  | a :: l, h => by
    show f a * starL l f = g a * starL l g
    rw [h a (by simp), starL_congr fun b hb => h b (by simp [hb])]
theorem starL_perm {α : Type} {f : α → Asrt} {l m : List α} (h : l.Perm m) : starL l f = starL m f := by
  induction h with
  | nil => rfl
  | cons a _ ih => show _ * _ = _ * _; rw [ih]
  | swap a b l => show f b * (f a * starL l f) = f a * (f b * starL l f); ac_rfl
  | trans _ _ i j => rw [i, j]
theorem starL_append {α : Type} {f : α → Asrt} : ∀ {l m : List α}, starL (l ++ m) f = starL l f * starL m f
  | [], m => (emp_star _).symm
  | a :: l, m => by
    show f a * starL (l ++ m) f = f a * starL l f * starL m f
    rw [starL_append, star_assoc]
theorem fidx_erase {es : List Ent} {c j : Nat} {k : Int} (hok : MapOk es c) (hj : fidx es k = some j) (x : Int) : mget (es.eraseIdx j) x = if x = k then none else mget es x := by
  unfold fidx at hj
  obtain ⟨hlt, h1, h2⟩ := List.findIdx?_eq_some_iff_getElem.1 hj
  have hk : es[j].key = k := by simpa using h1
  have hsplit : es = es.take j ++ es[j] :: es.drop (j + 1) := by simp
  rw [List.eraseIdx_eq_take_drop_succ]
  unfold mget
  have hks := hok.keys
  rw [hsplit, List.pairwise_append] at hks
  by_cases hx : x = k
  · subst hx
    rw [if_pos rfl]
    have : (es.take j ++ es.drop (j + 1)).find? (fun e => e.key == x) = none := by
      rw [List.find?_eq_none]
      intro e he
      rw [List.mem_append] at he
      rcases he with he | he
      · have := hks.2.2 e he es[j] List.mem_cons_self
        rw [hk] at this
        simpa using this
      · have := (List.pairwise_cons.1 hks.2.1).1 e he
        rw [hk] at this
        simpa using fun q => this q.symm
    rw [this]; rfl
  · rw [if_neg hx]
    conv => rhs; rw [hsplit]
    rw [List.find?_append, List.find?_append, List.find?_cons]
    have : (es[j].key == x) = false := by rw [hk]; simpa using fun q => hx q.symm
    rw [this]
theorem MapOk.erase {es : List Ent} {c : Nat} (h : MapOk es c) (j : Nat) : MapOk (es.eraseIdx j) c :=
  ⟨h.keys.sublist (List.eraseIdx_sublist _ _), h.borns.sublist (List.eraseIdx_sublist _ _), fun e he => h.lt e (List.mem_of_mem_eraseIdx he)⟩
theorem dl_MP {P : Program} {ts : Array TypeId} {t t0 tk te : TypeId} {q : IntKind} {r : Nat} {f : Int → Option Value} {F : Asrt} {h : Hp} {k : Int} {K : Value → Hp → Prop} (h0 : ts[0]? = some t0) (ht : P.underlying t0 = some (.map tk te)) (hk : P.underlying tk = some (.int q)) (hh : (MP r f * F) h)
    (hK : ∀ h', (MP r (fun x => if x = k then none else f x) * F) h' → K (.tuple #[]) h') : dlW P ts t (.map (some r)) (.int .i64 k) K h := by
  obtain ⟨es, c, hok, hf, hp⟩ := MP_elim hh
  have hb := pt_get hp
  unfold dlW Builtin.delete_
  simp only [h0]
  show Sem.vc P (do let d ← underlying t0; _) K h
  refine vc_rd_bind (by rw [rd_underlying]; exact ht) ?_
  simp only
  refine vc_rd_bind (rd_getObj hb) ?_
  simp only
  refine vc_rd_bind (rd_checkKey hk) ?_
  refine vc_rd_bind (rd_findKey hk) ?_
  cases hi : fidx es k with
  | none =>
    simp only [Option.bind_none]
    refine ⟨_, hb, rfl, hK _ ?_⟩
    refine MP_intro (es := es) (c := c) hok ?_ (pt_upd hp)
    intro x
    rw [← hf x]
    by_cases hx : x = k
    · subst hx; rw [if_pos rfl, mget_fidx, hi]; rfl
    · rw [if_neg hx]
  | some j =>
    have hlt : j < es.length := by
      unfold fidx at hi
      exact (List.findIdx?_eq_some_iff_getElem.1 hi).1
    simp only [Option.bind_some, List.getElem?_eq_getElem hlt, Option.map_some]
    refine ⟨_, hb, rfl, hK _ ?_⟩
    refine MP_intro (es := es.eraseIdx j) (c := c) (hok.erase j) (fun x => by rw [fidx_erase hok hi, hf x]) ?_
    have hp' := pt_upd (o' := .map ((es.eraseIdx j).map Ent.mk').toArray c) hp
    have e : (es.map Ent.mk').toArray.eraseIdxIfInBounds j = ((es.eraseIdx j).map Ent.mk').toArray := by
      apply Array.ext'
      rw [Array.eraseIdxIfInBounds]
      split
      · rw [Array.toList_eraseIdx]
        simp [List.eraseIdx_eq_take_drop_succ, List.map_take, List.map_drop]
      · rename_i hq; simp at hq; omega
    rw [e]
    exact hp'
def fput {β : Type} (f : Int → Option β) (k : Int) (b : β) : Int → Option β := fun x => if x = k then some b else f x
def fdel {β : Type} (f : Int → Option β) (k : Int) : Int → Option β := fun x => if x = k then none else f x
theorem fput_eq {β : Type} (f : Int → Option β) (k : Int) (b : β) : fput f k b k = some b := by simp [fput]
theorem fput_ne {β : Type} {f : Int → Option β} {k x : Int} {b : β} (h : x ≠ k) : fput f k b x = f x := by simp [fput, h]
theorem fdel_eq {β : Type} (f : Int → Option β) (k : Int) : fdel f k k = none := by simp [fdel]
theorem fdel_ne {β : Type} {f : Int → Option β} {k x : Int} (h : x ≠ k) : fdel f k x = f x := by simp [fdel, h]
variable {β : Type}
def atO (A : β → Value → Asrt) (f : Int → Option β) (vf : Int → Value) (k : Int) : Asrt :=
  match f k with
  | some b => A b (vf k)
  | none => emp
def MPO (r : Nat) (A : β → Value → Asrt) (f : Int → Option β) : Asrt := ex fun vf : Int → Value => ex fun ks : List Int =>
  pr (ks.Nodup ∧ ∀ k, k ∈ ks ↔ (f k).isSome = true) * (MP r (fun k => (f k).map fun _ => vf k) * starL ks (atO A f vf))
theorem MPO_elim {r : Nat} {A : β → Value → Asrt} {f : Int → Option β} {F : Asrt} {h : Hp} (hh : (MPO r A f * F) h) :
    ∃ (vf : Int → Value) (ks : List Int), ks.Nodup ∧ (∀ k, k ∈ ks ↔ (f k).isSome = true) ∧ (MP r (fun k => (f k).map fun _ => vf k) * (starL ks (atO A f vf) * F)) h := by
  obtain ⟨vf, hh⟩ := ex_star.1 hh
  obtain ⟨ks, hh⟩ := ex_star.1 hh
  rw [star_assoc, pr_star] at hh
  exact ⟨vf, ks, hh.1.1, hh.1.2, asr (by ac_rfl) hh.2⟩
theorem MPO_intro {r : Nat} {A : β → Value → Asrt} {f : Int → Option β} {F : Asrt} {h : Hp} {vf : Int → Value} {ks : List Int} (h1 : ks.Nodup) (h2 : ∀ k, k ∈ ks ↔ (f k).isSome = true)
    (hh : (MP r (fun k => (f k).map fun _ => vf k) * (starL ks (atO A f vf) * F)) h) : (MPO r A f * F) h := by
  refine ex_star.2 ⟨vf, ex_star.2 ⟨ks, ?_⟩⟩
  rw [star_assoc, pr_star]
  exact ⟨⟨h1, h2⟩, asr (by ac_rfl) hh⟩
theorem MPO_new {r : Nat} {A : β → Value → Asrt} {F : Asrt} {h : Hp} (hh : (pt r (.map #[] 0) * F) h) : (MPO r A (fun _ => none) * F) h :=
  MPO_intro (vf := fun _ => undef) (ks := []) List.nodup_nil (by simp) (by
    show (MP r (fun _ => none) * (emp * F)) h
    rw [emp_star]
    exact MP_new hh)
theorem MPO_get {r : Nat} {A : β → Value → Asrt} {f : Int → Option β} {F : Asrt} {h : Hp} {k : Int} {b : β} (hf : f k = some b) (hh : (MPO r A f * F) h) :
    ∃ (v : Value) (g : Int → Option Value) (H : Asrt), g k = some v ∧ (∀ x, (g x).isSome = (f x).isSome) ∧ (MP r g * (A b v * (H * F))) h ∧
      (∀ (F' : Asrt) b' h', (MP r g * (A b' v * (H * F'))) h' → (MPO r A (fput f k b') * F') h') ∧
      (∀ (F' : Asrt) h', (MP r (fun x => if x = k then none else g x) * (H * F')) h' → (MPO r A (fdel f k) * F') h') ∧
      (∀ (F' : Asrt) b' v' h', (MP r (fun x => if x = k then some v' else g x) * (A b' v' * (H * F'))) h' → (MPO r A (fput f k b') * F') h') := by
  obtain ⟨vf, ks, h1, h2, hp⟩ := MPO_elim hh
  have hm : k ∈ ks := (h2 k).2 (by rw [hf]; rfl)
  have hne : ∀ x ∈ ks.erase k, x ≠ k := fun x hx => ((List.Nodup.mem_erase_iff h1).1 hx).1
  have e1 : ∀ φ : Int → Asrt, starL ks φ = φ k * starL (ks.erase k) φ := fun φ => starL_perm (List.perm_cons_erase hm)
  have e2 : atO A f vf k = A b (vf k) := by unfold atO; rw [hf]
  rw [e1, e2] at hp
  refine ⟨vf k, fun k => (f k).map fun _ => vf k, starL (ks.erase k) (atO A f vf), by simp only [hf]; rfl, fun x => by simp, asr (by ac_rfl) hp, fun F' b' h' q => ?_, fun F' h' q => ?_, fun F' b' v' h' q => ?_⟩
  · refine MPO_intro (vf := vf) (ks := ks) h1 (fun x => ?_) ?_
    · rw [h2]
      by_cases hx : x = k
      · subst hx; simp [fput, hf]
      · rw [fput_ne hx]
    · have e3 : (fun x => (fput f k b' x).map fun _ => vf x) = fun x => (f x).map fun _ => vf x := by
        funext x
        by_cases hx : x = k
        · subst hx; simp [fput, hf]
        · rw [fput_ne hx]
      have e4 : starL (ks.erase k) (atO A (fput f k b') vf) = starL (ks.erase k) (atO A f vf) := starL_congr fun x hx => by
        unfold atO; rw [fput_ne (hne x hx)]
      have e5 : atO A (fput f k b') vf k = A b' (vf k) := by unfold atO; rw [fput_eq]
      rw [e3, e1, e4, e5]
      exact asr (by ac_rfl) q
  · refine MPO_intro (vf := vf) (ks := ks.erase k) (h1.erase k) (fun x => ?_) ?_
    · rw [List.Nodup.mem_erase_iff h1, h2]
      by_cases hx : x = k
      · subst hx; simp [fdel]
      · rw [fdel_ne hx]; simp [hx]
    · have e3 : (fun x => (fdel f k x).map fun _ => vf x) = fun x => if x = k then none else (f x).map fun _ => vf x := by
        funext x
        by_cases hx : x = k
        · subst hx; simp [fdel]
        · rw [fdel_ne hx, if_neg hx]
      have e4 : starL (ks.erase k) (atO A (fdel f k) vf) = starL (ks.erase k) (atO A f vf) := starL_congr fun x hx => by
        unfold atO; rw [fdel_ne (hne x hx)]
      rw [e3, e4]
      exact q
  · refine MPO_intro (vf := fun x => if x = k then v' else vf x) (ks := ks) h1 (fun x => ?_) ?_
    · rw [h2]
      by_cases hx : x = k
      · subst hx; simp [fput, hf]
      · rw [fput_ne hx]
    · have e3 : (fun x => (fput f k b' x).map fun _ => (if x = k then v' else vf x)) = fun x => if x = k then some v' else (f x).map fun _ => vf x := by
        funext x
        by_cases hx : x = k
        · subst hx; simp [fput]
        · rw [fput_ne hx]; simp [hx]
      have e4 : starL (ks.erase k) (atO A (fput f k b') (fun x => if x = k then v' else vf x)) = starL (ks.erase k) (atO A f vf) := starL_congr fun x hx => by
        unfold atO; rw [fput_ne (hne x hx)]; simp only [if_neg (hne x hx)]
      have e5 : atO A (fput f k b') (fun x => if x = k then v' else vf x) k = A b' v' := by unfold atO; rw [fput_eq]; simp
      rw [e3, e1, e4, e5]
      exact asr (by ac_rfl) q
theorem MPO_none {r : Nat} {A : β → Value → Asrt} {f : Int → Option β} {F : Asrt} {h : Hp} {k : Int} (hf : f k = none) (hh : (MPO r A f * F) h) :
    ∃ (g : Int → Option Value) (H : Asrt), g k = none ∧ (∀ x, (g x).isSome = (f x).isSome) ∧ (MP r g * (H * F)) h ∧
      (∀ (F' : Asrt) h', (MP r g * (H * F')) h' → (MPO r A f * F') h') ∧
      (∀ (F' : Asrt) b v h', (MP r (fun x => if x = k then some v else g x) * (A b v * (H * F'))) h' → (MPO r A (fput f k b) * F') h') := by
  obtain ⟨vf, ks, h1, h2, hp⟩ := MPO_elim hh
  have hm : k ∉ ks := fun q => by have := (h2 k).1 q; rw [hf] at this; cases this
  have hne : ∀ x ∈ ks, x ≠ k := fun x hx q => hm (q ▸ hx)
  refine ⟨fun k => (f k).map fun _ => vf k, starL ks (atO A f vf), by simp only [hf]; rfl, fun x => by simp, hp, fun F' h' q => MPO_intro h1 h2 q, fun F' b v h' q => ?_⟩
  refine MPO_intro (vf := fun x => if x = k then v else vf x) (ks := k :: ks) (List.nodup_cons.2 ⟨hm, h1⟩) (fun x => ?_) ?_
  · rw [List.mem_cons, h2]
    by_cases hx : x = k
    · subst hx; simp [fput]
    · rw [fput_ne hx]; simp [hx]
  · have e3 : (fun x => (fput f k b x).map fun _ => (if x = k then v else vf x)) = fun x => if x = k then some v else (f x).map fun _ => vf x := by
      funext x
      by_cases hx : x = k
      · subst hx; simp [fput]
      · rw [fput_ne hx]; simp [hx]
    have e4 : starL ks (atO A (fput f k b) (fun x => if x = k then v else vf x)) = starL ks (atO A f vf) := starL_congr fun x hx => by
      unfold atO; rw [fput_ne (hne x hx)]; simp only [if_neg (hne x hx)]
    have e5 : atO A (fput f k b) (fun x => if x = k then v else vf x) k = A b v := by unfold atO; rw [fput_eq]; simp
    show (MP r _ * (atO A (fput f k b) _ k * starL ks (atO A (fput f k b) _) * F')) h'
    rw [e3, e4, e5]
    exact asr (by ac_rfl) q
theorem MPO_map {r : Nat} {A : β → Value → Asrt} {f : Int → Option β} {F : Asrt} {h : Hp} (hh : (MPO r A f * F) h) :
    ∃ (g : Int → Option Value) (H : Asrt), (∀ x, (g x).isSome = (f x).isSome) ∧ (MP r g * (H * F)) h ∧ (∀ (F' : Asrt) h', (MP r g * (H * F')) h' → (MPO r A f * F') h') := by
  obtain ⟨vf, ks, h1, h2, hp⟩ := MPO_elim hh
  exact ⟨fun k => (f k).map fun _ => vf k, starL ks (atO A f vf), fun x => by simp, hp, fun F' h' q => MPO_intro h1 h2 q⟩
end Go.Sl

/-
  Classes: their pages, their places.
-/
namespace Go.Sl
def pgT : List Int := [1, 1, 1, 1, 1, 1, 1, 1, 2, 1, 3, 1, 3, 2, 3, 4]
def slT : List Int := [64, 32, 21, 16, 10, 8, 5, 4, 5, 2, 4, 1, 2, 1, 1, 1]
def pgS (k : Int) : Int := if 0 ≤ k ∧ k < 16 then pgT.getD k.toNat 0 else 0
def slS (k : Int) : Int := if 0 ≤ k ∧ k < 16 then slT.getD k.toNat 0 else 0
theorem cls16 {p : Int → Prop} (h : ∀ k : Nat, k < 16 → p k) {k : Int} (hk : 0 ≤ k ∧ k < 16) : p k := by
  obtain ⟨n, rfl⟩ : ∃ n : Nat, k = n := ⟨k.toNat, by omega⟩
  exact h n (by omega)
theorem pgS_pos {k : Int} (hk : 0 ≤ k ∧ k < 16) : 1 ≤ pgS k ∧ pgS k ≤ 4 := cls16 (p := fun k => 1 ≤ pgS k ∧ pgS k ≤ 4) (by decide) hk
theorem slS_pos {k : Int} (hk : 0 ≤ k ∧ k < 16) : 1 ≤ slS k ∧ slS k ≤ 64 := cls16 (p := fun k => 1 ≤ slS k ∧ slS k ≤ 64) (by decide) hk
theorem slS_eq {k : Int} (hk : 0 ≤ k ∧ k < 16) : pgS k * 64 / szS k = slS k ∧ slS k * szS k ≤ pgS k * 64 := cls16 (p := fun k => pgS k * 64 / szS k = slS k ∧ slS k * szS k ≤ pgS k * 64) (by decide) hk
theorem pgS_out {k : Int} (h : ¬ (0 ≤ k ∧ k < 16)) : pgS k = 0 := by unfold pgS; rw [if_neg h]
theorem slS_out {k : Int} (h : ¬ (0 ≤ k ∧ k < 16)) : slS k = 0 := by unfold slS; rw [if_neg h]
theorem pgS_no {k : Int} (hk : 0 ≤ k ∧ k < 16) {p : Int} (hp : 1 ≤ p ∧ p < pgS k) : p * 64 - p * 64 % szS k < p * 64 % szS k * 8 := by
  have key : ∀ k : Nat, k < 16 → ∀ p : Nat, p < 4 → 1 ≤ (p : Int) → (p : Int) < pgS k → (p : Int) * 64 - (p : Int) * 64 % szS k < (p : Int) * 64 % szS k * 8 := by decide
  have h4 := pgS_pos hk
  obtain ⟨q, rfl⟩ : ∃ q : Nat, p = q := ⟨p.toNat, by omega⟩
  obtain ⟨n, rfl⟩ : ∃ n : Nat, k = n := ⟨k.toNat, by omega⟩
  exact key n (by omega) q (by omega) hp.1 hp.2
theorem pgS_yes {k : Int} (hk : 0 ≤ k ∧ k < 16) : pgS k * 64 % szS k * 8 ≤ pgS k * 64 - pgS k * 64 % szS k := cls16 (p := fun k => pgS k * 64 % szS k * 8 ≤ pgS k * 64 - pgS k * 64 % szS k) (by decide) hk
theorem pgS_no' {k : Int} (hk : 0 ≤ k ∧ k < 16) {p : Int} (hp : 1 ≤ p ∧ p < pgS k) : ¬ (szS k ≤ p * 64 ∧ p * 64 % szS k * 8 ≤ p * 64) := by
  have key : ∀ k : Nat, k < 16 → ∀ p : Nat, p < 4 → 1 ≤ (p : Int) → (p : Int) < pgS k → ¬ (szS k ≤ (p : Int) * 64 ∧ (p : Int) * 64 % szS k * 8 ≤ (p : Int) * 64) := by decide
  have h4 := pgS_pos hk
  obtain ⟨q, rfl⟩ : ∃ q : Nat, p = q := ⟨p.toNat, by omega⟩
  obtain ⟨n, rfl⟩ : ∃ n : Nat, k = n := ⟨k.toNat, by omega⟩
  exact key n (by omega) q (by omega) hp.1 hp.2
theorem pgS_yes' {k : Int} (hk : 0 ≤ k ∧ k < 16) : szS k ≤ pgS k * 64 ∧ pgS k * 64 % szS k * 8 ≤ pgS k * 64 := cls16 (p := fun k => szS k ≤ pgS k * 64 ∧ pgS k * 64 % szS k * 8 ≤ pgS k * 64) (by decide) hk
end Go.Sl

/-
  The places of a list of truths where it says yes.
-/
namespace Go.Sl
def idF : List Bool → Nat → List Nat
  | [], _ => []
  | true :: l, o => o :: idF l (o + 1)
  | false :: l, o => idF l (o + 1)
theorem idF_head : ∀ (l : List Bool) (o : Nat), (l.findIdx? (· == true)).map (· + o) = (idF l o).head?
  | [], o => rfl
  | true :: l, o => by simp [idF, List.findIdx?_cons]
  | false :: l, o => by
    rw [idF, ← idF_head l (o + 1), List.findIdx?_cons]
    simp only [show ((false == true) = true) = False by simp, if_false, Option.map_map]
    congr 1
    funext x
    simp only [Function.comp]
    omega
theorem nx_true (l : List Bool) (i : Nat) : nx l i true = (idF (l.drop i) i).head? := by
  rw [nx, idF_head]
theorem idF_mem : ∀ {l : List Bool} {o x : Nat}, x ∈ idF l o ↔ o ≤ x ∧ l[x - o]? = some true
  | [], o, x => by simp [idF]
  | true :: l, o, x => by
    rw [idF, List.mem_cons, idF_mem]
    constructor
    · rintro (rfl | ⟨h1, h2⟩)
      · simp
      · refine ⟨by omega, ?_⟩
        rw [show x - o = (x - (o + 1)) + 1 by omega, List.getElem?_cons_succ]; exact h2
    · rintro ⟨h1, h2⟩
      by_cases h : x = o
      · exact .inl h
      · refine .inr ⟨by omega, ?_⟩
        rwa [show x - o = (x - (o + 1)) + 1 by omega, List.getElem?_cons_succ] at h2
  | false :: l, o, x => by
    rw [idF, idF_mem]
    constructor
    · rintro ⟨h1, h2⟩
      refine ⟨by omega, ?_⟩
      rw [show x - o = (x - (o + 1)) + 1 by omega, List.getElem?_cons_succ]; exact h2
    · rintro ⟨h1, h2⟩
      by_cases h : x = o
      · subst h; simp at h2
      · refine ⟨by omega, ?_⟩
        rwa [show x - o = (x - (o + 1)) + 1 by omega, List.getElem?_cons_succ] at h2
theorem idF_len : ∀ (l : List Bool) (o : Nat), (idF l o).length = l.count true
  | [], o => rfl
  | true :: l, o => by simp [idF, idF_len l]
  | false :: l, o => by simp [idF, idF_len l]
theorem idF_rise : ∀ (l : List Bool) (o : Nat), (idF l o).Pairwise (· < ·)
  | [], o => List.Pairwise.nil
  | true :: l, o => by
    rw [idF, List.pairwise_cons]
    exact ⟨fun x hx => by have := (idF_mem.1 hx).1; omega, idF_rise l _⟩
  | false :: l, o => idF_rise l _
theorem idF_next : ∀ {l : List Bool} {o i x : Nat}, (idF l o)[i]? = some x → idF (l.drop (x + 1 - o)) (x + 1) = (idF l o).drop (i + 1)
  | [], o, i, x, h => by simp [idF] at h
  | true :: l, o, 0, x, h => by
    simp [idF] at h
    subst h
    rw [show o + 1 - o = 0 + 1 by omega]
    simp [idF]
  | true :: l, o, i + 1, x, h => by
    rw [idF, List.getElem?_cons_succ] at h
    have hx := (idF_mem.1 (List.mem_of_getElem? h)).1
    rw [idF, List.drop_succ_cons, ← idF_next h, show x + 1 - o = (x + 1 - (o + 1)) + 1 by omega, List.drop_succ_cons]
  | false :: l, o, i, x, h => by
    rw [idF] at h
    have hx := (idF_mem.1 (List.mem_of_getElem? h)).1
    rw [idF, ← idF_next h, show x + 1 - o = (x + 1 - (o + 1)) + 1 by omega, List.drop_succ_cons]
def ids (l : List Bool) : List Nat := idF l 0
theorem ids_mem {l : List Bool} {x : Nat} : x ∈ ids l ↔ l[x]? = some true := by
  rw [ids, idF_mem]; simp
theorem ids_len (l : List Bool) : (ids l).length = l.count true := idF_len l 0
theorem ids_lt {l : List Bool} {x : Nat} (h : x ∈ ids l) : x < l.length := (List.getElem?_eq_some_iff.1 (ids_mem.1 h)).1
theorem ids_rise (l : List Bool) : (ids l).Pairwise (· < ·) := idF_rise l 0
theorem ids_first (l : List Bool) : nx l 0 true = (ids l).head? := by rw [nx_true]; rfl
theorem ids_next {l : List Bool} {i x : Nat} (h : (ids l)[i]? = some x) : nx l (x + 1) true = (ids l)[i + 1]? := by
  have := idF_next h
  rw [Nat.sub_zero] at this
  rw [nx_true, this, List.head?_drop]
  rfl
theorem nx_some {l : List Bool} {i j : Nat} {b : Bool} (h : nx l i b = some j) : i ≤ j ∧ l[j]? = some b ∧ ∀ k, i ≤ k → k < j → l[k]? = some (!b) := by
  unfold nx at h
  cases hq : (l.drop i).findIdx? (· == b) with
  | none => rw [hq] at h; cases h
  | some m =>
    rw [hq] at h
    obtain rfl : m + i = j := by simpa using h
    obtain ⟨hm, h1, h2⟩ := List.findIdx?_eq_some_iff_getElem.1 hq
    rw [List.getElem_drop] at h1
    have hm' : i + m < l.length := by rw [List.length_drop] at hm; omega
    refine ⟨by omega, ?_, fun k hk1 hk2 => ?_⟩
    · rw [Nat.add_comm, List.getElem?_eq_getElem hm']; simpa using h1
    · have := h2 (k - i) (by omega)
      rw [List.getElem_drop] at this
      rw [List.getElem?_eq_getElem (by omega)]
      have e : i + (k - i) = k := by omega
      simp only [e] at this
      simp only [beq_iff_eq] at this
      cases hl : l[k] <;> cases b <;> simp_all
theorem nx_none {l : List Bool} {i : Nat} {b : Bool} (h : nx l i b = none) : ∀ k, i ≤ k → k < l.length → l[k]? = some (!b) := by
  unfold nx at h
  have hq : (l.drop i).findIdx? (· == b) = none := by simpa using h
  have hn := List.findIdx?_eq_none_iff.1 hq
  intro k hk1 hk2
  rw [List.getElem?_eq_getElem hk2]
  have hm : l[k] ∈ l.drop i := by
    rw [List.mem_iff_getElem]
    exact ⟨k - i, by rw [List.length_drop]; omega, by rw [List.getElem_drop]; congr 1; omega⟩
  have := hn _ hm
  cases hl : l[k] <;> cases b <;> simp_all
theorem count_set {l : List Bool} {i : Nat} (h : l[i]? = some false) : (l.set i true).count true = l.count true + 1 := by
  induction l generalizing i with
  | nil => simp at h
  | cons b l ih =>
    cases i with
    | zero => simp at h; subst h; simp
    | succ i =>
      have := ih (i := i) (by simpa using h)
      simp only [List.set_cons_succ, List.count_cons, this]
      omega
theorem count_clr {l : List Bool} {i : Nat} (h : l[i]? = some true) : (l.set i false).count true + 1 = l.count true := by
  induction l generalizing i with
  | nil => simp at h
  | cons b l ih =>
    cases i with
    | zero => simp at h; subst h; simp
    | succ i =>
      have := ih (i := i) (by simpa using h)
      simp only [List.set_cons_succ, List.count_cons]
      omega
end Go.Sl

/-
  TrailingZeros64, step by step; the table that it reads.
-/
namespace Go.Sl
def TabG (t : Nat) (g : Hp) : Prop := ∀ j, j < 64 → g.cell ⟨t, j, none⟩ = some (.int .u8 ((Lib.deBruijn64tab.getD j 0 : Nat) : Int))
theorem own_tab {t : Nat} {g : Hp} {F : Asrt} {h : Hp} (hg : TabG t g) (hh : (own g * F) h) {j : Nat} (hj : j < 64) : ld1 (.pointer (some ⟨t, j, none⟩)) h = some (.int .u8 ((Lib.deBruijn64tab.getD j 0 : Nat) : Int)) :=
  own_ld1 hh (hg j hj)
theorem neg_u {x : Nat} (h0 : x ≠ 0) (h : x < 18446744073709551616) : unV .neg (.int .u64 (x : Int)) = some (.int .u64 ((18446744073709551616 - x : Nat) : Int)) := by
  show some (Value.int .u64 (IntKind.u64.wrap (0 - (x : Int)))) = _
  rw [IntKind.wrap_u64]
  congr 2
  omega
theorem and_nat {x y : Nat} (h : x < 18446744073709551616) (h' : y < 18446744073709551616) : binV .and (.int .u64 (x : Int)) (.int .u64 (y : Int)) = some (.int .u64 ((x &&& y : Nat) : Int)) := by
  show some (Value.int .u64 (bits .and .u64 (x : Int) (y : Int))) = _
  rw [bits_and_u64_nat x y h h']
theorem mul_u {x y : Nat} : binV .mul (.int .u64 (x : Int)) (.int .u64 (y : Int)) = some (.int .u64 ((x * y % 18446744073709551616 : Nat) : Int)) := by
  show some (Value.int .u64 (IntKind.u64.wrap ((x : Int) * (y : Int)))) = _
  rw [IntKind.wrap_u64]
  congr 2
theorem shr_nat {x i : Nat} {k : IntKind} (hi : i ≤ 64) : binV .shr (.int .u64 (x : Int)) (.int k (i : Int)) = some (.int .u64 ((x / 2 ^ i : Nat) : Int)) := by
  show (if (i : Int) < 0 then none else some (Value.int .u64 (Int.fdiv (x : Int) (2 ^ (min (i : Int).toNat 64))))) = _
  rw [if_neg (by omega), Int.toNat_natCast, Nat.min_eq_left hi]
  congr 2
  rw [Int.fdiv_eq_ediv_of_nonneg _ (by exact_mod_cast Nat.zero_le _)]
  norm_cast
theorem iaA_nat {n sz t off j : Nat} {k : IntKind} (h : j < n) : iaA n sz (.pointer (some ⟨t, off, none⟩)) (.int k (j : Int)) = some (.pointer (some ⟨t, off + j * sz, none⟩)) := by
  show (if 0 ≤ (j : Int) ∧ (j : Int) < (n : Int) then _ else none) = _
  rw [if_pos (by omega), add_mk, Int.toNat_natCast]
theorem tz_steps {x : Nat} (h0 : x ≠ 0) (h : x < 18446744073709551616) : ∃ a idx : Nat, a < 18446744073709551616 ∧ x &&& (18446744073709551616 - x) = a ∧ (a * 285870213051353865 % 18446744073709551616) / 2 ^ 58 = idx ∧ idx < 64 ∧ Lib.deBruijn64tab.getD idx 0 = Lib.ctz 64 x ∧ Lib.ctz 64 x < 64 := by
  obtain ⟨h1, h2⟩ := Lib.lowest_bit 64 x h0 h
  obtain ⟨h3, h4⟩ := Lib.deBruijn64_at _ h2
  have e : (2 : Nat) ^ 58 = 288230376151711744 := by decide
  rw [e]
  have h5 : 2 ^ Lib.ctz 64 x < 2 ^ 64 := Nat.pow_lt_pow_right (by omega) h2
  exact ⟨_, _, by omega, h1, rfl, h3, h4, h2⟩
theorem conv_i8 {k : IntKind} {x : Nat} (h : x < 64) : convV .i64 (.int k (x : Int)) = some (.int .i64 (x : Int)) := conv_i (by omega)
end Go.Sl

/-
  Spans, plainly: places that are used, and marked.
-/
namespace Go.Sl
structure Sp where
  first : Int
  cls : Int
  used : List Bool
  marks : List Bool
structure SpOk (s : Sp) : Prop where
  cls : 0 ≤ s.cls ∧ s.cls < 16
  first : 1 ≤ s.first ∧ s.first ≤ 262144
  ul : (s.used.length : Int) = slS s.cls
  ml : s.marks.length = s.used.length
  sub : ∀ i : Nat, s.marks[i]? = some true → s.used[i]? = some true
theorem SpOk.len {s : Sp} (h : SpOk s) : 1 ≤ s.used.length ∧ s.used.length ≤ 64 := by
  have h1 := h.ul
  have h2 := slS_pos h.cls
  omega
def ff (l : List Bool) : Option Nat := nx l 0 false
theorem nx_from {l : List Bool} {f : Nat} (h : ∀ i : Nat, i < f → l[i]? = some true) : nx l f false = ff l := by
  unfold ff
  cases h1 : nx l f false with
  | some j =>
    obtain ⟨a, b, c⟩ := nx_some h1
    cases h2 : nx l 0 false with
    | some k =>
      obtain ⟨a', b', c'⟩ := nx_some h2
      rcases Nat.lt_trichotomy j k with q | q | q
      · have := c' j (by omega) q; rw [b] at this; cases this
      · rw [q]
      · by_cases hk : k < f
        · have := h k hk; rw [b'] at this; cases this
        · have := c k (by omega) q; rw [b'] at this; cases this
    | none =>
      have := nx_none h2 j (by omega) (List.getElem?_eq_some_iff.1 b).1
      rw [b] at this; cases this
  | none =>
    cases h2 : nx l 0 false with
    | none => rfl
    | some k =>
      obtain ⟨a', b', c'⟩ := nx_some h2
      by_cases hk : k < f
      · have := h k hk; rw [b'] at this; cases this
      · have := nx_none h1 k (by omega) (List.getElem?_eq_some_iff.1 b').1
        rw [b'] at this; cases this
theorem ff_some {l : List Bool} {i : Nat} (h : ff l = some i) : l[i]? = some false ∧ ∀ k, k < i → l[k]? = some true := by
  obtain ⟨_, b, c⟩ := nx_some h
  exact ⟨b, fun k hk => c k (by omega) hk⟩
theorem ff_none {l : List Bool} (h : ff l = none) : ∀ k, k < l.length → l[k]? = some true := fun k hk => nx_none h k (by omega) hk
theorem ff_new {n : Nat} (h : 0 < n) : ff (List.replicate n false) = some 0 := by
  cases h1 : ff (List.replicate n false) with
  | none =>
    have := ff_none h1 0 (by simpa using h)
    rw [List.getElem?_replicate, if_pos h] at this
    cases this
  | some k =>
    obtain ⟨b, c⟩ := ff_some h1
    rcases Nat.eq_zero_or_pos k with q | q
    · rw [q]
    · have := c 0 q
      rw [List.getElem?_replicate, if_pos h] at this
      cases this
def Sp.take (s : Sp) (i : Nat) (black : Bool) : Sp := { s with used := s.used.set i true, marks := if black then s.marks.set i true else s.marks }
theorem SpOk.take {s : Sp} (h : SpOk s) {i : Nat} (black : Bool) (hi : i < s.used.length) : SpOk (s.take i black) := by
  refine ⟨h.cls, h.first, by show ((s.used.set i true).length : Int) = _; rw [List.length_set]; exact h.ul, ?_, ?_⟩
  · show (if black then s.marks.set i true else s.marks).length = (s.used.set i true).length
    rw [List.length_set]
    split
    · rw [List.length_set]; exact h.ml
    · exact h.ml
  · intro k hk
    show (s.used.set i true)[k]? = some true
    have hk : (if black then s.marks.set i true else s.marks)[k]? = some true := hk
    rw [List.getElem?_set]
    by_cases hik : i = k
    · rw [if_pos hik, if_pos (by omega)]
    · rw [if_neg hik]
      split at hk
      · rw [List.getElem?_set_ne hik] at hk; exact h.sub k hk
      · exact h.sub k hk
def Sp.mark (s : Sp) (i : Nat) : Sp := { s with marks := s.marks.set i true }
theorem SpOk.mark {s : Sp} (h : SpOk s) {i : Nat} (hi : s.used[i]? = some true) : SpOk (s.mark i) := by
  refine ⟨h.cls, h.first, h.ul, by show (s.marks.set i true).length = _; rw [List.length_set]; exact h.ml, fun k hk => ?_⟩
  have hk : (s.marks.set i true)[k]? = some true := hk
  by_cases hik : i = k
  · subst hik; exact hi
  · rw [List.getElem?_set_ne hik] at hk; exact h.sub k hk
def Sp.swept (s : Sp) : Sp := { s with used := s.marks, marks := List.replicate s.used.length false }
def Sp.gone (s : Sp) : List Nat := (ids s.used).filter fun i => !(s.marks[i]?.getD false)
theorem SpOk.swept {s : Sp} (h : SpOk s) : SpOk s.swept := by
  refine ⟨h.cls, h.first, ?_, ?_, fun k hk => ?_⟩
  · show (s.marks.length : Int) = _; rw [h.ml]; exact h.ul
  · show (List.replicate s.used.length false).length = s.marks.length; rw [List.length_replicate, h.ml]
  · have hk : (List.replicate s.used.length false)[k]? = some true := hk
    rw [List.getElem?_replicate] at hk
    split at hk <;> cases hk
def newSp (first k : Int) : Sp := ⟨first, k, List.replicate (slS k).toNat false, List.replicate (slS k).toNat false⟩
theorem newSp_ok {first k : Int} (hk : 0 ≤ k ∧ k < 16) (hf : 1 ≤ first ∧ first ≤ 262144) : SpOk (newSp first k) := by
  have := slS_pos hk
  refine ⟨hk, hf, by show ((List.replicate (slS k).toNat false).length : Int) = slS k; rw [List.length_replicate]; omega, rfl, fun i hi => ?_⟩
  have hi : (List.replicate (slS k).toNat false)[i]? = some true := hi
  rw [List.getElem?_replicate] at hi
  split at hi <;> cases hi
def Sp.addr (s : Sp) (i : Nat) : Int := s.first * 64 + (i : Int) * szS s.cls
end Go.Sl
