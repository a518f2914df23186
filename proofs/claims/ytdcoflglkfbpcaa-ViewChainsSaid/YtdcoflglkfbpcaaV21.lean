/-
  Lists of numbers that are read, wherever they lie; sorted insertion; sizes of classes.
-/
import Derived.Test.YtdcoflglkfbpcaaV20
set_option linter.unusedVariables false
set_option linter.unusedSimpArgs false
namespace Go.Sl

theorem IntsAt.mono {g f : Hp} {sv : Value} {xs : List Int} (h : IntsAt g sv xs) : IntsAt (g.add f) sv xs :=
  ⟨h.len, h.lt, fun j x k hj => let ⟨p, h1, h2⟩ := h.get j x k hj; ⟨p, h1, ld1_mono _ _ _ _ h2⟩⟩

theorem own_ints {g : Hp} {F : Asrt} {h : Hp} {sv : Value} {xs : List Int} (hh : (own g * F) h) (hx : IntsAt g sv xs) : IntsAt h sv xs := by
  obtain ⟨x, y, d, rfl, rfl, _⟩ := hh
  exact hx.mono

theorem SG_ints {E : Nat} {sv : Value} {l : List Int} {F : Asrt} {h : Hp} (hh : (SG iE E sv l * F) h) : IntsAt h sv l :=
  ⟨SG_len iE hh, SG_lt iE hh, fun _ _ k hj => let ⟨p, h1, h2, _⟩ := el1 hh hj k; ⟨p, h1, h2⟩⟩

/-- What is owned and no longer needed goes. -/
theorem dropL {P Q : Asrt} {h : Hp} (hh : (P * (Q * tt)) h) : (Q * tt) h := drp hh

theorem new_tt {r : Nat} {o : Obj} {F : Asrt} {h : Hp} (hh : (pt r o * (F * tt)) h) : (F * tt) h := drp hh

/-! ### Rising lists -/

def Rise (l : List Int) : Prop := l.Pairwise (· < ·)

theorem Rise_ext : ∀ {l m : List Int}, Rise l → Rise m → (∀ x, x ∈ l ↔ x ∈ m) → l = m
  | [], [], _, _, _ => rfl
  | [], b :: m, _, _, h => by have := (h b).2 (by simp); simp at this
  | a :: l, [], _, _, h => by have := (h a).1 (by simp); simp at this
  | a :: l, b :: m, hl, hm, h => by
    have hl' := List.pairwise_cons.1 hl
    have hm' := List.pairwise_cons.1 hm
    have hab : a = b := by
      have h1 := (h a).1 (by simp)
      have h2 := (h b).2 (by simp)
      rw [List.mem_cons] at h1 h2
      rcases h1 with h1 | h1
      · exact h1
      · rcases h2 with h2 | h2
        · exact h2.symm
        · have := hm'.1 a h1
          have := hl'.1 b h2
          omega
    subst hab
    congr 1
    refine Rise_ext hl'.2 hm'.2 fun x => ?_
    have hx := h x
    rw [List.mem_cons, List.mem_cons] at hx
    constructor
    · intro h1
      rcases hx.1 (.inr h1) with h2 | h2
      · have := hl'.1 x h1; omega
      · exact h2
    · intro h1
      rcases hx.2 (.inr h1) with h2 | h2
      · have := hm'.1 x h1; omega
      · exact h2

theorem srt_perm (l : List Int) : (srt l).Perm l := List.mergeSort_perm l _

theorem srt_mem {l : List Int} {x : Int} : x ∈ srt l ↔ x ∈ l := (srt_perm l).mem_iff

theorem srt_sorted (l : List Int) : (srt l).Pairwise (· ≤ ·) := by
  have := List.pairwise_mergeSort (le := fun x y : Int => decide (x ≤ y)) (fun a b c h1 h2 => by simp at *; omega) (fun a b => by simp; omega) l
  exact this.imp fun h => by simpa using h

theorem srt_rise {l : List Int} (h : l.Nodup) : Rise (srt l) := by
  have h1 := srt_sorted l
  have h2 : (srt l).Nodup := (srt_perm l).nodup_iff.2 h
  unfold Rise
  rw [List.Nodup] at h2
  exact (h1.and h2).imp fun ⟨a, b⟩ => by omega

/-! ### Sizes of classes -/

def szT : List Int := [1, 2, 3, 4, 6, 8, 12, 16, 24, 32, 48, 64, 96, 128, 192, 256]

def szS (k : Int) : Int := if 0 ≤ k ∧ k < 16 then szT.getD k.toNat 0 else 0

def ofN (n : Int) : Nat := szT.findIdx fun s => decide (n ≤ s)
def ofS (n : Int) : Int := if 1 ≤ n ∧ n ≤ 256 then (ofN n : Int) else -1

theorem szT_get {k : Nat} (h : k < 16) : szT[k]? = some (szS k) := by
  have hl : szT.length = 16 := rfl
  unfold szS
  rw [if_pos (by omega), Int.toNat_natCast, List.getD_eq_getElem?_getD, List.getElem?_eq_getElem (by omega)]
  rfl

theorem szS_pos {k : Int} (h : 0 ≤ k ∧ k < 16) : 1 ≤ szS k ∧ szS k ≤ 256 := by
  obtain ⟨n, rfl⟩ : ∃ n : Nat, k = n := ⟨k.toNat, by omega⟩
  have h1 := szT_get (k := n) (by omega)
  have h2 : ∀ x ∈ szT, 1 ≤ x ∧ x ≤ 256 := by decide
  exact h2 _ (List.mem_of_getElem? h1)

theorem szS_out {k : Int} (h : ¬ (0 ≤ k ∧ k < 16)) : szS k = 0 := by unfold szS; rw [if_neg h]

theorem ofN_spec {n : Int} (h : n ≤ 256) : ofN n < 16 ∧ n ≤ szS (ofN n) ∧ ∀ j : Nat, j < ofN n → szS j < n := by
  have hl : szT.length = 16 := rfl
  have h1 : ofN n < 16 := by
    unfold ofN
    rw [← hl, List.findIdx_lt_length]
    exact ⟨256, by decide, by simpa using h⟩
  have hlt : szT.findIdx (fun s => decide (n ≤ s)) < szT.length := h1
  refine ⟨h1, ?_, fun j hj => ?_⟩
  · have h2 := List.findIdx_getElem (w := hlt)
    have h3 := szT_get h1
    rw [List.getElem?_eq_getElem (by omega)] at h3
    have h3 := Option.some.inj h3
    have h2 : n ≤ szT[szT.findIdx (fun s => decide (n ≤ s))] := by simpa using h2
    rw [← h3]
    exact h2
  · have h2 := List.not_of_lt_findIdx (p := fun s => decide (n ≤ s)) (xs := szT) hj
    have h3 := szT_get (k := j) (by omega)
    rw [List.getElem?_eq_getElem (by omega)] at h3
    have h3 := Option.some.inj h3
    rw [← h3]
    simpa using h2

theorem ofN_uniq {n : Int} {k : Nat} (h : n ≤ 256) (hk : k < 16) (h1 : n ≤ szS k) (h2 : ∀ j : Nat, j < k → szS j < n) : k = ofN n := by
  obtain ⟨a, b, c⟩ := ofN_spec h
  rcases Nat.lt_trichotomy k (ofN n) with q | q | q
  · have := c k q; omega
  · exact q
  · have := h2 _ q; omega

def szV : Array Value := #[.int .i64 1, .int .i64 2, .int .i64 3, .int .i64 4, .int .i64 6, .int .i64 8, .int .i64 12, .int .i64 16, .int .i64 24, .int .i64 32, .int .i64 48, .int .i64 64, .int .i64 96, .int .i64 128, .int .i64 192, .int .i64 256]

theorem szV_eq : szV = (szT.map fun n => Value.int .i64 n).toArray := rfl

theorem ix_szV {k : Int} (h : 0 ≤ k ∧ k < 16) : ixA false 16 1 (.agg szV) (.int .i64 k) = some (.int .i64 (szS k)) := by
  obtain ⟨n, rfl⟩ : ∃ n : Nat, k = n := ⟨k.toNat, by omega⟩
  show (if 0 ≤ (n : Int) ∧ (n : Int) < ((16 : Nat) : Int) then (bif false then _ else szV[(n : Int).toNat * 1]?) else none) = _
  rw [if_pos (by omega), cond_false, Int.toNat_natCast, Nat.mul_one, szV_eq]
  simp only [List.getElem?_toArray, List.getElem?_map, szT_get (show n < 16 by omega)]
  rfl

end Go.Sl
