/-
  Texts of the proof, in one file: V20, V21, V22.
-/
import Derived.Test.YtampdifeblndfaaGreatDoorB5
import Derived.Sort.Grow
set_option linter.unusedVariables false
set_option linter.unusedSimpArgs false
/-
  The library's own contract on slices.Sort, at a slice that is owned.
-/
namespace Go.Sl
open Go.Sort
abbrev iE : Enc Int := enc1 (fun n => .int .i64 n) (fun _ => rfl)
theorem iE_cs (l : List Int) : iE.cs l = l.map fun n => Value.int .i64 n := by
  induction l with
  | nil => rfl
  | cons a l ih => rw [iE.cs_cons, ih]; rfl
structure SortC (P : Program) (F : FuncId) : Prop where
  some : ∀ (blk off cap : Nat) (zs : List Int) (w : World), Holds (Value.int .i64) w blk off zs.toArray → blk < w.heap.size → zs.length < 4611686018427387904 →
    Calls P F #[.slice (some ⟨blk, off, none⟩) zs.length cap] w fun e w' => e = .returned (.tuple #[]) ∧ ∃ n os, w' = grow (putRow (Value.int .i64) (Sort.ahead w n) blk off (zs.mergeSort fun x y => decide (x ≤ y)).toArray) os
  none : ∀ (p : Option Addr) (cap : Nat) (w : World), Calls P F #[.slice p 0 cap] w fun e w' => e = .returned (.tuple #[]) ∧ w' = w
abbrev srt (l : List Int) : List Int := l.mergeSort fun x y => decide (x ≤ y)
theorem callH_same {P : Program} {f : FuncId} {args : Array Value} {v : Value} {K : Value → Hp → Prop} {h : Hp} (hc : ∀ w, Calls P f args w fun e w' => e = .returned v ∧ w' = w) (hK : K v h) : CallH P f args K h := by
  intro w fr tg d e
  refine (hc w).mono ?_
  rintro e' w' ⟨rfl, rfl⟩
  exact ⟨v, h, fr, rfl, d, e, Grows.refl fr, hK⟩
theorem callH_block {P : Program} {f : FuncId} {args : Array Value} {v : Value} {K : Value → Hp → Prop} {h : Hp} {r : Nat} {o o' : Obj} (ho : h r = some o)
    (hc : ∀ (w : World), w.hp r = some o → Calls P f args w fun e w' => e = .returned v ∧ (w'.os, w'.output, w'.tape) = (w.os, w.output, w.tape) ∧ w'.hp r = some o' ∧ ∀ b q, b ≠ r → w.hp b = some q → w'.hp b = some q)
    (hK : K v (h.upd r o')) : CallH P f args K h := by
  intro w fr tg d ⟨e, et⟩
  have hr : w.hp r = some o := by rw [e]; exact Hp.add_of_left ho
  refine (hc w hr).mono ?_
  rintro e' w' ⟨rfl, h1, h2, h3⟩
  have hfr : fr r = none := by
    rcases d r with h | h
    · rw [ho] at h; cases h
    · exact h
  refine ⟨v, h.upd r o', w'.hp.minus (h.upd r o'), rfl, ?_, ⟨?_, h1.trans et⟩, ?_, hK⟩
  · intro b
    rw [Hp.minus_apply]
    cases hb : (h.upd r o') b with
    | none => exact .inl rfl
    | some x => exact .inr (by simp)
  · apply Hp.ext'
    intro b
    rw [Hp.add_apply, Hp.minus_apply]
    by_cases hb : b = r
    · subst hb
      rw [Hp.upd_self]
      simp [h2]
    · rw [Hp.upd_ne hb]
      cases hq : h b with
      | none => simp
      | some x =>
        have := h3 b x hb (by rw [e]; exact Hp.add_of_left hq)
        simp [this]
  · intro b x hb
    rw [Hp.minus_apply]
    have hne : b ≠ r := fun q => by rw [q, hfr] at hb; cases hb
    have hh : h b = none := by
      rcases d b with q | q
      · exact q
      · rw [hb] at q; cases q
    rw [Hp.upd_ne hne, hh]
    simp only [Option.isSome_none, Bool.false_eq_true, if_false]
    refine h3 b x hne ?_
    rw [e, Hp.add_apply, hh]
    simpa using hb
theorem use_sort {P : Program} {f : FuncId} (C : SortC P f) {E : Nat} {sv : Value} {l : List Int} {F : Asrt} {K : Value → Hp → Prop} {h : Hp} (hl : l.length < 4611686018427387904) (hh : (SG iE E sv l * F) h)
    (hK : ∀ h', (SG iE E sv (srt l) * F) h' → K (.tuple #[]) h') : CallH P f #[sv] K h := by
  have hsl : (srt l).length = l.length := List.length_mergeSort l
  rcases SG_elim iE hh with ⟨rfl, rfl, hF⟩ | ⟨r, cap, pre, post, rfl, h1, h2, h3, hp⟩
  · refine callH_same (fun w => C.none none 0 w) (hK h ?_)
    have : srt [] = [] := by simp [srt]
    rw [this]
    exact SG_nil iE hF
  · have hb := pt_get hp
    have hcell : ∀ j, j < l.length → (pre ++ (iE.cs l ++ post)).toArray[pre.length + j]? = some (.int .i64 l[j]!) := fun j hj => by
      rw [get_pre, iE_cs]
      simp only [List.getElem?_toArray]
      rw [List.getElem?_append_left (by simpa using hj), List.getElem?_map, List.getElem?_eq_getElem hj]
      simp [getElem!_pos l j hj]
    refine callH_block (o' := .cells (pre ++ (iE.cs (srt l) ++ post)).toArray E (0, 0)) hb (fun w hw => ?_) (hK _ (SG_intro iE rfl hsl.symm (by rw [hsl]; exact h1) h2 (by rw [hsl]; exact h3) (pt_upd hp)))
    have hw' : w.heap[r]? = some (.cells (pre ++ (iE.cs l ++ post)).toArray E (0, 0)) := hw
    have hrl : r < w.heap.size := (Array.getElem?_eq_some_iff.1 hw').1
    refine (C.some r pre.length cap l w (fun j hj => ?_) hrl hl).mono ?_
    · have hj : j < l.length := by simpa using hj
      constructor
      · rw [cell?_hp]
        unfold Hp.cell
        simp only [hw, Option.bind_some, Obj.cellAt, Option.isSome_none, Bool.false_eq_true, if_false]
        rw [hcell j hj]
        simp
      · rw [frozen?_hp w _ hw]
        simp [Obj.frz]
    rintro e w' ⟨rfl, n, os, rfl⟩
    refine ⟨rfl, rfl, ?_, fun b q hb hq => ?_⟩
    · show (grow _ os).heap[r]? = _
      rw [heap_grow_old _ _ (by simpa [putRow, mapBlock] using hrl)]
      simp only [putRow, mapBlock, heap_ahead, Array.getElem?_modify, hw', if_true, Option.map_some, onCells]
      congr 2
      apply Array.ext'
      apply List.ext_getElem?
      intro k
      simp only [putCells, Array.getElem?_toList, Array.getElem?_mapIdx, List.getElem?_toArray, List.size_toArray]
      have hsl' : (l.mergeSort fun x y => decide (x ≤ y)).length = l.length := hsl
      by_cases hk1 : k < pre.length
      · rw [List.getElem?_append_left hk1, List.getElem?_append_left hk1, List.getElem?_eq_getElem hk1]
        rw [Option.map_some, if_neg (by omega)]
      · obtain ⟨j, rfl⟩ : ∃ j, k = pre.length + j := ⟨k - pre.length, by omega⟩
        have hL : ∀ X : List Value, (pre ++ X)[pre.length + j]? = X[j]? := fun X => by
          rw [List.getElem?_append_right (by omega)]; congr 1; omega
        rw [hL, hL, iE_cs, iE_cs, Nat.add_sub_cancel_left]
        by_cases hj : j < l.length
        · have e1 : (l.map (fun n => Value.int .i64 n) ++ post)[j]? = some (.int .i64 l[j]) := by
            rw [List.getElem?_append_left (by simpa using hj), List.getElem?_map, List.getElem?_eq_getElem hj]; rfl
          have e2 : ((srt l).map (fun n => Value.int .i64 n) ++ post)[j]? = some (.int .i64 (srt l)[j]) := by
            rw [List.getElem?_append_left (by rw [List.length_map]; omega), List.getElem?_map, List.getElem?_eq_getElem (by omega)]; rfl
          rw [e1, e2, Option.map_some, if_pos (by omega)]
          congr 2
          rw [getElem!_pos _ _ (by simp; omega)]
          simp
        · have e1 : (l.map (fun n => Value.int .i64 n) ++ post)[j]? = post[j - l.length]? := by
            rw [List.getElem?_append_right (by rw [List.length_map]; omega), List.length_map]
          have e2 : ((srt l).map (fun n => Value.int .i64 n) ++ post)[j]? = post[j - l.length]? := by
            rw [List.getElem?_append_right (by rw [List.length_map]; omega), List.length_map, hsl]
          rw [e1, e2]
          cases post[j - l.length]? with
          | none => rfl
          | some x => rw [Option.map_some, if_neg (by omega)]
    · show (grow _ os).heap[b]? = _
      have hbl : b < w.heap.size := (Array.getElem?_eq_some_iff.1 hq).1
      rw [heap_grow_old _ _ (by simpa [putRow, mapBlock] using hbl)]
      simp only [putRow, mapBlock, heap_ahead, Array.getElem?_modify, if_neg (fun h => hb h.symm : ¬ r = b)]
      exact hq
end Go.Sl

/-
  Lists of numbers that are read, wherever they lie; sorted insertion; sizes of classes.
-/
namespace Go.Sl
theorem IntsAt.mono {g f : Hp} {sv : Value} {xs : List Int} (h : IntsAt g sv xs) : IntsAt (g.add f) sv xs :=
  ⟨h.len, h.lt, fun j x k hj => let ⟨p, h1, h2⟩ := h.get j x k hj; ⟨p, h1, ld1_mono _ _ _ _ h2⟩⟩
theorem own_ints {g : Hp} {F : Asrt} {h : Hp} {sv : Value} {xs : List Int} (hh : (own g * F) h) (hx : IntsAt g sv xs) : IntsAt h sv xs := by
  obtain ⟨x, y, d, rfl, rfl, _⟩ := hh
  exact hx.mono
theorem SG_ints {E : Nat} {sv : Value} {l : List Int} {F : Asrt} {h : Hp} (hh : (SG iE E sv l * F) h) : IntsAt h sv l :=
  ⟨SG_len iE hh, SG_lt iE hh, fun _ _ k hj => let ⟨p, h1, h2, _⟩ := el1 hh hj k; ⟨p, h1, h2⟩⟩
theorem dropL {P Q : Asrt} {h : Hp} (hh : (P * (Q * tt)) h) : (Q * tt) h := drp hh
theorem new_tt {r : Nat} {o : Obj} {F : Asrt} {h : Hp} (hh : (pt r o * (F * tt)) h) : (F * tt) h := drp hh
def Rise (l : List Int) : Prop := l.Pairwise (· < ·)
theorem Rise_ext : ∀ {l m : List Int}, Rise l → Rise m → (∀ x, x ∈ l ↔ x ∈ m) → l = m
  | [], [], _, _, _ => rfl
  | [], b :: m, _, _, h => by have := (h b).2 (by simp); simp at this
  | a :: l, [], _, _, h => by have := (h a).1 (by simp); simp at this
  | a :: l, b :: m, hl, hm, h => by
    have hl' := List.pairwise_cons.1 hl
    have hm' := List.pairwise_cons.1 hm
    have hab : a = b := by
      have h1 := (h a).1 (by simp)
      have h2 := (h b).2 (by simp)
      rw [List.mem_cons] at h1 h2
      rcases h1 with h1 | h1
      · exact h1
      · rcases h2 with h2 | h2
        · exact h2.symm
        · have := hm'.1 a h1
          have := hl'.1 b h2
          omega
    subst hab
    congr 1
    refine Rise_ext hl'.2 hm'.2 fun x => ?_
    have hx := h x
    rw [List.mem_cons, List.mem_cons] at hx
    constructor
    · intro h1
      rcases hx.1 (.inr h1) with h2 | h2
      · have := hl'.1 x h1; omega
      · exact h2
    · intro h1
      rcases hx.2 (.inr h1) with h2 | h2
      · have := hm'.1 x h1; omega
      · exact h2
theorem srt_perm (l : List Int) : (srt l).Perm l := List.mergeSort_perm l _
theorem srt_mem {l : List Int} {x : Int} : x ∈ srt l ↔ x ∈ l := (srt_perm l).mem_iff
theorem srt_sorted (l : List Int) : (srt l).Pairwise (· ≤ ·) := by
  have := List.pairwise_mergeSort (le := fun x y : Int => decide (x ≤ y)) (fun a b c h1 h2 => by simp at *; omega) (fun a b => by simp; omega) l
  exact this.imp fun h => by simpa using h
theorem srt_rise {l : List Int} (h : l.Nodup) : Rise (srt l) := by
  have h1 := srt_sorted l
  have h2 : (srt l).Nodup := (srt_perm l).nodup_iff.2 h
  unfold Rise
  rw [List.Nodup] at h2
  exact (h1.and h2).imp fun ⟨a, b⟩ => by omega
def szT : List Int := [1, 2, 3, 4, 6, 8, 12, 16, 24, 32, 48, 64, 96, 128, 192, 256]
def szS (k : Int) : Int := if 0 ≤ k ∧ k < 16 then szT.getD k.toNat 0 else 0
def ofN (n : Int) : Nat := szT.findIdx fun s => decide (n ≤ s)
def ofS (n : Int) : Int := if 1 ≤ n ∧ n ≤ 256 then (ofN n : Int) else -1
theorem szT_get {k : Nat} (h : k < 16) : szT[k]? = some (szS k) := by
  have hl : szT.length = 16 := rfl
  unfold szS
  rw [if_pos (by omega), Int.toNat_natCast, List.getD_eq_getElem?_getD, List.getElem?_eq_getElem (by omega)]
  rfl
theorem szS_pos {k : Int} (h : 0 ≤ k ∧ k < 16) : 1 ≤ szS k ∧ szS k ≤ 256 := by
  obtain ⟨n, rfl⟩ : ∃ n : Nat, k = n := ⟨k.toNat, by omega⟩
  have h1 := szT_get (k := n) (by omega)
  have h2 : ∀ x ∈ szT, 1 ≤ x ∧ x ≤ 256 := by decide
  exact h2 _ (List.mem_of_getElem? h1)
theorem szS_out {k : Int} (h : ¬ (0 ≤ k ∧ k < 16)) : szS k = 0 := by unfold szS; rw [if_neg h]
theorem ofN_spec {n : Int} (h : n ≤ 256) : ofN n < 16 ∧ n ≤ szS (ofN n) ∧ ∀ j : Nat, j < ofN n → szS j < n := by
  have hl : szT.length = 16 := rfl
  have h1 : ofN n < 16 := by
    unfold ofN
    rw [← hl, List.findIdx_lt_length]
    exact ⟨256, by decide, by simpa using h⟩
  have hlt : szT.findIdx (fun s => decide (n ≤ s)) < szT.length := h1
  refine ⟨h1, ?_, fun j hj => ?_⟩
  · have h2 := List.findIdx_getElem (w := hlt)
    have h3 := szT_get h1
    rw [List.getElem?_eq_getElem (by omega)] at h3
    have h3 := Option.some.inj h3
    have h2 : n ≤ szT[szT.findIdx (fun s => decide (n ≤ s))] := by simpa using h2
    rw [← h3]
    exact h2
  · have h2 := List.not_of_lt_findIdx (p := fun s => decide (n ≤ s)) (xs := szT) hj
    have h3 := szT_get (k := j) (by omega)
    rw [List.getElem?_eq_getElem (by omega)] at h3
    have h3 := Option.some.inj h3
    rw [← h3]
    simpa using h2
theorem ofN_uniq {n : Int} {k : Nat} (h : n ≤ 256) (hk : k < 16) (h1 : n ≤ szS k) (h2 : ∀ j : Nat, j < k → szS j < n) : k = ofN n := by
  obtain ⟨a, b, c⟩ := ofN_spec h
  rcases Nat.lt_trichotomy k (ofN n) with q | q | q
  · have := c k q; omega
  · exact q
  · have := h2 _ q; omega
def szV : Array Value := #[.int .i64 1, .int .i64 2, .int .i64 3, .int .i64 4, .int .i64 6, .int .i64 8, .int .i64 12, .int .i64 16, .int .i64 24, .int .i64 32, .int .i64 48, .int .i64 64, .int .i64 96, .int .i64 128, .int .i64 192, .int .i64 256]
theorem szV_eq : szV = (szT.map fun n => Value.int .i64 n).toArray := rfl
theorem ix_szV {k : Int} (h : 0 ≤ k ∧ k < 16) : ixA false 16 1 (.agg szV) (.int .i64 k) = some (.int .i64 (szS k)) := by
  obtain ⟨n, rfl⟩ : ∃ n : Nat, k = n := ⟨k.toNat, by omega⟩
  show (if 0 ≤ (n : Int) ∧ (n : Int) < ((16 : Nat) : Int) then (bif false then _ else szV[(n : Int).toNat * 1]?) else none) = _
  rw [if_pos (by omega), cond_false, Int.toNat_natCast, Nat.mul_one, szV_eq]
  simp only [List.getElem?_toArray, List.getElem?_map, szT_get (show n < 16 by omega)]
  rfl
end Go.Sl

/-
  Append of what is only read.
-/
namespace Go.Sl
theorem rd_first0 {P : Program} {sz xc : Nat} {xa : Option Addr} {h : Hp} : (Builtin.firstCells sz 0 (.slice xa 0 xc)).rd P h = some #[] := by
  cases xa with
  | none => rfl
  | some a =>
    show (loadCells a (0 * sz)).rd P h = some #[]
    rw [Nat.zero_mul]
    rfl
theorem apW_none0 {P : Program} {ts : Array TypeId} {t t0 t1 e : TypeId} {i : TypeInfo} {z : Value} (ok : ElemOk P ts t0 e i z) (h1 : ts[1]? = some t1) (hd : noInt P t1)
    {sb : Option Addr} {sl sc xc : Nat} {xa : Option Addr} {K : Value → Hp → Prop} {h : Hp} (hs : sl ≤ sc) (hk : K (.slice sb sl sc) h) :
    apW P ts t (.slice sb sl sc) (.slice xa 0 xc) K h := by
  obtain ⟨d, hd, hn1⟩ := hd
  unfold apW Builtin.append_
  simp only [ok.at0, h1]
  show Sem.vc P (do let d ← underlying t0; _) K h
  refine vc_rd_bind (by rw [rd_underlying]; exact ok.sl) ?_
  simp only
  refine vc_rd_bind (rd_size (by rw [ok.info]; rfl)) ?_
  rw [info_size ok.info]
  refine vc_rd_bind (by rw [rd_underlying]; exact hd) ?_
  refine vc_rd_bind (a := false) (by cases d <;> first | exact (hn1 _ rfl).elim | rfl) ?_
  simp only [Bool.false_eq_true, if_false]
  refine vc_rd_bind (a := 0) rfl ?_
  rw [if_pos (show sl + 0 ≤ sc by omega)]
  simp only [Bool.not_false, if_true]
  refine vc_rd_bind rd_first0 ?_
  cases sb with
  | none => exact hk
  | some a => exact hk
variable {α : Type} (e : Enc α)
theorem ap_zero {P : Program} {ts : Array TypeId} {t t0 t1 E sz bytes : Nat} (ok : ElOk P t0 E sz bytes) (h0 : ts[0]? = some t0) (h1 : ts[1]? = some t1) (hd : noInt P t1)
    {sv : Value} {l : List α} {F : Asrt} {K : Value → Hp → Prop} {h : Hp} {xa : Option Addr} {xc : Nat} (hh : (SG e E sv l * F) h) (hk : K sv h) : apW P ts t sv (.slice xa 0 xc) K h := by
  obtain ⟨i, z, okk, _, _, _⟩ := ok.ok
  have ok := okk ts h0
  rcases SG_elim e hh with ⟨rfl, rfl, _⟩ | ⟨r, cap, pre, post, rfl, h2, _⟩
  · exact apW_none0 ok h1 hd (Nat.le_refl _) hk
  · exact apW_none0 ok h1 hd h2 hk
theorem cell_spot' {g : Hp} {a : Addr} {v : Value} (h : g.cell a = some v) : a.spot = none := by
  obtain ⟨o, ho, hc⟩ := Hp.block_of_cell h
  cases hs : a.spot with
  | none => rfl
  | some s => cases o <;> simp_all [Obj.cellAt]
theorem ap_ints {P : Program} {ts : Array TypeId} {t t0 t1 E bytes : Nat} (ok : ElOk P t0 E 1 bytes) (h0 : ts[0]? = some t0) (h1 : ts[1]? = some t1) (hd : noInt P t1) (hbp : 0 < bytes)
    {sv sx : Value} {l xs : List Int} {F : Asrt} {K : Value → Hp → Prop} {h : Hp} (hx : IntsAt h sx xs) (hh : (SG iE E sv l * (F * tt)) h) (hb : (2 * (l.length + xs.length) + 256) * bytes ≤ 281474976710656)
    (hk : ∀ v h', (SG iE E v (l ++ xs) * (F * tt)) h' → K v h') : apW P ts t sv sx K h := by
  have hl := hx.len
  unfold lenV at hl
  split at hl
  · rename_i a n c
    have hn : n = xs.length := by
      have := Value.int.inj (Option.some.inj hl)
      omega
    subst hn
    by_cases hx0 : xs = []
    · subst hx0
      rw [List.append_nil] at hk
      exact ap_zero iE ok h0 h1 hd hh (hk _ _ hh)
    · have hpos := List.length_pos_iff.2 hx0
      cases a with
      | none =>
        obtain ⟨p, e1, _⟩ := hx.get 0 xs[0] .i64 (List.getElem?_eq_getElem hpos)
        cases e1
      | some a =>
        refine ap_SG iE ok h0 h1 hd rfl hbp hh ?_ rfl hb hk
        show h.row a (xs.length * 1) = _
        rw [Nat.mul_one, iE_cs]
        refine row_of_cells hpos (by simp) fun j hj => ?_
        obtain ⟨p, e1, e2⟩ := hx.get j xs[j] .i64 (List.getElem?_eq_getElem hj)
        rw [iaS_at hj] at e1
        cases e1
        have e2 : h.cell (a.add (j * 1)) = some (.int .i64 xs[j]) := e2
        rw [Nat.mul_one] at e2
        rw [e2, List.getElem?_map, List.getElem?_eq_getElem hj]
        rfl
  · cases hl
end Go.Sl
