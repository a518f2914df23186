/-
  Views that are made; law 29's told.
-/
import Derived.Test.YtdcoflglkfbpcaaVq1
set_option linter.unusedVariables false
set_option linter.unusedSimpArgs false
set_option maxRecDepth 100000
set_option maxHeartbeats 400000
namespace Go.Proofs
open Go.Sl

abbrev SlV := Option Addr × Nat × Nat
def slv (s : SlV) : Value := .slice s.1 s.2.1 s.2.2
def obE : Enc (Int × SlV × Bool) := ⟨fun o => [.int .i64 o.1, slv o.2.1, .bool o.2.2], 3, fun _ => rfl, fun _ => rfl, by omega⟩
def grE : Enc (Int × Int × SlV) := ⟨fun o => [.int .i64 o.1, .int .i64 o.2.1, slv o.2.2], 3, fun _ => rfl, fun _ => rfl, by omega⟩

theorem SG_rows {α : Type} (e : Enc α) {E : Nat} {sv : Value} {l : List α} {F : Asrt} {h : Hp} (hh : (SG e E sv l * F) h) : RowsAt h e.sz sv (l.map e.enc) := by
  refine ⟨by rw [List.length_map]; exact SG_len e hh, by rw [List.length_map]; exact SG_lt e hh, fun j r k hj => ?_⟩
  rw [List.getElem?_map] at hj
  obtain ⟨x, hx, rfl⟩ := Option.map_eq_some_iff.1 hj
  obtain ⟨b, o, e1, e2, e3, _⟩ := elG e hh hx k
  exact ⟨e.len x, b, o, e1, e2, e3⟩

theorem star_emp {A : Asrt} {g : Hp} (h : A g) : (A * emp) g := ⟨g, Hp.emp, Disj.emp g, by rw [Hp.add_emp], h, rfl⟩

def w29 (gv ov s0 s1 s2 : Value) : VW := ⟨0, 0, 0, gv, [64], .slice none 0 0, [], ov, [⟨64, s0, [128, 0], false⟩, ⟨128, s1, [256], true⟩, ⟨192, s2, [0], false⟩], 0, 0, 0⟩

section
variable {gv ov s0 s1 s2 : Value}

theorem w29_names {x : Int} : x ∈ (w29 gv ov s0 s1 s2).names ↔ x = 64 := by simp [VW.names, w29]
theorem w29_64 : (w29 gv ov s0 s1 s2).at 64 = some 0 := rfl
theorem w29_128 : (w29 gv ov s0 s1 s2).at 128 = some 1 := rfl
theorem w29_192 : (w29 gv ov s0 s1 s2).at 192 = some 2 := rfl
theorem w29_256 : (w29 gv ov s0 s1 s2).at 256 = none := rfl

theorem w29_e1 : (w29 gv ov s0 s1 s2).edge 64 128 := ⟨0, _, w29_64, rfl, by simp, by decide⟩
theorem w29_e2 : (w29 gv ov s0 s1 s2).edge 128 256 := ⟨1, _, w29_128, rfl, by simp, by decide⟩
theorem w29_r : (w29 gv ov s0 s1 s2).root 64 := ⟨w29_names.2 rfl, by decide⟩

theorem w29_rch {x : Int} : Rch (w29 gv ov s0 s1 s2) x ↔ x = 64 ∨ x = 128 ∨ x = 256 := by
  constructor
  · intro h
    refine rch_one (P := fun x => x = 64 ∨ x = 128 ∨ x = 256) (fun x hx _ => .inl (w29_names.1 hx)) (fun x k o y hx hk ho hy hn => ?_) h
    rcases hx with rfl | rfl | rfl
    · rw [w29_64] at hk; cases hk
      cases (ho : some _ = some o)
      have hy : y = 128 ∨ y = 0 := by simpa using hy
      rcases hy with hy | hy
      · exact .inr (.inl hy)
      · exact (hn hy).elim
    · rw [w29_128] at hk; cases hk
      cases (ho : some _ = some o)
      have hy : y = 256 := by simpa using hy
      exact .inr (.inr hy)
    · rw [w29_256] at hk; cases hk
  · have w1 : Go.Sl.Way (w29 gv ov s0 s1 s2) [64] 64 := .root w29_r
    have w2 := w1.step w29_e1
    have w3 := w2.step w29_e2
    rintro (rfl | rfl | rfl)
    · exact w1.rch
    · exact w2.rch
    · exact w3.rch

theorem w29_reach {l : List Int} (h : ReachL (w29 gv ov s0 s1 s2) l) : l = [64, 128] := by
  refine Rise_ext h.1 (by simp [Rise]) fun x => ?_
  rw [h.2, w29_rch]
  constructor
  · rintro ⟨rfl | rfl | rfl, h2⟩
    · simp
    · simp
    · rw [w29_256] at h2; cases h2
  · intro hx
    have hx : x = 64 ∨ x = 128 := by simpa using hx
    rcases hx with rfl | rfl
    · exact ⟨.inl rfl, by rw [w29_64]; rfl⟩
    · exact ⟨.inr (.inl rfl), by rw [w29_128]; rfl⟩

theorem w29_lost {l : List Int} (h : LostL (w29 gv ov s0 s1 s2) l) : l = [256] := by
  refine Rise_ext h.1 (by simp [Rise]) fun x => ?_
  rw [h.2, w29_rch]
  constructor
  · rintro ⟨rfl | rfl | rfl, h2⟩
    · rw [w29_64] at h2; cases h2
    · rw [w29_128] at h2; cases h2
    · simp
  · intro hx
    have hx : x = 256 := by simpa using hx
    subst hx
    exact ⟨.inr (.inr rfl), w29_256⟩

theorem w29_white {l : List Int} (h : WhiteL (w29 gv ov s0 s1 s2) l) : l = [64] := by
  refine Rise_ext h.1 (by simp [Rise]) fun x => ?_
  rw [h.2, w29_rch]
  constructor
  · rintro ⟨rfl | rfl | rfl, k, o, h1, h2, h3⟩
    · simp
    · rw [w29_128] at h1; cases h1
      cases (h2 : some _ = some o)
      cases h3
    · rw [w29_256] at h1; cases h1
  · intro hx
    have hx : x = 64 := by simpa using hx
    subst hx
    exact ⟨.inl rfl, 0, _, w29_64, rfl, rfl⟩

theorem w29_path {l : List Int} (h : PathL (w29 gv ov s0 s1 s2) 128 l) : l = [64, 128] := by
  have hw : Go.Sl.Way (w29 gv ov s0 s1 s2) [64, 128] 128 := (Go.Sl.Way.root w29_r).step w29_e1
  rcases h with ⟨_, hb⟩ | ⟨_, hn | hn⟩
  · refine hb.uniq ⟨hw, fun q hq => ?_⟩
    cases hq with
    | root hr => exact absurd (w29_names.1 hr.1) (by decide)
    | @step q0 e _ hq0 he =>
      cases hq0 with
      | root hr =>
        have := w29_names.1 hr.1
        subst this
        exact ⟨by simp, fun _ => .inl rfl⟩
      | step h1 h2 =>
        obtain ⟨i, rfl⟩ := h1.last
        simp
  · rw [w29_128] at hn; cases hn
  · exact (hn _ hw).elim

theorem w29_small : Small (w29 gv ov s0 s1 s2) := by
  refine ⟨by simp [VW.all, VW.names, w29], by simp [w29], by simp [w29], fun o ho => ?_⟩
  have : o = ⟨64, s0, [128, 0], false⟩ ∨ o = ⟨128, s1, [256], true⟩ ∨ o = ⟨192, s2, [0], false⟩ := by simpa [w29] using ho
  rcases this with rfl | rfl | rfl <;> simp

end

theorem w29_vat {g : Hp} {a0 a1 a2 : SlV} {gv ov : Value} (h : (SG iE 3 gv [64] * (SG iE 3 (slv a0) [128, 0] * (SG iE 3 (slv a1) [256] * (SG iE 3 (slv a2) [0] * SG obE 30 ov [(64, a0, false), (128, a1, true), (192, a2, false)])))) g) : VAt g (w29 gv ov (slv a0) (slv a1) (slv a2)) := by
  obtain ⟨A, hA⟩ : ∃ A, A = SG iE 3 gv [64] := ⟨_, rfl⟩
  obtain ⟨B, hB⟩ : ∃ A, A = SG iE 3 (slv a0) [128, 0] := ⟨_, rfl⟩
  obtain ⟨C, hC⟩ : ∃ A, A = SG iE 3 (slv a1) [256] := ⟨_, rfl⟩
  obtain ⟨D, hD⟩ : ∃ A, A = SG iE 3 (slv a2) [0] := ⟨_, rfl⟩
  obtain ⟨E, hE⟩ : ∃ A, A = SG obE 30 ov [(64, a0, false), (128, a1, true), (192, a2, false)] := ⟨_, rfl⟩
  rw [← hA, ← hB, ← hC, ← hD, ← hE] at h
  have h2 : (B * (A * (C * (D * E)))) g := asr (by ac_rfl) h
  have h3 : (C * (A * (B * (D * E)))) g := asr (by ac_rfl) h
  have h4 : (D * (A * (B * (C * E)))) g := asr (by ac_rfl) h
  have h5 : (E * (A * (B * (C * D)))) g := asr (by ac_rfl) h
  rw [hA] at h; rw [hB] at h2; rw [hC] at h3; rw [hD] at h4; rw [hE] at h5
  refine ⟨SG_ints h, rows_nil _, SG_rows obE h5, fun o ho => ?_, by simp [w29]⟩
  have : o = ⟨64, slv a0, [128, 0], false⟩ ∨ o = ⟨128, slv a1, [256], true⟩ ∨ o = ⟨192, slv a2, [0], false⟩ := by simpa [w29] using ho
  rcases this with rfl | rfl | rfl
  · exact SG_ints h2
  · exact SG_ints h3
  · exact SG_ints h4

/-- A slice of numbers, just made. -/
theorem new_ints {r : Nat} {cs : Array Value} {l : List Int} {F : Asrt} {h : Hp} (hh : (pt r (.cells cs 3 (0, 0)) * F) h) (hl : cs = (l.map fun n => Value.int .i64 n).toArray) (hb : l.length < 9223372036854775808) : (SG iE 3 (.slice (some ⟨r, 0, none⟩) l.length l.length) l * F) h := by
  refine SG_intro iE (pre := []) (post := []) rfl rfl (Nat.le_refl _) hb (by simp) ?_
  rw [List.append_nil, List.nil_append, iE_cs, ← hl]
  exact hh

theorem putL_all {c d : Array Value} (h : d.size = c.size) : putL c 0 d.toList = d := by
  have h' : d.toList.length = c.toList.length := by simpa using h
  have e := putL_toArray d.toList c.toList 0 (by omega)
  have hd : c.toList.drop (0 + d.toList.length) = [] := List.drop_eq_nil_iff.2 (by omega)
  rw [hd] at e
  simpa using e

theorem use_told29 {F : Asrt} {K : Value → Hp → Prop} {h : Hp} (hh : (F * tt) h) (hK : ∀ h', (F * tt) h' → K (.bool true) h') : CallH Try.prog 13 #[] K h := by
  refine C13 ?_
  unfold D13
  have b1 : ∀ x : Int, bldV #[.int .i64 0] [(0, 1, .int .i64 x)] = some #[.int .i64 x] := fun _ => rfl
  have b2 : ∀ x y : Int, bldV #[.int .i64 0, .int .i64 0] [(0, 1, .int .i64 x), (1, 1, .int .i64 y)] = some #[.int .i64 x, .int .i64 y] := fun _ _ => rfl
  try rw [b1]
  refine vA_new (f := fun r => .slice (some ⟨r, 0, none⟩) 1 1) hh fun ra h1 hh1 => ?_
  have hh1 : (SG iE 3 (.slice (some ⟨ra, 0, none⟩) 1 1) [64] * (F * tt)) h1 := new_ints (l := [64]) hh1 rfl (by simp)
  try rw [b2]
  refine vA_new (f := fun r => .slice (some ⟨r, 0, none⟩) 2 2) hh1 fun rb h2 hh2 => ?_
  have hh2 : (SG iE 3 (.slice (some ⟨rb, 0, none⟩) 2 2) [128, 0] * (SG iE 3 (.slice (some ⟨ra, 0, none⟩) 1 1) [64] * (F * tt))) h2 := new_ints (l := [128, 0]) hh2 rfl (by simp)
  refine vP_to (x := .agg #[.int .i64 64, .slice (some ⟨rb, 0, none⟩) 2 2, .bool false]) rfl ?_
  try rw [b1]
  refine vA_new (f := fun r => .slice (some ⟨r, 0, none⟩) 1 1) hh2 fun rc h3 hh3 => ?_
  have hh3 : (SG iE 3 (.slice (some ⟨rc, 0, none⟩) 1 1) [256] * (SG iE 3 (.slice (some ⟨rb, 0, none⟩) 2 2) [128, 0] * (SG iE 3 (.slice (some ⟨ra, 0, none⟩) 1 1) [64] * (F * tt)))) h3 := new_ints (l := [256]) hh3 rfl (by simp)
  refine vP_to (x := .agg #[.int .i64 128, .slice (some ⟨rc, 0, none⟩) 1 1, .bool true]) rfl ?_
  try rw [b1]
  refine vA_new (f := fun r => .slice (some ⟨r, 0, none⟩) 1 1) hh3 fun rd h4 hh4 => ?_
  have hh4 : (SG iE 3 (.slice (some ⟨rd, 0, none⟩) 1 1) [0] * (SG iE 3 (.slice (some ⟨rc, 0, none⟩) 1 1) [256] * (SG iE 3 (.slice (some ⟨rb, 0, none⟩) 2 2) [128, 0] * (SG iE 3 (.slice (some ⟨ra, 0, none⟩) 1 1) [64] * (F * tt))))) h4 := new_ints (l := [0]) hh4 rfl (by simp)
  refine vP_to (x := .agg #[.int .i64 192, .slice (some ⟨rd, 0, none⟩) 1 1, .bool false]) rfl ?_
  obtain ⟨a0, ha0⟩ : ∃ a : SlV, a = (some ⟨rb, 0, none⟩, 2, 2) := ⟨_, rfl⟩
  obtain ⟨a1, ha1⟩ : ∃ a : SlV, a = (some ⟨rc, 0, none⟩, 1, 1) := ⟨_, rfl⟩
  obtain ⟨a2, ha2⟩ : ∃ a : SlV, a = (some ⟨rd, 0, none⟩, 1, 1) := ⟨_, rfl⟩
  have bO : bldV #[(Value.int .i64 0), (Value.slice none 0 0), (Value.bool false), (Value.int .i64 0), (Value.slice none 0 0), (Value.bool false), (Value.int .i64 0), (Value.slice none 0 0), (Value.bool false)] [(0, 3, .agg #[.int .i64 64, .slice (some ⟨rb, 0, none⟩) 2 2, .bool false]), (3, 3, .agg #[.int .i64 128, .slice (some ⟨rc, 0, none⟩) 1 1, .bool true]), (6, 3, .agg #[.int .i64 192, .slice (some ⟨rd, 0, none⟩) 1 1, .bool false])] =
      some #[.int .i64 64, slv a0, .bool false, .int .i64 128, slv a1, .bool true, .int .i64 192, slv a2, .bool false] := by subst ha0; subst ha1; subst ha2; rfl
  rw [bO]
  refine vA_new (f := fun r => .slice (some ⟨r, 0, none⟩) 3 3) hh4 fun re h5 hh5 => ?_
  have hh5 : (SG obE 30 (.slice (some ⟨re, 0, none⟩) 3 3) [(64, a0, false), (128, a1, true), (192, a2, false)] * (SG iE 3 (slv a2) [0] * (SG iE 3 (slv a1) [256] * (SG iE 3 (slv a0) [128, 0] * (SG iE 3 (.slice (some ⟨ra, 0, none⟩) 1 1) [64] * (F * tt)))))) h5 := by
    have hc : #[.int .i64 64, slv a0, .bool false, .int .i64 128, slv a1, .bool true, .int .i64 192, slv a2, .bool false] = ([] ++ (obE.cs [(64, a0, false), (128, a1, true), (192, a2, false)] ++ [])).toArray := rfl
    have s0 : Value.slice (some ⟨rb, 0, none⟩) 2 2 = slv a0 := by subst ha0; rfl
    have s1 : Value.slice (some ⟨rc, 0, none⟩) 1 1 = slv a1 := by subst ha1; rfl
    have s2 : Value.slice (some ⟨rd, 0, none⟩) 1 1 = slv a2 := by subst ha2; rfl
    rw [hc, s0, s1, s2] at hh5
    exact SG_intro obE (pre := []) (post := []) (n := 3) (cap := 3) rfl rfl (Nat.le_refl _) (by omega) (Nat.le_refl _) hh5
  obtain ⟨g, hg, hh5⟩ := own_pick (A := SG iE 3 (.slice (some ⟨ra, 0, none⟩) 1 1) [64] * (SG iE 3 (slv a0) [128, 0] * (SG iE 3 (slv a1) [256] * (SG iE 3 (slv a2) [0] * SG obE 30 (.slice (some ⟨re, 0, none⟩) 3 3) [(64, a0, false), (128, a1, true), (192, a2, false)])))) (F := F * tt) (asr (by ac_rfl) hh5)
  have hv := w29_vat hg
  obtain ⟨w, hw⟩ : ∃ w, w = w29 (.slice (some ⟨ra, 0, none⟩) 1 1) (.slice (some ⟨re, 0, none⟩) 3 3) (slv a0) (slv a1) (slv a2) := ⟨_, rfl⟩
  rw [← hw] at hv
  have hN : w.all.length ≤ 1000000 := by rw [hw]; exact w29_small.all
  have p1 : ∀ l, ReachL w l → l = [64, 128] := fun l q => w29_reach (hw ▸ q)
  have p2 : ∀ l, LostL w l → l = [256] := fun l q => w29_lost (hw ▸ q)
  have p3 : ∀ l, WhiteL w l → l = [64] := fun l q => w29_white (hw ▸ q)
  have p4 : ∀ l, PathL w 128 l → l = [64, 128] := fun l q => w29_path (hw ▸ q)
  have p5 : findV w 192 = 2 := by subst hw; rfl
  have p6 : sumO w.objs = 4 := by subst hw; rfl
  have p7 : w.objs.length ≤ 1000000 := by rw [hw]; simp [w29]
  have bV : (bldV #[(Value.int .i64 0), (Value.int .i64 0), (Value.int .i64 0), (Value.slice none 0 0), (Value.slice none 0 0), (Value.slice none 0 0), (Value.int .i64 0), (Value.int .i64 0), (Value.int .i64 0)] [(3, 1, .slice (some ⟨ra, 0, none⟩) 1 1), (5, 1, .slice (some ⟨re, 0, none⟩) 3 3)]).map Value.agg = some w.val := by rw [hw]; rfl
  have hone : w.cells.toList.all Go.Sl.one = true := VW.cells_one hv
  have hput : putL #[(Value.int .i64 0), (Value.int .i64 0), (Value.int .i64 0), (Value.slice none 0 0), (Value.slice none 0 0), (Value.slice none 0 0), (Value.int .i64 0), (Value.int .i64 0), (Value.int .i64 0)] 0 w.cells.toList = w.cells := putL_all rfl
  clear hg hw
  refine vP_to bV ?_
  refine vA_new (f := ptrV) hh5 fun r1 h6 hh6 => ?_
  refine stN_mk (cs := w.cells) hh6 hone rfl (by simp) fun h7 hh7 => ?_
  rw [hput] at hh7
  have lv : ∀ {h} {G : Asrt}, (G * (own g * (pt r1 (.cells w.cells 26 (0, 0)) * F * tt))) h → ldN 9 (.pointer (some ⟨r1, 0, none⟩)) h = some w.val := fun {h G} q =>
    (vw_ld (r := r1) (w := w) (E := 26) (F := G * (own g * (F * tt))) (asr (by ac_rfl) q)).2.2.2.2.2.2.2.2.2
  have lv0 : ∀ {h}, (own g * (pt r1 (.cells w.cells 26 (0, 0)) * F * tt)) h → ldN 9 (.pointer (some ⟨r1, 0, none⟩)) h = some w.val := fun {h} q =>
    (vw_ld (r := r1) (w := w) (E := 26) (F := own g * (F * tt)) (asr (by ac_rfl) q)).2.2.2.2.2.2.2.2.2
  have hh7 : (own g * (pt r1 (.cells w.cells 26 (0, 0)) * F * tt)) h7 := asr (by ac_rfl) hh7
  -- a list out of a call, against a list that is made here
  have cmp : ∀ {v : Value} {l : List Int} (m : List Int) (n : Nat) {h : Hp} {r : Nat} {K : Value → Hp → Prop}, l = m → n = m.length → m.length ≤ 2 → (pt r (.cells (m.map fun n => Value.int .i64 n).toArray 3 (0, 0)) * (SG iE 3 v l * (own g * (pt r1 (.cells w.cells 26 (0, 0)) * F * tt)))) h →
      ((own g * (pt r1 (.cells w.cells 26 (0, 0)) * F * tt)) h → K (.bool true) h) → CallH Try.prog 14 #[v, .slice (some ⟨r, 0, none⟩) n n] K h := by
    intro v l m n h r K e1 e2 e3 q k
    subst e2
    have q := new_ints (l := m) q rfl (by omega)
    have i2 : IntsAt h (.slice (some ⟨r, 0, none⟩) m.length m.length) m := SG_ints q
    have q2 : (SG iE 3 v l * (SG iE 3 (.slice (some ⟨r, 0, none⟩) m.length m.length) m * (own g * (pt r1 (.cells w.cells 26 (0, 0)) * F * tt)))) h := asr (by ac_rfl) q
    refine use_ints (SG_ints q2) i2 ?_
    rw [decide_eq_true e1]
    exact k (dropL (P := SG iE 3 v l * SG iE 3 (.slice (some ⟨r, 0, none⟩) m.length m.length) m) (Q := own g * (pt r1 (.cells w.cells 26 (0, 0)) * F)) (asr (by ac_rfl) q) |> asr (by ac_rfl))
  repeat (with_reducible first | refine vP_so ?_ | refine vB_t ?_ | refine vB_f ?_ | refine vE_tt ?_ | refine vE_ff ?_ | refine vE_tf ?_ | refine vE_ft ?_ | refine vE_u ?_ | refine vP_to (by simp (disch := omega) only [gdW_true, gdW_false, gB_true, gB_false, gB_undef, pickV_true, pickV_false, Bool.not_true, Bool.not_false, Option.map_some, bin_add, bin_sub, bin_mul, bin_quo, bin_rem, lss_t, lss_f, leq_t, leq_f, gtr_t, gtr_f, geq_t, geq_f, eqi_t, eqi_f, nei_t, nei_f, rem_uw, conv_ui, conv_iu, conv_ii, not_bool, nil_ptr, fa_mk, ptrV, len_mk, cap_mk, eq_ptr_nil, ne_ptr_nil, eq_nil_nil, ne_nil_nil, eq_slice_nil, eq_nil_slice, ia_1, lv0 hh7]; exact so_so) ?_)
  refine use_reach hv hN hh7 fun v12 l h8 hl _ hh8 => ?_
  try rw [b2]
  refine vA_new (f := fun r => .slice (some ⟨r, 0, none⟩) 2 2) hh8 fun r13 h9 hh9 => ?_
  refine cmp [64, 128] 2 (p1 l hl) rfl (by simp) hh9 fun hh10 => ?_
  repeat (with_reducible first | refine vP_so ?_ | refine vB_t ?_ | refine vB_f ?_ | refine vE_tt ?_ | refine vE_ff ?_ | refine vE_tf ?_ | refine vE_ft ?_ | refine vE_u ?_ | refine vP_to (by simp (disch := omega) only [gdW_true, gdW_false, gB_true, gB_false, gB_undef, pickV_true, pickV_false, Bool.not_true, Bool.not_false, Option.map_some, bin_add, bin_sub, bin_mul, bin_quo, bin_rem, lss_t, lss_f, leq_t, leq_f, gtr_t, gtr_f, geq_t, geq_f, eqi_t, eqi_f, nei_t, nei_f, rem_uw, conv_ui, conv_iu, conv_ii, not_bool, nil_ptr, fa_mk, ptrV, len_mk, cap_mk, eq_ptr_nil, ne_ptr_nil, eq_nil_nil, ne_nil_nil, eq_slice_nil, eq_nil_slice, ia_1, lv0 hh10]; exact so_so) ?_)
  refine use_white hv hN hh10 fun v17 l h11 hl _ hh11 => ?_
  repeat (with_reducible first | refine vP_so ?_ | refine vB_t ?_ | refine vB_f ?_ | refine vE_tt ?_ | refine vE_ff ?_ | refine vE_tf ?_ | refine vE_ft ?_ | refine vE_u ?_ | refine vP_to (by simp (disch := omega) only [gdW_true, gdW_false, gB_true, gB_false, gB_undef, pickV_true, pickV_false, Bool.not_true, Bool.not_false, Option.map_some, bin_add, bin_sub, bin_mul, bin_quo, bin_rem, lss_t, lss_f, leq_t, leq_f, gtr_t, gtr_f, geq_t, geq_f, eqi_t, eqi_f, nei_t, nei_f, rem_uw, conv_ui, conv_iu, conv_ii, not_bool, nil_ptr, fa_mk, ptrV, len_mk, cap_mk, eq_ptr_nil, ne_ptr_nil, eq_nil_nil, ne_nil_nil, eq_slice_nil, eq_nil_slice, ia_1]; exact so_so) ?_)
  try rw [b1]
  refine vA_new (f := fun r => .slice (some ⟨r, 0, none⟩) 1 1) hh11 fun r18 h12 hh12 => ?_
  repeat (with_reducible first | refine vP_so ?_ | refine vB_t ?_ | refine vB_f ?_ | refine vE_tt ?_ | refine vE_ff ?_ | refine vE_tf ?_ | refine vE_ft ?_ | refine vE_u ?_ | refine vP_to (by simp (disch := omega) only [gdW_true, gdW_false, gB_true, gB_false, gB_undef, pickV_true, pickV_false, Bool.not_true, Bool.not_false, Option.map_some, bin_add, bin_sub, bin_mul, bin_quo, bin_rem, lss_t, lss_f, leq_t, leq_f, gtr_t, gtr_f, geq_t, geq_f, eqi_t, eqi_f, nei_t, nei_f, rem_uw, conv_ui, conv_iu, conv_ii, not_bool, nil_ptr, fa_mk, ptrV, len_mk, cap_mk, eq_ptr_nil, ne_ptr_nil, eq_nil_nil, ne_nil_nil, eq_slice_nil, eq_nil_slice, ia_1]; exact so_so) ?_)
  refine cmp [64] 1 (p3 l hl) rfl (by simp) hh12 fun hh13 => ?_
  repeat (with_reducible first | refine vP_so ?_ | refine vB_t ?_ | refine vB_f ?_ | refine vE_tt ?_ | refine vE_ff ?_ | refine vE_tf ?_ | refine vE_ft ?_ | refine vE_u ?_ | refine vP_to (by simp (disch := omega) only [gdW_true, gdW_false, gB_true, gB_false, gB_undef, pickV_true, pickV_false, Bool.not_true, Bool.not_false, Option.map_some, bin_add, bin_sub, bin_mul, bin_quo, bin_rem, lss_t, lss_f, leq_t, leq_f, gtr_t, gtr_f, geq_t, geq_f, eqi_t, eqi_f, nei_t, nei_f, rem_uw, conv_ui, conv_iu, conv_ii, not_bool, nil_ptr, fa_mk, ptrV, len_mk, cap_mk, eq_ptr_nil, ne_ptr_nil, eq_nil_nil, ne_nil_nil, eq_slice_nil, eq_nil_slice, ia_1, lv0 hh13]; exact so_so) ?_)
  refine use_lost hv hN hh13 fun v23 l h14 hl _ hh14 => ?_
  repeat (with_reducible first | refine vP_so ?_ | refine vB_t ?_ | refine vB_f ?_ | refine vE_tt ?_ | refine vE_ff ?_ | refine vE_tf ?_ | refine vE_ft ?_ | refine vE_u ?_ | refine vP_to (by simp (disch := omega) only [gdW_true, gdW_false, gB_true, gB_false, gB_undef, pickV_true, pickV_false, Bool.not_true, Bool.not_false, Option.map_some, bin_add, bin_sub, bin_mul, bin_quo, bin_rem, lss_t, lss_f, leq_t, leq_f, gtr_t, gtr_f, geq_t, geq_f, eqi_t, eqi_f, nei_t, nei_f, rem_uw, conv_ui, conv_iu, conv_ii, not_bool, nil_ptr, fa_mk, ptrV, len_mk, cap_mk, eq_ptr_nil, ne_ptr_nil, eq_nil_nil, ne_nil_nil, eq_slice_nil, eq_nil_slice, ia_1]; exact so_so) ?_)
  try rw [b1]
  refine vA_new (f := fun r => .slice (some ⟨r, 0, none⟩) 1 1) hh14 fun r24 h15 hh15 => ?_
  repeat (with_reducible first | refine vP_so ?_ | refine vB_t ?_ | refine vB_f ?_ | refine vE_tt ?_ | refine vE_ff ?_ | refine vE_tf ?_ | refine vE_ft ?_ | refine vE_u ?_ | refine vP_to (by simp (disch := omega) only [gdW_true, gdW_false, gB_true, gB_false, gB_undef, pickV_true, pickV_false, Bool.not_true, Bool.not_false, Option.map_some, bin_add, bin_sub, bin_mul, bin_quo, bin_rem, lss_t, lss_f, leq_t, leq_f, gtr_t, gtr_f, geq_t, geq_f, eqi_t, eqi_f, nei_t, nei_f, rem_uw, conv_ui, conv_iu, conv_ii, not_bool, nil_ptr, fa_mk, ptrV, len_mk, cap_mk, eq_ptr_nil, ne_ptr_nil, eq_nil_nil, ne_nil_nil, eq_slice_nil, eq_nil_slice, ia_1]; exact so_so) ?_)
  refine cmp [256] 1 (p2 l hl) rfl (by simp) hh15 fun hh16 => ?_
  repeat (with_reducible first | refine vP_so ?_ | refine vB_t ?_ | refine vB_f ?_ | refine vE_tt ?_ | refine vE_ff ?_ | refine vE_tf ?_ | refine vE_ft ?_ | refine vE_u ?_ | refine vP_to (by simp (disch := omega) only [gdW_true, gdW_false, gB_true, gB_false, gB_undef, pickV_true, pickV_false, Bool.not_true, Bool.not_false, Option.map_some, bin_add, bin_sub, bin_mul, bin_quo, bin_rem, lss_t, lss_f, leq_t, leq_f, gtr_t, gtr_f, geq_t, geq_f, eqi_t, eqi_f, nei_t, nei_f, rem_uw, conv_ui, conv_iu, conv_ii, not_bool, nil_ptr, fa_mk, ptrV, len_mk, cap_mk, eq_ptr_nil, ne_ptr_nil, eq_nil_nil, ne_nil_nil, eq_slice_nil, eq_nil_slice, ia_1, lv0 hh16]; exact so_so) ?_)
  refine use_vfind hv hh16 fun h17 hh17 => ?_
  rw [p5]
  repeat (with_reducible first | refine vP_so ?_ | refine vB_t ?_ | refine vB_f ?_ | refine vE_tt ?_ | refine vE_ff ?_ | refine vE_tf ?_ | refine vE_ft ?_ | refine vE_u ?_ | refine vP_to (by simp (disch := omega) only [gdW_true, gdW_false, gB_true, gB_false, gB_undef, pickV_true, pickV_false, Bool.not_true, Bool.not_false, Option.map_some, bin_add, bin_sub, bin_mul, bin_quo, bin_rem, lss_t, lss_f, leq_t, leq_f, gtr_t, gtr_f, geq_t, geq_f, eqi_t, eqi_f, nei_t, nei_f, rem_uw, conv_ui, conv_iu, conv_ii, not_bool, nil_ptr, fa_mk, ptrV, len_mk, cap_mk, eq_ptr_nil, ne_ptr_nil, eq_nil_nil, ne_nil_nil, eq_slice_nil, eq_nil_slice, ia_1, lv0 hh17]; exact so_so) ?_)
  refine use_words hv p7 hh17 fun h18 hh18 => ?_
  rw [p6]
  repeat (with_reducible first | refine vP_so ?_ | refine vB_t ?_ | refine vB_f ?_ | refine vE_tt ?_ | refine vE_ff ?_ | refine vE_tf ?_ | refine vE_ft ?_ | refine vE_u ?_ | refine vP_to (by simp (disch := omega) only [gdW_true, gdW_false, gB_true, gB_false, gB_undef, pickV_true, pickV_false, Bool.not_true, Bool.not_false, Option.map_some, bin_add, bin_sub, bin_mul, bin_quo, bin_rem, lss_t, lss_f, leq_t, leq_f, gtr_t, gtr_f, geq_t, geq_f, eqi_t, eqi_f, nei_t, nei_f, rem_uw, conv_ui, conv_iu, conv_ii, not_bool, nil_ptr, fa_mk, ptrV, len_mk, cap_mk, eq_ptr_nil, ne_ptr_nil, eq_nil_nil, ne_nil_nil, eq_slice_nil, eq_nil_slice, ia_1, lv0 hh18]; exact so_so) ?_)
  refine use_path hv hN hh18 fun v39 l h19 hl _ hh19 => ?_
  repeat (with_reducible first | refine vP_so ?_ | refine vB_t ?_ | refine vB_f ?_ | refine vE_tt ?_ | refine vE_ff ?_ | refine vE_tf ?_ | refine vE_ft ?_ | refine vE_u ?_ | refine vP_to (by simp (disch := omega) only [gdW_true, gdW_false, gB_true, gB_false, gB_undef, pickV_true, pickV_false, Bool.not_true, Bool.not_false, Option.map_some, bin_add, bin_sub, bin_mul, bin_quo, bin_rem, lss_t, lss_f, leq_t, leq_f, gtr_t, gtr_f, geq_t, geq_f, eqi_t, eqi_f, nei_t, nei_f, rem_uw, conv_ui, conv_iu, conv_ii, not_bool, nil_ptr, fa_mk, ptrV, len_mk, cap_mk, eq_ptr_nil, ne_ptr_nil, eq_nil_nil, ne_nil_nil, eq_slice_nil, eq_nil_slice, ia_1]; exact so_so) ?_)
  try rw [b2]
  refine vA_new (f := fun r => .slice (some ⟨r, 0, none⟩) 2 2) hh19 fun r40 h20 hh20 => ?_
  repeat (with_reducible first | refine vP_so ?_ | refine vB_t ?_ | refine vB_f ?_ | refine vE_tt ?_ | refine vE_ff ?_ | refine vE_tf ?_ | refine vE_ft ?_ | refine vE_u ?_ | refine vP_to (by simp (disch := omega) only [gdW_true, gdW_false, gB_true, gB_false, gB_undef, pickV_true, pickV_false, Bool.not_true, Bool.not_false, Option.map_some, bin_add, bin_sub, bin_mul, bin_quo, bin_rem, lss_t, lss_f, leq_t, leq_f, gtr_t, gtr_f, geq_t, geq_f, eqi_t, eqi_f, nei_t, nei_f, rem_uw, conv_ui, conv_iu, conv_ii, not_bool, nil_ptr, fa_mk, ptrV, len_mk, cap_mk, eq_ptr_nil, ne_ptr_nil, eq_nil_nil, ne_nil_nil, eq_slice_nil, eq_nil_slice, ia_1]; exact so_so) ?_)
  refine cmp [64, 128] 2 (p4 l hl) rfl (by simp) hh20 fun hh21 => ?_
  repeat (with_reducible first | refine vP_so ?_ | refine vB_t ?_ | refine vB_f ?_ | refine vE_tt ?_ | refine vE_ff ?_ | refine vE_tf ?_ | refine vE_ft ?_ | refine vE_u ?_ | refine vP_to (by simp (disch := omega) only [gdW_true, gdW_false, gB_true, gB_false, gB_undef, pickV_true, pickV_false, Bool.not_true, Bool.not_false, Option.map_some, bin_add, bin_sub, bin_mul, bin_quo, bin_rem, lss_t, lss_f, leq_t, leq_f, gtr_t, gtr_f, geq_t, geq_f, eqi_t, eqi_f, nei_t, nei_f, rem_uw, conv_ui, conv_iu, conv_ii, not_bool, nil_ptr, fa_mk, ptrV, len_mk, cap_mk, eq_ptr_nil, ne_ptr_nil, eq_nil_nil, ne_nil_nil, eq_slice_nil, eq_nil_slice, ia_1]; exact so_so) ?_)
  exact hK _ (dropL (P := own g * pt r1 (.cells w.cells 26 (0, 0))) (Q := F) (asr (by ac_rfl) hh21))

end Go.Proofs
