/-
  AuditEach: a view that is spoilt in one way. The plain part.
-/
import Derived.Test.YtdcoflglkfbpcaaL1
set_option linter.unusedVariables false
set_option linter.unusedSimpArgs false
set_option maxRecDepth 100000
set_option maxHeartbeats 4000000
namespace Go.Proofs
open Go.Sl

structure Ev where
  ph : Int
  nt : Int
  st1 : Int
  p1 : Int
  a1 : Int
  m0 : Bool
  m1 : Bool
  gl : List Int
  sl0 : List Int
  k0 : List Int
  k1 : List Int
  gv : Value
  v0 : Value
  v1 : Value
  t0 : Value
  t1 : Value
  rg : Nat
  ro : Nat

def Ev.w (e : Ev) : VW := ⟨e.ph, 0, 0, e.gv, e.gl, .slice (some ⟨e.rg, 0, none⟩) 2 2, [⟨2, 0, e.t0, e.k0⟩, ⟨e.st1, e.p1, e.t1, e.k1⟩], .slice (some ⟨e.ro, 0, none⟩) 2 2, [⟨64, e.v0, e.sl0, e.m0⟩, ⟨e.a1, e.v1, [0, 64], e.m1⟩], 0, e.nt, 0⟩

def gP (e : Ev) : Asrt := SG iE 3 e.gv e.gl
def t0P (e : Ev) : Asrt := SG iE 3 e.t0 e.k0
def t1P (e : Ev) : Asrt := SG iE 3 e.t1 e.k1
def v0P (e : Ev) : Asrt := SG iE 3 e.v0 e.sl0
def v1P (e : Ev) : Asrt := SG iE 3 e.v1 [0, 64]
def gsP (e : Ev) : Asrt := pt e.rg (.cells #[.int .i64 2, .int .i64 0, e.t0, .int .i64 e.st1, .int .i64 e.p1, e.t1] 41 (0, 0))
def obP (e : Ev) : Asrt := pt e.ro (.cells #[.int .i64 64, e.v0, .bool e.m0, .int .i64 e.a1, e.v1, .bool e.m1] 30 (0, 0))
def Ev.mem (e : Ev) : Asrt := gP e * (t0P e * (t1P e * (v0P e * (v1P e * (gsP e * obP e)))))

theorem rows_two {g : Hp} {r E : Nat} {a0 a1 a2 b0 b1 b2 : Value} (h : g r = some (.cells #[a0, a1, a2, b0, b1, b2] E (0, 0))) : RowsAt g 3 (.slice (some ⟨r, 0, none⟩) 2 2) [[a0, a1, a2], [b0, b1, b2]] := by
  refine ⟨rfl, by simp, fun j row k hj => ?_⟩
  match j, hj with
  | 0, hj =>
    cases hj
    refine ⟨rfl, r, 0, ia_1 (n := 0) (by decide), fun q v hq => ?_, ?_⟩
    · match q, hq with
      | 0, hq => cases hq; exact ld1_mk h rfl
      | 1, hq => cases hq; exact ld1_mk h rfl
      | 2, hq => cases hq; exact ld1_mk h rfl
      | q + 3, hq => simp at hq
    · rw [ldN_mk h (by simp)]; rfl
  | 1, hj =>
    cases hj
    refine ⟨rfl, r, 3, ia_1 (n := 1) (by decide), fun q v hq => ?_, ?_⟩
    · match q, hq with
      | 0, hq => cases hq; exact ld1_mk h rfl
      | 1, hq => cases hq; exact ld1_mk h rfl
      | 2, hq => cases hq; exact ld1_mk h rfl
      | q + 3, hq => simp at hq
    · rw [ldN_mk h (by simp)]; rfl
  | j + 2, hj => simp at hj

theorem Ev.vat {e : Ev} {g : Hp} (h : e.mem g) : VAt g e.w := by
  have h : (gP e * (t0P e * (t1P e * (v0P e * (v1P e * (gsP e * obP e)))))) g := h
  have h2 : (t0P e * (gP e * (t1P e * (v0P e * (v1P e * (gsP e * obP e)))))) g := asr (by ac_rfl) h
  have h3 : (t1P e * (gP e * (t0P e * (v0P e * (v1P e * (gsP e * obP e)))))) g := asr (by ac_rfl) h
  have h4 : (v0P e * (gP e * (t0P e * (t1P e * (v1P e * (gsP e * obP e)))))) g := asr (by ac_rfl) h
  have h5 : (v1P e * (gP e * (t0P e * (t1P e * (v0P e * (gsP e * obP e)))))) g := asr (by ac_rfl) h
  have h6 : (gsP e * (gP e * (t0P e * (t1P e * (v0P e * (v1P e * obP e)))))) g := asr (by ac_rfl) h
  have h7 : (obP e * (gP e * (t0P e * (t1P e * (v0P e * (v1P e * gsP e)))))) g := asr (by ac_rfl) h
  refine ⟨SG_ints (E := 3) h, rows_two (pt_get h6), rows_two (pt_get h7), fun o ho => ?_, fun o ho => ?_⟩
  · have : o = ⟨64, e.v0, e.sl0, e.m0⟩ ∨ o = ⟨e.a1, e.v1, [0, 64], e.m1⟩ := by simpa [Ev.w] using ho
    rcases this with rfl | rfl
    · exact SG_ints (E := 3) h4
    · exact SG_ints (E := 3) h5
  · have : o = ⟨2, 0, e.t0, e.k0⟩ ∨ o = ⟨e.st1, e.p1, e.t1, e.k1⟩ := by simpa [Ev.w] using ho
    rcases this with rfl | rfl
    · exact SG_ints (E := 3) h2
    · exact SG_ints (E := 3) h3

theorem two_get {α : Type} {a b r : α} {i : Nat} (h : [a, b][i]? = some r) : (i = 0 ∧ r = a) ∨ (i = 1 ∧ r = b) := by
  match i, h with
  | 0, h => cases h; exact .inl ⟨rfl, rfl⟩
  | 1, h => cases h; exact .inr ⟨rfl, rfl⟩
  | i + 2, h => simp at h

/-- What every spoilt view keeps. -/
structure Ev.Ok (e : Ev) : Prop where
  gl : e.gl.length = 2
  sl : e.sl0.length = 1
  k0 : e.k0.length ≤ 16 ∧ ∀ x ∈ e.k0, x = 0
  k1 : e.k1.length = 16 ∧ ∀ x ∈ e.k1, x = 0
  a1 : e.a1 = 64 ∨ e.a1 = 68

variable {e : Ev} {ps : Int}

theorem Ev.Ok.small (h : e.Ok) : Small e.w := by
  refine FewP.small ⟨fun o ho => ?_, fun o ho => ?_, by simp [Ev.w], by simp [Ev.w], ?_⟩ fun o ho => ?_
  · have : o = ⟨64, e.v0, e.sl0, e.m0⟩ ∨ o = ⟨e.a1, e.v1, [0, 64], e.m1⟩ := by simpa [Ev.w] using ho
    have hsl := h.sl
    rcases this with rfl | rfl
    · show e.sl0.length ≤ 300; omega
    · show 2 ≤ 300; omega
  · have : o = ⟨2, 0, e.t0, e.k0⟩ ∨ o = ⟨e.st1, e.p1, e.t1, e.k1⟩ := by simpa [Ev.w] using ho
    have h0 := h.k0.1
    have h1 := h.k1.1
    rcases this with rfl | rfl
    · show e.k0.length ≤ 40; omega
    · show e.k1.length ≤ 40; omega
  · show e.gl.length ≤ 40
    have := h.gl; omega
  · have : o = ⟨64, e.v0, e.sl0, e.m0⟩ ∨ o = ⟨e.a1, e.v1, [0, 64], e.m1⟩ := by simpa [Ev.w] using ho
    have ha := h.a1
    rcases this with rfl | rfl
    · show (64 : Int) ≤ _; omega
    · show e.a1 ≤ _; omega

theorem Ev.Ok.nam (h : e.Ok) {x : Int} (hx : x ∈ e.w.names) (hn : x ≠ 0) : x ∈ e.gl := by
  rcases List.mem_append.1 hx with q | q
  · exact q
  · obtain ⟨r, hr, hx⟩ := List.mem_flatMap.1 q
    have hr := (List.mem_filter.1 hr).1
    have : r = ⟨2, 0, e.t0, e.k0⟩ ∨ r = ⟨e.st1, e.p1, e.t1, e.k1⟩ := by simpa [Ev.w] using hr
    rcases this with rfl | rfl
    · exact (hn (h.k0.2 x hx)).elim
    · exact (hn (h.k1.2 x hx)).elim

theorem Ev.root {x : Int} (hx : x ∈ e.gl) (hn : x ≠ 0) : Rch e.w x := .root (List.mem_append.2 (.inl hx)) hn

theorem Ev.Ok.rch (h : e.Ok) {P : Int → Prop} (hg : ∀ x ∈ e.gl, x ≠ 0 → P x) (hs : ∀ x ∈ e.sl0, x ≠ 0 → P x) (h64 : P 64) {x : Int} (hx : Rch e.w x) : P x := by
  refine rch_one (fun x hx hn => hg x (h.nam hx hn) hn) (fun x k o y _ _ ho hy hn => ?_) hx
  rcases two_get ho with ⟨_, rfl⟩ | ⟨_, rfl⟩
  · exact hs y hy hn
  · have : y = 0 ∨ y = 64 := by simpa using hy
    rcases this with rfl | rfl
    · exact (hn rfl).elim
    · exact h64

theorem Ev.Ok.b1f (h : e.Ok) (hg : ∀ x ∈ e.gl, x ≠ 0 → x = 64) (hs : ∀ x ∈ e.sl0, x ≠ 0 → x = e.a1) : ¬ B1 e.w := by
  rintro ⟨x, hx, hat⟩
  have hp := h.rch (P := fun x => x = 64 ∨ x = e.a1) (fun x a b => .inl (hg x a b)) (fun x a b => .inr (hs x a b)) (.inl rfl) hx
  unfold VW.at at hat
  rw [List.findIdx?_eq_none_iff] at hat
  rcases hp with rfl | rfl
  · have := hat ⟨64, e.v0, e.sl0, e.m0⟩ (by simp [Ev.w])
    simp at this
  · have := hat ⟨e.a1, e.v1, [0, 64], e.m1⟩ (by simp [Ev.w])
    simp at this

theorem Ev.b1t (hg : 69 ∈ e.gl) (ha : e.a1 = 68) : B1 e.w := by
  refine ⟨69, Ev.root hg (by decide), ?_⟩
  unfold VW.at
  rw [List.findIdx?_eq_none_iff]
  intro o ho
  have : o = ⟨64, e.v0, e.sl0, e.m0⟩ ∨ o = ⟨e.a1, e.v1, [0, 64], e.m1⟩ := by simpa [Ev.w] using ho
  rcases this with rfl | rfl
  · rfl
  · show (e.a1 == 69) = false
    rw [ha]; rfl

theorem Ev.Ok.b2f (h : e.Ok) (ha : e.a1 = 68) : ¬ B2 e.w := by
  rintro ⟨i, o, ho, hb⟩
  have hz : szO ⟨64, e.v0, e.sl0, e.m0⟩ = 1 := by
    show szS (ofS (e.sl0.length : Int)) = 1
    rw [h.sl]; rfl
  have hz1 : szO ⟨e.a1, e.v1, [0, 64], e.m1⟩ = 2 := rfl
  rcases two_get ho with ⟨rfl, rfl⟩ | ⟨rfl, rfl⟩
  · rcases hb with hb | hb | ⟨hb, _⟩
    · have hb : (64 : Int) < 64 := hb
      omega
    · rw [hz] at hb; exact absurd hb (by decide)
    · omega
  · rcases hb with hb | hb | ⟨_, p, hp, hb⟩
    · have hb : e.a1 < 64 := hb
      omega
    · rw [hz1] at hb; exact absurd hb (by decide)
    · rcases two_get hp with ⟨_, rfl⟩ | ⟨hq, _⟩
      · rw [hz] at hb
        have hb : e.a1 ≤ 64 ∨ e.a1 - 64 < 1 := hb
        omega
      · omega

theorem Ev.b2t (ha : e.a1 = 64) : B2 e.w := ⟨1, _, rfl, .inr (.inr ⟨by omega, _, rfl, .inl (by show e.a1 ≤ 64; omega)⟩)⟩

theorem Ev.b3f (h : ¬ (e.st1 = 2 ∧ e.p1 = 0)) : ¬ B3 e.w := by
  rintro ⟨i, k, a, b, hk, ha, hb, h1, h2, h3⟩
  rcases two_get ha with ⟨rfl, rfl⟩ | ⟨rfl, rfl⟩
  · omega
  · rcases two_get hb with ⟨rfl, rfl⟩ | ⟨rfl, rfl⟩
    · exact h ⟨h1, h3⟩
    · omega

theorem Ev.b3t (h : e.st1 = 2 ∧ e.p1 = 0) : B3 e.w := ⟨1, 0, _, _, by omega, rfl, rfl, h.1, rfl, h.2⟩

theorem Ev.b4f (hp : 1 ≤ ps) (h : (e.st1 = 3 ∧ e.p1 = -1) ∨ (e.st1 = 2 ∧ e.p1 = 0)) : ¬ B4 e.w ps := by
  rintro ⟨i, r, hr, hn⟩
  rcases two_get hr with ⟨rfl, rfl⟩ | ⟨rfl, rfl⟩
  · exact hn (.inl ⟨rfl, by show (0 : Int) ≤ 0; omega, by show (0 : Int) < ps; omega⟩)
  · rcases h with ⟨h1, h2⟩ | ⟨h1, h2⟩
    · exact hn (.inr (.inr ⟨by show e.st1 ≠ 2; omega, by show e.st1 ≠ 1; omega, h2⟩))
    · exact hn (.inl ⟨h1, by show 0 ≤ e.p1; omega, by show e.p1 < ps; omega⟩)

theorem Ev.b4t (h : e.st1 = 3 ∧ e.p1 = 0) : B4 e.w ps := by
  refine ⟨1, _, rfl, ?_⟩
  unfold okG
  show ¬ ((e.st1 = 2 ∧ 0 ≤ e.p1 ∧ e.p1 < ps) ∨ (e.st1 = 1 ∧ -1 ≤ e.p1 ∧ e.p1 < ps) ∨ (e.st1 ≠ 2 ∧ e.st1 ≠ 1 ∧ e.p1 = -1))
  omega

theorem Ev.b5f (h : e.nt = 0) : ¬ B5 e.w := by
  show ¬ ((0 : Int) < 0 ∨ e.nt < 0 ∨ (0 : Int) < 0 ∨ (e.ph ≠ 1 ∧ ((0 : Int) ≠ 0 ∨ e.nt ≠ 0 ∨ (0 : Int) ≠ 0)))
  omega
theorem Ev.b5t (h : e.nt = 1) (hp : e.ph = 0) : B5 e.w := by
  show ((0 : Int) < 0 ∨ e.nt < 0 ∨ (0 : Int) < 0 ∨ (e.ph ≠ 1 ∧ ((0 : Int) ≠ 0 ∨ e.nt ≠ 0 ∨ (0 : Int) ≠ 0)))
  omega
theorem Ev.b6f (h : e.ph ≠ 2) : ¬ B6 e.w := fun q => h q.1
theorem Ev.b6t (h : e.ph = 2) (hg : 64 ∈ e.gl) (hs : 68 ∈ e.sl0) (ha : e.a1 = 68) (hm : e.m1 = false) : B6 e.w := by
  have h0 : e.w.at 64 = some 0 := rfl
  have h1 : e.w.at 68 = some 1 := by
    show List.findIdx? (fun o : Ob => o.addr == 68) [⟨64, e.v0, e.sl0, e.m0⟩, ⟨e.a1, e.v1, [0, 64], e.m1⟩] = some 1
    rw [ha]; rfl
  exact ⟨h, 68, .step (Ev.root hg (by decide)) h0 rfl hs (by decide), 1, _, h1, rfl, hm⟩
theorem Ev.Ok.b7f (h : e.Ok) (hk : e.k0.length = 16) (hp : e.ph = 0 ∨ e.ph = 2) : ¬ B7 e.w := by
  rintro (⟨i, r, hr, hn⟩ | hq)
  · rcases two_get hr with ⟨_, rfl⟩ | ⟨_, rfl⟩
    · exact hn hk
    · exact hn h.k1.1
  · have hq : e.ph < 0 ∨ 3 < e.ph ∨ (0 : Int) < 0 ∨ (0 : Int) < 0 := hq
    omega
theorem Ev.b7t (hk : e.k0.length = 15) : B7 e.w := .inl ⟨0, _, rfl, by show e.k0.length ≠ 16; omega⟩
theorem Ev.b8f (h : e.ph = 2 ∨ (e.m0 = false ∧ e.m1 = false)) : ¬ B8 e.w := by
  rintro ⟨hp, i, o, ho, hm⟩
  have hp : e.ph = 0 := hp
  rcases h with h | ⟨h0, h1⟩
  · omega
  · rcases two_get ho with ⟨_, rfl⟩ | ⟨_, rfl⟩
    · have hm : e.m0 = true := hm
      rw [h0] at hm; cases hm
    · have hm : e.m1 = true := hm
      rw [h1] at hm; cases hm
theorem Ev.b8t (h : e.ph = 0) (hm : e.m1 = true) : B8 e.w := ⟨h, 1, _, rfl, hm⟩

theorem out_eq {w : VW} {b1 b2 b3 b4 b5 b6 b7 b8 : Bool} (h1 : cb (B1 w) = b1) (h2 : cb (B2 w) = b2) (h3 : cb (B3 w) = b3) (h4 : cb (B4 w ps) = b4) (h5 : cb (B5 w) = b5) (h6 : cb (B6 w) = b6) (h7 : cb (B7 w) = b7) (h8 : cb (B8 w) = b8) :
    outN (brkF w ps) 8 = outN (fun i => [b1, b2, b3, b4, b5, b6, b7, b8].getD i false) 8 := by
  simp only [outN, brkF, h1, h2, h3, h4, h5, h6, h7, h8]
  rfl

theorem use_acheckE {G : Asrt} {K : Value → Hp → Prop} {h : Hp} (hs : Small e.w) (hh : (e.mem * (G * tt)) h)
    (hK : ∀ h', (e.mem * (G * tt)) h' → K (.int .i64 (firstL (outN (brkF e.w ps) 8))) h') : CallH Try.prog 29 #[e.w.val, .int .i64 ps] K h := by
  obtain ⟨g, hg, hh⟩ := own_pick hh
  exact use_acheck (Ev.vat hg) hs hh fun h' q => hK h' (own_back hg q)

theorem use_aallE {G : Asrt} {K : Value → Hp → Prop} {h : Hp} (hs : Small e.w) (hh : (e.mem * (G * tt)) h)
    (hK : ∀ v h', (SG iE 3 v (outN (brkF e.w ps) 8) * (e.mem * (G * tt))) h' → K v h') : CallH Try.prog 28 #[e.w.val, .int .i64 ps] K h := by
  obtain ⟨g, hg, hh⟩ := own_pick hh
  refine use_aall (Ev.vat hg) hs hh fun v h' q => hK v h' ?_
  have q : (own g * (SG iE 3 v (outN (brkF e.w ps) 8) * (G * tt))) h' := asr (by ac_rfl) q
  exact asr (by ac_rfl) (own_back hg q)

theorem use_stack {F : Asrt} {K : Value → Hp → Prop} {h : Hp} (hh : F h) (hK : ∀ a c h', (SG iE 3 (.slice a 16 c) (List.replicate 16 0) * F) h' → K (.slice a 16 c) h') : cvW Try.prog (.func (.func 32) #[] #[]) #[] K h := by
  refine cv_fn (by kernel_rfl) ?_
  show CallH Try.prog 32 #[] K h
  refine C32 ?_
  unfold D32
  refine ms_SG iE (z := 0) (n := 16) hh rfl rfl (by omega) (by omega) fun v h' q => ?_
  rcases SG_elim iE q with ⟨_, q, _⟩ | ⟨r, cap, pre, post, rfl, _⟩
  · cases q
  · exact hK _ _ _ q

end Go.Proofs
