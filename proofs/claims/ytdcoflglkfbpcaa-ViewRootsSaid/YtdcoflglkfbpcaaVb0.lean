/-
  Ways, plainly: shortest, the least of them; how a search by levels finds them.
-/
import Derived.Test.YtdcoflglkfbpcaaVw0
set_option linter.unusedVariables false
set_option linter.unusedSimpArgs false
namespace Go.Sl

def lt2 : List Int → List Int → Prop
  | a :: as, b :: bs => a < b ∨ (a = b ∧ lt2 as bs)
  | _, _ => False

theorem lt2_trans : ∀ {p q r : List Int}, lt2 p q → lt2 q r → lt2 p r
  | [], _, _, h, _ => h.elim
  | _ :: _, [], _, h, _ => h.elim
  | _ :: _, _ :: _, [], _, h => h.elim
  | a :: as, b :: bs, c :: cs, h, k => by
    rcases h with h | ⟨h, h'⟩ <;> rcases k with k | ⟨k, k'⟩
    · exact .inl (by omega)
    · exact .inl (by omega)
    · exact .inl (by omega)
    · exact .inr ⟨by omega, lt2_trans h' k'⟩

theorem lt2_irrefl : ∀ {p : List Int}, ¬ lt2 p p
  | [], h => h
  | a :: as, h => by
    rcases h with h | ⟨_, h⟩
    · omega
    · exact lt2_irrefl h

theorem lt2_app {s t : List Int} : ∀ {p q : List Int}, lt2 p q → lt2 (p ++ s) (q ++ t)
  | [], _, h => h.elim
  | _ :: _, [], h => h.elim
  | a :: as, b :: bs, h => by
    rcases h with h | ⟨h, h'⟩
    · exact .inl h
    · exact .inr ⟨h, lt2_app h'⟩

theorem lt2_last {x y : Int} (h : x < y) : ∀ {p : List Int}, lt2 (p ++ [x]) (p ++ [y])
  | [] => .inl h
  | _ :: _ => .inr ⟨rfl, lt2_last h⟩

def VW.root (w : VW) (x : Int) : Prop := x ∈ w.names ∧ x ≠ 0
def VW.edge (w : VW) (a b : Int) : Prop := ∃ k o, w.at a = some k ∧ w.objs[k]? = some o ∧ b ∈ o.slots ∧ b ≠ 0

inductive Way (w : VW) : List Int → Int → Prop where
  | root {x : Int} : w.root x → Way w [x] x
  | step {p : List Int} {a b : Int} : Way w p a → w.edge a b → Way w (p ++ [b]) b

theorem Way.last {w : VW} {p : List Int} {a : Int} (h : Way w p a) : ∃ i, p = i ++ [a] := by
  cases h with
  | root _ => exact ⟨[], rfl⟩
  | step _ _ => exact ⟨_, rfl⟩

theorem Way.rch {w : VW} {p : List Int} {a : Int} (h : Way w p a) : Rch w a := by
  induction h with
  | root h => exact .root h.1 h.2
  | step _ e ih =>
    obtain ⟨k, o, h1, h2, h3, h4⟩ := e
    exact .step ih h1 h2 h3 h4

theorem Rch.way {w : VW} {a : Int} (h : Rch w a) : ∃ p, Way w p a := by
  induction h with
  | root h1 h2 => exact ⟨_, .root ⟨h1, h2⟩⟩
  | step _ h1 h2 h3 h4 ih =>
    obtain ⟨p, hp⟩ := ih
    exact ⟨_, .step hp ⟨_, _, h1, h2, h3, h4⟩⟩

structure Best (w : VW) (p : List Int) (a : Int) : Prop where
  way : Way w p a
  min : ∀ q, Way w q a → p.length ≤ q.length ∧ (q.length = p.length → q = p ∨ lt2 p q)

theorem Best.uniq {w : VW} {p q : List Int} {a : Int} (h : Best w p a) (k : Best w q a) : p = q := by
  have h1 := h.min q k.way
  have k1 := k.min p h.way
  have e : q.length = p.length := by omega
  rcases h1.2 e with r | r
  · exact r.symm
  · rcases k1.2 e.symm with s | s
    · exact s
    · exact (lt2_irrefl (lt2_trans r s)).elim

/-- What has been seen. -/
def Vis (w : VW) (f : Int → Option Int) (x : Int) : Prop := w.root x ∨ f x ≠ none

/-- At the head of a level. -/
structure BF (w : VW) (f : Int → Option Int) (P : Int → List Int) (d : Nat) (L : List Int) : Prop where
  best : ∀ x, Vis w f x → Best w (P x) x
  len : ∀ x, Vis w f x → (P x).length ≤ d + 1
  lev : ∀ x, x ∈ L ↔ Vis w f x ∧ (P x).length = d + 1
  ord : L.Pairwise fun x y => lt2 (P x) (P y)
  all : ∀ q x, Way w q x → q.length ≤ d + 1 → Vis w f x
  rt : ∀ x, w.root x → f x = none ∧ P x = [x]
  par : ∀ x y, f x = some y → Vis w f y ∧ P x = P y ++ [x]

theorem BF.start {w : VW} {L : List Int} (h1 : ∀ x, x ∈ L ↔ w.root x) (h2 : L.Pairwise (· < ·)) : BF w (fun _ => none) (fun x => [x]) 0 L := by
  have hv : ∀ x, Vis w (fun _ => none) x ↔ w.root x := fun x => by simp [Vis]
  refine ⟨fun x hx => ?_, fun x _ => by simp, fun x => by rw [h1, hv]; simp, h2.imp fun h => .inl h, fun q x hq hl => ?_, fun x _ => ⟨rfl, rfl⟩, fun x y h => by cases h⟩
  · refine ⟨.root ((hv x).1 hx), fun q hq => ?_⟩
    cases hq with
    | root _ => exact ⟨Nat.le_refl _, fun _ => .inl rfl⟩
    | step hp _ =>
      obtain ⟨i, rfl⟩ := hp.last
      simp
  · cases hq with
    | root h => exact (hv _).2 h
    | step hp _ =>
      obtain ⟨i, rfl⟩ := hp.last
      simp at hl

variable {w : VW} {f f' : Int → Option Int} {P P' : Int → List Int} {d : Nat} {L T N U R U2 : List Int} {c b : Int}

/-- Who leads to what is new at a level's end. -/
theorem BF.pre (h : BF w f P d L) {q : List Int} {e x : Int} (hq : Way w q e) (he : w.edge e x) (hl : q.length = d + 1) (hx : ¬ Vis w f x) : e ∈ L := by
  have hv := h.all q e hq (by omega)
  refine (h.lev e).2 ⟨hv, ?_⟩
  have h1 := h.len e hv
  by_cases h2 : (P e).length = d + 1
  · exact h2
  · exact (hx (h.all _ _ (.step (h.best e hv).way he) (by simp; omega))).elim

/-- Within a level: these (T) are done, of c's names these (U). -/
structure BN (w : VW) (f : Int → Option Int) (P : Int → List Int) (d : Nat) (L T : List Int) (c : Int) (U N : List Int) (f' : Int → Option Int) (P' : Int → List Int) : Prop where
  bf : BF w f P d L
  sub : ∀ x, Vis w f x → f' x = f x ∧ P' x = P x
  new : ∀ x, x ∈ N ↔ Vis w f' x ∧ ¬ Vis w f x
  nb : ∀ x ∈ N, ∃ e, f' x = some e ∧ e ∈ L ∧ P' x = P e ++ [x] ∧ Best w (P' x) x ∧ (e ∈ T ∨ (e = c ∧ x ∈ U))
  ord : N.Pairwise fun x y => lt2 (P' x) (P' y)
  don : ∀ e ∈ T, ∀ x, w.edge e x → Vis w f' x
  cur : ∀ x ∈ U, x ≠ 0 → Vis w f' x

theorem BF.begin (h : BF w f P d L) : BN w f P d L [] c [] [] f P :=
  ⟨h, fun _ _ => ⟨rfl, rfl⟩, fun x => by simp, by simp, by simp, by simp, by simp⟩

theorem BN.mono (h : BN w f P d L T c U N f' P') {x : Int} (hx : Vis w f x) : Vis w f' x := by
  rcases hx with hx | hx
  · exact .inl hx
  · exact .inr (by rw [(h.sub x (.inr hx)).1]; exact hx)

theorem BN.skip (h : BN w f P d L T c U N f' P') (hb : b = 0 ∨ Vis w f' b) : BN w f P d L T c (U ++ [b]) N f' P' := by
  refine ⟨h.bf, h.sub, h.new, fun x hx => ?_, h.ord, h.don, fun x hx hn => ?_⟩
  · obtain ⟨e, h1, h2, h3, h4, h5⟩ := h.nb x hx
    refine ⟨e, h1, h2, h3, h4, ?_⟩
    rcases h5 with h5 | ⟨h5, h6⟩
    · exact .inl h5
    · exact .inr ⟨h5, by simp [h6]⟩
  · rcases List.mem_append.1 hx with hx | hx
    · exact h.cur x hx hn
    · obtain rfl : x = b := by simpa using hx
      rcases hb with hb | hb
      · exact (hn hb).elim
      · exact hb

theorem BN.add (h : BN w f P d L T c U N f' P') (hT : L.filter (fun x => (w.at x).isSome) = T ++ c :: R) (he : w.edge c b) (hs : ∀ x ∈ U, x ≤ b) (hb : ¬ Vis w f' b) :
    BN w f P d L T c (U ++ [b]) (N ++ [b]) (fun x => if x = b then some c else f' x) (fun x => if x = b then P c ++ [b] else P' x) := by
  have hF := h.bf
  have hbf : ¬ Vis w f b := fun q => hb (h.mono q)
  have hfb : f' b = none := by
    cases hq : f' b with
    | none => rfl
    | some y => exact (hb (.inr (by rw [hq]; simp))).elim
  have hrb : ¬ w.root b := fun q => hb (.inl q)
  have hmem : ∀ x, x ∈ T ++ c :: R ↔ x ∈ L ∧ (w.at x).isSome := fun x => by rw [← hT, List.mem_filter]
  have hcL : c ∈ L := ((hmem c).1 (by simp)).1
  have hcV := ((hF.lev c).1 hcL)
  have hpw : (T ++ c :: R).Pairwise fun x y => lt2 (P x) (P y) := by rw [← hT]; exact hF.ord.filter _
  have hTc : ∀ t ∈ T, lt2 (P t) (P c) := fun t ht => (List.pairwise_append.1 hpw).2.2 t ht c (by simp)
  have hcR : ∀ t ∈ R, lt2 (P c) (P t) := fun t ht => (List.pairwise_cons.1 (List.pairwise_append.1 hpw).2.1).1 t ht
  have hv : ∀ x, Vis w (fun x => if x = b then some c else f' x) x ↔ Vis w f' x ∨ x = b := fun x => by
    unfold Vis
    by_cases hx : x = b
    · simp [hx]
    · simp [hx]
  have hne : ∀ x, Vis w f' x → x ≠ b := fun x hx e => hb (e ▸ hx)
  have hbest : Best w (P c ++ [b]) b := by
    refine ⟨.step (hF.best c hcV.1).way he, fun q hq => ?_⟩
    cases hq with
    | root hr => exact (hrb hr).elim
    | @step q0 e _ hq0 heb =>
      have hge : d + 1 ≤ q0.length := by
        rcases Nat.lt_or_ge q0.length (d + 1) with hlt | hge
        · exact (hbf (hF.all _ _ (.step hq0 heb) (by simp; omega))).elim
        · exact hge
      have hlc := hcV.2
      refine ⟨by simp; omega, fun hl => ?_⟩
      have hl : q0.length = d + 1 := by simp at hl; omega
      have heL := hF.pre hq0 heb hl hbf
      have hem : e ∈ T ++ c :: R := (hmem e).2 ⟨heL, by obtain ⟨k, _, h1, _⟩ := heb; rw [h1]; rfl⟩
      have heV := (hF.lev e).1 heL
      have hmin := ((hF.best e heV.1).min q0 hq0).2 (by omega)
      rcases List.mem_append.1 hem with ht | ht
      · exact (hb (h.don e ht b heb)).elim
      · rcases List.mem_cons.1 ht with rfl | ht
        · rcases hmin with rfl | hm
          · exact .inl rfl
          · exact .inr (lt2_app hm)
        · rcases hmin with rfl | hm
          · exact .inr (lt2_app (hcR e ht))
          · exact .inr (lt2_app (lt2_trans (hcR e ht) hm))
  refine ⟨hF, fun x hx => ?_, fun x => ?_, fun x hx => ?_, ?_, fun e he' x hx => (hv x).2 (.inl (h.don e he' x hx)), fun x hx hn => ?_⟩
  · have hxb : x ≠ b := hne x (h.mono hx)
    simp only [hxb, if_false]
    exact h.sub x hx
  · rw [List.mem_append, hv, h.new, List.mem_singleton]
    constructor
    · rintro (⟨h1, h2⟩ | rfl)
      · exact ⟨.inl h1, h2⟩
      · exact ⟨.inr rfl, hbf⟩
    · rintro ⟨h1 | h1, h2⟩
      · exact .inl ⟨h1, h2⟩
      · exact .inr h1
  · rcases List.mem_append.1 hx with hx | hx
    · have hxb : x ≠ b := hne x ((h.new x).1 hx).1
      obtain ⟨e, h1, h2, h3, h4, h5⟩ := h.nb x hx
      simp only [hxb, if_false]
      refine ⟨e, h1, h2, h3, h4, ?_⟩
      rcases h5 with h5 | ⟨h5, h6⟩
      · exact .inl h5
      · exact .inr ⟨h5, by simp [h6]⟩
    · obtain rfl : x = b := by simpa using hx
      simp only [if_true]
      exact ⟨c, rfl, hcL, rfl, hbest, .inr ⟨rfl, by simp⟩⟩
  · rw [List.pairwise_append]
    refine ⟨?_, by simp, fun x hx y hy => ?_⟩
    · refine (List.Pairwise.and_mem.1 h.ord).imp fun {x y} hxy => ?_
      have h1 : x ≠ b := hne x ((h.new x).1 hxy.1).1
      have h2 : y ≠ b := hne y ((h.new y).1 hxy.2.1).1
      simp only [h1, h2, if_false]
      exact hxy.2.2
    · obtain rfl : y = b := by simpa using hy
      have hxb : x ≠ y := hne x ((h.new x).1 hx).1
      obtain ⟨e, h1, h2, h3, h4, h5⟩ := h.nb x hx
      simp only [hxb, if_false, if_true]
      rw [h3]
      rcases h5 with h5 | ⟨rfl, h6⟩
      · exact lt2_app (hTc e h5)
      · have := hs x h6
        exact lt2_last (by omega)
  · rcases List.mem_append.1 hx with hx | hx
    · exact (hv x).2 (.inl (h.cur x hx hn))
    · exact (hv x).2 (.inr (by simpa using hx))

/-- One of a level is done. -/
theorem BN.next (h : BN w f P d L T c U N f' P') (hc : ∀ x, w.edge c x → x ∈ U) {c' : Int} : BN w f P d L (T ++ [c]) c' [] N f' P' := by
  refine ⟨h.bf, h.sub, h.new, fun x hx => ?_, h.ord, fun e he x hx => ?_, by simp⟩
  · obtain ⟨e, h1, h2, h3, h4, h5⟩ := h.nb x hx
    refine ⟨e, h1, h2, h3, h4, .inl ?_⟩
    rcases h5 with h5 | ⟨h5, _⟩
    · simp [h5]
    · simp [h5]
  · rcases List.mem_append.1 he with he | he
    · exact h.don e he x hx
    · obtain rfl : e = c := by simpa using he
      obtain ⟨_, _, _, _, _, hn⟩ := id hx
      exact h.cur x (hc x hx) hn

/-- The level is over. -/
theorem BN.done (h : BN w f P d L (L.filter fun x => (w.at x).isSome) c U N f' P') : BF w f' P' (d + 1) N := by
  have hF := h.bf
  have hold : ∀ x, Vis w f' x → Vis w f x ∨ x ∈ N := fun x hx => by
    by_cases q : Vis w f x
    · exact .inl q
    · exact .inr ((h.new x).2 ⟨hx, q⟩)
  have hlen : ∀ x ∈ N, (P' x).length = d + 2 := fun x hx => by
    obtain ⟨e, _, h2, h3, _⟩ := h.nb x hx
    rw [h3, List.length_append, ((hF.lev e).1 h2).2]
    rfl
  refine ⟨fun x hx => ?_, fun x hx => ?_, fun x => ⟨fun hx => ⟨((h.new x).1 hx).1, hlen x hx⟩, fun ⟨h1, h2⟩ => ?_⟩, h.ord, fun q x hq hl => ?_, fun x hx => ?_, fun x y hxy => ?_⟩
  · rcases hold x hx with q | q
    · rw [(h.sub x q).2]; exact hF.best x q
    · obtain ⟨e, _, _, _, h4, _⟩ := h.nb x q
      exact h4
  · rcases hold x hx with q | q
    · rw [(h.sub x q).2]
      have := hF.len x q
      omega
    · rw [hlen x q]
      omega
  · rcases hold x h1 with q | q
    · rw [(h.sub x q).2] at h2
      have := hF.len x q
      omega
    · exact q
  · by_cases hv : Vis w f x
    · exact h.mono hv
    · cases hq with
      | root hr => exact .inl hr
      | @step q0 e _ hq0 he =>
        have hge : q0.length = d + 1 := by
          rcases Nat.lt_or_ge q0.length (d + 1) with hlt | hge
          · exact (hv (hF.all _ _ (.step hq0 he) (by simp; omega))).elim
          · simp at hl; omega
        have heL := hF.pre hq0 he hge hv
        exact h.don e (List.mem_filter.2 ⟨heL, by obtain ⟨k, _, h1, _⟩ := he; rw [h1]; rfl⟩) x he
  · have hv : Vis w f x := .inl hx
    obtain ⟨h1, h2⟩ := h.sub x hv
    obtain ⟨h3, h4⟩ := hF.rt x hx
    exact ⟨h1.trans h3, h2.trans h4⟩
  · rcases hold x (.inr (by rw [hxy]; simp)) with q | q
    · obtain ⟨h1, h2⟩ := h.sub x q
      rw [h1] at hxy
      obtain ⟨h3, h4⟩ := hF.par x y hxy
      exact ⟨h.mono h3, by rw [h2, (h.sub y h3).2]; exact h4⟩
    · obtain ⟨e, h1, h2, h3, _⟩ := h.nb x q
      rw [hxy] at h1
      cases h1
      have hv := ((hF.lev y).1 h2).1
      exact ⟨h.mono hv, by rw [h3, (h.sub y hv).2]⟩

/-- No level is left: what can be reached has been seen. -/
theorem BF.over (h : BF w f P d []) {q : List Int} {x : Int} (hq : Way w q x) : Vis w f x := by
  induction hq with
  | root hr => exact .inl hr
  | @step p e x hp he ih =>
    have h1 := h.len e ih
    have h2 : (P e).length ≠ d + 1 := fun q => by have := (h.lev e).2 ⟨ih, q⟩; simp at this
    exact h.all _ _ (.step (h.best e ih).way he) (by simp; omega)

theorem BF.nodup (h : BF w f P d L) : L.Nodup := h.ord.imp fun {x y} hxy e => by subst e; exact lt2_irrefl hxy
theorem BN.nodup (h : BN w f P d L T c U N f' P') : N.Nodup := h.ord.imp fun {x y} hxy e => by subst e; exact lt2_irrefl hxy
theorem BF.in_all (h : BF w f P d L) {x : Int} (hx : x ∈ L) : x ∈ w.all := (h.best x ((h.lev x).1 hx).1).way.rch.all
theorem BN.in_all (h : BN w f P d L T c U N f' P') {x : Int} (hx : x ∈ N) : x ∈ w.all := by
  obtain ⟨_, _, _, _, h4, _⟩ := h.nb x hx
  exact h4.way.rch.all
theorem BF.small (h : BF w f P d L) : L.length ≤ w.all.length := nodup_len h.nodup fun x hx => h.in_all hx
theorem BN.small (h : BN w f P d L T c U N f' P') : N.length ≤ w.all.length := nodup_len h.nodup fun x hx => h.in_all hx

/-- How many have not been seen. -/
noncomputable def unv (w : VW) (f : Int → Option Int) : Nat := (w.all.filter fun x => @decide (¬ Vis w f x) (Classical.propDecidable _)).length

theorem filter_lt {α : Type} {p q : α → Bool} : ∀ {l : List α}, (∀ x ∈ l, q x = true → p x = true) → (∃ x ∈ l, p x = true ∧ q x = false) → (l.filter q).length < (l.filter p).length
  | [], _, ⟨x, hx, _⟩ => by simp at hx
  | a :: l, h, ⟨x, hx, h1, h2⟩ => by
    have hle : ∀ {l : List α}, (∀ x ∈ l, q x = true → p x = true) → (l.filter q).length ≤ (l.filter p).length := fun {l} h => by
      induction l with
      | nil => simp
      | cons a l ih =>
        have ih := ih fun x hx => h x (by simp [hx])
        have ha := h a (by simp)
        rw [List.filter_cons, List.filter_cons]
        split <;> split <;> simp_all <;> omega
    have hl : ∀ y ∈ l, q y = true → p y = true := fun y hy => h y (by simp [hy])
    rw [List.filter_cons, List.filter_cons]
    rcases List.mem_cons.1 hx with rfl | hx
    · rw [h1, h2]
      have := hle hl
      simp
      omega
    · have := filter_lt hl ⟨x, hx, h1, h2⟩
      have ha := h a (by simp)
      split <;> split <;> simp_all <;> omega

theorem BN.fewer (h : BN w f P d L T c U N f' P') (hN : N ≠ []) : unv w f' < unv w f := by
  unfold unv
  refine filter_lt (fun x _ hx => ?_) ?_
  · rw [@decide_eq_true_eq _ (Classical.propDecidable _)] at hx ⊢
    exact fun q => hx (h.mono q)
  · obtain ⟨x, hx⟩ := List.exists_mem_of_ne_nil N hN
    have hq := (h.new x).1 hx
    refine ⟨x, h.in_all hx, ?_, ?_⟩
    · rw [@decide_eq_true_eq _ (Classical.propDecidable _)]; exact hq.2
    · rw [@decide_eq_false_iff_not _ (Classical.propDecidable _)]; exact fun q => q hq.1
theorem BN.unv_le (h : BN w f P d L T c U N f' P') (hN : N = []) : unv w f' ≤ unv w f := by
  unfold unv
  have hle : ∀ {l : List Int} {p q : Int → Bool}, (∀ x ∈ l, q x = true → p x = true) → (l.filter q).length ≤ (l.filter p).length := fun {l p q} h => by
    induction l with
    | nil => simp
    | cons a l ih =>
      have ih := ih fun x hx => h x (by simp [hx])
      have ha := h a (by simp)
      rw [List.filter_cons, List.filter_cons]
      split <;> split <;> simp_all <;> omega
  refine hle fun x _ hx => ?_
  rw [@decide_eq_true_eq _ (Classical.propDecidable _)] at hx ⊢
  exact fun q => hx (h.mono q)

/-- What a way is asked for answers. -/
def PathL (w : VW) (a : Int) (out : List Int) : Prop := (w.at a ≠ none ∧ Best w out a) ∨ (out = [] ∧ (w.at a = none ∨ ∀ q, ¬ Way w q a))

end Go.Sl
