/-
  Code with its annotations: what is to be shown (VC), and that it suffices.
-/
import Derived.Test.YtdcoflglkfbpcaaV2
import Derived.Scope
set_option linter.unusedVariables false
set_option linter.unusedSimpArgs false
namespace Go.Sl

/-! ### Reading only -/

def _root_.Go.Sem.rd {α : Type} (P : Program) : Sem α → Hp → Option α
  | .pure a, _ => some a
  | .load _ a k, h => match h.cell a with
    | some v => (k v).rd P h
    | none => none
  | .shape r k, h => match h r with
    | some o => (k o.shp).rd P h
    | none => none
  | .frozen a k, h => match h a.block with
    | some o => (k (o.frz a)).rd P h
    | none => none
  | .getObj r k, h => match h r with
    | some o => if o.isCellsB then none else (k o).rd P h
    | none => none
  | .program k, h => (k P).rd P h
  | .mark _ k, h => k.rd P h
  | _, _ => none

theorem rd_vc {α : Type} {P : Program} {s : Sem α} {h : Hp} {a : α} : s.rd P h = some a → ∀ {Q : α → Hp → Prop}, Q a h → s.vc P Q h := by
  induction s with
  | pure x => intro e Q q; simp only [Sem.rd, Option.some.injEq] at e; subst e; exact q
  | load m x k ih =>
    intro e Q q
    simp only [Sem.rd] at e
    cases hc : h.cell x with
    | none => rw [hc] at e; cases e
    | some v => rw [hc] at e; exact ⟨v, hc, ih v e q⟩
  | shape r k ih =>
    intro e Q q
    simp only [Sem.rd] at e
    cases hc : h r with
    | none => rw [hc] at e; cases e
    | some o => rw [hc] at e; exact ⟨o, hc, ih _ e q⟩
  | frozen x k ih =>
    intro e Q q
    simp only [Sem.rd] at e
    cases hc : h x.block with
    | none => rw [hc] at e; cases e
    | some o => rw [hc] at e; exact ⟨o, hc, ih _ e q⟩
  | getObj r k ih =>
    intro e Q q
    simp only [Sem.rd] at e
    cases hc : h r with
    | none => rw [hc] at e; cases e
    | some o =>
      rw [hc] at e
      cases hi : o.isCellsB with
      | true => simp [hi] at e
      | false => simp only [hi, Bool.false_eq_true, if_false] at e; exact ⟨o, hc, hi, ih _ e q⟩
  | program k ih => intro e Q q; exact ih P e q
  | mark m k ih => intro e Q q; exact ih e q
  | _ => intro e; simp [Sem.rd] at e

theorem rd_run {α : Type} {P : Program} {s : Sem α} {h : Hp} {a : α} : s.rd P h = some a → ∀ {w : World} {f : Hp}, w.hp = h.add f → s.run P w = .ok a w := by
  induction s with
  | pure x => intro e w f _; simp only [Sem.rd, Option.some.injEq] at e; subst e; rfl
  | load m x k ih =>
    intro e w f he
    simp only [Sem.rd] at e
    cases hc : h.cell x with
    | none => rw [hc] at e; cases e
    | some v =>
      rw [hc] at e
      have : w.cell? x = some v := by rw [cell?_hp, he]; exact Hp.cell_add hc
      simp only [Sem.run, this]
      exact ih v e he
  | shape r k ih =>
    intro e w f he
    simp only [Sem.rd] at e
    cases hc : h r with
    | none => rw [hc] at e; cases e
    | some o =>
      rw [hc] at e
      have hb : w.hp r = some o := by rw [he]; exact Hp.add_of_left hc
      simp only [Sem.run, shape?_hp w r hb]
      exact ih _ e he
  | frozen x k ih =>
    intro e w f he
    simp only [Sem.rd] at e
    cases hc : h x.block with
    | none => rw [hc] at e; cases e
    | some o =>
      rw [hc] at e
      have hb : w.hp x.block = some o := by rw [he]; exact Hp.add_of_left hc
      simp only [Sem.run, frozen?_hp w x hb]
      exact ih _ e he
  | getObj r k ih =>
    intro e w f he
    simp only [Sem.rd] at e
    cases hc : h r with
    | none => rw [hc] at e; cases e
    | some o =>
      rw [hc] at e
      have hb : w.heap[r]? = some o := by rw [← hp_apply, he]; exact Hp.add_of_left hc
      cases hi : o.isCellsB with
      | true => simp [hi] at e
      | false =>
        simp only [hi, Bool.false_eq_true, if_false] at e
        have := ih _ e he
        cases o <;> first | (simp [Obj.isCellsB] at hi; done) | (simp only [Sem.run, hb]; exact this)
  | program k ih => intro e w f he; exact ih P e he
  | mark m k ih => intro e w f he; exact ih e he
  | _ => intro e; simp [Sem.rd] at e

theorem rd_mono {α : Type} {P : Program} {s : Sem α} {h f : Hp} {a : α} : s.rd P h = some a → s.rd P (h.add f) = some a := by
  induction s with
  | pure x => exact id
  | load m x k ih =>
    intro e
    simp only [Sem.rd] at e ⊢
    cases hc : h.cell x with
    | none => rw [hc] at e; cases e
    | some v => rw [hc] at e; rw [Hp.cell_add hc]; exact ih v e
  | shape r k ih =>
    intro e
    simp only [Sem.rd] at e ⊢
    cases hc : h r with
    | none => rw [hc] at e; cases e
    | some o => rw [hc] at e; rw [Hp.add_of_left hc]; exact ih _ e
  | frozen x k ih =>
    intro e
    simp only [Sem.rd] at e ⊢
    cases hc : h x.block with
    | none => rw [hc] at e; cases e
    | some o => rw [hc] at e; rw [Hp.add_of_left hc]; exact ih _ e
  | getObj r k ih =>
    intro e
    simp only [Sem.rd] at e ⊢
    cases hc : h r with
    | none => rw [hc] at e; cases e
    | some o =>
      rw [hc] at e; rw [Hp.add_of_left hc]
      cases hi : o.isCellsB with
      | true => simp [hi] at e
      | false => simp only [hi, Bool.false_eq_true, if_false] at e ⊢; exact ih _ e
  | program k ih => intro e; exact ih P e
  | mark m k ih => intro e; exact ih e
  | _ => intro e; simp [Sem.rd] at e

theorem rd_bind {α β : Type} {P : Program} {s : Sem α} {k : α → Sem β} {h : Hp} : (s.bind k).rd P h = (s.rd P h).bind fun a => (k a).rd P h := by
  induction s with
  | pure x => rfl
  | load m x k ih => simp only [Sem.bind, Sem.rd]; cases h.cell x <;> simp [ih]
  | shape r k ih => simp only [Sem.bind, Sem.rd]; cases h r <;> simp [ih]
  | frozen x k ih => simp only [Sem.bind, Sem.rd]; cases h x.block <;> simp [ih]
  | getObj r k ih => simp only [Sem.bind, Sem.rd]; cases h r <;> simp [ih]; split <;> rfl
  | program k ih => simp only [Sem.bind, Sem.rd, ih]
  | mark m k ih => simp only [Sem.bind, Sem.rd, ih]
  | _ => simp [Sem.bind, Sem.rd]

/-! ### From slots to frames -/

structure Rel (n : Nat) (σ : St) (a : Act) : Prop where
  defers : a.defers = []
  size : a.tmps.size = n
  slot : ∀ t, a.tmps.getD t undef = σ t

theorem Rel.eval {n : Nat} {σ : St} {a : Act} (r : Rel n σ a) : a.eval = ev σ := by
  funext x
  cases x with
  | tmp t => exact r.slot t
  | _ => rfl

theorem Rel.yl {n : Nat} {σ : St} {a : Act} (r : Rel n σ a) (ops : Array Oper) : yielded ops a.tmps = Sl.yl ops σ := by
  funext j
  unfold yielded Sl.yl
  cases h : (ops[j]?).bind (·.dst) with
  | none => rfl
  | some t =>
    simp only [Option.bind_some]
    have := r.slot t
    cases ht : a.tmps[t]? with
    | none =>
      have e : σ t = undef := by rw [← this]; simp [ht]
      rw [e]; rfl
    | some v =>
      have e : σ t = v := by rw [← this]; simp [ht]
      rw [e]
      cases v <;> rfl

def dstOk (n : Nat) (o : Oper) : Bool :=
  match o.dst with
  | some d => decide (d < n)
  | none => true

theorem Rel.put {n : Nat} {σ : St} {a : Act} (r : Rel n σ a) {o : Oper} (ho : dstOk n o = true) (v : Value) : Rel n (σ.put o.dst v) (a.put o.dst v) := by
  unfold dstOk at ho
  cases hd : o.dst with
  | none => exact r
  | some d =>
    rw [hd] at ho
    have hlt : d < n := of_decide_eq_true ho
    refine ⟨r.defers, by simp [Act.put, r.size], fun t => ?_⟩
    simp only [Act.put, St.put]
    by_cases e : t = d
    · subst e
      simp [r.size, hlt]
    · have h1 : Nat.beq t d = false := nbeq e
      have := r.slot t
      simp only [h1, cond_false]
      rw [← this]
      simp [Array.getElem?_setIfInBounds_ne (Ne.symm e)]

/-- A state of the machine that owns so, beside a frame that has only grown. -/
def LK (n : Nat) (tg : Tag) (fr : Hp) (K : St → Hp → Prop) : Act → World → Prop :=
  fun a w => ∃ σ h fr', Rel n σ a ∧ Disj h fr' ∧ w.At tg (h.add fr') ∧ Grows fr fr' ∧ K σ h

section
variable {P : Program} (S : Sys P) (A : List Nat) {ops : Array Oper} {n : Nat} {tg : Tag}

theorem den_wpOp {Q : Exit → Act → World → Prop} {i : Nat} {o : Oper} {σ : St} {a : Act} {h fr : Hp} {w : World} {K : Value → Hp → Prop} {K' : Act → World → Prop}
    (hi : ops[i]? = some o) (r : Rel n σ a) (d : Disj h fr) (e : w.At tg (h.add fr)) (hw : Region.wanted o (yl ops σ) = true)
    (hh : (S.D (ev σ) o).wp K h) (hk : ∀ v h' w' fr', Disj h' fr' → w'.At tg (h'.add fr') → Grows fr fr' → K v h' → K' (a.put o.dst v) w') :
    wpOp P ops Q i K' a w := by
  unfold wpOp
  simp only [hi, r.yl ops, hw, if_true]
  refine .inl ?_
  unfold Oper.wp
  rw [r.eval]
  obtain ⟨nx, w', h', hr, d', e', hn⟩ := vc_run (S.sound _ _ _ _ hh) w fr tg d e
  rw [hr]
  cases nx <;> simp only [nextK] at hn <;> simp only [Oper.upon]
  case value v => exact hk v h' w' fr d' e' (Grows.refl fr) hn
  case skip => exact hk _ h' w' fr d' e' (Grows.refl fr) hn
  case enter f args =>
    refine (hn w' fr tg d' e').mono ?_
    rintro en w'' ⟨v, h'', fr', rfl, d'', e'', g, hK⟩
    exact hk v h'' w'' fr' d'' e'' g hK

theorem stepA_sound {Q : Exit → Act → World → Prop} {i : Nat} {R : Rec} {σ : St} {a : Act} {h fr : Hp} {w : World} {K : Rec → St → Hp → Prop} {K' : Act → World → Prop}
    (hd : ∀ o, ops[i]? = some o → dstOk n o = true) (r : Rel n σ a) (d : Disj h fr) (e : w.At tg (h.add fr)) (hh : stepA S A ops i K R σ h)
    (hk : ∀ R' σ' a' h' w' fr', Rel n σ' a' → Disj h' fr' → w'.At tg (h'.add fr') → Grows fr fr' → K R' σ' h' → K' a' w') : wpOp P ops Q i K' a w := by
  unfold stepA at hh
  cases hi : ops[i]? with
  | none =>
    simp only [hi] at hh
    unfold wpOp
    simp only [hi]
    exact hk _ _ _ _ _ _ r d e (Grows.refl fr) hh
  | some o =>
    simp only [hi] at hh
    by_cases hw : Region.wanted o (yl ops σ) = true
    · rw [if_pos hw] at hh
      refine den_wpOp S (K := fun v h' => ∃ R', K R' (σ.put o.dst v) h') hi r d e hw ?_ fun v h' w' fr' d' e' g ⟨R', hK⟩ => hk R' _ _ _ _ _ (r.put (hd o hi) v) d' e' g hK
      have hok := S.ok (ev σ) o
      generalize S.D (ev σ) o = dd at *
      cases dd with
      | pu v => exact vP_mono hh fun x hx => ⟨_, hx⟩
      | rd q => exact vP_mono hh fun x hx => ⟨_, hx⟩
      | al p => exact vA_mono (K' := fun v h' => ∃ R', K R' (σ.put o.dst v) h') hh fun x h' hx => ⟨_, hx⟩
      | ef T => exact EfOk.mono hok (fun x h' hx => ⟨_, hx.2⟩) hh
    · rw [if_neg hw] at hh
      unfold wpOp
      simp only [hi, r.yl ops]
      rw [if_neg hw]
      exact hk _ _ _ _ _ _ (r.put (hd o hi) undef) d e (Grows.refl fr) hh

theorem stepW_sound {Q : Exit → Act → World → Prop} {i : Nat} {need : List Nat} {R : Rec} {σ : St} {a : Act} {h fr : Hp} {w : World} {K : Rec → St → Hp → Prop} {K' : Act → World → Prop}
    (hd : ∀ o, ops[i]? = some o → dstOk n o = true) (r : Rel n σ a) (d : Disj h fr) (e : w.At tg (h.add fr)) (hh : stepW S ops i need K R σ h)
    (hk : ∀ R' σ' a' h' w' fr', Rel n σ' a' → Disj h' fr' → w'.At tg (h'.add fr') → Grows fr fr' → K R' σ' h' → K' a' w') : wpOp P ops Q i K' a w := by
  have hh := stepW_any S ops hh
  unfold stepW0 at hh
  cases hi : ops[i]? with
  | none =>
    simp only [hi] at hh
    obtain ⟨R', hh⟩ := hh
    unfold wpOp
    simp only [hi]
    exact hk _ _ _ _ _ _ r d e (Grows.refl fr) hh
  | some o =>
    simp only [hi] at hh
    by_cases hw : Region.wanted o (yl ops σ) = true
    · rw [if_pos hw] at hh
      refine den_wpOp S (K := fun v h' => ∃ R', K R' (σ.put o.dst v) h') hi r d e hw ?_ fun v h' w' fr' d' e' g ⟨R', hK⟩ => hk R' _ _ _ _ _ (r.put (hd o hi) v) d' e' g hK
      have hok := S.ok (ev σ) o
      generalize S.D (ev σ) o = dd at *
      cases dd with
      | pu v => exact vP_mono hh fun x hx => hx
      | rd q => exact vP_mono hh fun x hx => hx
      | al p => exact vA_mono (K' := fun v h' => ∃ R', K R' (σ.put o.dst v) h') hh fun x h' hx => hx
      | ef T => exact EfOk.mono hok (fun x h' hx => hx.2) hh
    · rw [if_neg hw] at hh
      obtain ⟨R', hh⟩ := hh
      unfold wpOp
      simp only [hi, r.yl ops]
      rw [if_neg hw]
      exact hk _ _ _ _ _ _ (r.put (hd o hi) undef) d e (Grows.refl fr) hh

theorem anyA_sound {Q : Exit → Act → World → Prop} {Q' : St → Hp → Prop} {fr0 : Hp} (hd : ∀ (i : Nat) (o : Oper), ops[i]? = some o → dstOk n o = true) (hQ : ∀ a w, LK n tg fr0 Q' a w → Q .normal a w) :
    ∀ (fuel : Nat) (listed : Array Bool) (R : Rec) (σ : St) (a : Act) (h fr : Hp) (w : World), Rel n σ a → Disj h fr → w.At tg (h.add fr) → Grows fr0 fr →
      anyA S A ops Q' fuel listed R σ h → wpAny P .any ops Q fuel listed a w
  | 0, _, _, σ, a, h, fr, w, r, d, e, g, hh => ⟨hh.1, hQ _ _ ⟨σ, h, fr, r, d, e, g, hh.2⟩⟩
  | fuel + 1, listed, R, σ, a, h, fr, w, r, d, e, g, hh =>
    ⟨fun h0 => hQ _ _ ⟨σ, h, fr, r, d, e, g, hh.1 h0⟩,
     fun i hi => stepA_sound S A (hd i) r d e (hh.2 i hi) fun R' σ' a' h' w' fr' r' d' e' g' hK => anyA_sound hd hQ fuel _ R' σ' a' h' fr' w' r' d' e' (g.trans g') hK⟩

theorem planW_sound {Q : Exit → Act → World → Prop} {Q' : St → Hp → Prop} {fr0 : Hp} (hd : ∀ (i : Nat) (o : Oper), ops[i]? = some o → dstOk n o = true) (hQ : ∀ a w, LK n tg fr0 Q' a w → Q .normal a w) :
    ∀ (l : List (Nat × List Nat)) (R : Rec) (σ : St) (a : Act) (h fr : Hp) (w : World), Rel n σ a → Disj h fr → w.At tg (h.add fr) → Grows fr0 fr →
      planW S ops Q' l R σ h → wpOps P ops Q (l.map (·.1)) a w
  | [], _, σ, a, h, fr, w, r, d, e, g, hh => hQ _ _ ⟨σ, h, fr, r, d, e, g, hh⟩
  | (i, need) :: l, R, σ, a, h, fr, w, r, d, e, g, hh => by
    rw [List.map_cons, wpOps_cons]
    exact stepW_sound S (hd i) r d e hh fun R' σ' a' h' w' fr' r' d' e' g' hK => planW_sound hd hQ l R' σ' a' h' fr' w' r' d' e' (g.trans g') hK

/-- Is a plan good for a region? -/
def regOk (n : Nat) (ops : Array Oper) (draw : Bool) (plan : List (Nat × List Nat)) : Bool :=
  (ops.toList.all (dstOk n)) &&
  (bif draw then ancOk A ops && (Nat.beq plan.length ops.size) && planOk S A ops plan [] (Array.replicate ops.size false)
   else plan.map (·.1) == List.range ops.size)

theorem region_sound {Q' : St → Hp → Prop} {Q : Exit → Act → World → Prop} {id : Nat} {draw : Bool} {plan : List (Nat × List Nat)} {σ : St} {a : Act} {h fr : Hp} {w : World}
    (hm : P.follows .mixedOrders = true) (hok : regOk S A n ops draw plan = true) (r : Rel n σ a) (d : Disj h fr) (e : w.At tg (h.add fr))
    (hQ : ∀ a w, LK n tg fr Q' a w → Q .normal a w) (hh : planW S ops Q' plan (fun _ _ => True) σ h) : (Code.region id ops draw).wp P Q a w := by
  simp only [regOk, Bool.and_eq_true] at hok
  obtain ⟨hd0, hok⟩ := hok
  have hd : ∀ (i : Nat) (o : Oper), ops[i]? = some o → dstOk n o = true := fun i o ho => by
    refine List.all_eq_true.1 hd0 o ?_
    exact Array.mem_toList_iff.2 (Array.mem_of_getElem? ho)
  cases draw with
  | false =>
    simp only [cond_false, beq_iff_eq] at hok
    refine wp_region ?_
    rw [← hok]
    exact planW_sound S hd hQ plan _ σ a h fr w r d e (Grows.refl fr) hh
  | true =>
    simp only [cond_true, Bool.and_eq_true] at hok
    obtain ⟨⟨hA, hlen⟩, hp⟩ := hok
    have hlen := Nat.eq_of_beq_eq_true hlen
    refine wp_region_any hm ?_
    refine anyA_sound S A hd hQ ops.size _ (fun _ _ => True) σ a h fr _ r d e (Grows.refl fr) ?_
    rw [← hlen]
    refine anyA_of_plan S A ops hA plan [] _ _ σ h (by simp [hlen]) ?_ ?_ (fun y => .inr fun _ => trivial) (by rw [hlen]; exact hp) hh
    · intro j o ho hj
      simp only [Array.getD_eq_getD_getElem?, Array.getElem?_replicate] at hj
      split at hj <;> cases hj
    · exact ⟨fun _ _ _ _ _ => trivial, fun _ _ _ => trivial⟩

end

/-! ### Code -/

inductive Ann where
  | leaf
  | reg (A : List Nat) (plan : List (Nat × List Nat))
  | seq (a b : Ann)
  | join (C W : List Nat) (a b : Ann)
  | cond (a b : Ann)
  | blk (a : Ann)
  | loop (C W : List Nat) (a : Ann)

def hd : List Nat → List Value → St → St
  | c :: C, x :: xs, σ => fun t => bif Nat.beq t c then x else hd C xs σ t
  | _, _, σ => σ

def havoc (W : List Nat) (g σ : St) : St := fun t => bif W.elem t then g t else σ t

def ForN : Nat → (List Value → Prop) → Prop
  | 0, p => p []
  | n + 1, p => ∀ v, ForN n fun l => p (v :: l)

theorem ForN_iff {p : List Value → Prop} : ∀ {n : Nat}, ForN n p ↔ ∀ l : List Value, l.length = n → p l
  | 0 => ⟨fun h l hl => by rw [List.length_eq_zero_iff.1 hl]; exact h, fun h => h [] rfl⟩
  | n + 1 => by
    unfold ForN
    constructor
    · intro h l hl
      cases l with
      | nil => cases hl
      | cons v l => exact (ForN_iff.1 (h v)) l (by simpa using hl)
    · intro h v
      exact ForN_iff.2 fun l hl => h (v :: l) (by simp [hl])

def vB (v : Value) (p q : Prop) : Prop :=
  match v with
  | .bool true => p
  | .bool false => q
  | _ => False

abbrev Post := Exit → St → Hp → Prop

def thenQ (K : St → Hp → Prop) (Q : Post) : Post
  | .normal, σ, h => K σ h
  | e, σ, h => Q e σ h

def blkQ (id : Nat) (Q : Post) : Post
  | .exit id', σ, h => bif Nat.beq id' id then Q .normal σ h else Q (.exit id') σ h
  | e, σ, h => Q e σ h

section
variable {P : Program} (S : Sys P)

def VC : Code → Ann → Post → St → Hp → Prop
  | .skip, _, Q, σ, h => Q .normal σ h
  | .label _, _, Q, σ, h => Q .normal σ h
  | .region _ ops _, .reg A plan, Q, σ, h => planW S ops (Q .normal) plan (fun _ _ => True) σ h
  | .seq a b, .seq x y, Q, σ, h => VC a x (thenQ (VC b y Q) Q) σ h
  | .seq a b, .join C W x y, Q, σ, h =>
    ∀ J : List Value → Hp → Prop, (ForN C.length fun xs => ∀ h', (∀ g : St, VC b y Q (hd C xs (havoc W g σ)) h') → J xs h') →
      VC a x (thenQ (fun σ' h' => J (C.map σ') h') Q) σ h
  | .cond c t e, .cond x y, Q, σ, h => vB (ev σ c) (VC t x Q σ h) (VC e y Q σ h)
  | .block id body, .blk x, Q, σ, h => VC body x (blkQ id Q) σ h
  | .loop body, .loop C W x, Q, σ, h =>
    ∃ I : Nat → List Value → Hp → Prop, (∃ n, I n (C.map σ) h) ∧
      ∀ n, ForN C.length fun xs => ∀ h', I n xs h' → ∀ g : St,
        VC body x (thenQ (fun σ' h'' => ∃ m, m < n ∧ I m (C.map σ') h'') Q) (hd C xs (havoc W g σ)) h'
  | .exit id, _, Q, σ, h => Q (.exit id) σ h
  | .scope body, .blk x, Q, σ, h => VC body x Q σ h
  | .ret, _, Q, σ, h => Q .ret σ h
  | _, _, _, _, _ => False

/-- What a piece may write. -/
def wr : Code → Ann → List Nat
  | .region _ ops _, .reg _ _ => ops.toList.filterMap (·.dst)
  | .seq a b, .seq x y => wr a x ++ wr b y
  | .seq a b, .join C W x y => C ++ W ++ wr a x ++ wr b y
  | .cond _ t e, .cond x y => wr t x ++ wr e y
  | .block _ body, .blk x => wr body x
  | .loop body, .loop C W x => C ++ W ++ wr body x
  | .scope body, .blk x => wr body x
  | _, _ => []

def annOk (n : Nat) : Code → Ann → Bool
  | .region _ ops draw, .reg A plan => regOk S A n ops draw plan
  | .seq a b, .seq x y => annOk n a x && annOk n b y
  | .seq a b, .join C W x y => (wr a x).all (fun t => C.elem t || W.elem t) && annOk n a x && annOk n b y
  | .cond _ t e, .cond x y => annOk n t x && annOk n e y
  | .block _ body, .blk x => annOk n body x
  | .loop body, .loop C W x => (wr body x).all (fun t => C.elem t || W.elem t) && annOk n body x
  | .scope body, .blk x => annOk n body x
  | _, _ => true

theorem planW_mono {ops : Array Oper} {Q Q' : St → Hp → Prop} (hq : ∀ σ h, Q σ h → Q' σ h) : ∀ (l : List (Nat × List Nat)) (R : Rec) (σ : St) (h : Hp), planW S ops Q l R σ h → planW S ops Q' l R σ h
  | [], _, σ, h, hh => hq σ h hh
  | (i, need) :: l, R, σ, h, hh => by
    simp only [planW] at hh ⊢
    exact stepW_mono S ops (fun _ => planW_mono hq l _ _ _) (fun o _ R v h' => planW_mono hq l _ _ _) hh

theorem VC_mono : ∀ (c : Code) (x : Ann) {Q Q' : Post} (_ : ∀ e σ h, Q e σ h → Q' e σ h) {σ : St} {h : Hp}, VC S c x Q σ h → VC S c x Q' σ h := by
  intro c
  induction c with
  | seq a b iha ihb =>
    intro x Q Q' hq σ h hh
    cases x <;> simp only [VC] at hh ⊢
    case seq x y =>
      refine iha x (fun e σ h hK => ?_) hh
      cases e <;> simp only [thenQ] at hK ⊢ <;> first | exact ihb y hq hK | exact hq _ _ _ hK
    case join C W x y =>
      intro J hJ
      refine iha x (fun e σ h hK => ?_) (hh J ?_)
      · cases e <;> simp only [thenQ] at hK ⊢ <;> first | exact hK | exact hq _ _ _ hK
      · rw [ForN_iff] at hJ ⊢
        exact fun l hl h' hg => hJ l hl h' fun g => ihb y hq (hg g)
  | cond c t e iht ihe =>
    intro x Q Q' hq σ h hh
    cases x <;> simp only [VC] at hh ⊢
    case cond x y =>
      unfold vB at *
      split at hh <;> first | exact iht x hq hh | exact ihe y hq hh | exact hh.elim
  | block id body ih =>
    intro x Q Q' hq σ h hh
    cases x <;> simp only [VC] at hh ⊢
    case blk x =>
      refine ih x (fun e σ h hK => ?_) hh
      cases e <;> simp only [blkQ] at hK ⊢ <;> first | exact hq _ _ _ hK | (cases hb : Nat.beq _ id <;> rw [hb] at hK <;> exact hq _ _ _ hK)
  | loop body ih =>
    intro x Q Q' hq σ h hh
    cases x <;> simp only [VC] at hh ⊢
    case loop C W x =>
      obtain ⟨I, h0, h1⟩ := hh
      refine ⟨I, h0, fun n => ?_⟩
      have := h1 n
      rw [ForN_iff] at this ⊢
      refine fun l hl h' hI g => ih x (fun e σ h hK => ?_) (this l hl h' hI g)
      cases e <;> simp only [thenQ] at hK ⊢ <;> first | exact hK | exact hq _ _ _ hK
  | region id ops draw =>
    intro x Q Q' hq σ h hh
    cases x <;> simp only [VC] at hh ⊢
    case reg A plan => exact planW_mono S (hq .normal) plan _ _ _ hh
  | scope body ih =>
    intro x Q Q' hq σ h hh
    cases x <;> simp only [VC] at hh ⊢
    case blk x => exact ih x hq hh
  | skip => intro x Q Q' hq σ h hh; simp only [VC] at hh ⊢; exact hq _ _ _ hh
  | label l => intro x Q Q' hq σ h hh; simp only [VC] at hh ⊢; exact hq _ _ _ hh
  | exit id => intro x Q Q' hq σ h hh; simp only [VC] at hh ⊢; exact hq _ _ _ hh
  | ret => intro x Q Q' hq σ h hh; simp only [VC] at hh ⊢; exact hq _ _ _ hh
  | goto l => intro x Q Q' hq σ h hh; simp only [VC] at hh
  | refuse w => intro x Q Q' hq σ h hh; simp only [VC] at hh
  | rangeFunc f ps a b => intro x Q Q' hq σ h hh; simp only [VC] at hh

/-- Two states of the slots that are one but for these. -/
def But (W : List Nat) (σ σ' : St) : Prop := ∀ t, t ∉ W → σ' t = σ t

theorem But.refl (W : List Nat) (σ : St) : But W σ σ := fun _ _ => rfl
theorem But.trans {W : List Nat} {a b c : St} (h1 : But W a b) (h2 : But W b c) : But W a c := fun t ht => (h2 t ht).trans (h1 t ht)
theorem But.mono {W W' : List Nat} {a b : St} (h1 : But W a b) (hs : ∀ t, t ∈ W → t ∈ W') : But W' a b := fun t ht => h1 t fun h => ht (hs t h)

theorem put_but {W : List Nat} (σ : St) {d : Option Tmp} (v : Value) (h : ∀ t, d = some t → t ∈ W) : But W σ (σ.put d v) := by
  intro t ht
  cases d with
  | none => rfl
  | some u =>
    have : t ≠ u := fun e => ht (by rw [e]; exact h u rfl)
    simp [St.put, nbeq this]

theorem hd_apply_mem : ∀ (C : List Nat) (σ' : St) (σ : St) (t : Nat), hd C (C.map σ') σ t = if t ∈ C then σ' t else σ t
  | [], _, _, _ => by simp [hd]
  | c :: C, σ', σ, t => by
    simp only [List.map_cons, hd]
    by_cases e : t = c
    · subst e; simp
    · have : Nat.beq t c = false := nbeq e
      rw [this, cond_false, hd_apply_mem C σ' σ t]
      simp [e]

theorem hd_but (C : List Nat) : ∀ (xs : List Value) (σ : St), But C σ (hd C xs σ) := by
  induction C with
  | nil => intro xs σ; simp only [hd]; exact But.refl _ _
  | cons c C ih =>
    intro xs σ t ht
    cases xs with
    | nil => rfl
    | cons x xs =>
      simp only [List.mem_cons, not_or] at ht
      simp only [hd, nbeq ht.1, cond_false]
      exact ih xs σ t ht.2

theorem havoc_but (W : List Nat) (g σ : St) : But W σ (havoc W g σ) := fun t ht => by
  have : W.elem t = false := by simpa using ht
  simp only [havoc, this, cond_false]

theorem hd_havoc_self {C W : List Nat} {σ σ' : St} (h : But (C ++ W) σ σ') : hd C (C.map σ') (havoc W σ' σ) = σ' := by
  funext t
  rw [hd_apply_mem]
  by_cases h1 : t ∈ C
  · rw [if_pos h1]
  · rw [if_neg h1]
    by_cases h2 : t ∈ W
    · have : W.elem t = true := by simpa using h2
      simp only [havoc, this, cond_true]
    · have : W.elem t = false := by simpa using h2
      simp only [havoc, this, cond_false]
      exact (h t (by simp [h1, h2])).symm

theorem planW_but {ops : Array Oper} {Q : St → Hp → Prop} : ∀ (l : List (Nat × List Nat)) (R : Rec) (σ0 σ : St) (h : Hp), But (ops.toList.filterMap (·.dst)) σ0 σ →
    planW S ops Q l R σ h → planW S ops (fun σ' h' => Q σ' h' ∧ But (ops.toList.filterMap (·.dst)) σ0 σ') l R σ h
  | [], _, _, σ, h, hb, hh => ⟨hh, hb⟩
  | (i, need) :: l, R, σ0, σ, h, hb, hh => by
    simp only [planW] at hh ⊢
    refine stepW_mono S ops (fun _ => planW_but l _ _ _ _ hb) (fun o hi R v h' => planW_but l _ _ _ _ (hb.trans (put_but σ v fun t ht =>
        List.mem_filterMap.2 ⟨o, Array.mem_toList_iff.2 (Array.mem_of_getElem? hi), ht⟩))) hh

theorem VC_but : ∀ (c : Code) (x : Ann) {Q : Post} {σ : St} {h : Hp}, VC S c x Q σ h → VC S c x (fun e σ' h' => Q e σ' h' ∧ But (wr c x) σ σ') σ h := by
  intro c
  induction c with
  | seq a b iha ihb =>
    intro x Q σ h hh
    cases x <;> simp only [VC, wr] at hh ⊢
    case seq x y =>
      refine VC_mono S a x (fun e σ' h' hK => ?_) (iha x hh)
      obtain ⟨hK, hb⟩ := hK
      have hb' := hb.mono fun t ht => List.mem_append_left (wr b y) ht
      cases e <;> simp only [thenQ] at hK ⊢ <;> first
        | exact ⟨hK, hb'⟩
        | exact VC_mono S b y (fun e σ'' h'' ⟨p, q⟩ => ⟨p, hb'.trans (q.mono fun t ht => List.mem_append_right _ ht)⟩) (ihb y hK)
    case join C W x y =>
      intro J hJ
      refine VC_mono S a x (fun e σ' h' hK => ?_) (iha x (hh (fun xs h' => ∀ g : St, VC S b y Q (hd C xs (havoc W g σ)) h') ?_))
      · obtain ⟨hK, hb⟩ := hK
        have hb' : But (C ++ W ++ wr a x ++ wr b y) σ σ' := hb.mono fun t ht => by simp [ht]
        cases e <;> simp only [thenQ] at hK ⊢ <;> first
          | exact ⟨hK, hb'⟩
          | skip
        rw [ForN_iff] at hJ
        refine hJ _ (by simp) h' fun g => VC_mono S b y (fun e σ'' h'' ⟨p, q⟩ => ⟨p, ?_⟩) (ihb y (hK g))
        have b1 : But (C ++ W ++ wr a x ++ wr b y) σ (havoc W g σ) := (havoc_but W g σ).mono fun t ht => by simp [ht]
        have b2 : But (C ++ W ++ wr a x ++ wr b y) (havoc W g σ) (hd C (C.map σ') (havoc W g σ)) := (hd_but C _ _).mono fun t ht => by simp [ht]
        exact (b1.trans b2).trans (q.mono fun t ht => by simp [ht])
      · rw [ForN_iff]
        exact fun l hl h' hg => hg
  | cond c t e iht ihe =>
    intro x Q σ h hh
    cases x <;> simp only [VC, wr] at hh ⊢
    case cond x y =>
      unfold vB at *
      split at hh
      · exact VC_mono S t x (fun e σ' h' ⟨p, q⟩ => ⟨p, q.mono fun t ht => by simp [ht]⟩) (iht x hh)
      · exact VC_mono S e y (fun e σ' h' ⟨p, q⟩ => ⟨p, q.mono fun t ht => by simp [ht]⟩) (ihe y hh)
      · exact hh.elim
  | block id body ih =>
    intro x Q σ h hh
    cases x <;> simp only [VC, wr] at hh ⊢
    case blk x =>
      refine VC_mono S body x (fun e σ' h' ⟨p, q⟩ => ?_) (ih x hh)
      cases e <;> simp only [blkQ] at p ⊢ <;> first
        | exact ⟨p, q⟩
        | (cases hb : Nat.beq _ id <;> rw [hb] at p <;> exact ⟨p, q⟩)
  | loop body ih =>
    intro x Q σ h hh
    cases x <;> simp only [VC, wr] at hh ⊢
    case loop C W x =>
      obtain ⟨I, h0, h1⟩ := hh
      refine ⟨I, h0, fun n => ?_⟩
      have := h1 n
      rw [ForN_iff] at this ⊢
      refine fun l hl h' hI g => VC_mono S body x (fun e σ' h' ⟨p, q⟩ => ?_) (ih x (this l hl h' hI g))
      have b1 : But (C ++ W ++ wr body x) σ (havoc W g σ) := (havoc_but W g σ).mono fun t ht => by simp [ht]
      have b2 : But (C ++ W ++ wr body x) (havoc W g σ) (hd C l (havoc W g σ)) := (hd_but C _ _).mono fun t ht => by simp [ht]
      have b3 := (b1.trans b2).trans (q.mono fun t ht => by simp [ht])
      cases e <;> simp only [thenQ] at p ⊢ <;> first | exact p | exact ⟨p, b3⟩
  | region id ops draw =>
    intro x Q σ h hh
    cases x <;> simp only [VC, wr] at hh ⊢
    case reg A plan => exact planW_but S plan _ σ σ h (But.refl _ _) hh
  | scope body ih =>
    intro x Q σ h hh
    cases x <;> simp only [VC, wr] at hh ⊢
    case blk x => exact ih x hh
  | skip => intro x Q σ h hh; simp only [VC] at hh ⊢; exact ⟨hh, But.refl _ _⟩
  | label l => intro x Q σ h hh; simp only [VC] at hh ⊢; exact ⟨hh, But.refl _ _⟩
  | exit id => intro x Q σ h hh; simp only [VC] at hh ⊢; exact ⟨hh, But.refl _ _⟩
  | ret => intro x Q σ h hh; simp only [VC] at hh ⊢; exact ⟨hh, But.refl _ _⟩
  | goto l => intro x Q σ h hh; simp only [VC] at hh
  | refuse w => intro x Q σ h hh; simp only [VC] at hh
  | rangeFunc f ps a b => intro x Q σ h hh; simp only [VC] at hh

def LQ (n : Nat) (tg : Tag) (fr : Hp) (Q : Post) : Exit → Act → World → Prop := fun e => LK n tg fr (Q e)

theorem LQ.grow {n : Nat} {tg : Tag} {fr fr' : Hp} {Q : Post} (g : Grows fr fr') {e : Exit} {a : Act} {w : World} (h : LQ n tg fr' Q e a w) : LQ n tg fr Q e a w := by
  obtain ⟨σ, h, f, r, d, e, g', q⟩ := h
  exact ⟨σ, h, f, r, d, e, g.trans g', q⟩

/-- Only these ways out. -/
def Plain (Q : Post) : Prop := ∀ e σ h, Q e σ h → e = .normal ∨ e = .ret ∨ ∃ id, e = .exit id

theorem loop_sound {c : Code} {Q : Exit → Act → World → Prop} (I : Nat → Act → World → Prop)
    (round : ∀ n a w, I n a w → c.wp P (Exit.then (fun a' w' => ∃ m, m < n ∧ I m a' w') Q) a w) {n : Nat} {a : Act} {w : World} (h0 : I n a w) : (Code.loop c).wp P Q a w := by
  intro b k cs
  have key : ∀ n a w, I n a w → ∃ e a' w', Q e a' w' ∧ Arrives P (lone (b.at a (.code c :: .inLoop c :: k)) cs w) b k cs e a' w' := by
    intro n
    induction n using Nat.strongRecOn with
    | _ n ih =>
      intro a w hI
      obtain ⟨e, a₁, w₁, hq, harr⟩ := round n a w hI b (.inLoop c :: k) cs
      cases e with
      | normal =>
        obtain ⟨m, hlt, hI₁⟩ := hq
        obtain ⟨e₂, a₂, w₂, hq₂, harr₂⟩ := ih m hlt a₁ w₁ hI₁
        exact ⟨e₂, a₂, w₂, hq₂, .of_steps (Steps.trans harr (.one step_inLoop)) harr₂⟩
      | exit id => exact ⟨_, a₁, w₁, hq, .pass (x := .inLoop c) rfl (fun _ _ => .inl (by simp)) harr⟩
      | goto l => exact ⟨_, a₁, w₁, hq, .pass (x := .inLoop c) rfl (fun _ _ => .inl (by simp)) harr⟩
      | ret => exact ⟨_, a₁, w₁, hq, .pass (x := .inLoop c) rfl (fun _ _ => .inl (by simp)) harr⟩
      | panic ch => exact ⟨_, a₁, w₁, hq, .pass (x := .inLoop c) rfl (fun _ _ => .inl (by simp)) harr⟩
      | outgrown => exact ⟨_, a₁, w₁, hq, .pass (x := .inLoop c) rfl (fun _ _ => .inl (by simp)) harr⟩
  obtain ⟨e, a', w', hq, harr⟩ := key n a w h0
  exact ⟨e, a', w', hq, .of_steps (.one step_loop) harr⟩

theorem VC_sound {n : Nat} {tg : Tag} (hm : P.follows .mixedOrders = true) : ∀ (c : Code) (x : Ann) {Q : Post} {σ : St} {a : Act} {h fr : Hp} {w : World}, (∀ l σ h, ¬ Q (.goto l) σ h) →
    annOk S n c x = true → Rel n σ a → Disj h fr → w.At tg (h.add fr) → VC S c x Q σ h → c.wp P (LQ n tg fr Q) a w := by
  intro c
  induction c with
  | seq ca cb iha ihb =>
    intro x Q σ a h fr w hg hok r d e hh
    cases x <;> simp only [VC, annOk, Bool.and_eq_true] at hh hok
    case seq x y =>
      refine wp_seq (wp_mono (iha x (Q := thenQ (VC S cb y Q) Q) (fun l σ h => by simp only [thenQ]; exact hg l σ h) hok.1 r d e hh) fun e a' w' hK => ?_)
      obtain ⟨σ', h', fr', r', d', e', g', hK⟩ := hK
      cases e <;> simp only [thenQ, Exit.then] at hK ⊢ <;> first
        | exact ⟨σ', h', fr', r', d', e', g', hK⟩
        | exact wp_mono (ihb y hg hok.2 r' d' e' hK) fun e a w => LQ.grow g'
    case join C W x y =>
      obtain ⟨⟨hwr, hoka⟩, hokb⟩ := hok
      have hv := VC_but S ca x (hh (fun xs h' => ∀ g : St, VC S cb y Q (hd C xs (havoc W g σ)) h') (by rw [ForN_iff]; exact fun l hl h' hg => hg))
      refine wp_seq (wp_mono (iha x (Q := _) ?_ hoka r d e hv) fun e a' w' hK => ?_)
      · intro l σ h hK
        simp only [thenQ] at hK
        exact hg l σ h hK.1
      · obtain ⟨σ', h', fr', r', d', e', g', hK, hb⟩ := hK
        have hb' : But (C ++ W) σ σ' := hb.mono fun t ht => by
          have := List.all_eq_true.1 hwr t ht
          simpa using this
        cases e <;> simp only [thenQ, Exit.then] at hK ⊢ <;> first
          | exact ⟨σ', h', fr', r', d', e', g', hK⟩
          | skip
        have h2 := hK σ'
        rw [hd_havoc_self hb'] at h2
        exact wp_mono (ihb y hg hokb r' d' e' h2) fun e a w => LQ.grow g'
  | cond c t e iht ihe =>
    intro x Q σ a h fr w hg hok r d e hh
    cases x <;> simp only [VC, annOk, Bool.and_eq_true] at hh hok
    case cond x y =>
      unfold vB at hh
      split at hh
      · rename_i hc
        exact wp_cond_true (by rw [r.eval]; exact hc) (iht x hg hok.1 r d e hh)
      · rename_i hc
        exact wp_cond_false (by rw [r.eval]; exact hc) (ihe y hg hok.2 r d e hh)
      · exact hh.elim
  | block id body ih =>
    intro x Q σ a h fr w hg hok r d e hh
    cases x <;> simp only [VC, annOk] at hh hok
    case blk x =>
      refine wp_block (wp_mono (ih x (Q := blkQ id Q) (fun l σ h => by simp only [blkQ]; exact hg l σ h) hok r d e hh) fun e a' w' hK => ?_)
      obtain ⟨σ', h', fr', r', d', e', g', hK⟩ := hK
      cases e with
      | exit id' =>
        simp only [blkQ] at hK
        simp only [Exit.inBlock]
        split <;> rename_i hi
        · subst hi; rw [Nat.beq_refl] at hK; exact ⟨σ', h', fr', r', d', e', g', hK⟩
        · rw [nbeq hi] at hK; exact ⟨σ', h', fr', r', d', e', g', hK⟩
      | _ => exact ⟨σ', h', fr', r', d', e', g', hK⟩
  | loop body ih =>
    intro x Q σ a h fr w hg hok r d e hh
    cases x <;> simp only [VC, annOk, Bool.and_eq_true] at hh hok
    case loop C W x =>
      obtain ⟨hwr, hok⟩ := hok
      obtain ⟨I, ⟨n0, h0⟩, h1⟩ := hh
      refine loop_sound (fun m a w => ∃ σ' h' fr', Rel n σ' a ∧ Disj h' fr' ∧ w.At tg (h'.add fr') ∧ Grows fr fr' ∧ But (C ++ W) σ σ' ∧ I m (C.map σ') h') ?_ (n := n0)
        ⟨σ, h, fr, r, d, e, Grows.refl fr, But.refl _ _, h0⟩
      rintro m a w ⟨σ', h', fr', r', d', e', g', hb, hI⟩
      have h2 := (ForN_iff.1 (h1 m)) (C.map σ') (by simp) h' hI σ'
      rw [hd_havoc_self hb] at h2
      have h3 := VC_but S body x h2
      refine wp_mono (ih x (Q := _) ?_ hok r' d' e' h3) fun e a' w' hK => ?_
      · intro l σ h hK
        simp only [thenQ] at hK
        exact hg l σ h hK.1
      · obtain ⟨σ'', h'', fr'', r'', d'', e'', g'', hK, hb2⟩ := hK
        have hb' : But (C ++ W) σ' σ'' := hb2.mono fun t ht => by
          have := List.all_eq_true.1 hwr t ht
          simpa using this
        cases e <;> simp only [thenQ, Exit.then] at hK ⊢ <;> first
          | exact ⟨σ'', h'', fr'', r'', d'', e'', g'.trans g'', hK⟩
          | skip
        obtain ⟨k, hk, hI'⟩ := hK
        exact ⟨k, hk, σ'', h'', fr'', r'', d'', e'', g'.trans g'', hb.trans hb', hI'⟩
  | region id ops draw =>
    intro x Q σ a h fr w hg hok r d e hh
    cases x <;> simp only [VC, annOk] at hh hok
    case reg A plan => exact region_sound S A hm hok r d e (fun a w hK => hK) hh
  | scope body ih =>
    intro x Q σ a h fr w hg hok r d e hh
    cases x <;> simp only [VC, annOk] at hh hok
    case blk x =>
      refine wp_scope_straight (wp_mono (ih x hg hok r d e hh) fun e a' w' hK => ?_)
      cases e with
      | goto l => obtain ⟨σ', h', fr', r', d', e', g', hK⟩ := hK; exact hg _ _ _ hK
      | _ => exact hK
  | skip => intro x Q σ a h fr w hg hok r d e hh; simp only [VC] at hh; exact wp_skip ⟨σ, h, fr, r, d, e, Grows.refl fr, hh⟩
  | label l => intro x Q σ a h fr w hg hok r d e hh; simp only [VC] at hh; exact wp_label ⟨σ, h, fr, r, d, e, Grows.refl fr, hh⟩
  | exit id => intro x Q σ a h fr w hg hok r d e hh; simp only [VC] at hh; exact wp_exit ⟨σ, h, fr, r, d, e, Grows.refl fr, hh⟩
  | ret => intro x Q σ a h fr w hg hok r d e hh; simp only [VC] at hh; exact wp_ret ⟨σ, h, fr, r, d, e, Grows.refl fr, hh⟩
  | goto l => intro x Q σ a h fr w hg hok r d e hh; simp only [VC] at hh
  | refuse w => intro x Q σ a h fr w hg hok r d e hh; simp only [VC] at hh
  | rangeFunc f ps a b => intro x Q σ a h fr w hg hok r d e hh; simp only [VC] at hh

end
end Go.Sl
