/-
  Texts of the proof, in one file: V3, V4, V5, V6, V7, V8, V9, V10, V11, V12, V13.
-/
import Derived.Test.YtampdifeblndfaaGreatDoorB1
import Derived.Scope
set_option linter.unusedVariables false
set_option linter.unusedSimpArgs false
/-
  Code with its annotations: what is to be shown (VC), and that it suffices.
-/
namespace Go.Sl
def _root_.Go.Sem.rd {α : Type} (P : Program) : Sem α → Hp → Option α
  | .pure a, _ => some a
  | .load _ a k, h => match h.cell a with
    | some v => (k v).rd P h
    | none => none
  | .shape r k, h => match h r with
    | some o => (k o.shp).rd P h
    | none => none
  | .frozen a k, h => match h a.block with
    | some o => (k (o.frz a)).rd P h
    | none => none
  | .getObj r k, h => match h r with
    | some o => if o.isCellsB then none else (k o).rd P h
    | none => none
  | .program k, h => (k P).rd P h
  | .mark _ k, h => k.rd P h
  | _, _ => none
theorem rd_vc {α : Type} {P : Program} {s : Sem α} {h : Hp} {a : α} : s.rd P h = some a → ∀ {Q : α → Hp → Prop}, Q a h → s.vc P Q h := by
  induction s with
  | pure x => intro e Q q; simp only [Sem.rd, Option.some.injEq] at e; subst e; exact q
  | load m x k ih =>
    intro e Q q
    simp only [Sem.rd] at e
    cases hc : h.cell x with
    | none => rw [hc] at e; cases e
    | some v => rw [hc] at e; exact ⟨v, hc, ih v e q⟩
  | shape r k ih =>
    intro e Q q
    simp only [Sem.rd] at e
    cases hc : h r with
    | none => rw [hc] at e; cases e
    | some o => rw [hc] at e; exact ⟨o, hc, ih _ e q⟩
  | frozen x k ih =>
    intro e Q q
    simp only [Sem.rd] at e
    cases hc : h x.block with
    | none => rw [hc] at e; cases e
    | some o => rw [hc] at e; exact ⟨o, hc, ih _ e q⟩
  | getObj r k ih =>
    intro e Q q
    simp only [Sem.rd] at e
    cases hc : h r with
    | none => rw [hc] at e; cases e
    | some o =>
      rw [hc] at e
      cases hi : o.isCellsB with
      | true => simp [hi] at e
      | false => simp only [hi, Bool.false_eq_true, if_false] at e; exact ⟨o, hc, hi, ih _ e q⟩
  | program k ih => intro e Q q; exact ih P e q
  | mark m k ih => intro e Q q; exact ih e q
  | _ => intro e; simp [Sem.rd] at e
theorem rd_run {α : Type} {P : Program} {s : Sem α} {h : Hp} {a : α} : s.rd P h = some a → ∀ {w : World} {f : Hp}, w.hp = h.add f → s.run P w = .ok a w := by
  induction s with
  | pure x => intro e w f _; simp only [Sem.rd, Option.some.injEq] at e; subst e; rfl
  | load m x k ih =>
    intro e w f he
    simp only [Sem.rd] at e
    cases hc : h.cell x with
    | none => rw [hc] at e; cases e
    | some v =>
      rw [hc] at e
      have : w.cell? x = some v := by rw [cell?_hp, he]; exact Hp.cell_add hc
      simp only [Sem.run, this]
      exact ih v e he
  | shape r k ih =>
    intro e w f he
    simp only [Sem.rd] at e
    cases hc : h r with
    | none => rw [hc] at e; cases e
    | some o =>
      rw [hc] at e
      have hb : w.hp r = some o := by rw [he]; exact Hp.add_of_left hc
      simp only [Sem.run, shape?_hp w r hb]
      exact ih _ e he
  | frozen x k ih =>
    intro e w f he
    simp only [Sem.rd] at e
    cases hc : h x.block with
    | none => rw [hc] at e; cases e
    | some o =>
      rw [hc] at e
      have hb : w.hp x.block = some o := by rw [he]; exact Hp.add_of_left hc
      simp only [Sem.run, frozen?_hp w x hb]
      exact ih _ e he
  | getObj r k ih =>
    intro e w f he
    simp only [Sem.rd] at e
    cases hc : h r with
    | none => rw [hc] at e; cases e
    | some o =>
      rw [hc] at e
      have hb : w.heap[r]? = some o := by rw [← hp_apply, he]; exact Hp.add_of_left hc
      cases hi : o.isCellsB with
      | true => simp [hi] at e
      | false =>
        simp only [hi, Bool.false_eq_true, if_false] at e
        have := ih _ e he
        cases o <;> first | (simp [Obj.isCellsB] at hi; done) | (simp only [Sem.run, hb]; exact this)
  | program k ih => intro e w f he; exact ih P e he
  | mark m k ih => intro e w f he; exact ih e he
  | _ => intro e; simp [Sem.rd] at e
theorem rd_mono {α : Type} {P : Program} {s : Sem α} {h f : Hp} {a : α} : s.rd P h = some a → s.rd P (h.add f) = some a := by
  induction s with
  | pure x => exact id
  | load m x k ih =>
    intro e
    simp only [Sem.rd] at e ⊢
    cases hc : h.cell x with
    | none => rw [hc] at e; cases e
    | some v => rw [hc] at e; rw [Hp.cell_add hc]; exact ih v e
  | shape r k ih =>
    intro e
    simp only [Sem.rd] at e ⊢
    cases hc : h r with
    | none => rw [hc] at e; cases e
    | some o => rw [hc] at e; rw [Hp.add_of_left hc]; exact ih _ e
  | frozen x k ih =>
    intro e
    simp only [Sem.rd] at e ⊢
    cases hc : h x.block with
    | none => rw [hc] at e; cases e
    | some o => rw [hc] at e; rw [Hp.add_of_left hc]; exact ih _ e
  | getObj r k ih =>
    intro e
    simp only [Sem.rd] at e ⊢
    cases hc : h r with
    | none => rw [hc] at e; cases e
    | some o =>
      rw [hc] at e; rw [Hp.add_of_left hc]
      cases hi : o.isCellsB with
      | true => simp [hi] at e
      | false => simp only [hi, Bool.false_eq_true, if_false] at e ⊢; exact ih _ e
  | program k ih => intro e; exact ih P e
  | mark m k ih => intro e; exact ih e
  | _ => intro e; simp [Sem.rd] at e
theorem rd_bind {α β : Type} {P : Program} {s : Sem α} {k : α → Sem β} {h : Hp} : (s.bind k).rd P h = (s.rd P h).bind fun a => (k a).rd P h := by
  induction s with
  | pure x => rfl
  | load m x k ih => simp only [Sem.bind, Sem.rd]; cases h.cell x <;> simp [ih]
  | shape r k ih => simp only [Sem.bind, Sem.rd]; cases h r <;> simp [ih]
  | frozen x k ih => simp only [Sem.bind, Sem.rd]; cases h x.block <;> simp [ih]
  | getObj r k ih => simp only [Sem.bind, Sem.rd]; cases h r <;> simp [ih]; split <;> rfl
  | program k ih => simp only [Sem.bind, Sem.rd, ih]
  | mark m k ih => simp only [Sem.bind, Sem.rd, ih]
  | _ => simp [Sem.bind, Sem.rd]
structure Rel (n : Nat) (σ : St) (a : Act) : Prop where
  defers : a.defers = []
  size : a.tmps.size = n
  slot : ∀ t, a.tmps.getD t undef = σ t
theorem Rel.eval {n : Nat} {σ : St} {a : Act} (r : Rel n σ a) : a.eval = ev σ := by
  funext x
  cases x with
  | tmp t => exact r.slot t
  | _ => rfl
theorem Rel.yl {n : Nat} {σ : St} {a : Act} (r : Rel n σ a) (ops : Array Oper) : yielded ops a.tmps = Sl.yl ops σ := by
  funext j
  unfold yielded Sl.yl
  cases h : (ops[j]?).bind (·.dst) with
  | none => rfl
  | some t =>
    simp only [Option.bind_some]
    have := r.slot t
    cases ht : a.tmps[t]? with
    | none =>
      have e : σ t = undef := by rw [← this]; simp [ht]
      rw [e]; rfl
    | some v =>
      have e : σ t = v := by rw [← this]; simp [ht]
      rw [e]
      cases v <;> rfl
def dstOk (n : Nat) (o : Oper) : Bool :=
  match o.dst with
  | some d => decide (d < n)
  | none => true
theorem Rel.put {n : Nat} {σ : St} {a : Act} (r : Rel n σ a) {o : Oper} (ho : dstOk n o = true) (v : Value) : Rel n (σ.put o.dst v) (a.put o.dst v) := by
  unfold dstOk at ho
  cases hd : o.dst with
  | none => exact r
  | some d =>
    rw [hd] at ho
    have hlt : d < n := of_decide_eq_true ho
    refine ⟨r.defers, by simp [Act.put, r.size], fun t => ?_⟩
    simp only [Act.put, St.put]
    by_cases e : t = d
    · subst e
      simp [r.size, hlt]
    · have h1 : Nat.beq t d = false := nbeq e
      have := r.slot t
      simp only [h1, cond_false]
      rw [← this]
      simp [Array.getElem?_setIfInBounds_ne (Ne.symm e)]
def LK (n : Nat) (tg : Tag) (fr : Hp) (K : St → Hp → Prop) : Act → World → Prop :=
  fun a w => ∃ σ h fr', Rel n σ a ∧ Disj h fr' ∧ w.At tg (h.add fr') ∧ Grows fr fr' ∧ K σ h
section
variable {P : Program} (S : Sys P) (A : List Nat) {ops : Array Oper} {n : Nat} {tg : Tag}
theorem den_wpOp {Q : Exit → Act → World → Prop} {i : Nat} {o : Oper} {σ : St} {a : Act} {h fr : Hp} {w : World} {K : Value → Hp → Prop} {K' : Act → World → Prop}
    (hi : ops[i]? = some o) (r : Rel n σ a) (d : Disj h fr) (e : w.At tg (h.add fr)) (hw : Region.wanted o (yl ops σ) = true)
    (hh : (S.D (ev σ) o).wp K h) (hk : ∀ v h' w' fr', Disj h' fr' → w'.At tg (h'.add fr') → Grows fr fr' → K v h' → K' (a.put o.dst v) w') :
    wpOp P ops Q i K' a w := by
  unfold wpOp
  simp only [hi, r.yl ops, hw, if_true]
  refine .inl ?_
  unfold Oper.wp
  rw [r.eval]
  obtain ⟨nx, w', h', hr, d', e', hn⟩ := vc_run (S.sound _ _ _ _ hh) w fr tg d e
  rw [hr]
  cases nx <;> simp only [nextK] at hn <;> simp only [Oper.upon]
  case value v => exact hk v h' w' fr d' e' (Grows.refl fr) hn
  case skip => exact hk _ h' w' fr d' e' (Grows.refl fr) hn
  case enter f args =>
    refine (hn w' fr tg d' e').mono ?_
    rintro en w'' ⟨v, h'', fr', rfl, d'', e'', g, hK⟩
    exact hk v h'' w'' fr' d'' e'' g hK
theorem stepA_sound {Q : Exit → Act → World → Prop} {i : Nat} {R : Rec} {σ : St} {a : Act} {h fr : Hp} {w : World} {K : Rec → St → Hp → Prop} {K' : Act → World → Prop}
    (hd : ∀ o, ops[i]? = some o → dstOk n o = true) (r : Rel n σ a) (d : Disj h fr) (e : w.At tg (h.add fr)) (hh : stepA S A ops i K R σ h)
    (hk : ∀ R' σ' a' h' w' fr', Rel n σ' a' → Disj h' fr' → w'.At tg (h'.add fr') → Grows fr fr' → K R' σ' h' → K' a' w') : wpOp P ops Q i K' a w := by
  unfold stepA at hh
  cases hi : ops[i]? with
  | none =>
    simp only [hi] at hh
    unfold wpOp
    simp only [hi]
    exact hk _ _ _ _ _ _ r d e (Grows.refl fr) hh
  | some o =>
    simp only [hi] at hh
    by_cases hw : Region.wanted o (yl ops σ) = true
    · rw [if_pos hw] at hh
      refine den_wpOp S (K := fun v h' => ∃ R', K R' (σ.put o.dst v) h') hi r d e hw ?_ fun v h' w' fr' d' e' g ⟨R', hK⟩ => hk R' _ _ _ _ _ (r.put (hd o hi) v) d' e' g hK
      have hok := S.ok (ev σ) o
      generalize S.D (ev σ) o = dd at *
      cases dd with
      | pu v => exact vP_mono hh fun x hx => ⟨_, hx⟩
      | rd q => exact vP_mono hh fun x hx => ⟨_, hx⟩
      | al p => exact vA_mono (K' := fun v h' => ∃ R', K R' (σ.put o.dst v) h') hh fun x h' hx => ⟨_, hx⟩
      | ef T => exact EfOk.mono hok (fun x h' hx => ⟨_, hx.2⟩) hh
    · rw [if_neg hw] at hh
      unfold wpOp
      simp only [hi, r.yl ops]
      rw [if_neg hw]
      exact hk _ _ _ _ _ _ (r.put (hd o hi) undef) d e (Grows.refl fr) hh
theorem stepW_sound {Q : Exit → Act → World → Prop} {i : Nat} {need : List Nat} {R : Rec} {σ : St} {a : Act} {h fr : Hp} {w : World} {K : Rec → St → Hp → Prop} {K' : Act → World → Prop}
    (hd : ∀ o, ops[i]? = some o → dstOk n o = true) (r : Rel n σ a) (d : Disj h fr) (e : w.At tg (h.add fr)) (hh : stepW S ops i need K R σ h)
    (hk : ∀ R' σ' a' h' w' fr', Rel n σ' a' → Disj h' fr' → w'.At tg (h'.add fr') → Grows fr fr' → K R' σ' h' → K' a' w') : wpOp P ops Q i K' a w := by
  have hh := stepW_any S ops hh
  unfold stepW0 at hh
  cases hi : ops[i]? with
  | none =>
    simp only [hi] at hh
    obtain ⟨R', hh⟩ := hh
    unfold wpOp
    simp only [hi]
    exact hk _ _ _ _ _ _ r d e (Grows.refl fr) hh
  | some o =>
    simp only [hi] at hh
    by_cases hw : Region.wanted o (yl ops σ) = true
    · rw [if_pos hw] at hh
      refine den_wpOp S (K := fun v h' => ∃ R', K R' (σ.put o.dst v) h') hi r d e hw ?_ fun v h' w' fr' d' e' g ⟨R', hK⟩ => hk R' _ _ _ _ _ (r.put (hd o hi) v) d' e' g hK
      have hok := S.ok (ev σ) o
      generalize S.D (ev σ) o = dd at *
      cases dd with
      | pu v => exact vP_mono hh fun x hx => hx
      | rd q => exact vP_mono hh fun x hx => hx
      | al p => exact vA_mono (K' := fun v h' => ∃ R', K R' (σ.put o.dst v) h') hh fun x h' hx => hx
      | ef T => exact EfOk.mono hok (fun x h' hx => hx.2) hh
    · rw [if_neg hw] at hh
      obtain ⟨R', hh⟩ := hh
      unfold wpOp
      simp only [hi, r.yl ops]
      rw [if_neg hw]
      exact hk _ _ _ _ _ _ (r.put (hd o hi) undef) d e (Grows.refl fr) hh
theorem anyA_sound {Q : Exit → Act → World → Prop} {Q' : St → Hp → Prop} {fr0 : Hp} (hd : ∀ (i : Nat) (o : Oper), ops[i]? = some o → dstOk n o = true) (hQ : ∀ a w, LK n tg fr0 Q' a w → Q .normal a w) :
    ∀ (fuel : Nat) (listed : Array Bool) (R : Rec) (σ : St) (a : Act) (h fr : Hp) (w : World), Rel n σ a → Disj h fr → w.At tg (h.add fr) → Grows fr0 fr →
      anyA S A ops Q' fuel listed R σ h → wpAny P .any ops Q fuel listed a w
  | 0, _, _, σ, a, h, fr, w, r, d, e, g, hh => ⟨hh.1, hQ _ _ ⟨σ, h, fr, r, d, e, g, hh.2⟩⟩
  | fuel + 1, listed, R, σ, a, h, fr, w, r, d, e, g, hh =>
    ⟨fun h0 => hQ _ _ ⟨σ, h, fr, r, d, e, g, hh.1 h0⟩,
     fun i hi => stepA_sound S A (hd i) r d e (hh.2 i hi) fun R' σ' a' h' w' fr' r' d' e' g' hK => anyA_sound hd hQ fuel _ R' σ' a' h' fr' w' r' d' e' (g.trans g') hK⟩
theorem planW_sound {Q : Exit → Act → World → Prop} {Q' : St → Hp → Prop} {fr0 : Hp} (hd : ∀ (i : Nat) (o : Oper), ops[i]? = some o → dstOk n o = true) (hQ : ∀ a w, LK n tg fr0 Q' a w → Q .normal a w) :
    ∀ (l : List (Nat × List Nat)) (R : Rec) (σ : St) (a : Act) (h fr : Hp) (w : World), Rel n σ a → Disj h fr → w.At tg (h.add fr) → Grows fr0 fr →
      planW S ops Q' l R σ h → wpOps P ops Q (l.map (·.1)) a w
  | [], _, σ, a, h, fr, w, r, d, e, g, hh => hQ _ _ ⟨σ, h, fr, r, d, e, g, hh⟩
  | (i, need) :: l, R, σ, a, h, fr, w, r, d, e, g, hh => by
    rw [List.map_cons, wpOps_cons]
    exact stepW_sound S (hd i) r d e hh fun R' σ' a' h' w' fr' r' d' e' g' hK => planW_sound hd hQ l R' σ' a' h' fr' w' r' d' e' (g.trans g') hK
def regOk (n : Nat) (ops : Array Oper) (draw : Bool) (plan : List (Nat × List Nat)) : Bool :=
  (ops.toList.all (dstOk n)) &&
  (bif draw then ancOk A ops && (Nat.beq plan.length ops.size) && planOk S A ops plan [] (Array.replicate ops.size false)
   else plan.map (·.1) == List.range ops.size)
theorem region_sound {Q' : St → Hp → Prop} {Q : Exit → Act → World → Prop} {id : Nat} {draw : Bool} {plan : List (Nat × List Nat)} {σ : St} {a : Act} {h fr : Hp} {w : World}
    (hm : P.follows .mixedOrders = true) (hok : regOk S A n ops draw plan = true) (r : Rel n σ a) (d : Disj h fr) (e : w.At tg (h.add fr))
    (hQ : ∀ a w, LK n tg fr Q' a w → Q .normal a w) (hh : planW S ops Q' plan (fun _ _ => True) σ h) : (Code.region id ops draw).wp P Q a w := by
  simp only [regOk, Bool.and_eq_true] at hok
  obtain ⟨hd0, hok⟩ := hok
  have hd : ∀ (i : Nat) (o : Oper), ops[i]? = some o → dstOk n o = true := fun i o ho => by
    refine List.all_eq_true.1 hd0 o ?_
    exact Array.mem_toList_iff.2 (Array.mem_of_getElem? ho)
  cases draw with
  | false =>
    simp only [cond_false, beq_iff_eq] at hok
    refine wp_region ?_
    rw [← hok]
    exact planW_sound S hd hQ plan _ σ a h fr w r d e (Grows.refl fr) hh
  | true =>
    simp only [cond_true, Bool.and_eq_true] at hok
    obtain ⟨⟨hA, hlen⟩, hp⟩ := hok
    have hlen := Nat.eq_of_beq_eq_true hlen
    refine wp_region_any hm ?_
    refine anyA_sound S A hd hQ ops.size _ (fun _ _ => True) σ a h fr _ r d e (Grows.refl fr) ?_
    rw [← hlen]
    refine anyA_of_plan S A ops hA plan [] _ _ σ h (by simp [hlen]) ?_ ?_ (fun y => .inr fun _ => trivial) (by rw [hlen]; exact hp) hh
    · intro j o ho hj
      simp only [Array.getD_eq_getD_getElem?, Array.getElem?_replicate] at hj
      split at hj <;> cases hj
    · exact ⟨fun _ _ _ _ _ => trivial, fun _ _ _ => trivial⟩
end
inductive Ann where
  | leaf
  | reg (A : List Nat) (plan : List (Nat × List Nat))
  | seq (a b : Ann)
  | join (C W : List Nat) (a b : Ann)
  | cond (a b : Ann)
  | blk (a : Ann)
  | loop (C W : List Nat) (a : Ann)
def hd : List Nat → List Value → St → St
  | c :: C, x :: xs, σ => fun t => bif Nat.beq t c then x else hd C xs σ t
  | _, _, σ => σ
def havoc (W : List Nat) (g σ : St) : St := fun t => bif W.elem t then g t else σ t
def ForN : Nat → (List Value → Prop) → Prop
  | 0, p => p []
  | n + 1, p => ∀ v, ForN n fun l => p (v :: l)
theorem ForN_iff {p : List Value → Prop} : ∀ {n : Nat}, ForN n p ↔ ∀ l : List Value, l.length = n → p l
  | 0 => ⟨fun h l hl => by rw [List.length_eq_zero_iff.1 hl]; exact h, fun h => h [] rfl⟩
  | n + 1 => by
    unfold ForN
    constructor
    · intro h l hl
      cases l with
      | nil => cases hl
      | cons v l => exact (ForN_iff.1 (h v)) l (by simpa using hl)
    · intro h v
      exact ForN_iff.2 fun l hl => h (v :: l) (by simp [hl])
def vB (v : Value) (p q : Prop) : Prop :=
  match v with
  | .bool true => p
  | .bool false => q
  | _ => False
abbrev Post := Exit → St → Hp → Prop
def thenQ (K : St → Hp → Prop) (Q : Post) : Post
  | .normal, σ, h => K σ h
  | e, σ, h => Q e σ h
def blkQ (id : Nat) (Q : Post) : Post
  | .exit id', σ, h => bif Nat.beq id' id then Q .normal σ h else Q (.exit id') σ h
  | e, σ, h => Q e σ h
section
variable {P : Program} (S : Sys P)
def VC : Code → Ann → Post → St → Hp → Prop
  | .skip, _, Q, σ, h => Q .normal σ h
  | .label _, _, Q, σ, h => Q .normal σ h
  | .region _ ops _, .reg A plan, Q, σ, h => planW S ops (Q .normal) plan (fun _ _ => True) σ h
  | .seq a b, .seq x y, Q, σ, h => VC a x (thenQ (VC b y Q) Q) σ h
  | .seq a b, .join C W x y, Q, σ, h =>
    ∀ J : List Value → Hp → Prop, (ForN C.length fun xs => ∀ h', (∀ g : St, VC b y Q (hd C xs (havoc W g σ)) h') → J xs h') →
      VC a x (thenQ (fun σ' h' => J (C.map σ') h') Q) σ h
  | .cond c t e, .cond x y, Q, σ, h => vB (ev σ c) (VC t x Q σ h) (VC e y Q σ h)
  | .block id body, .blk x, Q, σ, h => VC body x (blkQ id Q) σ h
  | .loop body, .loop C W x, Q, σ, h =>
    ∃ I : Nat → List Value → Hp → Prop, (∃ n, I n (C.map σ) h) ∧
      ∀ n, ForN C.length fun xs => ∀ h', I n xs h' → ∀ g : St,
        VC body x (thenQ (fun σ' h'' => ∃ m, m < n ∧ I m (C.map σ') h'') Q) (hd C xs (havoc W g σ)) h'
  | .exit id, _, Q, σ, h => Q (.exit id) σ h
  | .scope body, .blk x, Q, σ, h => VC body x Q σ h
  | .ret, _, Q, σ, h => Q .ret σ h
  | _, _, _, _, _ => False
def wr : Code → Ann → List Nat
  | .region _ ops _, .reg _ _ => ops.toList.filterMap (·.dst)
  | .seq a b, .seq x y => wr a x ++ wr b y
  | .seq a b, .join C W x y => C ++ W ++ wr a x ++ wr b y
  | .cond _ t e, .cond x y => wr t x ++ wr e y
  | .block _ body, .blk x => wr body x
  | .loop body, .loop C W x => C ++ W ++ wr body x
  | .scope body, .blk x => wr body x
  | _, _ => []
def annOk (n : Nat) : Code → Ann → Bool
  | .region _ ops draw, .reg A plan => regOk S A n ops draw plan
  | .seq a b, .seq x y => annOk n a x && annOk n b y
  | .seq a b, .join C W x y => (wr a x).all (fun t => C.elem t || W.elem t) && annOk n a x && annOk n b y
  | .cond _ t e, .cond x y => annOk n t x && annOk n e y
  | .block _ body, .blk x => annOk n body x
  | .loop body, .loop C W x => (wr body x).all (fun t => C.elem t || W.elem t) && annOk n body x
  | .scope body, .blk x => annOk n body x
  | _, _ => true
theorem planW_mono {ops : Array Oper} {Q Q' : St → Hp → Prop} (hq : ∀ σ h, Q σ h → Q' σ h) : ∀ (l : List (Nat × List Nat)) (R : Rec) (σ : St) (h : Hp), planW S ops Q l R σ h → planW S ops Q' l R σ h
  | [], _, σ, h, hh => hq σ h hh
  | (i, need) :: l, R, σ, h, hh => by
    simp only [planW] at hh ⊢
    exact stepW_mono S ops (fun _ => planW_mono hq l _ _ _) (fun o _ R v h' => planW_mono hq l _ _ _) hh
theorem VC_mono : ∀ (c : Code) (x : Ann) {Q Q' : Post} (_ : ∀ e σ h, Q e σ h → Q' e σ h) {σ : St} {h : Hp}, VC S c x Q σ h → VC S c x Q' σ h := by
  intro c
  induction c with
  | seq a b iha ihb =>
    intro x Q Q' hq σ h hh
    cases x <;> simp only [VC] at hh ⊢
    case seq x y =>
      refine iha x (fun e σ h hK => ?_) hh
      cases e <;> simp only [thenQ] at hK ⊢ <;> first | exact ihb y hq hK | exact hq _ _ _ hK
    case join C W x y =>
      intro J hJ
      refine iha x (fun e σ h hK => ?_) (hh J ?_)
      · cases e <;> simp only [thenQ] at hK ⊢ <;> first | exact hK | exact hq _ _ _ hK
      · rw [ForN_iff] at hJ ⊢
        exact fun l hl h' hg => hJ l hl h' fun g => ihb y hq (hg g)
  | cond c t e iht ihe =>
    intro x Q Q' hq σ h hh
    cases x <;> simp only [VC] at hh ⊢
    case cond x y =>
      unfold vB at *
      split at hh <;> first | exact iht x hq hh | exact ihe y hq hh | exact hh.elim
  | block id body ih =>
    intro x Q Q' hq σ h hh
    cases x <;> simp only [VC] at hh ⊢
    case blk x =>
      refine ih x (fun e σ h hK => ?_) hh
      cases e <;> simp only [blkQ] at hK ⊢ <;> first | exact hq _ _ _ hK | (cases hb : Nat.beq _ id <;> rw [hb] at hK <;> exact hq _ _ _ hK)
  | loop body ih =>
    intro x Q Q' hq σ h hh
    cases x <;> simp only [VC] at hh ⊢
    case loop C W x =>
      obtain ⟨I, h0, h1⟩ := hh
      refine ⟨I, h0, fun n => ?_⟩
      have := h1 n
      rw [ForN_iff] at this ⊢
      refine fun l hl h' hI g => ih x (fun e σ h hK => ?_) (this l hl h' hI g)
      cases e <;> simp only [thenQ] at hK ⊢ <;> first | exact hK | exact hq _ _ _ hK
  | region id ops draw =>
    intro x Q Q' hq σ h hh
    cases x <;> simp only [VC] at hh ⊢
    case reg A plan => exact planW_mono S (hq .normal) plan _ _ _ hh
  | scope body ih =>
    intro x Q Q' hq σ h hh
    cases x <;> simp only [VC] at hh ⊢
    case blk x => exact ih x hq hh
  | skip => intro x Q Q' hq σ h hh; simp only [VC] at hh ⊢; exact hq _ _ _ hh
  | label l => intro x Q Q' hq σ h hh; simp only [VC] at hh ⊢; exact hq _ _ _ hh
  | exit id => intro x Q Q' hq σ h hh; simp only [VC] at hh ⊢; exact hq _ _ _ hh
  | ret => intro x Q Q' hq σ h hh; simp only [VC] at hh ⊢; exact hq _ _ _ hh
  | goto l => intro x Q Q' hq σ h hh; simp only [VC] at hh
  | refuse w => intro x Q Q' hq σ h hh; simp only [VC] at hh
  | rangeFunc f ps a b => intro x Q Q' hq σ h hh; simp only [VC] at hh
def But (W : List Nat) (σ σ' : St) : Prop := ∀ t, t ∉ W → σ' t = σ t
theorem But.refl (W : List Nat) (σ : St) : But W σ σ := fun _ _ => rfl
theorem But.trans {W : List Nat} {a b c : St} (h1 : But W a b) (h2 : But W b c) : But W a c := fun t ht => (h2 t ht).trans (h1 t ht)
theorem But.mono {W W' : List Nat} {a b : St} (h1 : But W a b) (hs : ∀ t, t ∈ W → t ∈ W') : But W' a b := fun t ht => h1 t fun h => ht (hs t h)
theorem put_but {W : List Nat} (σ : St) {d : Option Tmp} (v : Value) (h : ∀ t, d = some t → t ∈ W) : But W σ (σ.put d v) := by
  intro t ht
  cases d with
  | none => rfl
  | some u =>
    have : t ≠ u := fun e => ht (by rw [e]; exact h u rfl)
    simp [St.put, nbeq this]
theorem hd_apply_mem : ∀ (C : List Nat) (σ' : St) (σ : St) (t : Nat), hd C (C.map σ') σ t = if t ∈ C then σ' t else σ t
  | [], _, _, _ => by simp [hd]
  | c :: C, σ', σ, t => by
    simp only [List.map_cons, hd]
    by_cases e : t = c
    · subst e; simp
    · have : Nat.beq t c = false := nbeq e
      rw [this, cond_false, hd_apply_mem C σ' σ t]
      simp [e]
theorem hd_but (C : List Nat) : ∀ (xs : List Value) (σ : St), But C σ (hd C xs σ) := by
  induction C with
  | nil => intro xs σ; simp only [hd]; exact But.refl _ _
  | cons c C ih =>
    intro xs σ t ht
    cases xs with
    | nil => rfl
    | cons x xs =>
      simp only [List.mem_cons, not_or] at ht
      simp only [hd, nbeq ht.1, cond_false]
      exact ih xs σ t ht.2
theorem havoc_but (W : List Nat) (g σ : St) : But W σ (havoc W g σ) := fun t ht => by
  have : W.elem t = false := by simpa using ht
  simp only [havoc, this, cond_false]
theorem hd_havoc_self {C W : List Nat} {σ σ' : St} (h : But (C ++ W) σ σ') : hd C (C.map σ') (havoc W σ' σ) = σ' := by
  funext t
  rw [hd_apply_mem]
  by_cases h1 : t ∈ C
  · rw [if_pos h1]
  · rw [if_neg h1]
    by_cases h2 : t ∈ W
    · have : W.elem t = true := by simpa using h2
      simp only [havoc, this, cond_true]
    · have : W.elem t = false := by simpa using h2
      simp only [havoc, this, cond_false]
      exact (h t (by simp [h1, h2])).symm
theorem planW_but {ops : Array Oper} {Q : St → Hp → Prop} : ∀ (l : List (Nat × List Nat)) (R : Rec) (σ0 σ : St) (h : Hp), But (ops.toList.filterMap (·.dst)) σ0 σ →
    planW S ops Q l R σ h → planW S ops (fun σ' h' => Q σ' h' ∧ But (ops.toList.filterMap (·.dst)) σ0 σ') l R σ h
  | [], _, _, σ, h, hb, hh => ⟨hh, hb⟩
  | (i, need) :: l, R, σ0, σ, h, hb, hh => by
    simp only [planW] at hh ⊢
    refine stepW_mono S ops (fun _ => planW_but l _ _ _ _ hb) (fun o hi R v h' => planW_but l _ _ _ _ (hb.trans (put_but σ v fun t ht =>
        List.mem_filterMap.2 ⟨o, Array.mem_toList_iff.2 (Array.mem_of_getElem? hi), ht⟩))) hh
theorem VC_but : ∀ (c : Code) (x : Ann) {Q : Post} {σ : St} {h : Hp}, VC S c x Q σ h → VC S c x (fun e σ' h' => Q e σ' h' ∧ But (wr c x) σ σ') σ h := by
  intro c
  induction c with
  | seq a b iha ihb =>
    intro x Q σ h hh
    cases x <;> simp only [VC, wr] at hh ⊢
    case seq x y =>
      refine VC_mono S a x (fun e σ' h' hK => ?_) (iha x hh)
      obtain ⟨hK, hb⟩ := hK
      have hb' := hb.mono fun t ht => List.mem_append_left (wr b y) ht
      cases e <;> simp only [thenQ] at hK ⊢ <;> first
        | exact ⟨hK, hb'⟩
        | exact VC_mono S b y (fun e σ'' h'' ⟨p, q⟩ => ⟨p, hb'.trans (q.mono fun t ht => List.mem_append_right _ ht)⟩) (ihb y hK)
    case join C W x y =>
      intro J hJ
      refine VC_mono S a x (fun e σ' h' hK => ?_) (iha x (hh (fun xs h' => ∀ g : St, VC S b y Q (hd C xs (havoc W g σ)) h') ?_))
      · obtain ⟨hK, hb⟩ := hK
        have hb' : But (C ++ W ++ wr a x ++ wr b y) σ σ' := hb.mono fun t ht => by simp [ht]
        cases e <;> simp only [thenQ] at hK ⊢ <;> first
          | exact ⟨hK, hb'⟩
          | skip
        rw [ForN_iff] at hJ
        refine hJ _ (by simp) h' fun g => VC_mono S b y (fun e σ'' h'' ⟨p, q⟩ => ⟨p, ?_⟩) (ihb y (hK g))
        have b1 : But (C ++ W ++ wr a x ++ wr b y) σ (havoc W g σ) := (havoc_but W g σ).mono fun t ht => by simp [ht]
        have b2 : But (C ++ W ++ wr a x ++ wr b y) (havoc W g σ) (hd C (C.map σ') (havoc W g σ)) := (hd_but C _ _).mono fun t ht => by simp [ht]
        exact (b1.trans b2).trans (q.mono fun t ht => by simp [ht])
      · rw [ForN_iff]
        exact fun l hl h' hg => hg
  | cond c t e iht ihe =>
    intro x Q σ h hh
    cases x <;> simp only [VC, wr] at hh ⊢
    case cond x y =>
      unfold vB at *
      split at hh
      · exact VC_mono S t x (fun e σ' h' ⟨p, q⟩ => ⟨p, q.mono fun t ht => by simp [ht]⟩) (iht x hh)
      · exact VC_mono S e y (fun e σ' h' ⟨p, q⟩ => ⟨p, q.mono fun t ht => by simp [ht]⟩) (ihe y hh)
      · exact hh.elim
  | block id body ih =>
    intro x Q σ h hh
    cases x <;> simp only [VC, wr] at hh ⊢
    case blk x =>
      refine VC_mono S body x (fun e σ' h' ⟨p, q⟩ => ?_) (ih x hh)
      cases e <;> simp only [blkQ] at p ⊢ <;> first
        | exact ⟨p, q⟩
        | (cases hb : Nat.beq _ id <;> rw [hb] at p <;> exact ⟨p, q⟩)
  | loop body ih =>
    intro x Q σ h hh
    cases x <;> simp only [VC, wr] at hh ⊢
    case loop C W x =>
      obtain ⟨I, h0, h1⟩ := hh
      refine ⟨I, h0, fun n => ?_⟩
      have := h1 n
      rw [ForN_iff] at this ⊢
      refine fun l hl h' hI g => VC_mono S body x (fun e σ' h' ⟨p, q⟩ => ?_) (ih x (this l hl h' hI g))
      have b1 : But (C ++ W ++ wr body x) σ (havoc W g σ) := (havoc_but W g σ).mono fun t ht => by simp [ht]
      have b2 : But (C ++ W ++ wr body x) (havoc W g σ) (hd C l (havoc W g σ)) := (hd_but C _ _).mono fun t ht => by simp [ht]
      have b3 := (b1.trans b2).trans (q.mono fun t ht => by simp [ht])
      cases e <;> simp only [thenQ] at p ⊢ <;> first | exact p | exact ⟨p, b3⟩
  | region id ops draw =>
    intro x Q σ h hh
    cases x <;> simp only [VC, wr] at hh ⊢
    case reg A plan => exact planW_but S plan _ σ σ h (But.refl _ _) hh
  | scope body ih =>
    intro x Q σ h hh
    cases x <;> simp only [VC, wr] at hh ⊢
    case blk x => exact ih x hh
  | skip => intro x Q σ h hh; simp only [VC] at hh ⊢; exact ⟨hh, But.refl _ _⟩
  | label l => intro x Q σ h hh; simp only [VC] at hh ⊢; exact ⟨hh, But.refl _ _⟩
  | exit id => intro x Q σ h hh; simp only [VC] at hh ⊢; exact ⟨hh, But.refl _ _⟩
  | ret => intro x Q σ h hh; simp only [VC] at hh ⊢; exact ⟨hh, But.refl _ _⟩
  | goto l => intro x Q σ h hh; simp only [VC] at hh
  | refuse w => intro x Q σ h hh; simp only [VC] at hh
  | rangeFunc f ps a b => intro x Q σ h hh; simp only [VC] at hh
def LQ (n : Nat) (tg : Tag) (fr : Hp) (Q : Post) : Exit → Act → World → Prop := fun e => LK n tg fr (Q e)
theorem LQ.grow {n : Nat} {tg : Tag} {fr fr' : Hp} {Q : Post} (g : Grows fr fr') {e : Exit} {a : Act} {w : World} (h : LQ n tg fr' Q e a w) : LQ n tg fr Q e a w := by
  obtain ⟨σ, h, f, r, d, e, g', q⟩ := h
  exact ⟨σ, h, f, r, d, e, g.trans g', q⟩
def Plain (Q : Post) : Prop := ∀ e σ h, Q e σ h → e = .normal ∨ e = .ret ∨ ∃ id, e = .exit id
theorem loop_sound {c : Code} {Q : Exit → Act → World → Prop} (I : Nat → Act → World → Prop)
    (round : ∀ n a w, I n a w → c.wp P (Exit.then (fun a' w' => ∃ m, m < n ∧ I m a' w') Q) a w) {n : Nat} {a : Act} {w : World} (h0 : I n a w) : (Code.loop c).wp P Q a w := by
  intro b k cs
  have key : ∀ n a w, I n a w → ∃ e a' w', Q e a' w' ∧ Arrives P (lone (b.at a (.code c :: .inLoop c :: k)) cs w) b k cs e a' w' := by
    intro n
    induction n using Nat.strongRecOn with
    | _ n ih =>
      intro a w hI
      obtain ⟨e, a₁, w₁, hq, harr⟩ := round n a w hI b (.inLoop c :: k) cs
      cases e with
      | normal =>
        obtain ⟨m, hlt, hI₁⟩ := hq
        obtain ⟨e₂, a₂, w₂, hq₂, harr₂⟩ := ih m hlt a₁ w₁ hI₁
        exact ⟨e₂, a₂, w₂, hq₂, .of_steps (Steps.trans harr (.one step_inLoop)) harr₂⟩
      | exit id => exact ⟨_, a₁, w₁, hq, .pass (x := .inLoop c) rfl (fun _ _ => .inl (by simp)) harr⟩
      | goto l => exact ⟨_, a₁, w₁, hq, .pass (x := .inLoop c) rfl (fun _ _ => .inl (by simp)) harr⟩
      | ret => exact ⟨_, a₁, w₁, hq, .pass (x := .inLoop c) rfl (fun _ _ => .inl (by simp)) harr⟩
      | panic ch => exact ⟨_, a₁, w₁, hq, .pass (x := .inLoop c) rfl (fun _ _ => .inl (by simp)) harr⟩
      | outgrown => exact ⟨_, a₁, w₁, hq, .pass (x := .inLoop c) rfl (fun _ _ => .inl (by simp)) harr⟩
  obtain ⟨e, a', w', hq, harr⟩ := key n a w h0
  exact ⟨e, a', w', hq, .of_steps (.one step_loop) harr⟩
theorem VC_sound {n : Nat} {tg : Tag} (hm : P.follows .mixedOrders = true) : ∀ (c : Code) (x : Ann) {Q : Post} {σ : St} {a : Act} {h fr : Hp} {w : World}, (∀ l σ h, ¬ Q (.goto l) σ h) →
    annOk S n c x = true → Rel n σ a → Disj h fr → w.At tg (h.add fr) → VC S c x Q σ h → c.wp P (LQ n tg fr Q) a w := by
  intro c
  induction c with
  | seq ca cb iha ihb =>
    intro x Q σ a h fr w hg hok r d e hh
    cases x <;> simp only [VC, annOk, Bool.and_eq_true] at hh hok
    case seq x y =>
      refine wp_seq (wp_mono (iha x (Q := thenQ (VC S cb y Q) Q) (fun l σ h => by simp only [thenQ]; exact hg l σ h) hok.1 r d e hh) fun e a' w' hK => ?_)
      obtain ⟨σ', h', fr', r', d', e', g', hK⟩ := hK
      cases e <;> simp only [thenQ, Exit.then] at hK ⊢ <;> first
        | exact ⟨σ', h', fr', r', d', e', g', hK⟩
        | exact wp_mono (ihb y hg hok.2 r' d' e' hK) fun e a w => LQ.grow g'
    case join C W x y =>
      obtain ⟨⟨hwr, hoka⟩, hokb⟩ := hok
      have hv := VC_but S ca x (hh (fun xs h' => ∀ g : St, VC S cb y Q (hd C xs (havoc W g σ)) h') (by rw [ForN_iff]; exact fun l hl h' hg => hg))
      refine wp_seq (wp_mono (iha x (Q := _) ?_ hoka r d e hv) fun e a' w' hK => ?_)
      · intro l σ h hK
        simp only [thenQ] at hK
        exact hg l σ h hK.1
      · obtain ⟨σ', h', fr', r', d', e', g', hK, hb⟩ := hK
        have hb' : But (C ++ W) σ σ' := hb.mono fun t ht => by
          have := List.all_eq_true.1 hwr t ht
          simpa using this
        cases e <;> simp only [thenQ, Exit.then] at hK ⊢ <;> first
          | exact ⟨σ', h', fr', r', d', e', g', hK⟩
          | skip
        have h2 := hK σ'
        rw [hd_havoc_self hb'] at h2
        exact wp_mono (ihb y hg hokb r' d' e' h2) fun e a w => LQ.grow g'
  | cond c t e iht ihe =>
    intro x Q σ a h fr w hg hok r d e hh
    cases x <;> simp only [VC, annOk, Bool.and_eq_true] at hh hok
    case cond x y =>
      unfold vB at hh
      split at hh
      · rename_i hc
        exact wp_cond_true (by rw [r.eval]; exact hc) (iht x hg hok.1 r d e hh)
      · rename_i hc
        exact wp_cond_false (by rw [r.eval]; exact hc) (ihe y hg hok.2 r d e hh)
      · exact hh.elim
  | block id body ih =>
    intro x Q σ a h fr w hg hok r d e hh
    cases x <;> simp only [VC, annOk] at hh hok
    case blk x =>
      refine wp_block (wp_mono (ih x (Q := blkQ id Q) (fun l σ h => by simp only [blkQ]; exact hg l σ h) hok r d e hh) fun e a' w' hK => ?_)
      obtain ⟨σ', h', fr', r', d', e', g', hK⟩ := hK
      cases e with
      | exit id' =>
        simp only [blkQ] at hK
        simp only [Exit.inBlock]
        split <;> rename_i hi
        · subst hi; rw [Nat.beq_refl] at hK; exact ⟨σ', h', fr', r', d', e', g', hK⟩
        · rw [nbeq hi] at hK; exact ⟨σ', h', fr', r', d', e', g', hK⟩
      | _ => exact ⟨σ', h', fr', r', d', e', g', hK⟩
  | loop body ih =>
    intro x Q σ a h fr w hg hok r d e hh
    cases x <;> simp only [VC, annOk, Bool.and_eq_true] at hh hok
    case loop C W x =>
      obtain ⟨hwr, hok⟩ := hok
      obtain ⟨I, ⟨n0, h0⟩, h1⟩ := hh
      refine loop_sound (fun m a w => ∃ σ' h' fr', Rel n σ' a ∧ Disj h' fr' ∧ w.At tg (h'.add fr') ∧ Grows fr fr' ∧ But (C ++ W) σ σ' ∧ I m (C.map σ') h') ?_ (n := n0)
        ⟨σ, h, fr, r, d, e, Grows.refl fr, But.refl _ _, h0⟩
      rintro m a w ⟨σ', h', fr', r', d', e', g', hb, hI⟩
      have h2 := (ForN_iff.1 (h1 m)) (C.map σ') (by simp) h' hI σ'
      rw [hd_havoc_self hb] at h2
      have h3 := VC_but S body x h2
      refine wp_mono (ih x (Q := _) ?_ hok r' d' e' h3) fun e a' w' hK => ?_
      · intro l σ h hK
        simp only [thenQ] at hK
        exact hg l σ h hK.1
      · obtain ⟨σ'', h'', fr'', r'', d'', e'', g'', hK, hb2⟩ := hK
        have hb' : But (C ++ W) σ' σ'' := hb2.mono fun t ht => by
          have := List.all_eq_true.1 hwr t ht
          simpa using this
        cases e <;> simp only [thenQ, Exit.then] at hK ⊢ <;> first
          | exact ⟨σ'', h'', fr'', r'', d'', e'', g'.trans g'', hK⟩
          | skip
        obtain ⟨k, hk, hI'⟩ := hK
        exact ⟨k, hk, σ'', h'', fr'', r'', d'', e'', g'.trans g'', hb.trans hb', hI'⟩
  | region id ops draw =>
    intro x Q σ a h fr w hg hok r d e hh
    cases x <;> simp only [VC, annOk] at hh hok
    case reg A plan => exact region_sound S A hm hok r d e (fun a w hK => hK) hh
  | scope body ih =>
    intro x Q σ a h fr w hg hok r d e hh
    cases x <;> simp only [VC, annOk] at hh hok
    case blk x =>
      refine wp_scope_straight (wp_mono (ih x hg hok r d e hh) fun e a' w' hK => ?_)
      cases e with
      | goto l => obtain ⟨σ', h', fr', r', d', e', g', hK⟩ := hK; exact hg _ _ _ hK
      | _ => exact hK
  | skip => intro x Q σ a h fr w hg hok r d e hh; simp only [VC] at hh; exact wp_skip ⟨σ, h, fr, r, d, e, Grows.refl fr, hh⟩
  | label l => intro x Q σ a h fr w hg hok r d e hh; simp only [VC] at hh; exact wp_label ⟨σ, h, fr, r, d, e, Grows.refl fr, hh⟩
  | exit id => intro x Q σ a h fr w hg hok r d e hh; simp only [VC] at hh; exact wp_exit ⟨σ, h, fr, r, d, e, Grows.refl fr, hh⟩
  | ret => intro x Q σ a h fr w hg hok r d e hh; simp only [VC] at hh; exact wp_ret ⟨σ, h, fr, r, d, e, Grows.refl fr, hh⟩
  | goto l => intro x Q σ a h fr w hg hok r d e hh; simp only [VC] at hh
  | refuse w => intro x Q σ a h fr w hg hok r d e hh; simp only [VC] at hh
  | rangeFunc f ps a b => intro x Q σ a h fr w hg hok r d e hh; simp only [VC] at hh
end
end Go.Sl

/-
  What each operation comes to, in plain words (the nice forms), and that the model's own operation does so.
-/
namespace Go.Sl
theorem rd_bind' {α β : Type} {P : Program} {s : Sem α} {k : α → Sem β} {h : Hp} : (s >>= k).rd P h = (s.rd P h).bind fun a => (k a).rd P h := rd_bind
theorem rd_pure {α : Type} {P : Program} {a : α} {h : Hp} : (Pure.pure a : Sem α).rd P h = some a := rfl
theorem rd_map {α β : Type} {P : Program} {s : Sem α} {f : α → β} {h : Hp} : (f <$> s).rd P h = (s.rd P h).map f := by
  show (s.bind fun a => Sem.pure (f a)).rd P h = _
  rw [rd_bind]
  cases s.rd P h <;> rfl
theorem rd_underlying {P : Program} {t : TypeId} {h : Hp} : (underlying t).rd P h = P.underlying t := by
  show ((program.bind _).rd P h) = _
  rw [rd_bind]
  show ((match P.underlying t with | some d => (Pure.pure d : Sem TypeDesc) | none => stuck "no such type").rd P h) = _
  cases P.underlying t <;> rfl
theorem rd_typeInfo {P : Program} {t : TypeId} {h : Hp} : (typeInfo t).rd P h = P.info? t := by
  show ((program.bind _).rd P h) = _
  rw [rd_bind]
  show ((match P.info? t with | some d => (Pure.pure d : Sem TypeInfo) | none => stuck "no such type").rd P h) = _
  cases P.info? t <;> rfl
theorem rd_sizeOf {P : Program} {t : TypeId} {h : Hp} : (sizeOf t).rd P h = (P.info? t).map (·.size) := by
  unfold sizeOf; rw [rd_bind', rd_typeInfo]; cases P.info? t <;> rfl
theorem rd_zeroValue {P : Program} {t : TypeId} {h : Hp} : (zeroValue t).rd P h = (P.info? t).bind (·.zero) := by
  unfold zeroValue; rw [rd_bind', rd_typeInfo]
  cases P.info? t with
  | none => rfl
  | some i => simp only [Option.bind_some]; cases i.zero <;> rfl
def aggD : TypeDesc → Bool
  | .struct _ | .array _ _ => true
  | _ => false
theorem rd_isAgg {P : Program} {t : TypeId} {h : Hp} : (isAgg t).rd P h = (P.underlying t).map aggD := by
  unfold isAgg; rw [rd_bind', rd_underlying]
  cases P.underlying t with
  | none => rfl
  | some d => cases d <;> rfl
theorem rd_load {P : Program} {a : Addr} {h : Hp} : (load a).rd P h = h.cell a := by
  unfold load; simp only [Sem.rd]; cases h.cell a <;> rfl
def rowIn (o : Obj) (a : Addr) (n : Nat) : Option (Array Value) :=
  match o with
  | .cells c _ _ => if a.spot.isNone && decide (a.off + n ≤ c.size) then some (c.extract a.off (a.off + n)) else none
  | _ => none
def Hp.row (h : Hp) (a : Addr) (n : Nat) : Option (Array Value) := (h a.block).bind fun o => rowIn o a n
theorem Hp.row_add {h f : Hp} {a : Addr} {n : Nat} {r : Array Value} (hr : h.row a n = some r) : (h.add f).row a n = some r := by
  unfold Hp.row at *
  cases hb : h a.block with
  | none => rw [hb] at hr; cases hr
  | some o => rw [Hp.add_of_left hb]; rw [hb] at hr; exact hr
theorem add_block (a : Addr) (n : Nat) : (a.add n).block = a.block := by unfold Addr.add; split <;> rfl
theorem add_off (a : Addr) (n : Nat) : (a.add n).off = a.off + n := by unfold Addr.add; split <;> simp_all
theorem add_spot (a : Addr) (n : Nat) (h : a.spot = none) : (a.add n).spot = none := by unfold Addr.add; split <;> simp_all
theorem rd_loadCellsFrom {P : Program} {h : Hp} {a : Addr} {c : Array Value} {e : TypeId} {fz : Nat × Nat} (hb : h a.block = some (.cells c e fz)) (hs : a.spot = none) :
    ∀ (n i : Nat) (acc : Array Value), a.off + i + n ≤ c.size → (loadCellsFrom a i n acc).rd P h = some (acc ++ c.extract (a.off + i) (a.off + i + n))
  | 0, i, acc, _ => by
    simp only [loadCellsFrom, Nat.add_zero]
    rw [rd_pure]
    simp [Nat.min_le_left]
  | n + 1, i, acc, hn => by
    simp only [loadCellsFrom]
    have hc : h.cell (a.add i) = some c[a.off + i] := by
      unfold Hp.cell
      rw [add_block, hb]
      simp only [Option.bind_some, Obj.cellAt, add_spot a i hs, add_off, Option.isSome_none, Bool.false_eq_true, if_false]
      exact Array.getElem?_eq_getElem (by omega)
    rw [rd_bind', rd_load, hc]
    simp only [Option.bind_some]
    rw [rd_loadCellsFrom hb hs n (i + 1) _ (by omega)]
    congr 1
    apply Array.ext'
    simp only [Array.toList_append, Array.toList_push, Array.toList_extract]
    rw [List.append_assoc]
    congr 1
    rw [show a.off + (i + 1) + n = a.off + i + (n + 1) by omega, List.extract_eq_take_drop, List.extract_eq_take_drop]
    rw [show a.off + i + (n + 1) - (a.off + (i + 1)) = n by omega, show a.off + i + (n + 1) - (a.off + i) = n + 1 by omega]
    rw [List.drop_eq_getElem_cons (i := a.off + i) (by simp; omega)]
    simp [Nat.add_assoc]
theorem rd_loadCells {P : Program} {h : Hp} {a : Addr} {n : Nat} {r : Array Value} (hr : h.row a n = some r) : (loadCells a n).rd P h = some r := by
  unfold Hp.row at hr
  cases hb : h a.block with
  | none => rw [hb] at hr; cases hr
  | some o =>
    rw [hb] at hr
    cases o with
    | cells c e fz =>
      simp only [Option.bind_some, rowIn] at hr
      split at hr
      · rename_i hc
        simp only [Bool.and_eq_true, decide_eq_true_eq, Option.isNone_iff_eq_none] at hc
        unfold loadCells
        rw [rd_loadCellsFrom hb hc.1 n 0 #[] (by omega)]
        cases hr
        simp
      · cases hr
    | _ => simp [rowIn] at hr
def ld1 (x : Value) (h : Hp) : Option Value :=
  match x with
  | .pointer (some a) => h.cell a
  | _ => none
def ldN (n : Nat) (x : Value) (h : Hp) : Option Value :=
  match x with
  | .pointer (some a) => (h.row a n).map .agg
  | _ => none
theorem ld1_mono (x : Value) (h f : Hp) (v : Value) (hv : ld1 x h = some v) : ld1 x (h.add f) = some v := by
  unfold ld1 at *
  split at hv
  · exact Hp.cell_add hv
  · cases hv
theorem ldN_mono (n : Nat) (x : Value) (h f : Hp) (v : Value) (hv : ldN n x h = some v) : ldN n x (h.add f) = some v := by
  unfold ldN at *
  split at hv
  · rename_i a
    cases hr : h.row a n with
    | none => rw [hr] at hv; cases hv
    | some r => rw [Hp.row_add hr]; rw [hr] at hv; exact hv
  · cases hv
def putL (c : Array Value) (off : Nat) : List Value → Array Value
  | [] => c
  | v :: vs => putL (c.setIfInBounds off v) (off + 1) vs
theorem putL_size : ∀ (vs : List Value) (c : Array Value) (off : Nat), (putL c off vs).size = c.size
  | [], _, _ => rfl
  | v :: vs, c, off => by rw [putL, putL_size vs]; simp
def st1 (x v : Value) (K : Value → Hp → Prop) (h : Hp) : Prop :=
  match x with
  | .pointer (some a) => one v = true ∧ a.spot = none ∧ ∃ c e, h a.block = some (.cells c e (0, 0)) ∧ a.off < c.size ∧ K undef (h.upd a.block (.cells (c.setIfInBounds a.off v) e (0, 0)))
  | _ => False
def stN (n : Nat) (x v : Value) (K : Value → Hp → Prop) (h : Hp) : Prop :=
  match x with
  | .pointer (some a) => v.cells.size = n ∧ v.cells.toList.all one = true ∧ a.spot = none ∧ ∃ c e, h a.block = some (.cells c e (0, 0)) ∧ a.off + n ≤ c.size ∧
      K undef (h.upd a.block (.cells (putL c a.off v.cells.toList) e (0, 0)))
  | _ => False
theorem upd_upd (h : Hp) (b : Nat) (o q : Obj) : (h.upd b o).upd b q = h.upd b q := Hp.ext' fun x => by
  simp only [Hp.upd_apply]; split <;> rfl
theorem vc_storeCells {P : Program} {a : Addr} (hs : a.spot = none) {Q : Unit → Hp → Prop} : ∀ (vs : List Value) (i : Nat) (h : Hp) (c : Array Value) (e : TypeId), h a.block = some (.cells c e (0, 0)) →
    vs.all one = true → a.off + i + vs.length ≤ c.size → Q () (h.upd a.block (.cells (putL c (a.off + i) vs) e (0, 0))) → (storeCells a vs i).vc P Q h
  | [], i, h, c, e, hb, _, _, q => by
    have : h.upd a.block (.cells c e (0, 0)) = h := Hp.ext' fun b => by
      by_cases hx : b = a.block
      · subst hx; rw [Hp.upd_self, hb]
      · rw [Hp.upd_ne hx]
    rw [putL, this] at q
    exact q
  | v :: vs, i, h, c, e, hb, ho, hl, q => by
    simp only [List.all_cons, Bool.and_eq_true] at ho
    simp only [List.length_cons] at hl
    simp only [storeCells]
    refine vc_bind.2 ?_
    show one v = true ∧ ∃ o, h (a.add i).block = some o ∧ _
    rw [add_block]
    refine ⟨ho.1, _, hb, ?_, ?_, ?_⟩
    · simp only [Obj.cellAt, add_spot a i hs, add_off, Option.isSome_none, Bool.false_eq_true, if_false]
      rw [Array.getElem?_eq_getElem (by omega)]; rfl
    · simp [Obj.frz]
    · show Sem.vc P _ _ _
      refine vc_storeCells hs vs (i + 1) _ (c.setIfInBounds (a.off + i) v) e ?_ ho.2 (by simp; omega) ?_
      · rw [Hp.upd_self]
        simp [Obj.setAt, add_spot a i hs, add_off]
      · rw [upd_upd]
        rw [putL] at q
        exact q
def pickV (c a b : Value) : Option Value :=
  match c with
  | .bool t => some (bif t then a else b)
  | _ => none
def nilV (x : Value) : Option Value :=
  match x with
  | .pointer none | .nilIface | .nilFunc => none
  | .func (.method _) _ _ => none
  | x => some x
def binI (op : BinOp) (k : IntKind) (a b : Int) : Option Value :=
  match op with
  | .add => some (.int k (k.wrap (a + b)))
  | .sub => some (.int k (k.wrap (a - b)))
  | .mul => some (.int k (k.wrap (a * b)))
  | .quo => if b = 0 then none else some (.int k (k.wrap (a.tdiv b)))
  | .rem => if b = 0 then none else some (.int k (a.tmod b))
  | .and => some (.int k (k.wrap (BitVec.ofInt k.bits a &&& BitVec.ofInt k.bits b).toNat))
  | .or => some (.int k (k.wrap (BitVec.ofInt k.bits a ||| BitVec.ofInt k.bits b).toNat))
  | .xor => some (.int k (k.wrap (BitVec.ofInt k.bits a ^^^ BitVec.ofInt k.bits b).toNat))
  | .andNot => some (.int k (k.wrap (BitVec.ofInt k.bits a &&& ~~~BitVec.ofInt k.bits b).toNat))
  | .lss => some (.bool (decide (a < b)))
  | .leq => some (.bool (decide (a ≤ b)))
  | .gtr => some (.bool (decide (a > b)))
  | .geq => some (.bool (decide (a ≥ b)))
  | _ => none
def shV (op : BinOp) (k : IntKind) (a b : Int) : Option Value :=
  if b < 0 then none else
  match op with
  | .shl => some (.int k (k.wrap (a * 2 ^ (min b.toNat k.bits))))
  | .shr => some (.int k (a.fdiv (2 ^ (min b.toNat k.bits))))
  | _ => none
def binV (op : BinOp) (x y : Value) : Option Value :=
  match x, y with
  | .int k a, .int k' b =>
    match op with
    | .shl => shV .shl k a b
    | .shr => shV .shr k a b
    | .eql | .neq => none
    | op => if k = k' then binI op k a b else none
  | _, _ => none
def eqS (tag : Nat) (x y : Value) : Option Bool :=
  match tag, x, y with
  | 1, .int k a, .int k' b => if k = k' then some (a == b) else none
  | 2, .bool a, .bool b => some (a == b)
  | 3, .string a, .string b => some (a.toList == b.toList)
  | 4, .pointer none, .pointer b => some b.isNone
  | 4, .pointer _, .pointer none => some false
  | 5, .slice none _ _, .slice b _ _ => some b.isNone
  | 5, .slice _ _ _, .slice none _ _ => some false
  | 6, .map none, .map b => some b.isNone
  | 6, .map _, .map none => some false
  | 7, .nilFunc, .nilFunc => some true
  | 7, .nilFunc, .func _ _ _ => some false
  | 7, .func _ _ _, .nilFunc => some false
  | _, _, _ => none
def eqV (tag : Nat) (neg : Bool) (x y : Value) : Option Value := (eqS tag x y).map fun b => .bool (bif neg then !b else b)
def eqL : List Nat → List Value → List Value → Option Bool
  | [], _, _ => some true
  | t :: ts, x :: xs, y :: ys =>
    match eqS t x y, eqL ts xs ys with
    | some a, some b => some (a && b)
    | _, _ => none
  | _, _, _ => none
def eqA (tags : List Nat) (neg : Bool) (x y : Value) : Option Value :=
  match x, y with
  | .agg xs, .agg ys => (eqL tags xs.toList ys.toList).map fun b => .bool (bif neg then !b else b)
  | _, _ => none
def unV (op : UnOp) (x : Value) : Option Value :=
  match op, x with
  | .neg, .int k n => some (.int k (k.wrap (0 - n)))
  | .not, .bool b => some (.bool !b)
  | .xor, .int k n => some (.int k (k.wrap (BitVec.ofInt k.bits (if k.signed then -1 else k.max) ^^^ BitVec.ofInt k.bits n).toNat))
  | _, _ => none
def convV (k : IntKind) (x : Value) : Option Value :=
  match x with
  | .int _ n => some (.int k (k.wrap n))
  | _ => none
def bnd (v : Value) (y : Nat) : Option Nat :=
  match v with
  | .int _ i => if 0 ≤ i ∧ i ≤ (y : Int) then some i.toNat else none
  | _ => none
def slB (len cap : Nat) (lo hi mx : Option Value) : Option (Nat × Nat × Nat) :=
  match (match mx with | some v => bnd v cap | none => some cap) with
  | none => none
  | some m =>
    match (match hi, mx with | some v, some _ => bnd v m | some v, none => bnd v cap | none, none => some len | none, some _ => none) with
    | none => none
    | some h =>
      match (match lo with | some v => bnd v h | none => some 0) with
      | none => none
      | some l => some (l, h, m)
def slV (sz : Nat) (x : Value) (lo hi mx : Option Value) : Option Value :=
  match x with
  | .slice a len cap => (slB len cap lo hi mx).map fun p => .slice (if p.2.2 = p.1 then a else a.map (·.add (p.1 * sz))) (p.2.1 - p.1) (p.2.2 - p.1)
  | _ => none
def slA (n sz : Nat) (x : Value) (lo hi mx : Option Value) : Option Value :=
  match x with
  | .pointer (some a) => (slB n n lo hi mx).map fun p => .slice (some (if p.2.2 = p.1 then a else a.add (p.1 * sz))) (p.2.1 - p.1) (p.2.2 - p.1)
  | _ => none
def faV (off : Nat) (x : Value) : Option Value :=
  match x with
  | .pointer (some a) => some (.pointer (some (a.add off)))
  | _ => none
def fdV (agg : Bool) (off sz : Nat) (x : Value) : Option Value :=
  match x with
  | .agg cs => bif agg then some (.agg (cs.extract off (off + sz))) else cs[off]?
  | _ => none
def iaS (sz : Nat) (x i : Value) : Option Value :=
  match x, i with
  | .slice (some a) len _, .int _ n => if 0 ≤ n ∧ n < (len : Int) then some (.pointer (some (a.add (n.toNat * sz)))) else none
  | _, _ => none
def iaA (n sz : Nat) (x i : Value) : Option Value :=
  match x, i with
  | .pointer (some a), .int _ m => if 0 ≤ m ∧ m < (n : Int) then some (.pointer (some (a.add (m.toNat * sz)))) else none
  | _, _ => none
def ixA (agg : Bool) (n sz : Nat) (x i : Value) : Option Value :=
  match x, i with
  | .agg cs, .int _ m => if 0 ≤ m ∧ m < (n : Int) then (bif agg then some (.agg (cs.extract (m.toNat * sz) (m.toNat * sz + sz))) else cs[m.toNat * sz]?) else none
  | _, _ => none
def exV (x : Value) (i : Nat) : Option Value :=
  match x with
  | .tuple vs => vs[i]?
  | _ => none
def taV (asserted : TypeId) (zero : Value) (ok : Bool) (x : Value) : Option Value :=
  match x with
  | .iface t v => if t = asserted then some (bif ok then .tuple #[v, .bool true] else v) else (bif ok then some (.tuple #[zero, .bool false]) else none)
  | .nilIface => bif ok then some (.tuple #[zero, .bool false]) else none
  | _ => none
def lenV (x : Value) : Option Value :=
  match x with
  | .slice _ n _ => some (.int .i64 n)
  | _ => none
def lenS (x : Value) : Option Value :=
  match x with
  | .string s => some (.int .i64 s.size)
  | _ => none
def lenM (x : Value) (h : Hp) : Option Value :=
  match x with
  | .map none => some (.int .i64 0)
  | .map (some r) => match h r with
    | some (.map es _) => some (.int .i64 es.size)
    | _ => none
  | _ => none
def capV (x : Value) : Option Value :=
  match x with
  | .slice _ _ n => some (.int .i64 n)
  | _ => none
def max2V (x y : Value) : Option Value :=
  match x, y with
  | .int k a, .int _ b => some (.int k (if b > a then b else a))
  | _, _ => none
def min2V (x y : Value) : Option Value :=
  match x, y with
  | .int k a, .int _ b => some (.int k (if b < a then b else a))
  | _, _ => none
def ptrV (r : Nat) : Value := .pointer (some ⟨r, 0, none⟩)
def bldV (zero : Array Value) : List (Nat × Nat × Value) → Option (Array Value)
  | [] => some zero
  | (off, sz, v) :: rest => if v.cells.size = sz ∧ off + v.cells.size ≤ zero.size then bldV (putL zero off v.cells.toList) rest else none
def msV (bytes sz : Nat) (e : TypeId) (zero : Array Value) (l c : Value) : Option (Obj × (Nat → Value)) :=
  match l, c with
  | .int _ l, .int _ c =>
    if 0 ≤ l ∧ l ≤ c ∧ c * bytes ≤ 140737488355328 ∧ c ≤ 9223372036854775807 then
      some (.cells ((Array.range (c.toNat * sz)).map fun i => zero[i % zero.size]!) e (0, 0), fun r => .slice (some ⟨r, 0, none⟩) l.toNat c.toNat)
    else none
  | _, _ => none
end Go.Sl

/-
  The system: each operation's nice form, and that the model does so.
-/
namespace Go.Sl
def szOf (P : Program) (t : TypeId) : Nat := ((P.info? t).map (·.size)).getD 0
def zOf (P : Program) (t : TypeId) : Option Value := (P.info? t).bind (·.zero)
def eqTag (P : Program) (t : TypeId) : Nat :=
  match P.underlying t with
  | some (.int _) => 1
  | some .bool => 2
  | some .string => 3
  | some (.pointer _) => 4
  | some (.slice _) => 5
  | some (.map _ _) => 6
  | some (.func _ _ _) => 7
  | _ => 0
def eqTags (P : Program) (t : TypeId) : Option (List Nat) :=
  match P.underlying t with
  | some (.struct fs) =>
    if !P.eqGuardType P.depth t && !P.stoodInHeld t && fs.toList.zipIdx.all (fun p => p.1.name != "_" && Nat.beq p.1.offset p.2 && decide (eqTag P p.1.type = 1 ∨ eqTag P p.1.type = 2)) then
      some (fs.toList.map fun f => eqTag P f.type)
    else none
  | some (.array n e) =>
    if !P.eqGuardType P.depth t && Nat.beq (szOf P e) 1 && decide (eqTag P e = 1 ∨ eqTag P e = 2) then some (List.replicate n (eqTag P e)) else none
  | _ => none
def isNil : Operand → Bool
  | .const (.pointer none) | .const (.slice none _ _) | .const (.map none) | .const .nilFunc => true
  | _ => false
def structPlaces (P : Program) (fs : Array Field) : List (Nat × Nat) := fs.toList.map fun f => (f.offset, szOf P f.type)
def placeOf (P : Program) (t : TypeId) (i : Nat) : Option (Nat × Nat) :=
  match P.underlying t with
  | some (.struct fs) => (fs[i]?).map fun f => (f.offset, szOf P f.type)
  | some (.array _ e) => some (i * szOf P e, szOf P e)
  | _ => none
def layoutOk (P : Program) (t : TypeId) : Bool :=
  match P.underlying t with
  | some (.struct fs) => fs.toList.all fun f => (P.info? f.type).isSome
  | some (.array _ e) => (P.info? e).isSome
  | _ => false
def partsOf (place : Nat → Option (Nat × Nat)) : List (Nat × Value) → Option (List (Nat × Nat × Value))
  | [] => some []
  | (i, v) :: rest =>
    match place i, partsOf place rest with
    | some (off, sz), some l => some ((off, sz, v) :: l)
    | _, _ => none
def bodied (P : Program) (f : FuncId) : Bool :=
  match P.funcs[f]? with
  | some fn => fn.body.isSome && !(fn.name == "runtime.NumGoroutine")
  | none => false
def apW (P : Program) (ts : Array TypeId) (t : TypeId) (x y : Value) (K : Value → Hp → Prop) (h : Hp) : Prop :=
  (Builtin.append_ ts t #[x, y]).vc P K h
def cpW (P : Program) (ts : Array TypeId) (t : TypeId) (x y : Value) (K : Value → Hp → Prop) (h : Hp) : Prop :=
  (Builtin.copy_ ts t #[x, y]).vc P K h
def clW (P : Program) (ts : Array TypeId) (t : TypeId) (x : Value) (K : Value → Hp → Prop) (h : Hp) : Prop :=
  (Builtin.clear_ ts t #[x]).vc P K h
def dlW (P : Program) (ts : Array TypeId) (t : TypeId) (x y : Value) (K : Value → Hp → Prop) (h : Hp) : Prop :=
  (Builtin.delete_ ts t #[x, y]).vc P K h
def muW (P : Program) (t : TypeId) (m k v : Value) (K : Value → Hp → Prop) (h : Hp) : Prop :=
  (Instr.mapUpdate t m k v).vc P (fun _ => K undef) h
def meW (P : Program) (t : TypeId) (m k : Value) (K : Value → Hp → Prop) (h : Hp) : Prop :=
  (Instr.mapEntry t m k).vc P K h
def esW (P : Program) (t : TypeId) (m s v : Value) (K : Value → Hp → Prop) (h : Hp) : Prop :=
  (Instr.entryStore t m s v).vc P (fun _ => K undef) h
def rgW (P : Program) (t : TypeId) (x : Value) (K : Value → Hp → Prop) (h : Hp) : Prop :=
  (Instr.range t x).vc P K h
def nxW (P : Program) (it : Value) (isString : Bool) (t : TypeId) (K : Value → Hp → Prop) (h : Hp) : Prop :=
  (Instr.next it isString t).vc P K h
structure CallW (P : Program) (s : Sem Next) (K : Value → Hp → Prop) (h : Hp) : Prop where
  ok : rawWp P s K h
theorem CallW_ok (P : Program) (s : Sem Next) : EfOk (CallW P s) where
  mono hk hh := ⟨(rawWp_ok P s).mono hk hh.ok⟩
  frame hh g d := ⟨(rawWp_ok P s).frame hh.ok g d⟩
  some hh := (rawWp_ok P s).some hh.ok
def cvW (P : Program) (f : Value) (args : Array Value) (K : Value → Hp → Prop) (h : Hp) : Prop :=
  CallW P (do let d ← Deferred.ofValue f args; invoke d.target d.args) K h
def ivW (P : Program) (recv : Value) (name : String) (args : Array Value) (K : Value → Hp → Prop) (h : Hp) : Prop :=
  CallW P (callMethod recv name args) K h
def exW (P : Program) (f : FuncId) (args : Array Value) (K : Value → Hp → Prop) (h : Hp) : Prop :=
  CallW P (callFunc f args) K h
def biW (P : Program) (b : Builtin) (ts : Array TypeId) (t : TypeId) (consts : Array Bool) (args : Array Value) (K : Value → Hp → Prop) (h : Hp) : Prop :=
  rawWp P (builtin b ts t consts args) K h
def lkV (P : Program) (t : TypeId) (x i : Value) (ok : Bool) (h : Hp) : Option Value := (Instr.lookup t x i ok).rd P h
def enV (P : Program) (it : Value) (h : Hp) : Option Value := (Instr.entry it).rd P h
def eqW (P : Program) (neg : Bool) (t : TypeId) (x y : Value) (h : Hp) : Option Value :=
  ((do let b ← Op.equal t x y; Pure.pure (Value.bool (bif neg then !b else b))) : Sem Value).rd P h
def gnW (P : Program) (s : Sem Next) (K : Value → Hp → Prop) (h : Hp) : Prop := rawWp P s K h
def mapL (ρ : Operand → Value) (l : Array Operand) : Array Value := ⟨l.toList.map ρ⟩
theorem mapL_eq (ρ : Operand → Value) (l : Array Operand) : mapL ρ l = l.map ρ := Array.ext' (by simp [mapL])
def zerosL (n : Nat) (z : Array Value) : Array Value := ⟨(List.range n).map fun i => z[i % z.size]!⟩
theorem zerosL_eq (n : Nat) (z : Array Value) : zerosL n z = (Array.range n).map fun i => z[i % z.size]! := Array.ext' (by simp [zerosL])
def constsOf (args : Array Operand) : Array Bool := args.map fun
  | .const _ => true
  | _ => false
def denBuiltin (P : Program) (b : Builtin) (ts : Array TypeId) (t : TypeId) (args : List Value) (raw : Den) : Den :=
  match b, args with
  | .len, [x] =>
    match (ts[0]?).bind P.underlying with
    | some (.slice _) => .pu (lenV x)
    | some .string => .pu (lenS x)
    | some (.map _ _) => .rd (lenM x)
    | _ => raw
  | .cap, [x] =>
    match (ts[0]?).bind P.underlying with
    | some (.slice _) => .pu (capV x)
    | _ => raw
  | .clear, [x] => .ef (clW P ts t x)
  | .max, [x, y] => .pu (max2V x y)
  | .min, [x, y] => .pu (min2V x y)
  | .append, [x, y] => .ef (apW P ts t x y)
  | .copy, [x, y] => .ef (cpW P ts t x y)
  | .delete, [x, y] => .ef (dlW P ts t x y)
  | _, _ => raw
def denCall (P : Program) (ρ : Operand → Value) (o : Oper) (c : Call) : Den :=
  match c.callee with
  | .value (.func f) => if bodied P f then .ef (CallH P f (mapL ρ c.args)) else .ef (exW P f (mapL ρ c.args))
  | .value f => .ef (cvW P (ρ f) (mapL ρ c.args))
  | .invoke r m => .ef (ivW P (ρ r) m (mapL ρ c.args))
  | .builtin b => denBuiltin P b c.argTypes o.type (c.args.toList.map ρ) (.ef (biW P b c.argTypes o.type (constsOf c.args) (mapL ρ c.args)))
def denEq (P : Program) (neg : Bool) (t : TypeId) (x y : Operand) (ρ : Operand → Value) (other : Den) : Den :=
  match eqTag P t with
  | 0 => match eqTags P t with
    | some l => .pu (eqA l neg (ρ x) (ρ y))
    | none => other
  | 1 => .pu (eqV 1 neg (ρ x) (ρ y))
  | 2 => .pu (eqV 2 neg (ρ x) (ρ y))
  | 3 => .pu (eqV 3 neg (ρ x) (ρ y))
  | k => if isNil x || isNil y then .pu (eqV k neg (ρ x) (ρ y)) else other
def den (P : Program) (ρ : Operand → Value) (o : Oper) : Den :=
  match o.op with
  | .move x | .assign x => .pu (some (ρ x))
  | .pick c a b => .pu (pickV (ρ c) (ρ a) (ρ b))
  | .alloc e => .al ((zOf P e).map fun z => (.cells z.cells e (0, 0), ptrV))
  | .box e x => .al (some (.cells (ρ x).cells e (0, 0), ptrV))
  | .build t ps => .pu (match zOf P t, partsOf (placeOf P t) (ps.toList.map fun p => (p.1, ρ p.2)) with
    | some z, some l => if layoutOk P t then (bldV z.cells l).map .agg else none
    | _, _ => none)
  | .buildSlice t n ps => .al (match P.underlying t with
    | some (.slice e) => match zOf P e, partsOf (fun i => some (i * szOf P e, szOf P e)) (ps.toList.map fun p => (p.1, ρ p.2)) with
      | some z, some l => if Nat.ble (n * szOf P e) 16777216 then (bldV (zerosL (n * szOf P e) z.cells) l).map fun c => (.cells c e (0, 0), fun r => .slice (some ⟨r, 0, none⟩) n n) else none
      | _, _ => none
    | _ => none)
  | .load t x => match P.underlying t with
    | some d => bif aggD d then .rd (ldN (szOf P t) (ρ x)) else .rd (ld1 (ρ x))
    | none => .rd fun _ => none
  | .store t a x => match P.underlying t with
    | some d => bif !aggD d && Nat.beq (szOf P t) 1 then .ef (st1 (ρ a) (ρ x)) else .ef (stN (szOf P t) (ρ a) (ρ x))
    | none => .ef (gnW P (execOp ρ o))
  | .nilCheck x => .pu (nilV (ρ x))
  | .binOp .eql t x y _ => denEq P false t x y ρ (.ef (gnW P (execOp ρ o)))
  | .binOp .neq t x y _ => denEq P true t x y ρ (.ef (gnW P (execOp ρ o)))
  | .binOp op _ x y _ => .pu (binV op (ρ x) (ρ y))
  | .unOp op _ x => .pu (unV op (ρ x))
  | .makeFunc fn f c => .pu (some (.func fn (mapL ρ f) (mapL ρ c)))
  | .makeInterface t x => .pu (match P.underlying t with
    | some (.interface _) | none => none
    | some _ => some (.iface t (ρ x)))
  | .convert s d x => match P.underlying s, P.underlying d with
    | some _, some (.int k) => .pu (convV k (ρ x))
    | _, _ => .ef (gnW P (execOp ρ o))
  | .makeMap _ none => .al (some (.map #[] 0, fun r => .map (some r)))
  | .makeSlice t l c => .al (match P.underlying t with
    | some (.slice e) => match P.info? e, zOf P e with
      | some i, some z => msV i.bytes i.size e z.cells (ρ l) (ρ c)
      | _, _ => none
    | _ => none)
  | .slice t x lo hi mx => match P.underlying t with
    | some (.slice e) => if (P.info? e).isSome then .pu (slV (szOf P e) (ρ x) (lo.map ρ) (hi.map ρ) (mx.map ρ)) else .ef (gnW P (execOp ρ o))
    | some (.array n e) => if (P.info? e).isSome then .pu (slA n (szOf P e) (ρ x) (lo.map ρ) (hi.map ρ) (mx.map ρ)) else .ef (gnW P (execOp ρ o))
    | _ => .ef (gnW P (execOp ρ o))
  | .fieldAddr t x f => match P.underlying t with
    | some (.struct fs) => match fs[f]? with
      | some fd => if Nat.beq (szOf P fd.type) 0 then .ef (gnW P (execOp ρ o)) else .pu (faV fd.offset (ρ x))
      | none => .ef (gnW P (execOp ρ o))
    | _ => .ef (gnW P (execOp ρ o))
  | .indexAddr t x i => match P.underlying t with
    | some (.slice e) => if (P.info? e).isSome then .pu (iaS (szOf P e) (ρ x) (ρ i)) else .ef (gnW P (execOp ρ o))
    | some (.array n e) => if (P.info? e).isSome then .pu (iaA n (szOf P e) (ρ x) (ρ i)) else .ef (gnW P (execOp ρ o))
    | _ => .ef (gnW P (execOp ρ o))
  | .index t x i => match P.underlying t with
    | some (.array n e) => match P.underlying e with
      | some d => .pu (ixA (aggD d) n (szOf P e) (ρ x) (ρ i))
      | none => .ef (gnW P (execOp ρ o))
    | _ => .ef (gnW P (execOp ρ o))
  | .field t x f => match P.underlying t with
    | some (.struct fs) => match fs[f]? with
      | some fd => match P.underlying fd.type with
        | some d => .pu (fdV (aggD d) fd.offset (szOf P fd.type) (ρ x))
        | none => .ef (gnW P (execOp ρ o))
      | none => .ef (gnW P (execOp ρ o))
    | _ => .ef (gnW P (execOp ρ o))
  | .lookup t x i ok => .rd (lkV P t (ρ x) (ρ i) ok)
  | .mapUpdate t m k v | .insert t m k v => .ef (muW P t (ρ m) (ρ k) (ρ v))
  | .mapEntry t m k => .ef (meW P t (ρ m) (ρ k))
  | .entryStore t m s v => .ef (esW P t (ρ m) (ρ s) (ρ v))
  | .range t x => .ef (rgW P t (ρ x))
  | .next it b => .ef (nxW P (ρ it) b o.type)
  | .entry it => .rd (enV P (ρ it))
  | .extract x i => .pu (exV (ρ x) i)
  | .typeAssert x _ t ok => match P.underlying t with
    | some (.interface _) | none => .ef (gnW P (execOp ρ o))
    | some _ => match zOf P t with
      | some z => .pu (taV t z ok (ρ x))
      | none => .ef (gnW P (execOp ρ o))
  | .call c => denCall P ρ o c
  | .select _ _ => .ef fun _ _ => False
  | _ => .ef (gnW P (execOp ρ o))
end Go.Sl
namespace Go.Sl
theorem wp_value {P : Program} {s : Sem Value} {v : Value} {K : Value → Hp → Prop} {h : Hp} (e : s.rd P h = some v) (k : K v h) :
    rawWp P (do Pure.pure (Next.value (← s))) K h :=
  vc_bind.2 (rd_vc e k)
theorem wp_value_vc {P : Program} {s : Sem Value} {K : Value → Hp → Prop} {h : Hp} (e : s.vc P K h) : rawWp P (do Pure.pure (Next.value (← s))) K h :=
  vc_bind.2 (vc_mono (fun _ _ k => k) e)
theorem wp_unit_vc {P : Program} {s : Sem Unit} {K : Value → Hp → Prop} {h : Hp} (e : s.vc P (fun _ => K undef) h) : rawWp P (do s; Pure.pure Next.skip) K h :=
  vc_bind.2 (vc_mono (fun _ _ k => k) e)
theorem vP_iff {v : Option Value} {K : Value → Prop} : vP v K ↔ ∃ x, v = some x ∧ K x := by
  cases v with
  | none => simp [vP]
  | some x => simp [vP]
theorem vc_rd_bind {α β : Type} {P : Program} {s : Sem α} {k : α → Sem β} {Q : β → Hp → Prop} {h : Hp} {a : α} (e : s.rd P h = some a) (q : (k a).vc P Q h) : (s >>= k).vc P Q h :=
  vc_bind.2 (rd_vc e q)
theorem rd_seq {α β : Type} {P : Program} {s : Sem α} {k : α → Sem β} {h : Hp} {a : α} (e : s.rd P h = some a) : (s >>= k).rd P h = (k a).rd P h := by
  rw [rd_bind', e]; rfl
theorem wp_pick {P : Program} {c a b : Value} {K : Value → Hp → Prop} {h : Hp} (hh : vP (pickV c a b) fun x => K x h) :
    rawWp P (do Pure.pure (Next.value (if ← asBool c then a else b))) K h := by
  rw [vP_iff] at hh
  obtain ⟨x, hx, k⟩ := hh
  unfold pickV at hx
  split at hx
  · rename_i t
    cases hx
    refine vc_rd_bind (a := t) rfl ?_
    cases t <;> exact k
  · cases hx
theorem rd_asIntOf {P : Program} {k : IntKind} {n : Int} {h : Hp} : (asIntOf (.int k n)).rd P h = some (k, n) := rfl
theorem rd_asInt {P : Program} {k : IntKind} {n : Int} {h : Hp} : (asInt (.int k n)).rd P h = some n := rfl
theorem info_size {P : Program} {t : TypeId} {i : TypeInfo} (h : P.info? t = some i) : szOf P t = i.size := by simp [szOf, h]
theorem rd_zero {P : Program} {t : TypeId} {z : Value} {h : Hp} (e : zOf P t = some z) : (zeroValue t).rd P h = some z := by rw [rd_zeroValue]; exact e
theorem rd_size {P : Program} {t : TypeId} {h : Hp} (e : (P.info? t).isSome = true) : (sizeOf t).rd P h = some (szOf P t) := by
  rw [rd_sizeOf]; unfold szOf
  cases hi : P.info? t with
  | none => rw [hi] at e; cases e
  | some i => rfl
theorem wp_alloc {P : Program} {e : TypeId} {K : Value → Hp → Prop} {h : Hp} (hh : vA ((zOf P e).map fun z => (.cells z.cells e (0, 0), ptrV)) K h) :
    (Instr.alloc e true (.tuple #[])).vc P K h := by
  cases hz : zOf P e with
  | none => rw [hz] at hh; exact hh.elim
  | some z =>
    rw [hz] at hh
    exact vc_rd_bind (rd_zero hz) hh
theorem isSome_info_of_underlying {P : Program} {t : TypeId} {d : TypeDesc} (e : P.underlying t = some d) : (P.info? t).isSome = true := by
  unfold Program.underlying at e
  cases hi : P.info? t with
  | none => rw [hi] at e; cases e
  | some i => rfl
theorem rd_loadVar1 {P : Program} {t : TypeId} {a : Addr} {h : Hp} {v : Value} (e : ((P.underlying t).map aggD) = some false) (hv : h.cell a = some v) : (loadVar t a).rd P h = some v := by
  unfold loadVar
  rw [rd_seq (by rw [rd_isAgg]; exact e)]
  exact rd_load.trans hv
theorem rd_loadVarN {P : Program} {t : TypeId} {a : Addr} {h : Hp} {r : Array Value} (e : ((P.underlying t).map aggD) = some true) (hv : h.row a (szOf P t) = some r) : (loadVar t a).rd P h = some (.agg r) := by
  unfold loadVar
  rw [rd_seq (by rw [rd_isAgg]; exact e)]
  have hi : (P.info? t).isSome = true := by
    cases hu : P.underlying t with
    | none => rw [hu] at e; cases e
    | some d => exact isSome_info_of_underlying hu
  show (Sem.rd P (do let n ← sizeOf t; let r ← loadCells a n; Pure.pure (Value.agg r)) h) = _
  rw [rd_seq (rd_size hi), rd_seq (rd_loadCells hv)]
  rfl
theorem vc_storeVar {P : Program} {t : TypeId} {a : Addr} {v : Value} {Q : Unit → Hp → Prop} {h : Hp} {c : Array Value} {e : TypeId} (hi : (P.info? t).isSome = true) (hb : h a.block = some (.cells c e (0, 0)))
    (hs : a.spot = none) (hsz : v.cells.size = szOf P t) (ho : v.cells.toList.all one = true) (hl : a.off + szOf P t ≤ c.size) (q : Q () (h.upd a.block (.cells (putL c a.off v.cells.toList) e (0, 0)))) :
    (storeVar t a v).vc P Q h := by
  unfold storeVar
  refine vc_rd_bind (rd_size hi) ?_
  simp only [hsz, ne_eq, not_true_eq_false, if_false]
  refine vc_storeCells hs v.cells.toList 0 h c e hb ho (by simp [hsz, hl]) ?_
  simpa using q
theorem rd_nil {P : Program} {ρ : Operand → Value} {o : Oper} {x : Operand} {v : Value} {h : Hp} (ho : o.op = .nilCheck x) (hh : nilV (ρ x) = some v) : (execOp ρ o).rd P h = some (.value v) := by
  unfold execOp
  rw [ho]
  simp only
  generalize ρ x = y at *
  cases y with
  | pointer a => cases a with
    | none => cases hh
    | some a => cases hh; rfl
  | nilIface => cases hh
  | nilFunc => cases hh
  | func fn f c => cases fn with
    | method n => cases hh
    | _ => cases hh; rfl
  | _ => cases hh; rfl
theorem rd_binI {P : Program} {op : BinOp} {k : IntKind} {a b : Int} {v : Value} {h : Hp} (h1 : op ≠ .shl) (h2 : op ≠ .shr) (h3 : op ≠ .eql) (h4 : op ≠ .neq) (t : TypeId) (hh : binI op k a b = some v) :
    (binOp op t (.int k a) (.int k b)).rd P h = some v := by
  cases op <;> first | exact (h1 rfl).elim | exact (h2 rfl).elim | exact (h3 rfl).elim | exact (h4 rfl).elim | skip
  all_goals simp only [binI] at hh
  all_goals simp only [binOp, ne_eq, not_true_eq_false, if_false, Op.intArith, Op.intDiv, Op.intBits, Op.intCmp]
  all_goals first
    | (cases hh; rfl)
    | (split at hh <;> first | (cases hh; done) | (rename_i hz; rw [if_neg hz]; cases hh; rfl))
theorem rd_binV {P : Program} {op : BinOp} {x y v : Value} {h : Hp} (t : TypeId) (hh : binV op x y = some v) : (binOp op t x y).rd P h = some v := by
  unfold binV at hh
  split at hh
  · rename_i k a k' b
    split at hh
    · unfold shV at hh
      split at hh
      · cases hh
      · rename_i hb
        cases hh
        show Sem.rd P (Op.shift .shl k a k' b) h = _
        unfold Op.shift; rw [if_neg hb]; rfl
    · unfold shV at hh
      split at hh
      · cases hh
      · rename_i hb
        cases hh
        show Sem.rd P (Op.shift .shr k a k' b) h = _
        unfold Op.shift; rw [if_neg hb]; rfl
    · cases hh
    · cases hh
    · rename_i h1 h2 h3 h4
      split at hh
      · rename_i e; subst e
        exact rd_binI (fun e => h1 e) (fun e => h2 e) (fun e => h3 e) (fun e => h4 e) t hh
      · cases hh
  · cases hh
theorem rd_unV {P : Program} {op : UnOp} {x v : Value} {h : Hp} (hh : unV op x = some v) : (Op.unary op x).rd P h = some v := by
  unfold unV at hh
  split at hh <;> first | (cases hh; rfl) | cases hh
theorem rd_convV {P : Program} {s d : TypeId} {k : IntKind} {x v : Value} {ds : TypeDesc} {h : Hp} (es : P.underlying s = some ds) (ed : P.underlying d = some (.int k)) (hh : convV k x = some v) : (convert s d x).rd P h = some v := by
  unfold convV at hh
  split at hh
  · cases hh
    unfold convert
    rw [rd_seq (by rw [rd_underlying]; exact es), rd_seq (by rw [rd_underlying]; exact ed)]
    rfl
  · cases hh
theorem rd_sliceBound {P : Program} {v : Value} {y l : Nat} {code : BoundsCode} {h : Hp} (hh : bnd v y = some l) : (Instr.sliceBound v y code).rd P h = some l := by
  unfold bnd at hh
  split at hh
  · rename_i k i
    split at hh
    · rename_i hi
      cases hh
      show Sem.rd P (if 0 ≤ i ∧ i ≤ (y : Int) then Pure.pure i.toNat else boundsPanic k i y code) h = _
      rw [if_pos hi]; rfl
    · cases hh
  · cases hh
theorem rd_sliceBounds {P : Program} {s : Bool} {len cap : Nat} {lo hi mx : Option Value} {p : Nat × Nat × Nat} {h : Hp} (hh : slB len cap lo hi mx = some p) : (Instr.sliceBounds s len cap lo hi mx).rd P h = some p := by
  unfold slB at hh
  unfold Instr.sliceBounds
  cases mx with
  | none =>
    simp only at hh
    rw [rd_seq (a := cap) rfl]
    cases hi with
    | none =>
      simp only at hh
      rw [rd_seq (a := len) rfl]
      cases lo with
      | none => simp only at hh; cases hh; rfl
      | some v =>
        simp only at hh
        cases hb : bnd v len with
        | none => rw [hb] at hh; cases hh
        | some l => rw [hb] at hh; cases hh; rw [rd_seq (rd_sliceBound hb)]; rfl
    | some u =>
      simp only at hh
      cases hu : bnd u cap with
      | none => rw [hu] at hh; cases hh
      | some m =>
        rw [hu] at hh
        rw [rd_seq (rd_sliceBound hu)]
        cases lo with
        | none => simp only at hh; cases hh; rfl
        | some v =>
          simp only at hh
          cases hb : bnd v m with
          | none => rw [hb] at hh; cases hh
          | some l => rw [hb] at hh; cases hh; rw [rd_seq (rd_sliceBound hb)]; rfl
  | some w =>
    simp only at hh
    cases hw : bnd w cap with
    | none => rw [hw] at hh; cases hh
    | some c =>
      rw [hw] at hh
      rw [rd_seq (rd_sliceBound hw)]
      cases hi with
      | none => cases hh
      | some u =>
        simp only at hh
        cases hu : bnd u c with
        | none => rw [hu] at hh; cases hh
        | some m =>
          rw [hu] at hh
          rw [rd_seq (rd_sliceBound hu)]
          cases lo with
          | none => simp only at hh; cases hh; rfl
          | some v =>
            simp only at hh
            cases hb : bnd v m with
            | none => rw [hb] at hh; cases hh
            | some l => rw [hb] at hh; cases hh; rw [rd_seq (rd_sliceBound hb)]; rfl
end Go.Sl
namespace Go.Sl
theorem rd_slV {P : Program} {t e : TypeId} {x v : Value} {lo hi mx : Option Value} {h : Hp} (et : P.underlying t = some (.slice e)) (ee : (P.info? e).isSome = true) (hh : slV (szOf P e) x lo hi mx = some v) :
    (Instr.sliceAt t x lo hi mx).rd P h = some v := by
  unfold slV at hh
  split at hh
  · rename_i a len cap
    cases hb : slB len cap lo hi mx with
    | none => rw [hb] at hh; cases hh
    | some p =>
      rw [hb] at hh
      cases hh
      unfold Instr.sliceAt
      rw [rd_seq (by rw [rd_underlying]; exact et)]
      show Sem.rd P (Instr.slice t (.slice a len cap) lo hi mx) h = _
      unfold Instr.slice
      rw [rd_seq (by rw [rd_underlying]; exact et)]
      show Sem.rd P (do let p ← Instr.sliceBounds true len cap lo hi mx; let size ← sizeOf e; Pure.pure (Value.slice (if p.2.2 = p.1 then a else a.map (·.add (p.1 * size))) (p.2.1 - p.1) (p.2.2 - p.1))) h = _
      rw [rd_seq (rd_sliceBounds hb), rd_seq (rd_size ee)]
      rfl
  · cases hh
theorem rd_slA {P : Program} {t e : TypeId} {n : Nat} {x v : Value} {lo hi mx : Option Value} {h : Hp} (et : P.underlying t = some (.array n e)) (ee : (P.info? e).isSome = true) (hh : slA n (szOf P e) x lo hi mx = some v) :
    (Instr.sliceAt t x lo hi mx).rd P h = some v := by
  unfold slA at hh
  split at hh
  · rename_i a
    cases hb : slB n n lo hi mx with
    | none => rw [hb] at hh; cases hh
    | some p =>
      rw [hb] at hh
      cases hh
      unfold Instr.sliceAt
      rw [rd_seq (by rw [rd_underlying]; exact et)]
      show Sem.rd P (do let a ← Instr.sureAddr (.pointer (some a)); let p ← Instr.sliceBounds false n n lo hi mx; let size ← sizeOf e; Pure.pure (Value.slice (some (if p.2.2 = p.1 then a else a.add (p.1 * size))) (p.2.1 - p.1) (p.2.2 - p.1))) h = _
      rw [rd_seq (a := a) rfl, rd_seq (rd_sliceBounds hb), rd_seq (rd_size ee)]
      rfl
  · cases hh
theorem szOf_pos {P : Program} {t : TypeId} (h : szOf P t ≠ 0) : (P.info? t).isSome = true := by
  unfold szOf at h
  cases hi : P.info? t with
  | none => rw [hi] at h; exact (h rfl).elim
  | some i => rfl
theorem rd_faV {P : Program} {t : TypeId} {f off sz : Nat} {x v : Value} {h : Hp} (hp : (match P.underlying t with | some (.struct fs) => (fs[f]?).map fun f => (f.offset, szOf P f.type) | _ => none) = some (off, sz)) (hsz : sz ≠ 0) (hh : faV off x = some v) :
    (Instr.fieldAt t x f).rd P h = some v := by
  cases hu : P.underlying t with
  | none => rw [hu] at hp; cases hp
  | some d =>
    rw [hu] at hp
    cases d <;> first | (cases hp; done) | skip
    rename_i fs
    simp only at hp
    cases hf : fs[f]? with
    | none => rw [hf] at hp; cases hp
    | some fd =>
      rw [hf] at hp
      simp only [Option.map_some, Option.some.injEq, Prod.mk.injEq] at hp
      obtain ⟨rfl, rfl⟩ := hp
      unfold faV at hh
      split at hh
      · rename_i a
        cases hh
        unfold Instr.fieldAt
        rw [rd_seq (by rw [rd_underlying]; exact hu)]
        simp only [hf]
        show Sem.rd P (do let a ← Instr.sureAddr (.pointer (some a)); let b ← fieldPlace a fd; Pure.pure (Value.pointer (some b))) h = _
        rw [rd_seq (a := a) rfl]
        have : (fieldPlace a fd).rd P h = some (a.add fd.offset) := by
          unfold fieldPlace
          rw [rd_seq (rd_size (szOf_pos hsz))]
          simp only [hsz, if_false]
          rfl
        rw [rd_seq this]
        rfl
      · cases hh
theorem rd_iaS {P : Program} {t e : TypeId} {x i v : Value} {h : Hp} (et : P.underlying t = some (.slice e)) (ee : (P.info? e).isSome = true) (hh : iaS (szOf P e) x i = some v) : (Instr.indexAt t x i).rd P h = some v := by
  unfold iaS at hh
  split at hh
  · rename_i a len cap k n
    split at hh
    · rename_i hb
      cases hh
      unfold Instr.indexAt
      rw [rd_seq (rd_asIntOf (k := k) (n := n))]
      simp only
      rw [rd_seq (by rw [rd_underlying]; exact et)]
      simp only
      rw [rd_seq rd_pure, rd_seq (by rw [rd_underlying]; exact et)]
      simp only [if_pos hb]
      rw [rd_seq (rd_size ee)]
      rfl
    · cases hh
  · cases hh
theorem rd_iaA {P : Program} {t e : TypeId} {n : Nat} {x i v : Value} {h : Hp} (et : P.underlying t = some (.array n e)) (ee : (P.info? e).isSome = true) (hh : iaA n (szOf P e) x i = some v) : (Instr.indexAt t x i).rd P h = some v := by
  unfold iaA at hh
  split at hh
  · rename_i a k m
    split at hh
    · rename_i hb
      cases hh
      unfold Instr.indexAt
      rw [rd_seq (rd_asIntOf (k := k) (n := m))]
      simp only
      rw [rd_seq (by rw [rd_underlying]; exact et)]
      simp only
      rw [rd_seq (a := a) rfl, rd_seq rd_pure, rd_seq (by rw [rd_underlying]; exact et)]
      simp only [if_pos hb]
      rw [rd_seq (rd_size ee)]
      rfl
    · cases hh
  · cases hh
theorem rd_part {P : Program} {t : TypeId} {d : TypeDesc} {cs : Array Value} {off : Nat} {v : Value} {h : Hp} (et : P.underlying t = some d) (hh : (bif aggD d then some (.agg (cs.extract off (off + szOf P t))) else cs[off]?) = some v) :
    (part t cs off).rd P h = some v := by
  unfold part
  rw [rd_seq (by rw [rd_isAgg, et]; rfl)]
  cases ha : aggD d with
  | true =>
    rw [ha] at hh
    simp only [cond_true, Option.some.injEq] at hh
    subst hh
    simp only [if_true]
    rw [rd_seq (rd_size (isSome_info_of_underlying et))]
    rfl
  | false =>
    rw [ha] at hh
    simp only [cond_false] at hh
    simp only [Bool.false_eq_true, if_false, hh]
    rfl
theorem rd_ixA {P : Program} {t e : TypeId} {n : Nat} {d : TypeDesc} {x i v : Value} {h : Hp} (et : P.underlying t = some (.array n e)) (ee : P.underlying e = some d) (hh : ixA (aggD d) n (szOf P e) x i = some v) :
    (Instr.index t x i).rd P h = some v := by
  unfold ixA at hh
  split at hh
  · rename_i cs k m
    split at hh
    · rename_i hb
      unfold Instr.index
      rw [rd_seq (rd_asIntOf (k := k) (n := m))]
      simp only
      rw [rd_seq (by rw [rd_underlying]; exact et)]
      simp only [if_pos hb]
      rw [rd_seq (rd_size (isSome_info_of_underlying ee))]
      exact rd_part ee hh
    · cases hh
  · cases hh
theorem rd_exV {P : Program} {x v : Value} {i : Nat} {h : Hp} (hh : exV x i = some v) : (Instr.extract x i).rd P h = some v := by
  unfold exV at hh
  split at hh
  · rename_i vs
    unfold Instr.extract
    simp only [hh]
    rfl
  · cases hh
theorem rd_taV {P : Program} {x v z : Value} {xt t : TypeId} {ok : Bool} {d : TypeDesc} {h : Hp} (et : P.underlying t = some d) (hd : ∀ ms, d ≠ .interface ms) (hz : zOf P t = some z) (hh : taV t z ok x = some v) :
    (Instr.typeAssert x xt t ok).rd P h = some v := by
  unfold taV at hh
  unfold Instr.typeAssert
  rw [rd_seq (by rw [rd_underlying]; exact et)]
  split at hh
  · rename_i u w
    cases d <;> first | exact (hd _ rfl).elim | skip
    all_goals simp only
    all_goals split at hh
    all_goals first
      | (rename_i e; rw [if_pos e]; cases hh; cases ok <;> rfl)
      | (rename_i e; rw [if_neg e]; cases ok <;> simp only [cond_true, cond_false, Option.some.injEq, if_true] at hh ⊢ <;> first | (cases hh; done) | (subst hh; rw [rd_seq (rd_zero hz)]; rfl))
  · cases d <;> first | exact (hd _ rfl).elim | skip
    all_goals simp only
    all_goals cases ok <;> simp only [cond_true, cond_false, Option.some.injEq, if_true] at hh ⊢ <;> first | (cases hh; done) | (subst hh; rw [rd_seq (rd_zero hz)]; rfl)
  · cases hh
theorem rd_max2 {P : Program} {x y v : Value} {h : Hp} (ts : Array TypeId) (t : TypeId) (hh : max2V x y = some v) : (Builtin.max_ ts t #[x, y]).rd P h = some v := by
  unfold max2V at hh
  split at hh
  · cases hh; rfl
  · cases hh
theorem rd_min2 {P : Program} {x y v : Value} {h : Hp} (ts : Array TypeId) (t : TypeId) (hh : min2V x y = some v) : (Builtin.min_ ts t #[x, y]).rd P h = some v := by
  unfold min2V at hh
  split at hh
  · cases hh; rfl
  · cases hh
theorem rd_lenV {P : Program} {x v : Value} {ts : Array TypeId} {t0 t e : TypeId} {h : Hp} (e0 : ts[0]? = some t0) (et : P.underlying t0 = some (.slice e)) (hh : lenV x = some v) : (Builtin.len_ ts t #[x]).rd P h = some v := by
  unfold lenV at hh
  split at hh
  · cases hh
    unfold Builtin.len_
    simp only [e0]
    show Sem.rd P (do let d ← underlying t0; _) h = _
    rw [rd_seq (by rw [rd_underlying]; exact et)]
    rfl
  · cases hh
theorem rd_lenS {P : Program} {x v : Value} {ts : Array TypeId} {t0 t : TypeId} {h : Hp} (e0 : ts[0]? = some t0) (et : P.underlying t0 = some .string) (hh : lenS x = some v) : (Builtin.len_ ts t #[x]).rd P h = some v := by
  unfold lenS at hh
  split at hh
  · cases hh
    unfold Builtin.len_
    simp only [e0]
    show Sem.rd P (do let d ← underlying t0; _) h = _
    rw [rd_seq (by rw [rd_underlying]; exact et)]
    rfl
  · cases hh
theorem rd_lenM {P : Program} {x v : Value} {ts : Array TypeId} {t0 t a b : TypeId} {h : Hp} (e0 : ts[0]? = some t0) (et : P.underlying t0 = some (.map a b)) (hh : lenM x h = some v) : (Builtin.len_ ts t #[x]).rd P h = some v := by
  unfold lenM at hh
  split at hh
  · cases hh
    unfold Builtin.len_
    simp only [e0]
    show Sem.rd P (do let d ← underlying t0; _) h = _
    rw [rd_seq (by rw [rd_underlying]; exact et)]
    rfl
  · rename_i r
    split at hh
    · rename_i es c hr
      cases hh
      unfold Builtin.len_
      simp only [e0]
      show Sem.rd P (do let d ← underlying t0; _) h = _
      rw [rd_seq (by rw [rd_underlying]; exact et)]
      refine (rd_seq (s := getObj r) (a := Obj.map es c) ?_).trans rfl
      simp [getObj, Sem.rd, hr, Obj.isCellsB]
    · cases hh
  · cases hh
theorem rd_capV {P : Program} {x v : Value} {ts : Array TypeId} {t0 t e : TypeId} {h : Hp} (e0 : ts[0]? = some t0) (et : P.underlying t0 = some (.slice e)) (hh : capV x = some v) : (Builtin.cap_ ts t #[x]).rd P h = some v := by
  unfold capV at hh
  split at hh
  · cases hh
    unfold Builtin.cap_
    simp only [e0]
    show Sem.rd P (do let d ← underlying t0; _) h = _
    rw [rd_seq (by rw [rd_underlying]; exact et)]
    rfl
  · cases hh
end Go.Sl
namespace Go.Sl
theorem rd_eqS_in {P : Program} {t : TypeId} {x y : Value} {b : Bool} {h : Hp} {k : Nat} (hk : k ≠ 3) (ht : eqTag P t = k) (hh : eqS k x y = some b) (d : Nat) : (Op.equalIn (d + 1) t x y).rd P h = some b := by
  unfold eqTag at ht
  unfold Op.equalIn
  split at ht <;> rename_i hu <;> (try subst ht) <;> unfold eqS at hh <;> (try (cases hh; done))
  all_goals rw [rd_seq (by rw [rd_underlying]; exact hu)]
  · split at hh <;> first | (cases hh; done) | (exfalso; omega) | skip
    split at hh <;> first | (cases hh; done) | skip
    rename_i e; simp only [e, if_true]; cases hh; rfl
  · split at hh <;> first | (cases hh; done) | (exfalso; omega) | (cases hh; rfl)
  · split at hh <;> first | (cases hh; done) | (exfalso; omega) | (cases hh; rfl)
  · split at hh <;> first | (cases hh; done) | (exfalso; omega) | (cases hh; rfl) | skip
    rename_i a _ _; cases a <;> first | (cases hh; rfl) | simp_all
  · split at hh <;> first | (cases hh; done) | (exfalso; omega) | (cases hh; rfl) | skip
    rename_i a _ _ _ _ _ _; cases a <;> first | (cases hh; rfl) | simp_all
  · split at hh <;> first | (cases hh; done) | (exfalso; omega) | (cases hh; rfl) | skip
    rename_i a _ _; cases a <;> first | (cases hh; rfl) | simp_all
  · split at hh <;> first | (cases hh; done) | (exfalso; omega) | (cases hh; rfl)
theorem rd_eqS {P : Program} {t : TypeId} {x y : Value} {b : Bool} {h : Hp} {k : Nat} (hk : k ≠ 3) (ht : eqTag P t = k) (hh : eqS k x y = some b) : (Op.equal t x y).rd P h = some b := rd_eqS_in hk ht hh 9999
theorem rd_eqGuard {P : Program} {op : BinOp} {t : TypeId} {x y : Operand} {a b : Value} {h : Hp} (h1 : a ≠ .nilIface) (h2 : (∀ xs, a ≠ .agg xs) ∨ P.eqGuardType P.depth t = false) : (eqGuard op t x y a b).rd P h = some () := by
  unfold eqGuard
  cases op <;> first | rfl | skip
  all_goals
    simp only [Bool.not_true, Bool.false_eq_true, if_false]
    split
    · exact (h1 rfl).elim
    · rename_i xs ys
      rcases h2 with h2 | h2
      · exact (h2 xs rfl).elim
      · rw [rd_seq (s := program) (a := P) rfl, rd_seq (s := program) (a := P) rfl]
        simp only [h2]
        rfl
    · rfl
theorem binOp_eq {P : Program} {neg : Bool} {t : TypeId} {x y : Value} {b : Bool} {h : Hp} {k : Nat} (ht : eqTag P t = k) (hh : eqS k x y = some b) :
    (binOp (if neg then .neq else .eql) t x y).rd P h = some (.bool (bif neg then !b else b)) := by
  have key : k ≠ 3 → (Op.equal t x y).rd P h = some b := fun hk => rd_eqS (h := h) hk ht hh
  have gen : ∀ (s : Sem Bool), s.rd P h = some b → (do Pure.pure (Value.bool (← s)) : Sem Value).rd P h = some (.bool b) ∧ (do Pure.pure (Value.bool (!(← s))) : Sem Value).rd P h = some (.bool !b) :=
    fun s hs => ⟨by rw [rd_seq hs]; rfl, by rw [rd_seq hs]; rfl⟩
  have g1 := fun hk => (gen _ (key hk)).1
  have g2 := fun hk => (gen _ (key hk)).2
  unfold eqS at hh
  split at hh <;> first | (cases hh; done) | skip
  · split at hh
    · rename_i e; subst e; cases hh
      cases neg
      · simp [binOp, Op.intCmp]; rfl
      · simp [binOp, Op.intCmp]; rfl
    · cases hh
  · cases neg <;> first | exact g1 (by omega) | exact g2 (by omega)
  · cases hh
    cases neg
    · simp [binOp, Op.stringOp]; rfl
    · simp [binOp, Op.stringOp]; rfl
  all_goals cases neg <;> first | exact g1 (by omega) | exact g2 (by omega)
end Go.Sl
namespace Go.Sl
theorem rd_fields {P : Program} {h : Hp} {xs ys : Array Value} {d : Nat} : ∀ (l : List Field) (k : Nat) (b : Bool),
    (l.zipIdx k).all (fun p => p.1.name != "_" && Nat.beq p.1.offset p.2 && decide (eqTag P p.1.type = 1 ∨ eqTag P p.1.type = 2)) = true →
    eqL (l.map fun f => eqTag P f.type) (xs.toList.drop k) (ys.toList.drop k) = some b →
    (forIn l ((none, ()) : Option Bool × Unit) fun f (_ : Option Bool × Unit) =>
      if f.name ≠ "_" then do
        let a ← part f.type xs f.offset
        let c ← part f.type ys f.offset
        let e ← Op.equalIn (d + 1) f.type a c
        if (!e) = true then Pure.pure (ForInStep.done (some false, ())) else Pure.pure (ForInStep.yield (none, ()))
      else Pure.pure (ForInStep.yield (none, ())) : Sem (Option Bool × Unit)).rd P h = some (if b then (none, ()) else (some false, ()))
  | [], k, b, _, hb => by
    simp only [List.map_nil, eqL, Option.some.injEq] at hb
    subst hb
    rfl
  | f :: l, k, b, hall, hb => by
    simp only [List.zipIdx_cons, List.all_cons, Bool.and_eq_true, bne_iff_ne, decide_eq_true_eq] at hall
    obtain ⟨⟨⟨hn, ho⟩, htag⟩, hrest⟩ := hall
    have ho : f.offset = k := Nat.eq_of_beq_eq_true ho
    simp only [List.map_cons] at hb
    cases hx : xs.toList.drop k with
    | nil => rw [hx] at hb; simp [eqL] at hb
    | cons x xr =>
      cases hy : ys.toList.drop k with
      | nil => rw [hx, hy] at hb; simp [eqL] at hb
      | cons y yr =>
        rw [hx, hy] at hb
        simp only [eqL] at hb
        cases he : eqS (eqTag P f.type) x y with
        | none => rw [he] at hb; cases hb
        | some c =>
          rw [he] at hb
          cases hr : eqL (l.map fun f => eqTag P f.type) xr yr with
          | none => rw [hr] at hb; cases hb
          | some b' =>
            rw [hr] at hb
            simp only [Option.some.injEq] at hb
            have ex : xs[k]? = some x := by
              have := congrArg List.head? hx
              rw [List.head?_drop] at this
              simpa using this
            have ey : ys[k]? = some y := by
              have := congrArg List.head? hy
              rw [List.head?_drop] at this
              simpa using this
            obtain ⟨dd, hd, hagg⟩ : ∃ dd, P.underlying f.type = some dd ∧ aggD dd = false := by
              unfold eqTag at htag
              cases hu : P.underlying f.type with
              | none => rw [hu] at htag; simp at htag
              | some dd =>
                refine ⟨dd, rfl, ?_⟩
                rw [hu] at htag
                cases dd <;> first | rfl | simp at htag
            rw [List.forIn_cons]
            simp only [ne_eq, hn, not_false_eq_true, if_true, ho]
            have p1 : (part f.type xs k).rd P h = some x := rd_part hd (by rw [hagg]; exact ex)
            have p2 : (part f.type ys k).rd P h = some y := rd_part hd (by rw [hagg]; exact ey)
            have body : (do
                let a ← part f.type xs k
                let c ← part f.type ys k
                let e ← Op.equalIn (d + 1) f.type a c
                if (!e) = true then Pure.pure (ForInStep.done (some false, ())) else Pure.pure (ForInStep.yield (none, ())) : Sem (ForInStep (Option Bool × Unit))).rd P h = some (if (!c) = true then ForInStep.done (some false, ()) else ForInStep.yield (none, ())) := by
              rw [rd_seq p1, rd_seq p2, rd_seq (rd_eqS_in (by omega) rfl he d)]
              cases c <;> rfl
            rw [rd_seq body]
            cases c with
            | false => subst hb; rfl
            | true =>
              simp only [Bool.not_true, Bool.false_eq_true, if_false]
              rw [← hb, Bool.true_and]
              refine rd_fields l (k + 1) b' hrest ?_
              have e1 : xs.toList.drop (k + 1) = xr := by rw [← List.drop_drop, hx]; rfl
              have e2 : ys.toList.drop (k + 1) = yr := by rw [← List.drop_drop, hy]; rfl
              rw [e1, e2]; exact hr
end Go.Sl
namespace Go.Sl
theorem rd_cells {P : Program} {h : Hp} {xs ys : Array Value} {d : Nat} {e : TypeId} (htag : eqTag P e = 1 ∨ eqTag P e = 2) : ∀ (m k : Nat) (b : Bool),
    eqL (List.replicate m (eqTag P e)) (xs.toList.drop k) (ys.toList.drop k) = some b →
    (forIn (List.range' k m) ((none, ()) : Option Bool × Unit) fun i (_ : Option Bool × Unit) => do
        let a ← part e xs (i * 1)
        let c ← part e ys (i * 1)
        let q ← Op.equalIn (d + 1) e a c
        if (!q) = true then Pure.pure (ForInStep.done (some false, ())) else Pure.pure (ForInStep.yield (none, ())) : Sem (Option Bool × Unit)).rd P h = some (if b then (none, ()) else (some false, ()))
  | 0, k, b, hb => by
    simp only [List.replicate_zero, eqL, Option.some.injEq] at hb
    subst hb
    rfl
  | m + 1, k, b, hb => by
    simp only [List.replicate_succ] at hb
    cases hx : xs.toList.drop k with
    | nil => rw [hx] at hb; simp [eqL] at hb
    | cons x xr =>
      cases hy : ys.toList.drop k with
      | nil => rw [hx, hy] at hb; simp [eqL] at hb
      | cons y yr =>
        rw [hx, hy] at hb
        simp only [eqL] at hb
        cases he : eqS (eqTag P e) x y with
        | none => rw [he] at hb; cases hb
        | some c =>
          rw [he] at hb
          cases hr : eqL (List.replicate m (eqTag P e)) xr yr with
          | none => rw [hr] at hb; cases hb
          | some b' =>
            rw [hr] at hb
            simp only [Option.some.injEq] at hb
            have ex : xs[k]? = some x := by
              have := congrArg List.head? hx
              rw [List.head?_drop] at this
              simpa using this
            have ey : ys[k]? = some y := by
              have := congrArg List.head? hy
              rw [List.head?_drop] at this
              simpa using this
            obtain ⟨dd, hd, hagg⟩ : ∃ dd, P.underlying e = some dd ∧ aggD dd = false := by
              unfold eqTag at htag
              cases hu : P.underlying e with
              | none => rw [hu] at htag; simp at htag
              | some dd =>
                refine ⟨dd, rfl, ?_⟩
                rw [hu] at htag
                cases dd <;> first | rfl | simp at htag
            rw [List.range'_succ, List.forIn_cons]
            have p1 : (part e xs (k * 1)).rd P h = some x := rd_part hd (by rw [hagg, Nat.mul_one]; exact ex)
            have p2 : (part e ys (k * 1)).rd P h = some y := rd_part hd (by rw [hagg, Nat.mul_one]; exact ey)
            have body : (do
                let a ← part e xs (k * 1)
                let c ← part e ys (k * 1)
                let q ← Op.equalIn (d + 1) e a c
                if (!q) = true then Pure.pure (ForInStep.done (some false, ())) else Pure.pure (ForInStep.yield (none, ())) : Sem (ForInStep (Option Bool × Unit))).rd P h = some (if (!c) = true then ForInStep.done (some false, ()) else ForInStep.yield (none, ())) := by
              rw [rd_seq p1, rd_seq p2, rd_seq (rd_eqS_in (by omega) rfl he d)]
              cases c <;> rfl
            rw [rd_seq body]
            cases c with
            | false => subst hb; rfl
            | true =>
              simp only [Bool.not_true, Bool.false_eq_true, if_false]
              rw [← hb, Bool.true_and]
              refine rd_cells htag m (k + 1) b' ?_
              have e1 : xs.toList.drop (k + 1) = xr := by rw [← List.drop_drop, hx]; rfl
              have e2 : ys.toList.drop (k + 1) = yr := by rw [← List.drop_drop, hy]; rfl
              rw [e1, e2]; exact hr
theorem rd_eqA {P : Program} {t : TypeId} {l : List Nat} {neg : Bool} {x y v : Value} {h : Hp} (ht : eqTags P t = some l) (hh : eqA l neg x y = some v) :
    P.eqGuardType P.depth t = false ∧ (binOp (if neg then .neq else .eql) t x y).rd P h = some v := by
  unfold eqTags at ht
  split at ht
  · rename_i fs hu
    split at ht
    · rename_i hc
      simp only [Bool.and_eq_true, Bool.not_eq_true'] at hc
      obtain ⟨⟨hg, hs⟩, hall⟩ := hc
      cases ht
      refine ⟨hg, ?_⟩
      unfold eqA at hh
      split at hh
      · rename_i xs ys
        cases hb : eqL (fs.toList.map fun f => eqTag P f.type) xs.toList ys.toList with
        | none => rw [hb] at hh; cases hh
        | some b =>
          rw [hb] at hh
          cases hh
          have key : (Op.equal t (.agg xs) (.agg ys)).rd P h = some b := by
            unfold Op.equal Op.maxDepth
            unfold Op.equalIn
            rw [rd_seq (by rw [rd_underlying]; exact hu)]
            simp only
            rw [rd_seq (s := program) (a := P) rfl]
            simp only [hs, Bool.false_eq_true, if_false]
            rw [← Array.forIn_toList]
            rw [rd_seq (rd_fields fs.toList 0 b (by simpa using hall) (by simpa using hb))]
            cases b <;> rfl
          cases neg
          · show (do Pure.pure (Value.bool (← Op.equal t (.agg xs) (.agg ys))) : Sem Value).rd P h = _
            rw [rd_seq key]; rfl
          · show (do Pure.pure (Value.bool (!(← Op.equal t (.agg xs) (.agg ys)))) : Sem Value).rd P h = _
            rw [rd_seq key]; rfl
      · cases hh
    · cases ht
  · rename_i n e hu
    split at ht
    · rename_i hc
      simp only [Bool.and_eq_true, Bool.not_eq_true', decide_eq_true_eq] at hc
      obtain ⟨⟨hg, hs⟩, htag⟩ := hc
      have hs : szOf P e = 1 := Nat.eq_of_beq_eq_true hs
      cases ht
      refine ⟨hg, ?_⟩
      unfold eqA at hh
      split at hh
      · rename_i xs ys
        cases hb : eqL (List.replicate n (eqTag P e)) xs.toList ys.toList with
        | none => rw [hb] at hh; cases hh
        | some b =>
          rw [hb] at hh
          cases hh
          have key : (Op.equal t (.agg xs) (.agg ys)).rd P h = some b := by
            unfold Op.equal Op.maxDepth
            unfold Op.equalIn
            rw [rd_seq (by rw [rd_underlying]; exact hu)]
            simp only
            rw [rd_seq (rd_size (szOf_pos (by rw [hs]; decide))), hs]
            rw [Std.Legacy.Range.forIn_eq_forIn_range']
            simp only [Std.Legacy.Range.size, Nat.sub_zero, Nat.add_sub_cancel, Nat.div_one]
            rw [rd_seq (rd_cells htag n 0 b (by simpa using hb))]
            cases b <;> rfl
          cases neg
          · show (do Pure.pure (Value.bool (← Op.equal t (.agg xs) (.agg ys))) : Sem Value).rd P h = _
            rw [rd_seq key]; rfl
          · show (do Pure.pure (Value.bool (!(← Op.equal t (.agg xs) (.agg ys)))) : Sem Value).rd P h = _
            rw [rd_seq key]; rfl
      · cases hh
    · cases ht
  · cases ht
theorem eqA_agg {l : List Nat} {neg : Bool} {x y v : Value} (hh : eqA l neg x y = some v) : x ≠ .nilIface := by
  unfold eqA at hh
  split at hh
  · intro e; cases e
  · cases hh
theorem eqV_plain {k : Nat} {neg : Bool} {x y v : Value} (hh : eqV k neg x y = some v) : x ≠ .nilIface ∧ ∀ xs, x ≠ .agg xs := by
  unfold eqV at hh
  cases hs : eqS k x y with
  | none => rw [hs] at hh; cases hh
  | some b =>
    unfold eqS at hs
    split at hs <;> first | (cases hs; done) | (constructor <;> intros <;> (intro e; cases e))
theorem wp_eq {P : Program} {neg : Bool} {t : TypeId} {x y : Operand} {ρ : Operand → Value} {other : Den} {K : Value → Hp → Prop} {h : Hp}
    (hother : other.wp K h → rawWp P (do Pure.pure (Next.value (← (do eqGuard (if neg then .neq else .eql) t x y (ρ x) (ρ y); binOp (if neg then .neq else .eql) t (ρ x) (ρ y) : Sem Value)))) K h)
    (hh : (denEq P neg t x y ρ other).wp K h) : rawWp P (do Pure.pure (Next.value (← (do eqGuard (if neg then .neq else .eql) t x y (ρ x) (ρ y); binOp (if neg then .neq else .eql) t (ρ x) (ρ y) : Sem Value)))) K h := by
  have scal : ∀ k, eqTag P t = k → (vP (eqV k neg (ρ x) (ρ y)) fun v => K v h) → rawWp P (do Pure.pure (Next.value (← (do eqGuard (if neg then .neq else .eql) t x y (ρ x) (ρ y); binOp (if neg then .neq else .eql) t (ρ x) (ρ y) : Sem Value)))) K h := by
    intro k hk hv
    rw [vP_iff] at hv
    obtain ⟨v, hv, hK⟩ := hv
    obtain ⟨p1, p2⟩ := eqV_plain hv
    unfold eqV at hv
    cases hs : eqS k (ρ x) (ρ y) with
    | none => rw [hs] at hv; cases hv
    | some b =>
      rw [hs] at hv
      cases hv
      refine wp_value (v := .bool (bif neg then !b else b)) ?_ hK
      rw [rd_seq (rd_eqGuard p1 (.inl p2))]
      exact binOp_eq hk hs
  unfold denEq at hh
  split at hh
  · split at hh
    · rename_i l hl
      simp only [Den.wp] at hh
      rw [vP_iff] at hh
      obtain ⟨v, hv, hK⟩ := hh
      obtain ⟨g, r⟩ := rd_eqA (h := h) hl hv
      refine wp_value (v := v) ?_ hK
      rw [rd_seq (rd_eqGuard (eqA_agg hv) (.inr g))]
      exact r
    · exact hother hh
  · rename_i hk; exact scal 1 hk hh
  · rename_i hk; exact scal 2 hk hh
  · rename_i hk; exact scal 3 hk hh
  · split at hh
    · exact scal _ rfl hh
    · exact hother hh
theorem fold_put_list (off : Nat) : ∀ (l : List Value) (k : Nat) (cells : Array Value), (l.zipIdx k).foldl (fun cs (c, j) => cs.setIfInBounds (off + j) c) cells = putL cells (off + k) l
  | [], _, _ => rfl
  | v :: l, k, cells => by
    simp only [List.zipIdx_cons, List.foldl_cons, putL]
    rw [fold_put_list off l (k + 1)]
    rfl
theorem fold_put (off : Nat) (c cells : Array Value) : c.zipIdx.foldl (fun cs (c, j) => cs.setIfInBounds (off + j) c) cells = putL cells off c.toList := by
  rw [← Array.foldl_toList, Array.toList_zipIdx]
  exact fold_put_list off c.toList 0 cells
theorem fill_of_bld (place : Nat → Option (Nat × Nat)) : ∀ (parts : List (Nat × Value)) (l : List (Nat × Nat × Value)) (cells r : Array Value), partsOf place parts = some l → bldV cells l = some r → Instr.fill place cells parts = some r
  | [], l, cells, r, hp, hb => by
    simp only [partsOf, Option.some.injEq] at hp
    subst hp
    exact hb
  | (i, v) :: parts, l, cells, r, hp, hb => by
    simp only [partsOf] at hp
    cases hpl : place i with
    | none => rw [hpl] at hp; cases hp
    | some q =>
      obtain ⟨off, sz⟩ := q
      rw [hpl] at hp
      cases hr : partsOf place parts with
      | none => rw [hr] at hp; cases hp
      | some l' =>
        rw [hr] at hp
        simp only [Option.some.injEq] at hp
        subst hp
        simp only [bldV] at hb
        split at hb
        · rename_i hc
          simp only [Instr.fill, hpl]
          rw [if_neg (by simp only [Bool.or_eq_true, decide_eq_true_eq, ne_eq, not_or, Nat.not_lt, Decidable.not_not]; exact ⟨hc.1, by simpa using hc.2⟩)]
          refine fill_of_bld place parts l' _ r hr ?_
          rw [← hb, fold_put]
        · cases hb
end Go.Sl
namespace Go.Sl
theorem sem_bind_assoc {α β γ : Type} (s : Sem α) (f : α → Sem β) (g : β → Sem γ) : (s.bind f).bind g = s.bind fun a => (f a).bind g := by
  induction s with
  | pure a => rfl
  | load m a k ih => simp only [Sem.bind, ih]
  | store m a v k ih => simp only [Sem.bind, ih]
  | new o k ih => simp only [Sem.bind, ih]
  | shape r k ih => simp only [Sem.bind, ih]
  | freeze a n k ih => simp only [Sem.bind, ih]
  | frozen a k ih => simp only [Sem.bind, ih]
  | getObj r k ih => simp only [Sem.bind, ih]
  | setObj r o k ih => simp only [Sem.bind, ih]
  | choose q k ih => simp only [Sem.bind, ih]
  | sys c k ih => simp only [Sem.bind, ih]
  | program k ih => simp only [Sem.bind, ih]
  | mark m k ih => simp only [Sem.bind, ih]
  | halt h => rfl
theorem sem_bind_pure {α : Type} (s : Sem α) : s.bind Sem.pure = s := by
  induction s with
  | pure a => rfl
  | load m a k ih => simp only [Sem.bind, ih]
  | store m a v k ih => simp only [Sem.bind, ih]
  | new o k ih => simp only [Sem.bind, ih]
  | shape r k ih => simp only [Sem.bind, ih]
  | freeze a n k ih => simp only [Sem.bind, ih]
  | frozen a k ih => simp only [Sem.bind, ih]
  | getObj r k ih => simp only [Sem.bind, ih]
  | setObj r o k ih => simp only [Sem.bind, ih]
  | choose q k ih => simp only [Sem.bind, ih]
  | sys c k ih => simp only [Sem.bind, ih]
  | program k ih => simp only [Sem.bind, ih]
  | mark m k ih => simp only [Sem.bind, ih]
  | halt h => rfl
theorem sem_lawful : LawfulMonad Sem := LawfulMonad.mk' Sem sem_bind_pure (fun _ _ => rfl) sem_bind_assoc
theorem rd_mapM_list {α β : Type} {P : Program} {h : Hp} {f : α → Sem β} {g : α → β} : ∀ (l : List α), (∀ a ∈ l, (f a).rd P h = some (g a)) → (l.mapM f).rd P h = some (l.map g)
  | [], _ => rfl
  | a :: l, hl => by
    have := sem_lawful
    rw [List.mapM_cons, rd_seq (hl a List.mem_cons_self), rd_seq (rd_mapM_list l fun b hb => hl b (List.mem_cons_of_mem _ hb))]
    rfl
theorem rd_mapM {α β : Type} {P : Program} {h : Hp} {f : α → Sem β} {g : α → β} (l : Array α) (hl : ∀ a ∈ l.toList, (f a).rd P h = some (g a)) : (l.mapM f).rd P h = some (l.map g) := by
  have := sem_lawful
  rw [Array.mapM_eq_mapM_toList, rd_map, rd_mapM_list l.toList hl]
  exact congrArg some (Array.ext' (by simp))
theorem rd_build {P : Program} {t : TypeId} {parts : List (Nat × Value)} {z : Value} {l : List (Nat × Nat × Value)} {r : Array Value} {h : Hp} (hz : zOf P t = some z) (hp : partsOf (placeOf P t) parts = some l) (hb : bldV z.cells l = some r)
    (hl : layoutOk P t = true) (ps : Array (Nat × Value)) (hps : ps.toList = parts) : (Instr.build t ps).rd P h = some (.agg r) := by
  unfold Instr.build
  rw [rd_seq (rd_zero hz)]
  unfold layoutOk at hl
  split at hl
  · rename_i fs hu
    have hpl : placeOf P t = fun i => (fs[i]?).map fun f => (f.offset, szOf P f.type) := by
      funext i; unfold placeOf; rw [hu]
    have hfill := fill_of_bld (placeOf P t) parts l z.cells r hp hb
    rw [rd_seq (by rw [rd_underlying]; exact hu)]
    simp only
    have hm : (fs.mapM fun f => do Pure.pure (f.offset, ← sizeOf f.type) : Sem (Array (Nat × Nat))).rd P h = some (fs.map fun f => (f.offset, szOf P f.type)) :=
      rd_mapM fs fun f hf => by
        rw [rd_seq (rd_size (List.all_eq_true.1 hl f hf))]; rfl
    rw [rd_seq hm]
    have : (fun i => (fs.map fun f => (f.offset, szOf P f.type))[i]?) = placeOf P t := by rw [hpl]; funext i; simp
    rw [this, hps, hfill]
    rfl
  · rename_i n e hu
    have hpl : placeOf P t = fun i => some (i * szOf P e, szOf P e) := by funext i; unfold placeOf; rw [hu]
    have hfill := fill_of_bld (placeOf P t) parts l z.cells r hp hb
    rw [rd_seq (by rw [rd_underlying]; exact hu)]
    simp only
    rw [rd_seq (rd_size hl), hps, ← hpl, hfill]
    rfl
  · cases hl
theorem vc_buildSlice {P : Program} {t e : TypeId} {n : Nat} {z : Value} {l : List (Nat × Nat × Value)} {c : Array Value} {K : Value → Hp → Prop} {h : Hp} (ps : Array (Nat × Value)) (ht : P.underlying t = some (.slice e)) (hz : zOf P e = some z)
    (hp : partsOf (fun i => some (i * szOf P e, szOf P e)) ps.toList = some l) (hn : n * szOf P e ≤ 2 ^ 24) (hb : bldV ((Array.range (n * szOf P e)).map fun i => z.cells[i % z.cells.size]!) l = some c)
    (hk : ∀ r, h r = none → K (.slice (some ⟨r, 0, none⟩) n n) (h.upd r (.cells c e (0, 0)))) : (Instr.buildSlice t n ps).vc P K h := by
  unfold Instr.buildSlice
  have he : (P.info? e).isSome = true := by
    unfold zOf at hz
    cases hi : P.info? e with
    | none => rw [hi] at hz; cases hz
    | some i => rfl
  refine vc_rd_bind (by rw [rd_underlying]; exact ht) ?_
  simp only
  refine vc_rd_bind (rd_size he) ?_
  rw [if_neg (by omega)]
  have hfill := fill_of_bld (fun i => some (i * szOf P e, szOf P e)) ps.toList l _ c hp hb
  by_cases h0 : n * szOf P e = 0
  · rw [if_pos h0]
    refine vc_rd_bind rd_pure ?_
    have : ((Array.range (n * szOf P e)).map fun i => (#[] : Array Value)[i % (#[] : Array Value).size]!) = ((Array.range (n * szOf P e)).map fun i => z.cells[i % z.cells.size]!) := by rw [h0]; simp
    rw [this, hfill]
    exact hk
  · rw [if_neg h0]
    refine vc_rd_bind (rd_zero hz) ?_
    refine vc_rd_bind rd_pure ?_
    rw [hfill]
    exact hk
theorem vc_makeSlice {P : Program} {t e : TypeId} {i : TypeInfo} {z l c : Value} {K : Value → Hp → Prop} {h : Hp} (ht : P.underlying t = some (.slice e)) (hi : P.info? e = some i) (hz : zOf P e = some z)
    (hh : vA (msV i.bytes i.size e z.cells l c) K h) : (Instr.makeSlice t l c).vc P K h := by
  unfold msV at hh
  split at hh
  · rename_i k1 l k2 c
    split at hh
    · rename_i hc
      obtain ⟨h1, h2, h3, h4⟩ := hc
      have wl : IntKind.i64.wrap l = l := by rw [IntKind.wrap_i64]; omega
      have wc : IntKind.i64.wrap c = c := by rw [IntKind.wrap_i64]; omega
      unfold Instr.makeSlice
      refine vc_rd_bind (by rw [rd_underlying]; exact ht) ?_
      simp only
      refine vc_rd_bind rd_asInt ?_
      refine vc_rd_bind rd_asInt ?_
      refine vc_rd_bind (by rw [rd_typeInfo]; exact hi) ?_
      simp only [wl, wc]
      have hb : (i.bytes : Int) * c ≤ 2 ^ 48 := by
        rw [Int.mul_comm]; omega
      rw [if_neg (by simp only [Bool.or_eq_true, decide_eq_true_eq]; omega)]
      have hroom : (askRoom (c.toNat * i.bytes)).rd P h = some () := by
        unfold askRoom; split <;> rfl
      refine vc_rd_bind hroom ?_
      refine vc_rd_bind (rd_size (by rw [hi]; rfl)) ?_
      have hsz := info_size hi
      rw [hsz]
      by_cases h0 : c.toNat * i.size = 0
      · rw [if_pos h0]
        refine vc_rd_bind rd_pure ?_
        have : ((Array.range (c.toNat * i.size)).map fun j => (#[] : Array Value)[j % (#[] : Array Value).size]!) = ((Array.range (c.toNat * i.size)).map fun j => z.cells[j % z.cells.size]!) := by rw [h0]; simp
        rw [this]
        exact hh
      · rw [if_neg h0]
        refine vc_rd_bind (rd_zero hz) ?_
        refine vc_rd_bind rd_pure ?_
        exact hh
    · exact hh.elim
  · exact hh.elim
end Go.Sl
namespace Go.Sl
theorem callFunc_bodied {P : Program} {f : FuncId} {args : Array Value} {K : Value → Hp → Prop} {h : Hp} (hb : bodied P f = true) (hh : CallH P f args K h) : rawWp P (callFunc f args) K h := by
  unfold bodied at hb
  cases hf : P.funcs[f]? with
  | none => rw [hf] at hb; cases hb
  | some fn =>
    rw [hf] at hb
    simp only [Bool.and_eq_true, Bool.not_eq_true'] at hb
    unfold callFunc
    refine vc_rd_bind (s := program) (a := P) rfl ?_
    rw [hf]
    simp only [hb.2, Bool.false_eq_true, if_false]
    cases hbd : fn.body with
    | none => rw [hbd] at hb; cases hb.1
    | some c =>
      simp only [Option.isNone_some, Bool.false_eq_true, if_false]
      exact hh
theorem gn_raw {P : Program} {s : Sem Next} {K : Value → Hp → Prop} {h : Hp} (hh : gnW P s K h) : rawWp P s K h := hh
theorem denBuiltin_sound {P : Program} {b : Builtin} {ts : Array TypeId} {t : TypeId} {cs : Array Bool} {args : Array Value} {K : Value → Hp → Prop} {h : Hp} {raw : Den}
    (hraw : raw.wp K h → rawWp P (builtin b ts t cs args) K h) (hh : (denBuiltin P b ts t args.toList raw).wp K h) : rawWp P (builtin b ts t cs args) K h := by
  have h1 : ∀ x, args.toList = [x] → args = #[x] := fun x e => Array.ext' (by simpa using e)
  have h2 : ∀ x y, args.toList = [x, y] → args = #[x, y] := fun x y e => Array.ext' (by simpa using e)
  unfold denBuiltin at hh
  split at hh
  · rename_i x ha
    have ha := h1 x ha
    subst ha
    split at hh <;> rename_i hu <;> first | (cases h0 : ts[0]? <;> rw [h0] at hu <;> first | (cases hu; done) | skip) | skip
    · simp only [Den.wp, vP_iff] at hh
      obtain ⟨v, hv, hK⟩ := hh
      exact wp_value (rd_lenV h0 hu hv) hK
    · simp only [Den.wp, vP_iff] at hh
      obtain ⟨v, hv, hK⟩ := hh
      exact wp_value (rd_lenS h0 hu hv) hK
    · simp only [Den.wp, vP_iff] at hh
      obtain ⟨v, hv, hK⟩ := hh
      exact wp_value (rd_lenM h0 hu hv) hK
    · exact hraw hh
    · exact hraw hh
  · rename_i x ha
    have ha := h1 x ha
    subst ha
    split at hh <;> rename_i hu <;> first | (cases h0 : ts[0]? <;> rw [h0] at hu <;> first | (cases hu; done) | skip) | skip
    · simp only [Den.wp, vP_iff] at hh
      obtain ⟨v, hv, hK⟩ := hh
      exact wp_value (rd_capV h0 hu hv) hK
    · exact hraw hh
    · exact hraw hh
  · rename_i x ha
    have ha := h1 x ha
    subst ha
    exact wp_value_vc hh
  · rename_i x y ha
    have ha := h2 x y ha
    subst ha
    simp only [Den.wp, vP_iff] at hh
    obtain ⟨v, hv, hK⟩ := hh
    exact wp_value (rd_max2 ts t hv) hK
  · rename_i x y ha
    have ha := h2 x y ha
    subst ha
    simp only [Den.wp, vP_iff] at hh
    obtain ⟨v, hv, hK⟩ := hh
    exact wp_value (rd_min2 ts t hv) hK
  · rename_i x y ha
    have ha := h2 x y ha
    subst ha
    exact wp_value_vc hh
  · rename_i x y ha
    have ha := h2 x y ha
    subst ha
    exact wp_value_vc hh
  · rename_i x y ha
    have ha := h2 x y ha
    subst ha
    exact wp_value_vc hh
  · exact hraw hh
theorem resolve_func {P : Program} {ρ : Operand → Value} {f : FuncId} {args : Array Operand} {ts : Array TypeId} {t : TypeId} {h : Hp} (hρ : ρ (.func f) = .func (.func f) #[] #[]) :
    (resolve ρ ⟨.value (.func f), args, ts⟩ t).rd P h = some { target := .fn (.func f) #[], args := #[] ++ args.map ρ } := by
  unfold resolve
  simp only [hρ]
  rfl
theorem resolve_builtin {P : Program} {ρ : Operand → Value} {b : Builtin} {args : Array Operand} {ts : Array TypeId} {t : TypeId} {h : Hp} :
    (resolve ρ ⟨.builtin b, args, ts⟩ t).rd P h = some { target := .builtin b ts t (constsOf args), args := args.map ρ } := rfl
theorem resolve_invoke {P : Program} {ρ : Operand → Value} {r : Operand} {m : String} {args : Array Operand} {ts : Array TypeId} {t : TypeId} {h : Hp} :
    (resolve ρ ⟨.invoke r m, args, ts⟩ t).rd P h = some { target := .fn (.method m) #[], args := #[ρ r] ++ args.map ρ } := rfl
theorem invoke_builtin {P : Program} {b : Builtin} {args : Array Value} {ts : Array TypeId} {t : TypeId} {cs : Array Bool} {K : Value → Hp → Prop} {h : Hp} (hh : rawWp P (builtin b ts t cs args) K h) :
    rawWp P (invoke (.builtin b ts t cs) args) K h := hh
theorem invoke_method {P : Program} {m : String} {r : Value} {args : Array Value} {K : Value → Hp → Prop} {h : Hp} (hh : rawWp P (callMethod r m args) K h) :
    rawWp P (invoke (.fn (.method m) #[]) (#[r] ++ args)) K h := by
  have h2 : (#[r] ++ args).extract 1 (#[r] ++ args).size = args := by
    apply Array.ext'
    rw [Array.toList_extract, List.extract_eq_take_drop]
    simp
    exact List.take_of_length_le (by simp)
  have e : invoke (.fn (.method m) #[]) (#[r] ++ args) = callMethod r m ((#[r] ++ args).extract 1 (#[r] ++ args).size) := by
    unfold invoke
    have h1 : (#[r] ++ args)[0]? = some r := by rw [Array.getElem?_append_left (by simp)]; rfl
    simp only
    rw [h1]
  rw [e, h2]
  exact hh
theorem denCall_sound (P : Program) (ρ : Operand → Value) (hρ : ∀ f, ρ (.func f) = .func (.func f) #[] #[]) (o : Oper) (c : Call) (K : Value → Hp → Prop) (h : Hp) (hh : (denCall P ρ o c).wp K h) :
    rawWp P (do let d ← resolve ρ c o.type; invoke d.target d.args) K h := by
  obtain ⟨callee, args, ts⟩ := c
  cases callee with
  | value f =>
    cases f with
    | func f =>
      refine vc_rd_bind (resolve_func (hρ f)) ?_
      show rawWp P (callFunc f (#[] ++ args.map ρ ++ #[])) K h
      simp only [denCall, mapL_eq] at hh
      split at hh
      · rename_i hb
        have hh : CallH P f (args.map ρ) K h := hh
        exact callFunc_bodied hb (by simpa using hh)
      · have : exW P f (args.map ρ) K h := hh
        have := this.ok
        simpa using this
    | tmp t => simp only [denCall, mapL_eq] at hh; exact CallW.ok hh
    | const v => simp only [denCall, mapL_eq] at hh; exact CallW.ok hh
    | global g => simp only [denCall, mapL_eq] at hh; exact CallW.ok hh
  | invoke r m =>
    refine vc_rd_bind resolve_invoke ?_
    simp only [denCall, mapL_eq] at hh
    exact invoke_method (CallW.ok hh)
  | builtin b =>
    refine vc_rd_bind resolve_builtin ?_
    simp only [denCall, mapL_eq] at hh
    exact invoke_builtin (denBuiltin_sound (cs := constsOf args) (raw := .ef (biW P b ts o.type (constsOf args) (args.map ρ))) (fun hr => hr) (by simpa using hh))
theorem putL_set (c : Array Value) (off : Nat) (v : Value) (hv : one v = true) : putL c off v.cells.toList = c.setIfInBounds off v := by
  cases v <;> first | (cases hv; done) | rfl
theorem cells_one {v : Value} (hv : one v = true) : v.cells = #[v] := by
  cases v <;> first | (cases hv; done) | rfl
theorem wp_pu {P : Program} {s : Sem Value} {v : Option Value} {K : Value → Hp → Prop} {h : Hp} (hv : ∀ x, v = some x → s.rd P h = some x) (hh : vP v fun x => K x h) : rawWp P (do Pure.pure (Next.value (← s))) K h := by
  rw [vP_iff] at hh
  obtain ⟨x, hx, k⟩ := hh
  exact wp_value (hv x hx) k
theorem rd_loadAt {P : Program} {t : TypeId} {x v : Value} {h : Hp} (e : ((P.underlying t).map aggD) = some false) (hv : ld1 x h = some v) : (Instr.loadAt t x).rd P h = some v := by
  unfold ld1 at hv
  split at hv
  · rename_i a
    unfold Instr.loadAt
    rw [rd_seq (s := Instr.sureAddr (.pointer (some a))) (a := a) rfl]
    exact rd_loadVar1 e hv
  · cases hv
theorem rd_loadAtN {P : Program} {t : TypeId} {x v : Value} {h : Hp} (e : ((P.underlying t).map aggD) = some true) (hv : ldN (szOf P t) x h = some v) : (Instr.loadAt t x).rd P h = some v := by
  unfold ldN at hv
  split at hv
  · rename_i a
    cases hr : h.row a (szOf P t) with
    | none => rw [hr] at hv; cases hv
    | some r =>
      rw [hr] at hv
      cases hv
      unfold Instr.loadAt
      rw [rd_seq (s := Instr.sureAddr (.pointer (some a))) (a := a) rfl]
      exact rd_loadVarN e hr
  · cases hv
theorem vc_storeAt1 {P : Program} {t : TypeId} {x v : Value} {K : Value → Hp → Prop} {h : Hp} (hs : szOf P t = 1) (hh : st1 x v K h) : (Instr.storeAt t x v).vc P (fun _ => K undef) h := by
  unfold st1 at hh
  split at hh
  · rename_i a
    obtain ⟨h1, h2, c, e, hb, hl, hk⟩ := hh
    unfold Instr.storeAt
    refine vc_rd_bind (s := Instr.sureAddr (.pointer (some a))) (a := a) rfl ?_
    refine vc_storeVar (szOf_pos (by omega)) hb h2 (by rw [cells_one h1, hs]; rfl) (by rw [cells_one h1]; simp [h1]) (by omega) ?_
    rw [putL_set _ _ _ h1]
    exact hk
  · exact hh.elim
theorem vc_storeAtN {P : Program} {t : TypeId} {x v : Value} {K : Value → Hp → Prop} {h : Hp} (hi : (P.info? t).isSome = true) (hh : stN (szOf P t) x v K h) : (Instr.storeAt t x v).vc P (fun _ => K undef) h := by
  unfold stN at hh
  split at hh
  · rename_i a
    obtain ⟨h0, h1, h2, c, e, hb, hl, hk⟩ := hh
    unfold Instr.storeAt
    refine vc_rd_bind (s := Instr.sureAddr (.pointer (some a))) (a := a) rfl ?_
    exact vc_storeVar hi hb h2 h0 h1 hl hk
  · exact hh.elim
theorem den_sound (P : Program) (ρ : Operand → Value) (hρ : ∀ f, ρ (.func f) = .func (.func f) #[] #[]) (o : Oper) (K : Value → Hp → Prop) (h : Hp) (hh : (den P ρ o).wp K h) : rawWp P (execOp ρ o) K h := by
  unfold den at hh
  split at hh <;> rename_i ho
  case h_1 x => unfold execOp; rw [ho]; exact hh
  case h_2 x => unfold execOp; rw [ho]; exact hh
  case h_3 c a b => unfold execOp; rw [ho]; exact wp_pick hh
  case h_4 e => unfold execOp; rw [ho]; exact wp_value_vc (wp_alloc hh)
  case h_5 e x => unfold execOp; rw [ho]; exact wp_value_vc hh
  case h_6 t ps =>
    unfold execOp; rw [ho]
    refine wp_pu (v := _) (fun x hx => ?_) hh
    split at hx
    · rename_i z l hz hl
      split at hx
      · rename_i hlay
        cases hb : bldV z.cells l with
        | none => rw [hb] at hx; cases hx
        | some r => rw [hb] at hx; cases hx; exact rd_build hz hl hb hlay _ (by simp)
      · cases hx
    · cases hx
  case h_7 t n ps =>
    unfold execOp; rw [ho]
    refine wp_value_vc ?_
    simp only [Den.wp] at hh
    split at hh
    · rename_i e hu
      split at hh
      · rename_i z l hz hl
        split at hh
        · rename_i hn
          rw [zerosL_eq] at hh
          have hn : n * szOf P e ≤ 2 ^ 24 := Nat.le_of_ble_eq_true hn
          cases hb : bldV ((Array.range (n * szOf P e)).map fun i => z.cells[i % z.cells.size]!) l with
          | none => rw [hb] at hh; exact hh.elim
          | some c => rw [hb] at hh; exact vc_buildSlice _ hu hz (by simpa using hl) hn hb hh
        · exact hh.elim
      · exact hh.elim
    · exact hh.elim
  case h_8 t x =>
    unfold execOp; rw [ho]
    split at hh
    · rename_i d hu
      cases ha : aggD d with
      | true =>
        rw [ha] at hh
        exact wp_pu (fun v hv => rd_loadAtN (by rw [hu]; exact congrArg some ha) hv) hh
      | false =>
        rw [ha] at hh
        exact wp_pu (fun v hv => rd_loadAt (by rw [hu]; exact congrArg some ha) hv) hh
    · exact hh.elim
  case h_9 t a x =>
    split at hh
    · rename_i d hu
      unfold execOp; rw [ho]
      cases hc : (!aggD d && Nat.beq (szOf P t) 1) with
      | true =>
        rw [hc] at hh
        simp only [Bool.and_eq_true] at hc
        exact wp_unit_vc (vc_storeAt1 (Nat.eq_of_beq_eq_true hc.2) hh)
      | false =>
        rw [hc] at hh
        exact wp_unit_vc (vc_storeAtN (isSome_info_of_underlying hu) hh)
    · exact hh
  case h_10 x =>
    simp only [Den.wp, vP_iff] at hh
    obtain ⟨v, hv, hk⟩ := hh
    exact rd_vc (rd_nil ho hv) hk
  case h_11 t x y yt =>
    have e : execOp ρ o = (do Pure.pure (Next.value (← (do eqGuard .eql t x y (ρ x) (ρ y); binOp .eql t (ρ x) (ρ y) : Sem Value)))) := by unfold execOp; rw [ho]
    have := wp_eq (neg := false) (t := t) (x := x) (y := y) (ρ := ρ) (other := .ef (gnW P (execOp ρ o))) (K := K) (h := h) (fun hr => by rw [show (if false = true then BinOp.neq else BinOp.eql) = .eql from rfl, ← e]; exact hr) hh
    rw [e]
    exact this
  case h_12 t x y yt =>
    have e : execOp ρ o = (do Pure.pure (Next.value (← (do eqGuard .neq t x y (ρ x) (ρ y); binOp .neq t (ρ x) (ρ y) : Sem Value)))) := by unfold execOp; rw [ho]
    have := wp_eq (neg := true) (t := t) (x := x) (y := y) (ρ := ρ) (other := .ef (gnW P (execOp ρ o))) (K := K) (h := h) (fun hr => by rw [show (if true = true then BinOp.neq else BinOp.eql) = .neq from rfl, ← e]; exact hr) hh
    rw [e]
    exact this
  case h_13 op t x y yt h1 h2 =>
    unfold execOp; rw [ho]
    refine wp_pu (v := _) (fun v hv => ?_) hh
    have hg : (eqGuard op t x y (ρ x) (ρ y)).rd P h = some () := by
      unfold eqGuard
      cases op <;> first | rfl | exact (h1 rfl).elim | exact (h2 rfl).elim
    rw [rd_seq hg]
    exact rd_binV t hv
  case h_14 op t x => unfold execOp; rw [ho]; exact wp_pu (fun v hv => rd_unV hv) hh
  case h_15 fn f c => unfold execOp; rw [ho]; simp only [mapL_eq] at hh; exact hh
  case h_16 t x =>
    unfold execOp; rw [ho]
    refine wp_pu (v := _) (fun v hv => ?_) hh
    split at hv
    · cases hv
    · cases hv
    · rename_i d hd hu
      cases hv
      unfold Instr.makeInterface
      rw [rd_seq (by rw [rd_underlying]; exact hu)]
      cases d <;> first | exact (hd _ rfl).elim | rfl
  case h_17 s d x =>
    split at hh
    · rename_i ds k hs hd
      unfold execOp; rw [ho]
      exact wp_pu (fun v hv => rd_convV hs hd hv) hh
    · exact hh
  case h_18 t => unfold execOp; rw [ho]; exact wp_value_vc hh
  case h_19 t l c =>
    unfold execOp; rw [ho]
    refine wp_value_vc ?_
    simp only [Den.wp] at hh
    split at hh
    · rename_i e hu
      split at hh
      · rename_i i z hi hz
        exact vc_makeSlice hu hi hz hh
      · exact hh.elim
    · exact hh.elim
  case h_20 t x lo hi mx =>
    split at hh
    · rename_i e hu
      split at hh
      · rename_i hi
        unfold execOp; rw [ho]
        exact wp_pu (fun v hv => rd_slV hu hi hv) hh
      · exact hh
    · rename_i n e hu
      split at hh
      · rename_i hi
        unfold execOp; rw [ho]
        exact wp_pu (fun v hv => rd_slA hu hi hv) hh
      · exact hh
    · exact hh
  case h_21 t x f =>
    split at hh
    · rename_i fs hu
      split at hh
      · rename_i fd hf
        split at hh
        · exact hh
        · rename_i hz
          have hz : szOf P fd.type ≠ 0 := fun e => hz (by rw [e]; rfl)
          unfold execOp; rw [ho]
          exact wp_pu (fun v hv => rd_faV (t := t) (f := f) (off := fd.offset) (sz := szOf P fd.type) (by rw [hu]; simp [hf]) hz hv) hh
      · exact hh
    · exact hh
  case h_22 t x i =>
    split at hh
    · rename_i e hu
      split at hh
      · rename_i hi
        unfold execOp; rw [ho]
        exact wp_pu (fun v hv => rd_iaS hu hi hv) hh
      · exact hh
    · rename_i n e hu
      split at hh
      · rename_i hi
        unfold execOp; rw [ho]
        exact wp_pu (fun v hv => rd_iaA hu hi hv) hh
      · exact hh
    · exact hh
  case h_23 t x i =>
    split at hh
    · rename_i n e hu
      split at hh
      · rename_i d hd
        unfold execOp; rw [ho]
        exact wp_pu (fun v hv => rd_ixA hu hd hv) hh
      · exact hh
    · exact hh
  case h_24 t x f =>
    split at hh
    · rename_i fs hu
      split at hh
      · rename_i fd hf
        split at hh
        · rename_i d hd
          unfold execOp; rw [ho]
          refine wp_pu (fun v hv => ?_) hh
          unfold fdV at hv
          split at hv
          · rename_i cs hx
            rw [hx]
            unfold Instr.field
            rw [rd_seq (by rw [rd_underlying]; exact hu)]
            simp only [hf]
            rw [rd_seq (s := asAgg (.agg cs)) (a := cs) rfl]
            exact rd_part hd hv
          · cases hv
        · exact hh
      · exact hh
    · exact hh
  case h_25 t x i ok => unfold execOp; rw [ho]; exact wp_pu (fun v hv => hv) hh
  case h_26 t m k v => unfold execOp; rw [ho]; exact wp_unit_vc hh
  case h_27 t m k v => unfold execOp; rw [ho]; exact wp_unit_vc hh
  case h_28 t m k => unfold execOp; rw [ho]; exact wp_value_vc hh
  case h_29 t m s v => unfold execOp; rw [ho]; exact wp_unit_vc hh
  case h_30 t x => unfold execOp; rw [ho]; exact wp_value_vc hh
  case h_31 it b => unfold execOp; rw [ho]; exact wp_value_vc hh
  case h_32 it => unfold execOp; rw [ho]; exact wp_pu (fun v hv => hv) hh
  case h_33 x i => unfold execOp; rw [ho]; exact wp_pu (fun v hv => rd_exV hv) hh
  case h_34 x xt t ok =>
    split at hh
    · exact hh
    · exact hh
    · rename_i d hd hu
      split at hh
      · rename_i z hz
        unfold execOp; rw [ho]
        exact wp_pu (fun v hv => rd_taV hu (fun ms e => hd ms e) hz hv) hh
      · exact hh
  case h_35 c => unfold execOp; rw [ho]; exact denCall_sound P ρ hρ o c K h hh
  case h_36 cs b => exact hh.elim
  case h_37 => exact hh
end Go.Sl
namespace Go.Sl
theorem storeV_ok1 (x v : Value) : EfOk (st1 x v) where
  mono {K K' h} hk hh := by
    unfold st1 at *
    split at hh
    · obtain ⟨h1, h2, c, e, hb, hl, hK⟩ := hh; exact ⟨h1, h2, c, e, hb, hl, hk _ _ hK⟩
    · exact hh
  frame {K h} hh g d := by
    unfold st1 at *
    split at hh
    · obtain ⟨h1, h2, c, e, hb, hl, hK⟩ := hh
      exact ⟨h1, h2, c, e, Hp.add_of_left hb, hl, _, d.upd_mem hb, by rw [Hp.upd_mem_add], hK⟩
    · exact hh.elim
  some {K h} hh := by
    unfold st1 at hh
    split at hh
    · obtain ⟨h1, h2, c, e, hb, hl, hK⟩ := hh; exact ⟨_, _, hK⟩
    · exact hh.elim
theorem storeV_okN (n : Nat) (x v : Value) : EfOk (stN n x v) where
  mono {K K' h} hk hh := by
    unfold stN at *
    split at hh
    · obtain ⟨h0, h1, h2, c, e, hb, hl, hK⟩ := hh; exact ⟨h0, h1, h2, c, e, hb, hl, hk _ _ hK⟩
    · exact hh
  frame {K h} hh g d := by
    unfold stN at *
    split at hh
    · obtain ⟨h0, h1, h2, c, e, hb, hl, hK⟩ := hh
      exact ⟨h0, h1, h2, c, e, Hp.add_of_left hb, hl, _, d.upd_mem hb, by rw [Hp.upd_mem_add], hK⟩
    · exact hh.elim
  some {K h} hh := by
    unfold stN at hh
    split at hh
    · obtain ⟨h0, h1, h2, c, e, hb, hl, hK⟩ := hh; exact ⟨_, _, hK⟩
    · exact hh.elim
theorem vc_ok (P : Program) (s : Sem Value) : EfOk fun K h => s.vc P K h where
  mono hk hh := vc_mono hk hh
  frame hh g d := vc_frame hh g d
  some hh := vc_some hh
theorem vcU_ok (P : Program) (s : Sem Unit) : EfOk fun (K : Value → Hp → Prop) h => s.vc P (fun _ => K undef) h where
  mono hk hh := vc_mono (fun _ h => hk _ h) hh
  frame hh g d := vc_frame hh g d
  some hh := by obtain ⟨_, h', hK⟩ := vc_some hh; exact ⟨_, h', hK⟩
theorem call_ok (P : Program) (f : FuncId) (args : Array Value) : EfOk (CallH P f args) where
  mono hk hh := hh.mono hk
  frame hh g d := hh.frame g d
  some hh := hh.some
theorem false_ok : EfOk fun _ _ => False where
  mono _ hh := hh
  frame hh _ _ := hh.elim
  some hh := hh.elim
theorem lenM_mono (x : Value) (h f : Hp) (v : Value) (hv : lenM x h = some v) : lenM x (h.add f) = some v := by
  unfold lenM at *
  split at hv
  · exact hv
  · rename_i r
    split at hv
    · rename_i hr; rw [Hp.add_of_left hr]; exact hv
    · cases hv
  · cases hv
theorem denBuiltin_ok (P : Program) (b : Builtin) (ts : Array TypeId) (t : TypeId) (args : List Value) (raw : Den) (hr : raw.Ok) : (denBuiltin P b ts t args raw).Ok := by
  unfold denBuiltin
  split
  · split <;> first | exact trivial | exact hr | exact fun h f v _ hv => lenM_mono _ h f v hv
  · split <;> first | exact trivial | exact hr
  · exact vc_ok P _
  · exact trivial
  · exact trivial
  · exact vc_ok P _
  · exact vc_ok P _
  · exact vc_ok P _
  · exact hr
theorem denEq_ok (P : Program) (neg : Bool) (t : TypeId) (x y : Operand) (ρ : Operand → Value) (other : Den) (hr : other.Ok) : (denEq P neg t x y ρ other).Ok := by
  unfold denEq
  split
  · split <;> first | exact trivial | exact hr
  · exact trivial
  · exact trivial
  · exact trivial
  · split <;> first | exact trivial | exact hr
theorem den_ok (P : Program) (ρ : Operand → Value) (o : Oper) : (den P ρ o).Ok := by
  have raw : (Den.ef (gnW P (execOp ρ o))).Ok := rawWp_ok P _
  unfold den
  split
  all_goals first
    | exact trivial
    | exact raw
    | exact denEq_ok P _ _ _ _ ρ _ raw
    | skip
  · split
    · rename_i d _
      cases aggD d
      · exact fun h f v _ hv => ld1_mono _ h f v hv
      · exact fun h f v _ hv => ldN_mono _ _ h f v hv
    · exact fun h f v _ hv => hv
  · split
    · rename_i d _
      cases (!aggD d && Nat.beq (szOf P _) 1)
      · exact storeV_okN _ _ _
      · exact storeV_ok1 _ _
    · exact raw
  · split <;> first | exact trivial | exact raw
  · split <;> first | exact raw | (split <;> first | exact trivial | exact raw)
  · split <;> first | exact raw | (split <;> first | exact raw | (split <;> first | exact trivial | exact raw))
  · split <;> first | exact raw | (split <;> first | exact trivial | exact raw)
  · split <;> first | exact raw | (split <;> first | exact trivial | exact raw)
  · split <;> first | exact raw | (split <;> first | exact raw | (split <;> first | exact trivial | exact raw))
  · exact fun h f v _ hv => rd_mono hv
  · exact vcU_ok P _
  · exact vcU_ok P _
  · exact vc_ok P _
  · exact vcU_ok P _
  · exact vc_ok P _
  · exact vc_ok P _
  · exact fun h f v _ hv => rd_mono hv
  · split <;> first | exact raw | (split <;> first | exact trivial | exact raw)
  · unfold denCall
    split
    · split
      · exact call_ok P _ _
      · exact CallW_ok P _
    · exact CallW_ok P _
    · exact CallW_ok P _
    · exact denBuiltin_ok P _ _ _ _ _ (rawWp_ok P _)
  · exact false_ok
def kindV (P : Program) (o : Oper) : Kind := (den P (fun _ => undef) o).kind
theorem kind_denEq (P : Program) (neg : Bool) (t : TypeId) (x y : Operand) (ρ ρ' : Operand → Value) (a b : Den) (h : a.kind = b.kind) : (denEq P neg t x y ρ a).kind = (denEq P neg t x y ρ' b).kind := by
  unfold denEq
  split
  · cases eqTags P t <;> first | exact h | rfl
  · rfl
  · rfl
  · rfl
  · split <;> first | rfl | exact h
theorem kind_denBuiltin (P : Program) (b : Builtin) (ts : Array TypeId) (t : TypeId) : ∀ (l l' : List Value), l.length = l'.length → ∀ (r r' : Den), r.kind = r'.kind → (denBuiltin P b ts t l r).kind = (denBuiltin P b ts t l' r').kind
  | [], [], _, r, r', h => by cases b <;> exact h
  | [x], [x'], _, r, r', h => by
    cases b <;> first | exact h | rfl | skip
    · simp only [denBuiltin]
      cases (ts[0]?).bind P.underlying with
      | none => exact h
      | some d => cases d <;> first | rfl | exact h
    · simp only [denBuiltin]
      cases (ts[0]?).bind P.underlying with
      | none => exact h
      | some d => cases d <;> first | rfl | exact h
  | [x, y], [x', y'], _, r, r', h => by cases b <;> first | exact h | rfl
  | x :: y :: z :: l, x' :: y' :: z' :: l', _, r, r', h => by cases b <;> exact h
  | [], _ :: _, hl, _, _, _ => by simp at hl
  | _ :: _, [], hl, _, _, _ => by simp at hl
  | [_], _ :: _ :: _, hl, _, _, _ => by simp at hl
  | _ :: _ :: _, [_], hl, _, _, _ => by simp at hl
  | [_, _], _ :: _ :: _ :: _, hl, _, _, _ => by simp at hl
  | _ :: _ :: _ :: _, [_, _], hl, _, _, _ => by simp at hl
theorem kind_den (P : Program) (ρ ρ' : Operand → Value) (o : Oper) : (den P ρ o).kind = (den P ρ' o).kind := by
  unfold den
  split
  all_goals first
    | rfl
    | exact kind_denEq P _ _ _ _ ρ ρ' _ _ rfl
    | skip
  · rename_i t x _
    cases P.underlying t with
    | none => rfl
    | some d => simp only; cases aggD d <;> rfl
  · rename_i t a x _
    cases P.underlying t with
    | none => rfl
    | some d => simp only; cases (!aggD d && Nat.beq (szOf P t) 1) <;> rfl
  · rename_i s d x _
    cases P.underlying s with
    | none => rfl
    | some ds => cases P.underlying d with
      | none => rfl
      | some dd => cases dd <;> rfl
  · rename_i t x lo hi mx _
    cases P.underlying t with
    | none => rfl
    | some d => cases d <;> first | rfl | (simp only; split <;> rfl)
  · rename_i t x f _
    cases P.underlying t with
    | none => rfl
    | some d =>
      cases d <;> first | rfl | skip
      rename_i fs
      simp only
      cases fs[f]? with
      | none => rfl
      | some fd => simp only; split <;> rfl
  · rename_i t x i _
    cases P.underlying t with
    | none => rfl
    | some d => cases d <;> first | rfl | (simp only; split <;> rfl)
  · rename_i t x i _
    cases P.underlying t with
    | none => rfl
    | some d =>
      cases d <;> first | rfl | skip
      rename_i n e
      simp only
      cases P.underlying e <;> rfl
  · rename_i t x f _
    cases P.underlying t with
    | none => rfl
    | some d =>
      cases d <;> first | rfl | skip
      rename_i fs
      simp only
      cases fs[f]? with
      | none => rfl
      | some fd => simp only; cases P.underlying fd.type <;> rfl
  · rename_i x xt t ok _
    cases P.underlying t with
    | none => rfl
    | some d =>
      cases d <;> first | rfl | skip
      all_goals (simp only; cases zOf P t <;> rfl)
  · rename_i c _
    unfold denCall
    split
    · split <;> rfl
    · rfl
    · rfl
    · exact kind_denBuiltin P _ _ _ _ _ (by simp) _ _ rfl
theorem kindOf_den (P : Program) (ρ : Operand → Value) (o : Oper) : (den P ρ o).kind = kindV P o := kind_den P _ _ o
theorem op1 {ρ ρ' : Operand → Value} {x : Operand} (h : ∀ y ∈ #[x], ρ y = ρ' y) : ρ x = ρ' x := h x (by simp)
theorem op2 {ρ ρ' : Operand → Value} {x z : Operand} (h : ∀ y ∈ #[x, z], ρ y = ρ' y) : ρ x = ρ' x ∧ ρ z = ρ' z := ⟨h x (by simp), h z (by simp)⟩
theorem op3 {ρ ρ' : Operand → Value} {x z u : Operand} (h : ∀ y ∈ #[x, z, u], ρ y = ρ' y) : ρ x = ρ' x ∧ ρ z = ρ' z ∧ ρ u = ρ' u := ⟨h x (by simp), h z (by simp), h u (by simp)⟩
theorem opPairs {ρ ρ' : Operand → Value} {ps : Array (Nat × Operand)} (h : ∀ y ∈ (ps.toList.map (·.2)).toArray, ρ y = ρ' y) : (ps.toList.map fun p => (p.1, ρ p.2)) = ps.toList.map fun p => (p.1, ρ' p.2) :=
  List.map_congr_left fun p hp => by rw [h p.2 (by simp; exact ⟨p.1, by simpa using hp⟩)]
theorem opMap {ρ ρ' : Operand → Value} {l : Array Operand} (h : ∀ y ∈ l, ρ y = ρ' y) : l.map ρ = l.map ρ' := Array.map_congr_left h
theorem denCall_congr (P : Program) (ρ ρ' : Operand → Value) (o : Oper) (c : Call) (h : ∀ x ∈ c.operands, ρ x = ρ' x) : denCall P ρ o c = denCall P ρ' o c := by
  unfold denCall
  simp only [mapL_eq]
  have ha : c.args.map ρ = c.args.map ρ' := opMap fun x hx => h x (by simp [Call.operands, hx])
  have hl : c.args.toList.map ρ = c.args.toList.map ρ' := by
    have := congrArg Array.toList ha
    simpa using this
  rw [ha, hl]
  cases hc : c.callee with
  | value f =>
    have hf : ρ f = ρ' f := h f (by simp [Call.operands, hc])
    cases f <;> simp only [hf]
  | invoke r m =>
    have hr : ρ r = ρ' r := h r (by simp [Call.operands, hc])
    simp only [hr]
  | builtin b => rfl
theorem den_congr (P : Program) (ρ ρ' : Operand → Value) (o : Oper) (h : ∀ x ∈ o.op.operands, ρ x = ρ' x) : den P ρ o = den P ρ' o := by
  by_cases hs : ∃ cs b, o.op = .select cs b
  · obtain ⟨cs, b, hs⟩ := hs
    unfold den
    rw [hs]
  · have hraw : execOp ρ o = execOp ρ' o := execOp_congr o (fun cs b e => hs ⟨cs, b, e⟩) h
    unfold den
    rw [hraw]
    split
    all_goals first | rfl | skip
    all_goals rename_i ho; rw [ho] at h; simp only [Op.operands] at h
    all_goals first
      | (rw [op1 h]; done)
      | (rw [(op2 h).1, (op2 h).2]; done)
      | (rw [(op3 h).1, (op3 h).2.1, (op3 h).2.2]; done)
      | (rw [opPairs h]; done)
      | (unfold denEq; rw [(op2 h).1, (op2 h).2]; done)
      | exact denCall_congr P ρ ρ' o _ h
      | skip
    · rename_i fn f c
      rw [mapL_eq, mapL_eq, mapL_eq, mapL_eq, opMap (fun x hx => h x (by simp [hx])), opMap (fun x hx => h x (by simp [hx]))]
    · rename_i t x lo hi mx
      have e1 : ρ x = ρ' x := h x (by simp)
      have e2 : lo.map ρ = lo.map ρ' := by cases lo with
        | none => rfl
        | some y => exact congrArg some (h y (by simp))
      have e3 : hi.map ρ = hi.map ρ' := by cases hi with
        | none => rfl
        | some y => exact congrArg some (h y (by simp))
      have e4 : mx.map ρ = mx.map ρ' := by cases mx with
        | none => rfl
        | some y => exact congrArg some (h y (by simp))
      rw [e1, e2, e3, e4]
def sys (P : Program) : Sys P where
  D := den P
  kind := kindV P
  ok := den_ok P
  kindOf := kindOf_den P
  sound σ o K h hh := den_sound P (ev σ) (fun _ => rfl) o K h hh
  congr ρ ρ' o h := den_congr P ρ ρ' o h
  mv ρ o x h := by
    unfold den
    cases ho : o.op <;> rw [ho] at h <;> simp only [mvOf, Option.some.injEq] at h <;> first | (subst h; rfl) | cases h
def gB (v : Value) (want : Bool) : Bool := (match v with
  | .bool b => some b
  | _ => none) == some want
def resOne (P : Program) (σ : St) (h : Hp) : ResultVar → Option Value
  | .tmp t => some (σ t)
  | .cell a t => match P.underlying t with
    | some d => bif aggD d then ldN (szOf P t) (σ a) h else ld1 (σ a) h
    | none => none
def resAll (P : Program) (σ : St) (h : Hp) : List ResultVar → Option (List Value)
  | [] => some []
  | r :: rs => match resOne P σ h r, resAll P σ h rs with
    | some v, some vs => some (v :: vs)
    | _, _ => none
def resV (P : Program) (fn : Func) (σ : St) (h : Hp) : Option Value :=
  match resAll P σ h fn.results.toList with
  | some [v] => some v
  | some vs => some (.tuple vs.toArray)
  | none => none
def resSem (tmps : Array Value) : ResultVar → Sem Value
  | .tmp t => Pure.pure (tmps.getD t undef)
  | .cell a t => do loadVar t (← asAddr (tmps.getD a undef))
theorem results_eq (fn : Func) (tmps : Array Value) : results fn tmps = (do
    let vs ← fn.results.mapM (resSem tmps)
    Pure.pure (if h : vs.size = 1 then vs[0] else .tuple vs)) := by
  unfold results
  congr 1
theorem rd_resOne {P : Program} {n : Nat} {σ : St} {a : Act} {h : Hp} (r : Rel n σ a) : ∀ (x : ResultVar) (w : Value), resOne P σ h x = some w → (resSem a.tmps x).rd P h = some w := by
  intro x w hw
  cases x with
  | tmp t =>
    simp only [resOne] at hw
    show some (a.tmps.getD t undef) = some w
    rw [r.slot]; exact hw
  | cell b t =>
    simp only [resOne] at hw
    show (do loadVar t (← asAddr (a.tmps.getD b undef)) : Sem Value).rd P h = some w
    rw [r.slot]
    cases hu : P.underlying t with
    | none => rw [hu] at hw; cases hw
    | some d =>
      rw [hu] at hw
      simp only at hw
      cases ha : aggD d with
      | true =>
        rw [ha] at hw
        have := rd_loadAtN (t := t) (x := σ b) (v := w) (h := h) (P := P) (by rw [hu]; exact congrArg some ha) hw
        simp only [cond_true, ldN] at hw
        split at hw
        · rename_i ad hx
          rw [hx] at this ⊢
          exact this
        · cases hw
      | false =>
        rw [ha] at hw
        have := rd_loadAt (t := t) (x := σ b) (v := w) (h := h) (P := P) (by rw [hu]; exact congrArg some ha) hw
        simp only [cond_false, ld1] at hw
        split at hw
        · rename_i ad hx
          rw [hx] at this ⊢
          exact this
        · cases hw
theorem rd_resAll {P : Program} {n : Nat} {σ : St} {a : Act} {h : Hp} (r : Rel n σ a) : ∀ (l : List ResultVar) (ws : List Value), resAll P σ h l = some ws → (l.mapM (resSem a.tmps)).rd P h = some ws := by
  have := sem_lawful
  intro l
  induction l with
  | nil => intro ws hw; simp only [resAll, Option.some.injEq] at hw; subst hw; rfl
  | cons x l ih =>
    intro ws hw
    simp only [resAll] at hw
    cases h1 : resOne P σ h x with
    | none => rw [h1] at hw; cases hw
    | some v1 =>
      rw [h1] at hw
      cases h2 : resAll P σ h l with
      | none => rw [h2] at hw; cases hw
      | some vs =>
        rw [h2] at hw
        simp only [Option.some.injEq] at hw
        subst hw
        rw [List.mapM_cons, rd_seq (rd_resOne r x v1 h1), rd_seq (ih vs h2)]
        rfl
theorem rd_results {P : Program} {n : Nat} {fn : Func} {σ : St} {a : Act} {h : Hp} {v : Value} (r : Rel n σ a) (hh : resV P fn σ h = some v) : (results fn a.tmps).rd P h = some v := by
  unfold resV at hh
  cases hr : resAll P σ h fn.results.toList with
  | none => rw [hr] at hh; cases hh
  | some vs =>
    rw [hr] at hh
    have := sem_lawful
    have e : (fn.results.mapM (resSem a.tmps)).rd P h = some vs.toArray := by
      rw [Array.mapM_eq_mapM_toList, rd_map, rd_resAll r _ _ hr]; rfl
    rw [results_eq, rd_seq e]
    cases vs with
    | nil => cases hh; rfl
    | cons v1 vs => cases vs with
      | nil => cases hh; rfl
      | cons v2 vs => cases hh; rfl
def resC (P : Program) (σ : St) (h : Hp) : List ResultVar → List Value → (List Value → Prop) → Prop
  | [], acc, k => k acc.reverse
  | r :: rs, acc, k => vP (resOne P σ h r) fun v => resC P σ h rs (v :: acc) k
theorem resC_all {P : Program} {σ : St} {h : Hp} {k : List Value → Prop} : ∀ (l : List ResultVar) (acc : List Value), resC P σ h l acc k → ∃ vs, resAll P σ h l = some vs ∧ k (acc.reverse ++ vs)
  | [], acc, hh => ⟨[], rfl, by simpa [resC] using hh⟩
  | r :: rs, acc, hh => by
    simp only [resC, vP_iff] at hh
    obtain ⟨v, hv, hh⟩ := hh
    obtain ⟨vs, hvs, hk⟩ := resC_all rs (v :: acc) hh
    exact ⟨v :: vs, by simp [resAll, hv, hvs], by simpa using hk⟩
def one1 : List Value → Value
  | [v] => v
  | vs => .tuple vs.toArray
theorem resV_of {P : Program} {fn : Func} {σ : St} {h : Hp} {vs : List Value} (hr : resAll P σ h fn.results.toList = some vs) : resV P fn σ h = some (one1 vs) := by
  unfold resV
  rw [hr]
  cases vs with
  | nil => rfl
  | cons v vs => cases vs <;> rfl
def fnPost (P : Program) (fn : Func) (K : Value → Hp → Prop) : Post := fun e σ h =>
  match e with
  | .normal | .ret => resC P σ h fn.results.toList [] fun vs => K (one1 vs) h
  | _ => False
def fnVC (P : Program) (fn : Func) (x : Ann) (args : List Value) (K : Value → Hp → Prop) (h : Hp) : Prop :=
  match fn.body with
  | some c => VC (sys P) c x (fnPost P fn K) (fun t => args.getD t undef) h
  | none => False
def fnOk (P : Program) (fn : Func) (x : Ann) (n : Nat) : Bool :=
  decide (n ≤ fn.ntmps) && (match fn.body with
  | some c => annOk (sys P) fn.ntmps c x
  | none => false)
theorem callH_of {P : Program} (hm : P.follows .mixedOrders = true) {f : FuncId} {fn : Func} (hf : P.funcs[f]? = some fn) (x : Ann) (args : List Value) (hok : fnOk P fn x args.length = true)
    {K : Value → Hp → Prop} {h : Hp} (hh : fnVC P fn x args K h) : CallH P f args.toArray K h := by
  intro w fr tg d e
  unfold fnVC at hh
  simp only [fnOk, Bool.and_eq_true, decide_eq_true_eq] at hok
  obtain ⟨hn, hok⟩ := hok
  cases hb : fn.body with
  | none => rw [hb] at hh; exact hh.elim
  | some c =>
    rw [hb] at hh hok
    simp only at hh hok
    refine calls_of_wp hf hb (wp_mono (VC_sound (sys P) hm c x (a := { tmps := args.toArray ++ Array.replicate (fn.ntmps - args.toArray.size) undef, defers := [] }) (fun l σ h hq => hq) hok ?_ d e hh) ?_)
    · refine ⟨rfl, by simp; omega, fun t => ?_⟩
      simp only [Array.getD_eq_getD_getElem?, Array.getElem?_append, List.getD_eq_getElem?_getD]
      by_cases ht : t < args.length
      · simp [ht]
      · simp only [List.size_toArray, ht, if_false, Array.getElem?_replicate]
        rw [List.getElem?_eq_none (by omega)]
        split <;> rfl
    · rintro ex a' w' ⟨σ', h', fr', r', d', e', g', hq⟩
      cases ex <;> simp only [fnPost] at hq <;> first
        | exact hq.elim
        | (obtain ⟨vs, hv, hk⟩ := resC_all _ _ hq
           refine ⟨r'.defers, _, ?_, _, h', fr', rfl, d', e', g', hk⟩
           have := rd_results r' (resV_of hv)
           exact rd_run this e'.1)
end Go.Sl

/-
  Assertions on owned memory, and the walk's rules.
-/
namespace Go.Sl
abbrev Asrt := Hp → Prop
theorem Asrt.ext {P Q : Asrt} (h : ∀ x, P x ↔ Q x) : P = Q := funext fun x => propext (h x)
def star (P Q : Asrt) : Asrt := fun h => ∃ h1 h2, Disj h1 h2 ∧ h = h1.add h2 ∧ P h1 ∧ Q h2
instance : Mul Asrt := ⟨star⟩
theorem star_def (P Q : Asrt) (h : Hp) : (P * Q) h ↔ ∃ h1 h2, Disj h1 h2 ∧ h = h1.add h2 ∧ P h1 ∧ Q h2 := Iff.rfl
theorem star_comm (P Q : Asrt) : P * Q = Q * P := Asrt.ext fun x => by
  simp only [star_def]
  constructor
  · rintro ⟨a, b, d, rfl, p, q⟩; exact ⟨b, a, d.symm, Hp.add_comm d, q, p⟩
  · rintro ⟨a, b, d, rfl, p, q⟩; exact ⟨b, a, d.symm, Hp.add_comm d, q, p⟩
theorem star_assoc (P Q R : Asrt) : P * Q * R = P * (Q * R) := Asrt.ext fun x => by
  simp only [star_def]
  constructor
  · rintro ⟨_, c, d, rfl, ⟨a, b, d', rfl, p, q⟩, r⟩
    obtain ⟨d1, d2⟩ := Disj.add_left.1 d
    exact ⟨a, b.add c, Disj.add_right.2 ⟨d', d1⟩, by rw [Hp.add_assoc], p, b, c, d2, rfl, q, r⟩
  · rintro ⟨a, _, d, rfl, p, b, c, d', rfl, q, r⟩
    obtain ⟨d1, d2⟩ := Disj.add_right.1 d
    exact ⟨a.add b, c, Disj.add_left.2 ⟨d2, d'⟩, by rw [Hp.add_assoc], ⟨a, b, d1, rfl, p, q⟩, r⟩
instance : Std.Commutative (α := Asrt) (· * ·) := ⟨star_comm⟩
instance : Std.Associative (α := Asrt) (· * ·) := ⟨star_assoc⟩
def emp : Asrt := fun h => h = Hp.emp
def tt : Asrt := fun _ => True
def pt (b : Nat) (o : Obj) : Asrt := fun h => h = Hp.emp.upd b o
def pr (p : Prop) : Asrt := fun h => p ∧ h = Hp.emp
def ex {α : Type} (P : α → Asrt) : Asrt := fun h => ∃ a, P a h
theorem emp_star (P : Asrt) : emp * P = P := Asrt.ext fun x => by
  simp only [star_def, emp]
  constructor
  · rintro ⟨a, b, d, rfl, rfl, p⟩; rwa [Hp.emp_add]
  · exact fun p => ⟨_, x, Disj.emp_left x, by rw [Hp.emp_add], rfl, p⟩
theorem star_emp (P : Asrt) : P * emp = P := by rw [star_comm, emp_star]
theorem pr_star {p : Prop} {P : Asrt} {h : Hp} : (pr p * P) h ↔ p ∧ P h := by
  simp only [star_def, pr]
  constructor
  · rintro ⟨a, b, d, rfl, ⟨hp, rfl⟩, q⟩; exact ⟨hp, by rwa [Hp.emp_add]⟩
  · rintro ⟨hp, q⟩; exact ⟨_, h, Disj.emp_left h, by rw [Hp.emp_add], ⟨hp, rfl⟩, q⟩
theorem star_pr {p : Prop} {P : Asrt} {h : Hp} : (P * pr p) h ↔ p ∧ P h := by rw [star_comm, pr_star]
theorem ex_star {α : Type} {P : α → Asrt} {Q : Asrt} {h : Hp} : (ex P * Q) h ↔ ∃ a, (P a * Q) h := by
  simp only [star_def, ex]
  constructor
  · rintro ⟨a, b, d, e, ⟨x, p⟩, q⟩; exact ⟨x, a, b, d, e, p, q⟩
  · rintro ⟨x, a, b, d, e, p, q⟩; exact ⟨a, b, d, e, ⟨x, p⟩, q⟩
theorem star_mono {P P' Q Q' : Asrt} {h : Hp} (hp : ∀ x, P x → P' x) (hq : ∀ x, Q x → Q' x) (hh : (P * Q) h) : (P' * Q') h := by
  obtain ⟨a, b, d, e, p, q⟩ := hh
  exact ⟨a, b, d, e, hp _ p, hq _ q⟩
theorem star_left {P P' Q : Asrt} {h : Hp} (hp : ∀ x, P x → P' x) (hh : (P * Q) h) : (P' * Q) h := star_mono hp (fun _ q => q) hh
theorem star_right {P Q Q' : Asrt} {h : Hp} (hq : ∀ x, Q x → Q' x) (hh : (P * Q) h) : (P * Q') h := star_mono (fun _ p => p) hq hh
theorem to_tt {P Q : Asrt} {h : Hp} (hh : (P * Q) h) : (P * tt) h := star_right (fun _ _ => trivial) hh
theorem tt_intro {P : Asrt} {h : Hp} (hh : P h) : (P * tt) h := to_tt (Q := emp) (by rwa [star_emp])
theorem tt_tt (P : Asrt) : P * tt * tt = P * tt := by
  rw [star_assoc]
  congr 1
  exact Asrt.ext fun x => ⟨fun _ => trivial, fun _ => ⟨x, Hp.emp, Disj.emp x, (Hp.add_emp x).symm, trivial, trivial⟩⟩
theorem asr {P Q : Asrt} {h : Hp} (e : P = Q) (hh : P h) : Q h := e ▸ hh
theorem pt_get {b : Nat} {o : Obj} {F : Asrt} {h : Hp} (hh : (pt b o * F) h) : h b = some o := by
  obtain ⟨a, c, d, rfl, e, q⟩ := hh
  rw [show a = Hp.emp.upd b o from e]
  exact Hp.add_of_left (Hp.upd_self _ _ _)
theorem pt_upd {b : Nat} {o o' : Obj} {F : Asrt} {h : Hp} (hh : (pt b o * F) h) : (pt b o' * F) (h.upd b o') := by
  obtain ⟨a, c, d, rfl, e, q⟩ := hh
  have e : a = Hp.emp.upd b o := e
  subst e
  refine ⟨Hp.emp.upd b o', c, ?_, ?_, rfl, q⟩
  · have := d.upd_mem (o' := o') (Hp.upd_self _ _ _)
    rwa [upd_upd] at this
  · rw [← Hp.upd_mem_add, upd_upd]
theorem pt_new {r : Nat} {o : Obj} {F : Asrt} {h : Hp} (hh : F h) (hr : h r = none) : (pt r o * F) (h.upd r o) := by
  refine ⟨Hp.emp.upd r o, h, (Disj.one o hr).symm, ?_, rfl, hh⟩
  rw [← Hp.add_one o hr, Hp.add_comm (Disj.one o hr)]
theorem pt_ne {a b : Nat} {o q : Obj} {F : Asrt} {h : Hp} (hh : (pt a o * (pt b q * F)) h) : a ≠ b := by
  rintro rfl
  obtain ⟨x, y, d, rfl, e, z, w, d', rfl, e', _⟩ := hh
  have e : x = Hp.emp.upd a o := e
  have e' : z = Hp.emp.upd a q := e'
  subst e; subst e'
  rcases d a with h | h
  · rw [Hp.upd_self] at h; cases h
  · rw [Hp.add_of_left (Hp.upd_self _ _ _)] at h; cases h
def Tr (P : Program) (f : FuncId) (args : Array Value) (pre : Asrt) (post : Value → Asrt) : Prop :=
  ∀ h, pre h → CallH P f args (fun v h' => post v h') h
theorem CallH.drop {P : Program} {f : FuncId} {args : Array Value} {K : Value → Hp → Prop} {h : Hp}
    (hh : CallH P f args (fun v h' => ∃ h1 h2, Disj h1 h2 ∧ h' = h1.add h2 ∧ K v h1) h) : CallH P f args K h := by
  intro w fr tg d e
  refine (hh w fr tg d e).mono ?_
  rintro en w' ⟨v, h', fr', he, d', ⟨e', et⟩, g, h1, h2, d12, rfl, hk⟩
  obtain ⟨d1, d2⟩ := Disj.add_left.1 d'
  refine ⟨v, h1, h2.add fr', he, Disj.add_right.2 ⟨d12, d1⟩, ⟨by rw [e', Hp.add_assoc], et⟩, fun b o hb => ?_, hk⟩
  have := g b o hb
  rcases d2 b with x | x
  · simp [Hp.add_apply, x, this]
  · rw [this] at x; cases x
theorem Tr.of {P : Program} {f : FuncId} {args : Array Value} {pre : Asrt} {post : Value → Asrt} (hh : ∀ h, (pre * tt) h → CallH P f args (fun v h' => (post v * tt) h') h) : Tr P f args pre post :=
  fun h hp => ((hh h (tt_intro hp)).mono (fun v h' ⟨h1, h2, d, e, p, _⟩ => (⟨h1, h2, d, e, p⟩ : ∃ h1 h2, Disj h1 h2 ∧ h' = h1.add h2 ∧ post v h1))).drop
theorem Tr.use {P : Program} {f : FuncId} {args : Array Value} {pre F : Asrt} {post : Value → Asrt} {K : Value → Hp → Prop} {h : Hp} (t : Tr P f args pre post) (hh : (pre * F) h)
    (hk : ∀ v h', (post v * F) h' → K v h') : CallH P f args K h := by
  obtain ⟨h1, h2, d, rfl, p, q⟩ := hh
  refine ((t h1 p).frame h2 d).mono ?_
  rintro v h' ⟨h1', d', rfl, pv⟩
  exact hk v _ ⟨h1', h2, d', rfl, pv, q⟩
theorem Tr.weaken {P : Program} {f : FuncId} {args : Array Value} {pre pre' : Asrt} {post post' : Value → Asrt} (t : Tr P f args pre post) (h1 : ∀ h, pre' h → pre h) (h2 : ∀ v h, post v h → post' v h) : Tr P f args pre' post' :=
  fun h hp => (t h (h1 h hp)).mono fun v h' => h2 v h'
theorem Tr.frame {P : Program} {f : FuncId} {args : Array Value} {pre : Asrt} {post : Value → Asrt} (t : Tr P f args pre post) (F : Asrt) : Tr P f args (pre * F) (fun v => post v * F) :=
  fun _ hp => t.use hp fun _ _ q => q
theorem nr {α : Sort _} {a b : α} (h : a = b) : a = b := h
abbrev I64 (n : Int) : Value := .int .i64 n
theorem vP_some (x : Value) (K : Value → Prop) : vP (some x) K = K x := nr rfl
theorem vB_true (p q : Prop) : vB (.bool true) p q = p := nr rfl
theorem vB_false (p q : Prop) : vB (.bool false) p q = q := nr rfl
theorem vB_dec {c : Prop} [Decidable c] (p q : Prop) : vB (.bool (decide c)) p q = if c then p else q := by
  by_cases h : c <;> simp [h, vB]
theorem vB_bool (b : Bool) (p q : Prop) : vB (.bool b) p q = if b = true then p else q := by cases b <;> rfl
theorem gdW_true (v : Option Value) : gdW true v = v := nr rfl
theorem gdW_false (v : Option Value) : gdW false v = some undef := nr rfl
theorem gB_true (b : Bool) : gB (.bool b) true = b := by cases b <;> rfl
theorem gB_false (b : Bool) : gB (.bool b) false = !b := by cases b <;> rfl
theorem vE_true (T : (Value → Hp → Prop) → Hp → Prop) (K : Value → Hp → Prop) (h : Hp) : vE true T K h = T K h := nr rfl
theorem vE_false (T : (Value → Hp → Prop) → Hp → Prop) (K : Value → Hp → Prop) (h : Hp) : vE false T K h = K undef h := nr rfl
theorem pickV_true (a b : Value) : pickV (.bool true) a b = some a := nr rfl
theorem pickV_false (a b : Value) : pickV (.bool false) a b = some b := nr rfl
theorem vA_some (o : Obj) (f : Nat → Value) (K : Value → Hp → Prop) (h : Hp) : vA (some (o, f)) K h = ∀ r, h r = none → K (f r) (h.upd r o) := nr rfl
theorem vA_new {o : Obj} {f : Nat → Value} {K : Value → Hp → Prop} {h : Hp} {F : Asrt} (hF : F h) (hk : ∀ r h', (pt r o * F) h' → K (f r) h') : vA (some (o, f)) K h :=
  fun r hr => hk r _ (pt_new hF hr)
theorem wrap_i64 {n : Int} (h : -9223372036854775808 ≤ n ∧ n ≤ 9223372036854775807) : IntKind.i64.wrap n = n := by rw [IntKind.wrap_i64]; omega
theorem bin_add {a b : Int} (h : -9223372036854775808 ≤ a + b ∧ a + b ≤ 9223372036854775807) : binV .add (.int .i64 a) (.int .i64 b) = some (.int .i64 (a + b)) := by
  show some (Value.int .i64 (IntKind.i64.wrap (a + b))) = _; rw [wrap_i64 h]
theorem bin_sub {a b : Int} (h : -9223372036854775808 ≤ a - b ∧ a - b ≤ 9223372036854775807) : binV .sub (.int .i64 a) (.int .i64 b) = some (.int .i64 (a - b)) := by
  show some (Value.int .i64 (IntKind.i64.wrap (a - b))) = _; rw [wrap_i64 h]
theorem bin_mul {a b : Int} (h : -9223372036854775808 ≤ a * b ∧ a * b ≤ 9223372036854775807) : binV .mul (.int .i64 a) (.int .i64 b) = some (.int .i64 (a * b)) := by
  show some (Value.int .i64 (IntKind.i64.wrap (a * b))) = _; rw [wrap_i64 h]
theorem bin_quo {a b : Int} (ha : 0 ≤ a) (ha' : a ≤ 9223372036854775807) (hb : 1 ≤ b) : binV .quo (.int .i64 a) (.int .i64 b) = some (.int .i64 (a / b)) := by
  show (if b = 0 then none else some (Value.int .i64 (IntKind.i64.wrap (a.tdiv b)))) = _
  rw [if_neg (by omega), Int.tdiv_eq_ediv_of_nonneg ha]
  have h1 : 0 ≤ a / b := Int.ediv_nonneg ha (by omega)
  have h2 : a / b ≤ a := Int.ediv_le_self _ ha
  rw [wrap_i64 (by omega)]
theorem bin_rem {a b : Int} (ha : 0 ≤ a) (hb : 1 ≤ b) : binV .rem (.int .i64 a) (.int .i64 b) = some (.int .i64 (a % b)) := by
  show (if b = 0 then none else some (Value.int .i64 (a.tmod b))) = _
  rw [if_neg (by omega), Int.tmod_eq_emod_of_nonneg ha]
theorem bin_lss (k : IntKind) (a b : Int) : binV .lss (.int k a) (.int k b) = some (.bool (decide (a < b))) := by cases k <;> rfl
theorem bin_leq (k : IntKind) (a b : Int) : binV .leq (.int k a) (.int k b) = some (.bool (decide (a ≤ b))) := by cases k <;> rfl
theorem bin_gtr (k : IntKind) (a b : Int) : binV .gtr (.int k a) (.int k b) = some (.bool (decide (b < a))) := by cases k <;> rfl
theorem bin_geq (k : IntKind) (a b : Int) : binV .geq (.int k a) (.int k b) = some (.bool (decide (b ≤ a))) := by cases k <;> rfl
theorem eq_int (k : IntKind) (a b : Int) : eqV 1 false (.int k a) (.int k b) = some (.bool (decide (a = b))) := by
  show Option.map _ (if k = k then some (a == b) else none) = _
  rw [if_pos rfl]
  show some (Value.bool (a == b)) = _
  rw [show (a == b) = decide (a = b) from rfl]
theorem ne_int (k : IntKind) (a b : Int) : eqV 1 true (.int k a) (.int k b) = some (.bool (decide (a ≠ b))) := by
  show Option.map _ (if k = k then some (a == b) else none) = _
  rw [if_pos rfl]
  show some (Value.bool (!(a == b))) = _
  by_cases h : a = b <;> simp [h]
theorem eq_bool (a b : Bool) : eqV 2 false (.bool a) (.bool b) = some (.bool (decide (a = b))) := by cases a <;> cases b <;> rfl
theorem ne_bool (a b : Bool) : eqV 2 true (.bool a) (.bool b) = some (.bool (decide (a ≠ b))) := by cases a <;> cases b <;> rfl
theorem eq_ptr_nil (a : Addr) : eqV 4 false (.pointer (some a)) (.pointer none) = some (.bool false) := nr rfl
theorem ne_ptr_nil (a : Addr) : eqV 4 true (.pointer (some a)) (.pointer none) = some (.bool true) := nr rfl
theorem eq_nil_nil : eqV 4 false (.pointer none) (.pointer none) = some (.bool true) := nr rfl
theorem ne_nil_nil : eqV 4 true (.pointer none) (.pointer none) = some (.bool false) := nr rfl
theorem eq_slice_nil (a : Addr) (n c : Nat) : eqV 5 false (.slice (some a) n c) (.slice none 0 0) = some (.bool false) := nr rfl
theorem eq_nil_slice : eqV 5 false (.slice none 0 0) (.slice none 0 0) = some (.bool true) := nr rfl
theorem not_bool (b : Bool) : unV .not (.bool b) = some (.bool !b) := nr rfl
theorem nil_ptr (a : Addr) : nilV (.pointer (some a)) = some (.pointer (some a)) := nr rfl
theorem add_mk (b off n : Nat) : (⟨b, off, none⟩ : Addr).add n = ⟨b, off + n, none⟩ := by
  unfold Addr.add; split
  · rename_i h; subst h; rfl
  · rfl
theorem fa_mk (b off n : Nat) : faV n (.pointer (some ⟨b, off, none⟩)) = some (.pointer (some ⟨b, off + n, none⟩)) := by
  show some (Value.pointer (some (Addr.add _ n))) = _; rw [add_mk]
theorem ia_mk {sz : Nat} {b off len cap : Nat} {k : IntKind} {n : Int} (h0 : 0 ≤ n) (h1 : n < (len : Int)) : iaS sz (.slice (some ⟨b, off, none⟩) len cap) (.int k n) = some (.pointer (some ⟨b, off + n.toNat * sz, none⟩)) := by
  show (if 0 ≤ n ∧ n < (len : Int) then _ else none) = _
  rw [if_pos ⟨h0, h1⟩, add_mk]
theorem len_mk (a : Option Addr) (n c : Nat) : lenV (.slice a n c) = some (.int .i64 n) := nr rfl
theorem cap_mk (a : Option Addr) (n c : Nat) : capV (.slice a n c) = some (.int .i64 c) := nr rfl
theorem ld1_mk {b off : Nat} {h : Hp} {c : Array Value} {e : TypeId} {fz : Nat × Nat} {v : Value} (hb : h b = some (.cells c e fz)) (hc : c[off]? = some v) : ld1 (.pointer (some ⟨b, off, none⟩)) h = some v := by
  unfold ld1 Hp.cell
  simp only [hb, Option.bind_some, Obj.cellAt, Option.isSome_none, Bool.false_eq_true, if_false, hc]
theorem ldN_mk {n b off : Nat} {h : Hp} {c : Array Value} {e : TypeId} {fz : Nat × Nat} (hb : h b = some (.cells c e fz)) (hc : off + n ≤ c.size) : ldN n (.pointer (some ⟨b, off, none⟩)) h = some (.agg (c.extract off (off + n))) := by
  unfold ldN Hp.row
  simp only [hb, Option.bind_some, rowIn, Option.isNone_none, Bool.true_and, decide_eq_true hc, if_true, Option.map_some]
theorem st1_mk {b off : Nat} {c : Array Value} {e : TypeId} {v : Value} {K : Value → Hp → Prop} {h : Hp} {F : Asrt} (hF : (pt b (.cells c e (0, 0)) * F) h) (hv : one v = true) (ho : off < c.size)
    (hk : ∀ h', (pt b (.cells (c.setIfInBounds off v) e (0, 0)) * F) h' → K undef h') : st1 (.pointer (some ⟨b, off, none⟩)) v K h :=
  ⟨hv, rfl, c, e, pt_get hF, ho, hk _ (pt_upd hF)⟩
theorem stN_mk {n b off : Nat} {c : Array Value} {e : TypeId} {cs : Array Value} {K : Value → Hp → Prop} {h : Hp} {F : Asrt} (hF : (pt b (.cells c e (0, 0)) * F) h) (hv : cs.toList.all one = true) (hn : cs.size = n) (ho : off + n ≤ c.size)
    (hk : ∀ h', (pt b (.cells (putL c off cs.toList) e (0, 0)) * F) h' → K undef h') : stN n (.pointer (some ⟨b, off, none⟩)) (.agg cs) K h :=
  ⟨hn, hv, rfl, c, e, pt_get hF, ho, hk _ (pt_upd hF)⟩
end Go.Sl

/-
  The builtins append and copy.
-/
namespace Go.Sl
theorem zeroCells_size (zero : Array Value) (n : Nat) : (Builtin.zeroCells zero n).size = n * zero.size := by simp [Builtin.zeroCells]
theorem growBy_le (newLen : Nat) : ∀ (rounds c : Nat), c ≤ newLen + (newLen + 768) / 4 → Builtin.growBy newLen rounds c ≤ newLen + (newLen + 768) / 4
  | 0, c, h => by simpa [Builtin.growBy] using h
  | r + 1, c, h => by
    simp only [Builtin.growBy]
    split
    · exact h
    · exact growBy_le newLen r _ (by omega)
theorem nextslicecap_le {need cap : Nat} (h : cap < need) : Builtin.nextslicecap need cap ≤ 2 * need + 256 := by
  unfold Builtin.nextslicecap
  split
  · omega
  · split
    · omega
    · have := growBy_le need 4 cap (by omega)
      omega
def srcOf (sz n : Nat) (x : Value) (h : Hp) : Option (Array Value) :=
  match x with
  | .slice (some a) _ _ => h.row a (n * sz)
  | .slice none _ _ => some #[]
  | _ => none
theorem rd_firstCells {P : Program} {sz n : Nat} {x : Value} {h : Hp} {r : Array Value} (hs : srcOf sz n x h = some r) : (Builtin.firstCells sz n x).rd P h = some r := by
  unfold srcOf at hs
  split at hs
  · exact rd_loadCells hs
  · cases hs; rfl
  · cases hs
structure ElemOk (P : Program) (ts : Array TypeId) (t0 e : TypeId) (i : TypeInfo) (z : Value) : Prop where
  at0 : ts[0]? = some t0
  sl : P.underlying t0 = some (.slice e)
  info : P.info? e = some i
  zero : i.zero = some z
  zsz : z.cells.size = i.size
theorem vc_stores {P : Program} {b off : Nat} {c : Array Value} {e : TypeId} {vs : Array Value} {β : Type} {k : Unit → Sem β} {Q : β → Hp → Prop} {h : Hp} {F : Asrt} (hF : (pt b (.cells c e (0, 0)) * F) h)
    (ho : vs.toList.all one = true) (hl : off + vs.size ≤ c.size) (hk : ∀ h', (pt b (.cells (putL c off vs.toList) e (0, 0)) * F) h' → (k ()).vc P Q h') :
    (storeCells ⟨b, off, none⟩ vs.toList >>= k).vc P Q h := by
  refine vc_bind.2 (vc_storeCells rfl vs.toList 0 h c e (pt_get hF) ho (by simpa using hl) ?_)
  have := pt_upd (o' := .cells (putL c off vs.toList) e (0, 0)) hF
  exact hk _ this
theorem apW_fit {P : Program} {ts : Array TypeId} {t t0 t1 e : TypeId} {i : TypeInfo} {z : Value} (ok : ElemOk P ts t0 e i z) (h1 : ts[1]? = some t1) {d : TypeDesc} (hd : P.underlying t1 = some d) (hn1 : ∀ k, d ≠ .int k)
    {b off sLen sCap n xc : Nat} {xa : Option Addr} {K : Value → Hp → Prop} {h : Hp} {F : Asrt} {c new : Array Value} {e' : TypeId}
    (hF : (pt b (.cells c e' (0, 0)) * F) h) (hfit : sLen + n ≤ sCap) (hsrc : srcOf i.size n (.slice xa n xc) h = some new) (hone : new.toList.all one = true) (hsize : new.size = n * i.size) (hc : off + (sLen + n) * i.size ≤ c.size)
    (hk : ∀ h', (pt b (.cells (putL c (off + sLen * i.size) new.toList) e' (0, 0)) * F) h' → K (.slice (some ⟨b, off, none⟩) (sLen + n) sCap) h') :
    apW P ts t (.slice (some ⟨b, off, none⟩) sLen sCap) (.slice xa n xc) K h := by
  unfold apW Builtin.append_
  simp only [ok.at0, h1]
  show Sem.vc P (do let d ← underlying t0; _) K h
  refine vc_rd_bind (by rw [rd_underlying]; exact ok.sl) ?_
  simp only
  refine vc_rd_bind (rd_size (by rw [ok.info]; rfl)) ?_
  rw [info_size ok.info]
  refine vc_rd_bind (by rw [rd_underlying]; exact hd) ?_
  refine vc_rd_bind (a := false) (by cases d <;> first | exact (hn1 _ rfl).elim | rfl) ?_
  simp only [Bool.false_eq_true, if_false]
  refine vc_rd_bind (a := n) rfl ?_
  simp only [if_pos hfit, Bool.not_false, if_true]
  refine vc_rd_bind (rd_firstCells hsrc) ?_
  rw [add_mk]
  refine vc_stores hF hone (by rw [hsize]; rw [Nat.add_mul] at hc; omega) ?_
  exact hk
theorem apW_grow {P : Program} {ts : Array TypeId} {t t0 t1 e : TypeId} {i : TypeInfo} {z : Value} (ok : ElemOk P ts t0 e i z) (h1 : ts[1]? = some t1) {d : TypeDesc} (hd : P.underlying t1 = some d) (hn1 : ∀ k, d ≠ .int k)
    {sLen sCap n xc : Nat} {sa xa : Option Addr} {K : Value → Hp → Prop} {h : Hp} {F : Asrt} {old new : Array Value} (hF : F h)
    (hgrow : sCap < sLen + n) (hb : (2 * (sLen + n) + 256) * i.bytes ≤ 281474976710656) (hbp : 0 < i.bytes)
    (hold : srcOf i.size sLen (.slice sa sLen sCap) h = some old) (hsrc : srcOf i.size n (.slice xa n xc) h = some new)
    (hk : ∀ (cap' r : Nat) (spare : Array Value) (h' : Hp), sLen + n ≤ cap' → cap' < 9223372036854775808 → spare.size = (cap' - (sLen + n)) * i.size → (pt r (.cells (old ++ new ++ spare) e (0, 0)) * F) h' →
      K (.slice (some ⟨r, 0, none⟩) (sLen + n) cap') h') :
    apW P ts t (.slice sa sLen sCap) (.slice xa n xc) K h := by
  unfold apW Builtin.append_
  simp only [ok.at0, h1]
  show Sem.vc P (do let d ← underlying t0; _) K h
  refine vc_rd_bind (by rw [rd_underlying]; exact ok.sl) ?_
  simp only
  refine vc_rd_bind (rd_size (by rw [ok.info]; rfl)) ?_
  rw [info_size ok.info]
  refine vc_rd_bind (by rw [rd_underlying]; exact hd) ?_
  refine vc_rd_bind (a := false) (by cases d <;> first | exact (hn1 _ rfl).elim | rfl) ?_
  simp only [Bool.false_eq_true, if_false]
  refine vc_rd_bind (a := n) rfl ?_
  have hinfo : ∀ h : Hp, (typeInfo e).rd P h = some i := fun h => by rw [rd_typeInfo]; exact ok.info
  simp only [if_neg (show ¬ sLen + n ≤ sCap by omega), Bool.not_false, if_true]
  refine vc_rd_bind (hinfo h) ?_
  have hlen : sLen + n < 9223372036854775808 := by
    have : 2 * (sLen + n) + 256 ≤ (2 * (sLen + n) + 256) * i.bytes := Nat.le_mul_of_pos_right _ hbp
    omega
  have hcnd : ¬ (((sLen + n : Nat) : Int) > IntKind.i64.max ∧ (False ∨ i.bytes = 0)) := by
    rintro ⟨_, h | h⟩
    · exact h
    · omega
  rw [if_neg hcnd]
  refine vc_rd_bind (hinfo h) ?_
  have hnx : ¬ Builtin.nextslicecap (sLen + n) sCap * i.bytes > 2 ^ 48 := by
    have h2 := nextslicecap_le hgrow
    have h3 : Builtin.nextslicecap (sLen + n) sCap * i.bytes ≤ (2 * (sLen + n) + 256) * i.bytes := Nat.mul_le_mul_right _ h2
    omega
  rw [if_neg hnx]
  refine vc_bind.2 ?_
  show Sem.vc P (.choose _ .pure) _ h
  simp only [Sem.vc, Question.forced, Bool.false_eq_true, if_false]
  intro tp
  have hcap1 : sLen + n ≤ Question.cut (.appendCap (sLen + n) sCap e) tp := by simp only [Question.cut]; omega
  have hcap2 : Question.cut (.appendCap (sLen + n) sCap e) tp < 9223372036854775808 := by
    simp only [Question.cut]
    have := Nat.mod_lt tp (show 0 < 2 ^ 63 - (sLen + n) by omega)
    omega
  generalize Question.cut (.appendCap (sLen + n) sCap e) tp = cap' at hcap1 hcap2
  refine vc_rd_bind (hinfo h) ?_
  have hroom : (askRoom (cap' * i.bytes)).rd P h = some () := by unfold askRoom; split <;> rfl
  refine vc_rd_bind hroom ?_
  refine vc_rd_bind (rd_firstCells hold) ?_
  refine vc_rd_bind (rd_firstCells hsrc) ?_
  refine vc_rd_bind (a := z) (by rw [rd_zeroValue, ok.info]; exact ok.zero) ?_
  intro r hr
  exact hk cap' r _ _ hcap1 hcap2 (by rw [zeroCells_size, ok.zsz]) (pt_new hF hr)
theorem cpW_mk {P : Program} {ts : Array TypeId} {t t0 e : TypeId} {i : TypeInfo} (h0 : ts[0]? = some t0) (hsl : P.underlying t0 = some (.slice e)) (hi : P.info? e = some i)
    {b off dLen dCap n xc : Nat} {xa : Option Addr} {K : Value → Hp → Prop} {h : Hp} {F : Asrt} {c new : Array Value} {e' : TypeId}
    (hF : (pt b (.cells c e' (0, 0)) * F) h) (hsrc : srcOf i.size (min n dLen) (.slice xa n xc) h = some new) (hone : new.toList.all one = true) (hc : off + new.size ≤ c.size)
    (hk : ∀ h', (pt b (.cells (putL c off new.toList) e' (0, 0)) * F) h' → K (.int .i64 (min n dLen : Nat)) h') :
    cpW P ts t (.slice (some ⟨b, off, none⟩) dLen dCap) (.slice xa n xc) K h := by
  unfold cpW Builtin.copy_
  simp only [h0]
  show Sem.vc P (do let d ← underlying t0; _) K h
  refine vc_rd_bind (by rw [rd_underlying]; exact hsl) ?_
  simp only
  refine vc_rd_bind (s := Builtin.lenOf (.slice xa n xc)) (a := n) rfl ?_
  refine vc_rd_bind (rd_size (by rw [hi]; rfl)) ?_
  rw [info_size hi]
  refine vc_rd_bind (rd_firstCells hsrc) ?_
  refine vc_stores hF hone hc ?_
  exact hk
end Go.Sl
namespace Go.Sl
theorem zeroCells_one {z : Array Value} {n : Nat} (h : z.toList.all one = true) : (Builtin.zeroCells z n).toList.all one = true := by
  rw [List.all_eq_true] at h ⊢
  intro v hv
  simp only [Builtin.zeroCells, Array.toList_map, List.mem_map] at hv
  obtain ⟨i, hi, rfl⟩ := hv
  have hlt : i < n * z.size := by simpa using hi
  have hz : 0 < z.size := by
    rcases Nat.eq_zero_or_pos z.size with e | e
    · rw [e] at hlt; omega
    · exact e
  have hm : i % z.size < z.size := Nat.mod_lt _ hz
  rw [getElem!_pos z (i % z.size) hm]
  exact h _ (Array.mem_toList_iff.2 (Array.getElem_mem hm))
theorem clW_mk {P : Program} {ts : Array TypeId} {t t0 e : TypeId} {i : TypeInfo} {z : Value} (ok : ElemOk P ts t0 e i z) {b off n cap : Nat} {K : Value → Hp → Prop} {h : Hp} {F : Asrt} {c : Array Value} {e' : TypeId}
    (hF : (pt b (.cells c e' (0, 0)) * F) h) (hone : z.cells.toList.all one = true) (hc : off + n * i.size ≤ c.size)
    (hk : ∀ (zs : Array Value) (h' : Hp), zs.size = n * i.size → (pt b (.cells (putL c off zs.toList) e' (0, 0)) * F) h' → K (.tuple #[]) h') :
    clW P ts t (.slice (some ⟨b, off, none⟩) n cap) K h := by
  unfold clW Builtin.clear_
  simp only [ok.at0]
  show Sem.vc P (do let d ← underlying t0; _) K h
  refine vc_rd_bind (by rw [rd_underlying]; exact ok.sl) ?_
  cases n with
  | zero =>
    refine vc_rd_bind rd_pure ?_
    refine hk #[] h (by simp) ?_
    simpa [putL] using hF
  | succ n =>
    refine vc_rd_bind (s := zeroValue e) (a := z) (by rw [rd_zeroValue, ok.info]; exact ok.zero) ?_
    refine vc_stores hF ?_ (by rw [zeroCells_size, ok.zsz]; exact hc) ?_
    · exact zeroCells_one hone
    · exact fun h' hh => hk _ h' (by rw [zeroCells_size, ok.zsz]) hh
end Go.Sl

/-
  Slices as lists of coded elements.
-/
namespace Go.Sl
theorem putL_toArray : ∀ (vs l : List Value) (off : Nat), off + vs.length ≤ l.length → putL l.toArray off vs = (l.take off ++ vs ++ l.drop (off + vs.length)).toArray
  | [], l, off, h => by simp [putL, List.take_append_drop]
  | v :: vs, l, off, h => by
    simp only [List.length_cons] at h
    rw [putL, List.setIfInBounds_toArray, putL_toArray vs (l.set off v) (off + 1) (by simp; omega)]
    congr 1
    rw [List.drop_set_of_lt (by omega), List.length_cons, List.take_set, List.take_succ_eq_append_getElem (by omega)]
    rw [List.set_append_right _ _ (by simp [List.length_take]; omega)]
    have : off - min off l.length = 0 := by omega
    simp [List.length_take, this, Nat.add_assoc, Nat.add_comm 1]
structure Enc (α : Type) where
  enc : α → List Value
  sz : Nat
  len : ∀ a, (enc a).length = sz
  one : ∀ a, (enc a).all Sl.one = true
  pos : 0 < sz
variable {α : Type} (e : Enc α)
def Enc.cs (l : List α) : List Value := l.flatMap e.enc
theorem Enc.cs_nil : e.cs [] = [] := rfl
theorem Enc.cs_cons (a : α) (l : List α) : e.cs (a :: l) = e.enc a ++ e.cs l := by simp [Enc.cs]
theorem Enc.cs_append (l m : List α) : e.cs (l ++ m) = e.cs l ++ e.cs m := by simp [Enc.cs]
theorem Enc.cs_length (l : List α) : (e.cs l).length = l.length * e.sz := by
  induction l with
  | nil => simp [Enc.cs]
  | cons a l ih => rw [e.cs_cons, List.length_append, ih, e.len, List.length_cons, Nat.succ_mul, Nat.add_comm]
theorem Enc.cs_one (l : List α) : (e.cs l).all Sl.one = true := by
  induction l with
  | nil => rfl
  | cons a l ih => rw [e.cs_cons, List.all_append, e.one, ih]; rfl
theorem Enc.cs_take : ∀ (l : List α) (i : Nat), (e.cs l).take (i * e.sz) = e.cs (l.take i)
  | [], i => by simp [Enc.cs]
  | a :: l, 0 => by simp [Enc.cs]
  | a :: l, i + 1 => by
    rw [e.cs_cons, List.take_succ_cons, e.cs_cons, ← Enc.cs_take l i, Nat.succ_mul, Nat.add_comm, List.take_append, e.len]
    rw [List.take_of_length_le (by rw [e.len]; omega)]
    congr 2; omega
theorem Enc.cs_drop : ∀ (l : List α) (i : Nat), (e.cs l).drop (i * e.sz) = e.cs (l.drop i)
  | [], i => by simp [Enc.cs]
  | a :: l, 0 => by simp [Enc.cs]
  | a :: l, i + 1 => by
    rw [e.cs_cons, List.drop_succ_cons, ← Enc.cs_drop l i, Nat.succ_mul, Nat.add_comm, List.drop_append, e.len]
    rw [List.drop_of_length_le (by rw [e.len]; omega), List.nil_append]
    congr 1; omega
def Enc.arr (l : List α) (post : List Value) : Array Value := (e.cs l ++ post).toArray
theorem Enc.arr_size (l : List α) (post : List Value) : (e.arr l post).size = l.length * e.sz + post.length := by
  simp [Enc.arr, e.cs_length]
theorem Enc.cs_get {l : List α} {i : Nat} {a : α} (h : l[i]? = some a) : (e.cs l).take ((i + 1) * e.sz) = (e.cs l).take (i * e.sz) ++ e.enc a := by
  obtain ⟨hi, ha⟩ := List.getElem?_eq_some_iff.1 h
  rw [e.cs_take, e.cs_take, List.take_succ_eq_append_getElem hi, ha, e.cs_append]
  simp [Enc.cs]
theorem Enc.arr_extract {l : List α} {post : List Value} {i n : Nat} (h : i + n ≤ l.length) : (e.arr l post).extract (i * e.sz) ((i + n) * e.sz) = (e.cs ((l.drop i).take n)).toArray := by
  apply Array.ext'
  rw [Array.toList_extract, List.extract_eq_take_drop]
  simp only [Enc.arr]
  have h1 : i * e.sz ≤ (e.cs l).length := by rw [e.cs_length]; exact Nat.mul_le_mul_right _ (by omega)
  rw [List.drop_append_of_le_length h1, e.cs_drop]
  have h2 : (i + n) * e.sz - i * e.sz = n * e.sz := by rw [Nat.add_mul]; omega
  rw [h2, List.take_append_of_le_length (by rw [e.cs_length]; exact Nat.mul_le_mul_right _ (by simp; omega)), e.cs_take]
theorem Enc.arr_elem {l : List α} {post : List Value} {i : Nat} {a : α} (h : l[i]? = some a) : (e.arr l post).extract (i * e.sz) (i * e.sz + e.sz) = (e.enc a).toArray := by
  obtain ⟨hi, ha⟩ := List.getElem?_eq_some_iff.1 h
  have := e.arr_extract (post := post) (l := l) (i := i) (n := 1) (by omega)
  rw [Nat.succ_mul] at this
  rw [this]
  congr 1
  rw [List.drop_eq_getElem_cons hi, ha]
  simp [Enc.cs]
theorem Enc.arr_cell {l : List α} {post : List Value} {i j : Nat} {a : α} (h : l[i]? = some a) (hj : j < e.sz) : (e.arr l post)[i * e.sz + j]? = (e.enc a)[j]? := by
  obtain ⟨hi, ha⟩ := List.getElem?_eq_some_iff.1 h
  have hsz : i * e.sz + e.sz ≤ l.length * e.sz := by rw [← Nat.succ_mul]; exact Nat.mul_le_mul_right _ hi
  have h1 := congrArg (fun x => x[j]?) (e.arr_elem (post := post) h)
  simp only [Array.getElem?_extract] at h1
  rw [if_pos (by rw [e.arr_size]; omega)] at h1
  rw [h1]
  simp
theorem Enc.arr_put {l m : List α} {post : List Value} {i : Nat} (h : i + m.length ≤ l.length) : putL (e.arr l post) (i * e.sz) (e.cs m) = e.arr (l.take i ++ m ++ l.drop (i + m.length)) post := by
  have h1 : i * e.sz + m.length * e.sz ≤ l.length * e.sz := by rw [← Nat.add_mul]; exact Nat.mul_le_mul_right _ h
  unfold Enc.arr
  rw [putL_toArray _ _ _ (by rw [List.length_append, e.cs_length, e.cs_length]; omega)]
  congr 1
  rw [e.cs_length, ← Nat.add_mul, List.take_append_of_le_length (by rw [e.cs_length]; omega), List.drop_append_of_le_length (by rw [e.cs_length, Nat.add_mul]; omega), e.cs_take, e.cs_drop, e.cs_append, e.cs_append]
  simp [List.append_assoc]
theorem Enc.arr_set {l : List α} {post : List Value} {i : Nat} (a : α) (h : i < l.length) : putL (e.arr l post) (i * e.sz) (e.enc a) = e.arr (l.set i a) post := by
  have := e.arr_put (l := l) (m := [a]) (post := post) (i := i) (by simp; omega)
  rw [show e.cs [a] = e.enc a by simp [Enc.cs]] at this
  rw [this]
  congr 1
  rw [List.set_eq_take_append_cons_drop, if_pos h]
  simp
theorem Enc.arr_app {l m : List α} {post : List Value} (h : m.length * e.sz ≤ post.length) : putL (e.arr l post) (l.length * e.sz) (e.cs m) = e.arr (l ++ m) (post.drop (m.length * e.sz)) := by
  unfold Enc.arr
  rw [putL_toArray _ _ _ (by rw [List.length_append, e.cs_length, e.cs_length]; omega)]
  congr 1
  rw [e.cs_length, List.take_append_of_le_length (by rw [e.cs_length]; omega), ← e.cs_length, List.take_length, List.drop_append, List.drop_of_length_le (by omega), e.cs_append, e.cs_length]
  simp [List.append_assoc]
theorem Enc.arr_set1 {l : List α} {post : List Value} {i j : Nat} {a b : α} {v : Value} (h : l[i]? = some a) (hj : j < e.sz) (hb : (e.enc a).set j v = e.enc b) : (e.arr l post).setIfInBounds (i * e.sz + j) v = e.arr (l.set i b) post := by
  obtain ⟨hi, ha⟩ := List.getElem?_eq_some_iff.1 h
  have hsz : i * e.sz + e.sz ≤ l.length * e.sz := by rw [← Nat.succ_mul]; exact Nat.mul_le_mul_right _ hi
  rw [← e.arr_set b hi, ← hb]
  unfold Enc.arr
  rw [putL_toArray _ _ _ (by rw [List.length_append, e.cs_length, List.length_set, e.len]; omega), List.setIfInBounds_toArray]
  congr 1
  rw [List.length_set, e.len]
  have hlen : i * e.sz + j < (e.cs l ++ post).length := by rw [List.length_append, e.cs_length]; omega
  have htl : ((e.cs l ++ post).take (i * e.sz)).length = i * e.sz := by rw [List.length_take, List.length_append, e.cs_length]; omega
  have hcell : ∀ q, q < e.sz → (e.cs l ++ post)[i * e.sz + q]? = (e.enc a)[q]? := fun q hq => by
    have := e.arr_cell (post := post) h hq
    simpa [Enc.arr] using this
  generalize e.cs l ++ post = L at *
  apply List.ext_getElem?
  intro k
  rw [List.getElem?_set]
  by_cases h1 : i * e.sz + j = k
  · subst h1
    rw [if_pos rfl, if_pos hlen]
    rw [List.append_assoc, List.getElem?_append_right (by omega), htl, Nat.add_sub_cancel_left, List.getElem?_append_left (by rw [List.length_set, e.len]; exact hj), List.getElem?_set_self (by rw [e.len]; exact hj)]
  · rw [if_neg h1]
    by_cases h2 : k < i * e.sz
    · rw [List.append_assoc, List.getElem?_append_left (by omega), List.getElem?_take_of_lt h2]
    · by_cases h3 : k < i * e.sz + e.sz
      · obtain ⟨q, rfl⟩ : ∃ q, k = i * e.sz + q := ⟨k - i * e.sz, by omega⟩
        rw [hcell q (by omega), List.append_assoc, List.getElem?_append_right (by omega), htl, Nat.add_sub_cancel_left, List.getElem?_append_left (by rw [List.length_set, e.len]; omega), List.getElem?_set_ne (by omega)]
      · rw [List.getElem?_append_right (by rw [List.length_append, htl, List.length_set, e.len]; omega), List.length_append, htl, List.length_set, e.len, List.getElem?_drop]
        congr 1; omega
def SL (E : Nat) (sv : Value) (l : List α) : Asrt := fun h =>
  (sv = .slice none 0 0 ∧ l = [] ∧ h = Hp.emp) ∨
  ∃ r cap post, sv = .slice (some ⟨r, 0, none⟩) l.length cap ∧ l.length ≤ cap ∧ cap < 9223372036854775808 ∧ (cap - l.length) * e.sz ≤ post.length ∧ pt r (.cells (e.arr l post) E (0, 0)) h
theorem SL_elim {E : Nat} {sv : Value} {l : List α} {F : Asrt} {h : Hp} (hh : (SL e E sv l * F) h) :
    (sv = .slice none 0 0 ∧ l = [] ∧ F h) ∨
    ∃ r cap post, sv = .slice (some ⟨r, 0, none⟩) l.length cap ∧ l.length ≤ cap ∧ cap < 9223372036854775808 ∧ (cap - l.length) * e.sz ≤ post.length ∧ (pt r (.cells (e.arr l post) E (0, 0)) * F) h := by
  obtain ⟨a, b, d, rfl, p, q⟩ := hh
  rcases p with ⟨h1, h2, h3⟩ | ⟨r, cap, post, h1, h2, h2', h3, h4⟩
  · exact .inl ⟨h1, h2, by rw [h3, Hp.emp_add]; exact q⟩
  · exact .inr ⟨r, cap, post, h1, h2, h2', h3, a, b, d, rfl, h4, q⟩
theorem SL_nil {E : Nat} {F : Asrt} {h : Hp} (hh : F h) : (SL e E (.slice none 0 0) [] * F) h := by
  refine ⟨Hp.emp, h, Disj.emp_left h, by rw [Hp.emp_add], .inl ⟨rfl, rfl, rfl⟩, hh⟩
theorem SL_intro {E r n cap : Nat} {l : List α} {post : List Value} {F : Asrt} {h : Hp} (hn : n = l.length) (h1 : l.length ≤ cap) (h1' : cap < 9223372036854775808) (h2 : (cap - l.length) * e.sz ≤ post.length) (hh : (pt r (.cells (e.arr l post) E (0, 0)) * F) h) :
    (SL e E (.slice (some ⟨r, 0, none⟩) n cap) l * F) h :=
  star_left (fun _ p => .inr ⟨r, cap, post, by rw [hn], h1, h1', h2, p⟩) hh
theorem SL_one {E : Nat} {sv : Value} {l : List α} {F : Asrt} {h : Hp} (hh : (SL e E sv l * F) h) : one sv = true := by
  rcases SL_elim e hh with ⟨rfl, _⟩ | ⟨r, cap, post, rfl, _⟩ <;> rfl
theorem SL_len {E : Nat} {sv : Value} {l : List α} {F : Asrt} {h : Hp} (hh : (SL e E sv l * F) h) : lenV sv = some (.int .i64 l.length) := by
  rcases SL_elim e hh with ⟨rfl, rfl, _⟩ | ⟨r, cap, post, rfl, _⟩ <;> rfl
theorem SL_lt {E : Nat} {sv : Value} {l : List α} {F : Asrt} {h : Hp} (hh : (SL e E sv l * F) h) : l.length < 9223372036854775808 := by
  rcases SL_elim e hh with ⟨_, rfl, _⟩ | ⟨r, cap, post, _, h1, h2, _⟩
  · exact Nat.zero_lt_of_lt (by decide : 0 < 9223372036854775808)
  · omega
def encI : Enc Int := ⟨fun n => [.int .i64 n], 1, fun _ => rfl, fun _ => rfl, by omega⟩
def encB : Enc Bool := ⟨fun b => [.bool b], 1, fun _ => rfl, fun _ => rfl, by omega⟩
def enc2 : Enc (Int × Int) := ⟨fun p => [.int .i64 p.1, .int .i64 p.2], 2, fun _ => rfl, fun _ => rfl, by omega⟩
end Go.Sl

/-
  Parts of slices, made; append of zeros.
-/
namespace Go.Sl
def cut (off i sz cap : Nat) : Nat := if cap = i then off else off + i * sz
theorem bnd_ok {k : IntKind} {i y : Nat} (h : i ≤ y) : bnd (.int k (i : Int)) y = some i := by
  show (if _ then _ else _) = _
  rw [if_pos (by omega)]; simp
theorem slB_to {n cap j : Nat} {k : IntKind} (h : j ≤ cap) : slB n cap none (some (.int k (j : Int))) none = some (0, j, cap) := by
  unfold slB
  simp only [bnd_ok h]
theorem slB_from {n cap i : Nat} {k : IntKind} (h : i ≤ n) : slB n cap (some (.int k (i : Int))) none none = some (i, n, cap) := by
  unfold slB
  simp only [bnd_ok h]
theorem slB_ft {n cap i j : Nat} {k k' : IntKind} (h : i ≤ j) (h' : j ≤ cap) : slB n cap (some (.int k (i : Int))) (some (.int k' (j : Int))) none = some (i, j, cap) := by
  unfold slB
  simp only [bnd_ok h, bnd_ok h']
theorem slB_ftm {n cap i j m : Nat} {k k' k'' : IntKind} (h : i ≤ j) (h' : j ≤ m) (h'' : m ≤ cap) : slB n cap (some (.int k (i : Int))) (some (.int k' (j : Int))) (some (.int k'' (m : Int))) = some (i, j, m) := by
  unfold slB
  simp only [bnd_ok h, bnd_ok h', bnd_ok h'']
theorem cut_ptr {b off i sz cap : Nat} : (if cap = i then some (⟨b, off, none⟩ : Addr) else (some (⟨b, off, none⟩ : Addr)).map (·.add (i * sz))) = some ⟨b, cut off i sz cap, none⟩ := by
  unfold cut
  split <;> simp [add_mk]
theorem slV_of {sz b off n cap i j m : Nat} {lo hi mx : Option Value} (h : slB n cap lo hi mx = some (i, j, m)) : slV sz (.slice (some ⟨b, off, none⟩) n cap) lo hi mx = some (.slice (some ⟨b, cut off i sz m, none⟩) (j - i) (m - i)) := by
  show (slB n cap lo hi mx).map _ = _
  rw [h]
  show some (Value.slice _ _ _) = _
  rw [cut_ptr]
theorem sl_to {sz b off n cap j : Nat} {k : IntKind} (h : j ≤ cap) : slV sz (.slice (some ⟨b, off, none⟩) n cap) none (some (.int k (j : Int))) none = some (.slice (some ⟨b, off, none⟩) j cap) := by
  rw [slV_of (slB_to h)]
  simp [cut]
theorem sl_from {sz b off n cap i : Nat} {k : IntKind} (h : i ≤ n) : slV sz (.slice (some ⟨b, off, none⟩) n cap) (some (.int k (i : Int))) none none = some (.slice (some ⟨b, cut off i sz cap, none⟩) (n - i) (cap - i)) :=
  slV_of (slB_from h)
theorem sl_ft {sz b off n cap i j : Nat} {k k' : IntKind} (h : i ≤ j) (h' : j ≤ cap) : slV sz (.slice (some ⟨b, off, none⟩) n cap) (some (.int k (i : Int))) (some (.int k' (j : Int))) none = some (.slice (some ⟨b, cut off i sz cap, none⟩) (j - i) (cap - i)) :=
  slV_of (slB_ft h h')
theorem sl_ftm {sz b off n cap i j m : Nat} {k k' k'' : IntKind} (h : i ≤ j) (h' : j ≤ m) (h'' : m ≤ cap) : slV sz (.slice (some ⟨b, off, none⟩) n cap) (some (.int k (i : Int))) (some (.int k' (j : Int))) (some (.int k'' (m : Int))) = some (.slice (some ⟨b, cut off i sz m, none⟩) (j - i) (m - i)) :=
  slV_of (slB_ftm h h' h'')
theorem slN_to {sz : Nat} {k : IntKind} : slV sz (.slice none 0 0) none (some (.int k 0)) none = some (.slice none 0 0) := rfl
theorem slN_from {sz : Nat} {k : IntKind} : slV sz (.slice none 0 0) (some (.int k 0)) none none = some (.slice none 0 0) := rfl
theorem slN_ft {sz : Nat} {k k' : IntKind} : slV sz (.slice none 0 0) (some (.int k 0)) (some (.int k' 0)) none = some (.slice none 0 0) := rfl
theorem slN_ftm {sz : Nat} {k k' k'' : IntKind} : slV sz (.slice none 0 0) (some (.int k 0)) (some (.int k' 0)) (some (.int k'' 0)) = some (.slice none 0 0) := rfl
theorem src_part {α : Type} (e : Enc α) {b i n cap cc xc : Nat} {l : List α} {post : List Value} {h : Hp} {E : TypeId} (hb : h b = some (.cells (e.arr l post) E (0, 0))) (hi : i + n ≤ l.length) (hc : l.length ≤ cc) :
    srcOf e.sz n (.slice (some ⟨b, cut 0 i e.sz cc, none⟩) cap xc) h = some (e.cs ((l.drop i).take n)).toArray := by
  unfold srcOf Hp.row cut
  simp only [hb, Option.bind_some]
  have hsz : i * e.sz + n * e.sz ≤ l.length * e.sz := by rw [← Nat.add_mul]; exact Nat.mul_le_mul_right _ hi
  unfold rowIn
  by_cases hq : cc = i
  · have hn : n = 0 := by omega
    subst hn
    rw [if_pos hq]
    simp [Enc.cs]
  · rw [if_neg hq, Nat.zero_add]
    have h1 : decide (i * e.sz + n * e.sz ≤ (e.arr l post).size) = true := by rw [decide_eq_true_eq, e.arr_size]; omega
    simp only [h1, Option.isNone_none, Bool.and_self, if_true]
    have := e.arr_extract (post := post) hi
    rw [Nat.add_mul] at this
    rw [this]
theorem src_all {α : Type} (e : Enc α) {b n cap : Nat} {l : List α} {post : List Value} {h : Hp} {E : TypeId} (hb : h b = some (.cells (e.arr l post) E (0, 0))) (hn : n ≤ l.length) (xn : Nat) :
    srcOf e.sz n (.slice (some ⟨b, 0, none⟩) xn cap) h = some (e.cs (l.take n)).toArray := by
  have := src_part e (i := 0) (n := n) (cap := xn) (cc := l.length + 1) (xc := cap) hb (by omega) (by omega)
  simpa [cut] using this
theorem src_SL {α : Type} (e : Enc α) {E : Nat} {n xn cap : Nat} {xa : Option Addr} {l : List α} {F : Asrt} {h : Hp} (hh : (SL e E (.slice xa xn cap) l * F) h) (hn : n ≤ l.length) :
    srcOf e.sz n (.slice xa xn cap) h = some (e.cs (l.take n)).toArray := by
  rcases SL_elim e hh with ⟨h1, rfl, _⟩ | ⟨r, cap', post, h1, h2, h3, h4, hp⟩
  · cases h1
    simp [srcOf, Enc.cs]
  · cases h1
    exact src_all e (pt_get hp) hn _
theorem Enc.cs_size {α : Type} (e : Enc α) (l : List α) : (e.cs l).toArray.size = l.length * e.sz := by simp [e.cs_length]
theorem apW_zero {P : Program} {ts : Array TypeId} {t t0 t1 e : TypeId} {i : TypeInfo} {z : Value} (ok : ElemOk P ts t0 e i z) (h1 : ts[1]? = some t1) {k : IntKind} (hd : P.underlying t1 = some (.int k))
    {sLen sCap : Nat} {n : Nat} {k' : IntKind} {sa : Option Addr} {K : Value → Hp → Prop} {h : Hp} {F : Asrt} {old : Array Value} (hF : F h)
    (hgrow : sCap < sLen + n) (hb : (2 * (sLen + n) + 256) * i.bytes ≤ 281474976710656) (hbp : 0 < i.bytes)
    (hold : srcOf i.size sLen (.slice sa sLen sCap) h = some old)
    (hk : ∀ (cap' r : Nat) (spare : Array Value) (h' : Hp), sLen + n ≤ cap' → cap' < 9223372036854775808 → spare.size = (cap' - sLen) * i.size → (pt r (.cells (old ++ spare) e (0, 0)) * F) h' →
      K (.slice (some ⟨r, 0, none⟩) (sLen + n) cap') h') :
    apW P ts t (.slice sa sLen sCap) (.int k' (n : Int)) K h := by
  unfold apW Builtin.append_
  simp only [ok.at0, h1]
  show Sem.vc P (do let d ← underlying t0; _) K h
  refine vc_rd_bind (by rw [rd_underlying]; exact ok.sl) ?_
  simp only
  refine vc_rd_bind (rd_size (by rw [ok.info]; rfl)) ?_
  rw [info_size ok.info]
  refine vc_rd_bind (by rw [rd_underlying]; exact hd) ?_
  refine vc_rd_bind (a := true) rfl ?_
  have hinfo : ∀ h : Hp, (typeInfo e).rd P h = some i := fun h => by rw [rd_typeInfo]; exact ok.info
  have hlen : sLen + n < 9223372036854775808 := by
    have : 2 * (sLen + n) + 256 ≤ (2 * (sLen + n) + 256) * i.bytes := Nat.le_mul_of_pos_right _ hbp
    omega
  have hw : IntKind.i64.wrap (n : Int) = n := wrap_i64 (by omega)
  refine vc_rd_bind (s := asInt (.int k' (n : Int))) (a := (n : Int)) rfl ?_
  simp only [hw]
  rw [if_neg (by omega)]
  refine vc_rd_bind (hinfo h) ?_
  rw [if_neg (by
    have h3 : n * i.bytes ≤ (2 * (sLen + n) + 256) * i.bytes := Nat.mul_le_mul_right _ (by omega)
    have h4 : ((n * i.bytes : Nat) : Int) = (n : Int) * (i.bytes : Int) := Int.natCast_mul _ _
    omega)]
  refine vc_rd_bind (a := n) (by rw [Int.toNat_natCast]; rfl) ?_
  rw [if_neg (show ¬ sLen + n ≤ sCap by omega)]
  refine vc_rd_bind (hinfo h) ?_
  have hcnd : ¬ (((sLen + n : Nat) : Int) > IntKind.i64.max ∧ (True ∨ i.bytes = 0)) := by
    rintro ⟨h, _⟩
    have : IntKind.i64.max = 9223372036854775807 := rfl
    omega
  rw [if_neg hcnd]
  refine vc_rd_bind (hinfo h) ?_
  have hnx : ¬ Builtin.nextslicecap (sLen + n) sCap * i.bytes > 2 ^ 48 := by
    have h2 := nextslicecap_le hgrow
    have h3 : Builtin.nextslicecap (sLen + n) sCap * i.bytes ≤ (2 * (sLen + n) + 256) * i.bytes := Nat.mul_le_mul_right _ h2
    omega
  rw [if_neg hnx]
  refine vc_bind.2 ?_
  show Sem.vc P (.choose _ .pure) _ h
  simp only [Sem.vc, Question.forced, Bool.false_eq_true, if_false]
  intro tp
  have hcap1 : sLen + n ≤ Question.cut (.appendCap (sLen + n) sCap e) tp := by simp only [Question.cut]; omega
  have hcap2 : Question.cut (.appendCap (sLen + n) sCap e) tp < 9223372036854775808 := by
    simp only [Question.cut]
    have := Nat.mod_lt tp (show 0 < 2 ^ 63 - (sLen + n) by omega)
    omega
  generalize Question.cut (.appendCap (sLen + n) sCap e) tp = cap' at hcap1 hcap2
  refine vc_rd_bind (hinfo h) ?_
  have hroom : (askRoom (cap' * i.bytes)).rd P h = some () := by unfold askRoom; split <;> rfl
  refine vc_rd_bind hroom ?_
  refine vc_rd_bind (rd_firstCells hold) ?_
  have hz : ∀ h : Hp, (zeroValue e).rd P h = some z := fun h => by rw [rd_zeroValue, ok.info]; exact ok.zero
  refine vc_rd_bind (a := Builtin.zeroCells z.cells n) ?_ ?_
  · simp only [Bool.not_true, Bool.false_eq_true, if_false]
    split
    · rename_i h0
      have : Builtin.zeroCells z.cells n = #[] := Array.size_eq_zero_iff.1 (by rw [zeroCells_size, ok.zsz]; exact h0)
      rw [this]; rfl
    · rw [rd_bind', hz]; rfl
  refine vc_rd_bind (hz h) ?_
  intro r hr
  refine hk cap' r (Builtin.zeroCells z.cells n ++ Builtin.zeroCells z.cells (cap' - (sLen + n))) _ hcap1 hcap2 ?_ ?_
  · rw [Array.size_append, zeroCells_size, zeroCells_size, ok.zsz, ← Nat.add_mul]
    congr 1; omega
  · have := pt_new (o := .cells (old ++ (Builtin.zeroCells z.cells n ++ Builtin.zeroCells z.cells (cap' - (sLen + n)))) e (0, 0)) hF hr
    rw [← Array.append_assoc] at this ⊢
    exact this
end Go.Sl

/-
  Whether two slices overlap: they do not, in two blocks of cells.
-/
namespace Go.Sl
def ovlOk (P : Program) (f : FuncId) (t0 e : TypeId) (sz : Nat) : Prop :=
  ∃ fn, P.funcs[f]? = some fn ∧ (fn.name == "runtime.NumGoroutine") = false ∧ fn.body.isNone = true ∧ Extern.findNext fn = none ∧
    Extern.find fn = some (Extern.SlicesOverlaps.overlaps fn.params fn.resultTypes) ∧ fn.params[0]? = some t0 ∧ P.underlying t0 = some (.slice e) ∧ (P.info? e).map (·.size) = some sz
theorem rd_frozen_cells {P : Program} {h : Hp} {a : Addr} {c : Array Value} {e : TypeId} (hb : h a.block = some (.cells c e (0, 0))) : (frozen a).rd P h = some false := by
  unfold frozen
  simp only [Sem.rd, hb]
  simp [Obj.frz]
theorem rd_shape_cells {P : Program} {h : Hp} {b : Nat} {c : Array Value} {e : TypeId} {fz : Nat × Nat} (hb : h b = some (.cells c e fz)) : (shape b).rd P h = some (some (e, c.size)) := by
  unfold shape
  simp only [Sem.rd, hb]
  rfl
theorem rd_viewAt_cells {P : Program} {h : Hp} {b : Nat} {c : Array Value} {e : TypeId} {fz : Nat × Nat} (hb : h b = some (.cells c e fz)) : (viewAt b).rd P h = some none := by
  unfold viewAt
  rw [rd_bind', rd_shape_cells hb]; rfl
theorem rd_noView_cells {P : Program} {h : Hp} {a : Addr} {c : Array Value} {e : TypeId} {fz : Nat × Nat} (hb : h a.block = some (.cells c e fz)) : (noView a).rd P h = some () := by
  unfold noView
  rw [rd_bind', rd_viewAt_cells hb]; rfl
theorem rd_stringish_cells {P : Program} {h : Hp} {a : Addr} {c : Array Value} {e : TypeId} (hb : h a.block = some (.cells c e (0, 0))) : (stringish a).rd P h = some false := by
  unfold stringish
  rw [rd_bind', rd_frozen_cells hb]
  simp only [Option.bind_some, Bool.false_eq_true, if_false]
  rw [rd_bind', rd_shape_cells hb]
  simp only [Option.bind_some]
  exact rd_frozen_cells hb
theorem rd_mayBeOne_cells {P : Program} {h : Hp} {a b : Addr} {c d : Array Value} {e e' : TypeId} (ha : h a.block = some (.cells c e (0, 0))) (hb : h b.block = some (.cells d e' (0, 0))) : (mayBeOne a b).rd P h = some false := by
  unfold mayBeOne
  simp only [rd_bind', rd_stringish_cells ha, rd_stringish_cells hb, rd_shape_cells ha, rd_shape_cells hb, Option.bind_some, rd_pure, Bool.false_and, Bool.or_self]
theorem rd_ovl {P : Program} {ps rs : Array TypeId} {t0 e : TypeId} {sz : Nat} (h0 : ps[0]? = some t0) (h1 : P.underlying t0 = some (.slice e)) (h2 : (P.info? e).map (·.size) = some sz) {h : Hp} {a b : Addr} {la ca lb cb : Nat}
    {c d : Array Value} {ea eb : TypeId} (ha : h a.block = some (.cells c ea (0, 0))) (hb : h b.block = some (.cells d eb (0, 0))) (hne : a.block ≠ b.block) :
    (Extern.SlicesOverlaps.overlaps ps rs #[.slice (some a) la ca, .slice (some b) lb cb]).rd P h = some (.bool false) := by
  delta Extern.SlicesOverlaps.overlaps
  dsimp only
  rw [h0]
  show (underlying t0 >>= _).rd P h = _
  rw [rd_bind', rd_underlying, h1]
  simp only [Option.bind_some]
  show (sizeOf e >>= _).rd P h = _
  rw [rd_bind', rd_sizeOf, h2]
  simp only [Option.bind_some]
  by_cases hz : la = 0 ∨ lb = 0 ∨ sz = 0
  · rw [if_pos hz]; rfl
  · rw [if_neg hz]
    have hq : (a.block != b.block) = true := by simpa using hne
    have hq' : (a.block == b.block) = false := by simpa using hne
    simp only [rd_bind', rd_frozen_cells ha, rd_frozen_cells hb, Option.bind_some, hq, hq', Bool.and_false, Bool.false_eq_true, if_false, if_true, rd_noView_cells ha, rd_noView_cells hb, rd_mayBeOne_cells ha hb, rd_pure, Bool.false_and]
theorem exW_ovl {P : Program} {f : FuncId} {t0 e : TypeId} {sz : Nat} (ok : ovlOk P f t0 e sz) {K : Value → Hp → Prop} {h : Hp} {a b : Addr} {la ca lb cb : Nat}
    {c d : Array Value} {ea eb : TypeId} (ha : h a.block = some (.cells c ea (0, 0))) (hb : h b.block = some (.cells d eb (0, 0))) (hne : a.block ≠ b.block) (hk : K (.bool false) h) :
    exW P f #[.slice (some a) la ca, .slice (some b) lb cb] K h := by
  obtain ⟨fn, h1, h2, h3, h4, h5, h6, h7, h8⟩ := ok
  refine ⟨?_⟩
  unfold rawWp callFunc
  show Sem.vc P (match P.funcs[f]? with | none => _ | some fn => _) _ h
  simp only [h1, h2, h3, h4, h5, Bool.false_eq_true, if_false, if_true]
  show Sem.vc P (do Pure.pure (Next.value (← Extern.SlicesOverlaps.overlaps fn.params fn.resultTypes _))) _ h
  exact vc_rd_bind (rd_ovl h6 h7 h8 ha hb hne) hk
end Go.Sl

/-
  Append, copy, clear on slices that are lists.
-/
namespace Go.Sl
def elB (P : Program) (t0 e sz bytes : Nat) : Bool :=
  match P.underlying t0, P.info? e with
  | some (.slice e'), some i =>
    match i.zero with
    | some z => Nat.beq e' e && Nat.beq z.cells.size sz && Nat.beq i.size sz && Nat.beq i.bytes bytes && z.cells.toList.all one
    | none => false
  | _, _ => false
structure ElOk (P : Program) (t0 e sz bytes : Nat) : Prop where
  ok : ∃ i z, (∀ ts : Array TypeId, ts[0]? = some t0 → ElemOk P ts t0 e i z) ∧ i.size = sz ∧ i.bytes = bytes ∧ z.cells.toList.all one = true
theorem elB_ok {P : Program} {t0 e sz bytes : Nat} (h : elB P t0 e sz bytes = true) : ElOk P t0 e sz bytes := by
  unfold elB at h
  split at h
  · rename_i e' i h1 h2
    split at h
    · rename_i z h3
      simp only [Bool.and_eq_true, Nat.beq_eq] at h
      obtain ⟨⟨⟨⟨rfl, h5⟩, h6⟩, h7⟩, h8⟩ := h
      exact ⟨i, z, fun ts h0 => ⟨h0, h1, h2, h3, by rw [h5, h6]⟩, h6, h7, h8⟩
    · cases h
  · cases h
def noInt (P : Program) (t : TypeId) : Prop := ∃ d, P.underlying t = some d ∧ ∀ k, d ≠ .int k
theorem noInt_sl {P : Program} {t e : TypeId} (h : P.underlying t = some (.slice e)) : noInt P t := ⟨_, h, fun _ e => by cases e⟩
theorem apW_nil {P : Program} {ts : Array TypeId} {t t0 t1 e : TypeId} {i : TypeInfo} {z : Value} (ok : ElemOk P ts t0 e i z) (h1 : ts[1]? = some t1) (hd : noInt P t1)
    {xc : Nat} {xa : Option Addr} {K : Value → Hp → Prop} {h : Hp} {new : Array Value} (hsrc : srcOf i.size 0 (.slice xa 0 xc) h = some new) (hk : K (.slice none 0 0) h) :
    apW P ts t (.slice none 0 0) (.slice xa 0 xc) K h := by
  obtain ⟨d, hd, hn1⟩ := hd
  unfold apW Builtin.append_
  simp only [ok.at0, h1]
  show Sem.vc P (do let d ← underlying t0; _) K h
  refine vc_rd_bind (by rw [rd_underlying]; exact ok.sl) ?_
  simp only
  refine vc_rd_bind (rd_size (by rw [ok.info]; rfl)) ?_
  rw [info_size ok.info]
  refine vc_rd_bind (by rw [rd_underlying]; exact hd) ?_
  refine vc_rd_bind (a := false) (by cases d <;> first | exact (hn1 _ rfl).elim | rfl) ?_
  simp only [Bool.false_eq_true, if_false]
  refine vc_rd_bind (a := 0) rfl ?_
  rw [if_pos (show 0 + 0 ≤ 0 by omega)]
  simp only [Bool.not_false, if_true]
  exact vc_rd_bind (rd_firstCells hsrc) hk
variable {α : Type} {e : Enc α}
theorem ap_SL {P : Program} {ts : Array TypeId} {t t0 t1 E sz bytes : Nat} (ok : ElOk P t0 E sz bytes) (h0 : ts[0]? = some t0) (h1 : ts[1]? = some t1) (hd : noInt P t1) (he : sz = e.sz) (hbp : 0 < bytes)
    {sv : Value} {l m : List α} {F : Asrt} {K : Value → Hp → Prop} {h : Hp} {xa : Option Addr} {n xc : Nat} (hh : (SL e E sv l * (F * tt)) h)
    (hsrc : srcOf sz n (.slice xa n xc) h = some (e.cs m).toArray) (hm : n = m.length) (hb : (2 * (l.length + m.length) + 256) * bytes ≤ 281474976710656)
    (hk : ∀ v h', (SL e E v (l ++ m) * (F * tt)) h' → K v h') : apW P ts t sv (.slice xa n xc) K h := by
  obtain ⟨i, z, okk, hsz, hby, _⟩ := ok.ok
  clear ok
  have ok := okk ts h0
  subst hsz; subst hby; subst hm
  have hcs : (e.cs m).toArray.size = m.length * i.size := by rw [he]; simp [e.cs_length]
  obtain ⟨d, hd, hn1⟩ := hd
  rcases SL_elim e hh with ⟨rfl, rfl, hF⟩ | ⟨r, cap, post, rfl, h2, h3, h4, hp⟩
  · rcases Nat.eq_zero_or_pos m.length with hm0 | hm0
    · rw [hm0] at hsrc ⊢
      refine apW_nil ok h1 ⟨d, hd, hn1⟩ hsrc ?_
      have : m = [] := List.length_eq_zero_iff.1 hm0
      subst this
      exact hk _ _ (SL_nil e hF)
    · refine apW_grow ok h1 hd hn1 (old := #[]) hF (by omega) (by simpa using hb) hbp rfl hsrc ?_
      intro cap' r spare h' hc1 hc2 hsp hp'
      refine hk _ _ ?_
      have hq := SL_intro e (l := m) (post := spare.toList) (n := m.length) rfl (by omega) hc2 (by rw [Array.length_toList (xs := spare), hsp, ← he]; simp) (h := h') (E := E) (r := r) (F := F * tt) ?_
      · simpa using hq
      · refine asr ?_ hp'
        congr 3
        apply Array.ext'
        simp [Enc.arr]
  · by_cases hfit : l.length + m.length ≤ cap
    · have hsz : m.length * e.sz ≤ post.length := Nat.le_trans (Nat.mul_le_mul_right _ (by omega)) h4
      refine apW_fit ok h1 hd hn1 hp hfit hsrc (e.cs_one m) hcs (by rw [e.arr_size, he, Nat.add_mul]; omega) ?_
      intro h' hp'
      refine hk _ _ ?_
      have hlen : (l ++ m).length = l.length + m.length := by simp
      refine SL_intro e (by rw [hlen]) (by omega) h3 (post := post.drop (m.length * e.sz)) ?_ ?_
      · rw [List.length_drop, hlen, show cap - (l.length + m.length) = cap - l.length - m.length by omega, Nat.sub_mul]
        omega
      · rw [Nat.zero_add, he, e.arr_app (by omega)] at hp'
        exact hp'
    · have hold := src_all e (n := l.length) (pt_get hp) (by omega) l.length (cap := cap)
      rw [List.take_length, ← he] at hold
      refine apW_grow ok h1 hd hn1 hp (by omega) hb hbp hold hsrc ?_
      intro cap' r' spare h' hc1 hc2 hsp hp'
      refine hk _ _ ?_
      have hlen : (l ++ m).length = l.length + m.length := by simp
      refine SL_intro e (by rw [hlen]) (by omega) hc2 (post := spare.toList) (by rw [Array.length_toList (xs := spare), hsp, ← he, hlen]; exact Nat.le_refl _) ?_
      have : (e.cs l).toArray ++ (e.cs m).toArray ++ spare = e.arr (l ++ m) spare.toList := by
        apply Array.ext'
        simp [Enc.arr, e.cs_append]
      rw [this] at hp'
      have h5 : (pt r' (.cells (e.arr (l ++ m) spare.toList) E (0, 0)) * (F * tt * pt r (.cells (e.arr l post) E (0, 0)))) h' := asr (by ac_rfl) hp'
      refine star_right (fun x hx => ?_) h5
      have h6 : (F * (tt * pt r (.cells (e.arr l post) E (0, 0)))) x := asr (by ac_rfl) hx
      exact to_tt h6
end Go.Sl

/-
  Calls by way of an interface.
-/
namespace Go.Sl
def methB (P : Program) (t : TypeId) (name : String) : Option (FuncId × Bool) :=
  match (P.info? t).bind fun i => i.methods.find? (·.name == name) with
  | some m => if m.path.toList.isEmpty then m.func else none
  | none => none
theorem methB_some {P : Program} {t : TypeId} {name : String} {r : FuncId × Bool} (h : methB P t name = some r) :
    ∃ i m, P.info? t = some i ∧ i.methods.find? (·.name == name) = some m ∧ m.path.toList = [] ∧ m.func = some r := by
  unfold methB at h
  split at h
  · rename_i m hm
    cases hi : P.info? t with
    | none => rw [hi] at hm; cases hm
    | some i =>
      rw [hi] at hm
      split at h
      · rename_i he
        exact ⟨i, m, rfl, hm, List.isEmpty_iff.1 he, h⟩
      · cases h
  · cases h
theorem iv_ptr {P : Program} {t e : TypeId} {name : String} {f : FuncId} {v : Value} {args : Array Value} {K : Value → Hp → Prop} {h : Hp} (hm : methB P t name = some (f, true)) (hu : P.underlying t = some (.pointer e)) (hb : bodied P f = true)
    (hh : CallH P f (#[v] ++ args) K h) : ivW P (.iface t v) name args K h := by
  obtain ⟨i, m, h1, h2, h3, h4⟩ := methB_some hm
  refine ⟨?_⟩
  unfold rawWp callMethod
  show Sem.vc P (do let (f, receiver) ← method (P.types.size + Made.depth) t v name; callFunc f (#[receiver] ++ args)) (nextK P K) h
  have hd : P.types.size + Made.depth = (P.types.size + (Made.depth - 1)) + 1 := rfl
  rw [hd]
  refine vc_rd_bind (a := (f, v)) ?_ (callFunc_bodied hb hh)
  unfold method
  rw [rd_bind', rd_typeInfo, h1]
  simp only [Option.bind_some, h2]
  show ((follow m.path.toList t (.val v)) >>= _).rd P h = _
  rw [h3]
  show Sem.rd P (match m.func with | none => _ | some (f, pointerReceiver) => _) h = _
  rw [h4]
  show ((receiverAt t (.val v) true _) >>= _).rd P h = _
  rw [rd_bind']
  unfold receiverAt
  rw [rd_bind', rd_underlying, hu]
  rfl
theorem iv_val {P : Program} {t e : TypeId} {name : String} {f : FuncId} {a : Addr} {rv : Value} {args : Array Value} {K : Value → Hp → Prop} {h : Hp} (hm : methB P t name = some (f, false)) (hu : P.underlying t = some (.pointer e))
    (ha : ((P.underlying e).map aggD) = some false) (hb : bodied P f = true) (hl : ld1 (.pointer (some a)) h = some rv)
    (hh : CallH P f (#[rv] ++ args) K h) : ivW P (.iface t (.pointer (some a))) name args K h := by
  obtain ⟨i, m, h1, h2, h3, h4⟩ := methB_some hm
  refine ⟨?_⟩
  unfold rawWp callMethod
  show Sem.vc P (do let (f, receiver) ← method (P.types.size + Made.depth) t (.pointer (some a)) name; callFunc f (#[receiver] ++ args)) (nextK P K) h
  have hd : P.types.size + Made.depth = (P.types.size + (Made.depth - 1)) + 1 := rfl
  rw [hd]
  refine vc_rd_bind (a := (f, rv)) ?_ (callFunc_bodied hb hh)
  unfold method
  rw [rd_bind', rd_typeInfo, h1]
  simp only [Option.bind_some, h2]
  show ((follow m.path.toList t (.val (.pointer (some a)))) >>= _).rd P h = _
  rw [h3]
  show Sem.rd P (match m.func with | none => _ | some (f, pointerReceiver) => _) h = _
  rw [h4]
  have hp : m.path.isEmpty = true := by
    have : m.path = #[] := by
      cases hq : m.path with
      | mk l => rw [hq] at h3; simp only at h3; rw [h3]
    rw [this]; rfl
  rw [hp]
  show ((receiverAt t (.val (.pointer (some a))) false (some _)) >>= _).rd P h = _
  rw [rd_bind']
  unfold receiverAt
  rw [rd_bind', rd_underlying, hu]
  show (((loadVar e a).rd P h).bind _) = _
  rw [rd_loadVar1 ha hl]
  rfl
theorem ret {p : Prop} {Q F : Asrt} {h : Hp} (hp : p) (hq : (Q * F) h) : (pr p * Q * F) h := by
  rw [star_assoc, pr_star]; exact ⟨hp, hq⟩
theorem ret0 {p : Prop} {F : Asrt} {h : Hp} (hp : p) (hq : F h) : (pr p * F) h := pr_star.2 ⟨hp, hq⟩
theorem drp {P Q : Asrt} {h : Hp} (hh : (P * (Q * tt)) h) : (Q * tt) h := by
  have : (Q * (tt * P)) h := asr (by ac_rfl) hh
  exact star_right (fun _ _ => trivial) this
theorem drp2 {P Q R : Asrt} {h : Hp} (hh : (P * (Q * (R * tt))) h) : (R * tt) h :=
  drp (asr (star_assoc P Q _).symm hh)
theorem gB_undef (b : Bool) : gB undef b = false := by cases b <;> rfl
theorem vP_guard (w : Bool) (v : Option Value) (K : Value → Prop) : vP (gdW w v) K = if w = true then vP v K else K undef := by cases w <;> rfl
end Go.Sl

/-
  Memory that is only read; numbers turned.
-/
namespace Go.Sl
def own (g : Hp) : Asrt := fun h => h = g
theorem own_cell {g : Hp} {F : Asrt} {h : Hp} {a : Addr} {v : Value} (hh : (own g * F) h) (hg : g.cell a = some v) : h.cell a = some v := by
  obtain ⟨x, y, d, rfl, rfl, _⟩ := hh
  exact Hp.cell_add hg
theorem own_ld1 {g : Hp} {F : Asrt} {h : Hp} {p v : Value} (hh : (own g * F) h) (hg : ld1 p g = some v) : ld1 p h = some v := by
  obtain ⟨x, y, d, rfl, rfl, _⟩ := hh
  exact ld1_mono _ _ _ _ hg
structure IntsAt (g : Hp) (sv : Value) (xs : List Int) : Prop where
  len : lenV sv = some (.int .i64 xs.length)
  lt : xs.length < 9223372036854775808
  get : ∀ (j : Nat) (x : Int) (k : IntKind), xs[j]? = some x → ∃ p, iaS 1 sv (.int k (j : Int)) = some p ∧ ld1 p g = some (.int .i64 x)
theorem eq_refl_int (k : IntKind) (a : Int) : eqV 1 false (.int k a) (.int k a) = some (.bool true) := by rw [eq_int, decide_eq_true rfl]
theorem ne_refl_int (k : IntKind) (a : Int) : eqV 1 true (.int k a) (.int k a) = some (.bool false) := by rw [ne_int, decide_eq_false (fun h => h rfl)]
theorem bin_rem_u {a b : Int} (ha : 0 ≤ a) (hb : 1 ≤ b) : binV .rem (.int .u64 a) (.int .u64 b) = some (.int .u64 (a % b)) := by
  show (if b = 0 then none else some (Value.int .u64 (a.tmod b))) = _
  rw [if_neg (by omega), Int.tmod_eq_emod_of_nonneg ha]
theorem conv_u (k : IntKind) (x : Int) : convV .u64 (.int k x) = some (.int .u64 (IntKind.u64.wrap x)) := rfl
theorem wrap_u (x : Int) : IntKind.u64.wrap x = x % 18446744073709551616 := by simp [IntKind.wrap, IntKind.bits, IntKind.signed]
theorem wrap_u_nonneg (x : Int) : 0 ≤ IntKind.u64.wrap x ∧ IntKind.u64.wrap x < 18446744073709551616 := by
  rw [wrap_u]; omega
theorem wrap_u_id {x : Int} (h : 0 ≤ x ∧ x < 18446744073709551616) : IntKind.u64.wrap x = x := by
  rw [wrap_u]; omega
theorem conv_i {k : IntKind} {x : Int} (h : -9223372036854775808 ≤ x ∧ x ≤ 9223372036854775807) : convV .i64 (.int k x) = some (.int .i64 x) := by
  show some (Value.int .i64 (IntKind.i64.wrap x)) = _
  rw [wrap_i64 h]
def urem (x b : Int) : Int := IntKind.u64.wrap x % b
theorem urem_lt {x b : Int} (h : 1 ≤ b) : 0 ≤ urem x b ∧ urem x b < b := ⟨Int.emod_nonneg _ (by omega), Int.emod_lt_of_pos _ (by omega)⟩
end Go.Sl
