/-
  Partial heaps with a frame built in: what an operation of the model does to the part of the memory that it owns.
-/
import Derived.Calls
import Derived.Orders
import Derived.KernelRfl
set_option linter.unusedVariables false
set_option linter.unusedSimpArgs false
namespace Go.Sl

structure Hp where
  f : Nat → Option Obj
  fin : ∃ n, ∀ b, n ≤ b → f b = none

instance : CoeFun Hp fun _ => Nat → Option Obj := ⟨Hp.f⟩

theorem Hp.ext' {h g : Hp} (e : ∀ b, h b = g b) : h = g := by
  cases h with | mk f hf => cases g with | mk g hg => have : f = g := funext e; subst this; rfl

def Hp.emp : Hp := ⟨fun _ => none, 0, fun _ _ => rfl⟩

def Hp.upd (h : Hp) (b : Nat) (o : Obj) : Hp :=
  ⟨fun c => if c = b then some o else h c, by
    obtain ⟨n, hn⟩ := h.fin
    exact ⟨max n (b + 1), fun c hc => by rw [if_neg (by omega)]; exact hn c (by omega)⟩⟩

def Hp.add (h g : Hp) : Hp :=
  ⟨fun b => (h b).or (g b), by
    obtain ⟨n, hn⟩ := h.fin
    obtain ⟨m, hm⟩ := g.fin
    exact ⟨max n m, fun c hc => by rw [hn c (by omega), hm c (by omega)]; rfl⟩⟩

def Disj (h g : Hp) : Prop := ∀ b, h b = none ∨ g b = none

def _root_.Go.World.hp (w : World) : Hp := ⟨fun b => w.heap[b]?, w.heap.size, fun b hb => by simp [hb]⟩

theorem Hp.upd_apply (h : Hp) (b c : Nat) (o : Obj) : (h.upd b o) c = if c = b then some o else h c := rfl
theorem Hp.add_apply (h g : Hp) (b : Nat) : (h.add g) b = (h b).or (g b) := rfl
theorem Hp.emp_apply (b : Nat) : Hp.emp b = none := rfl
theorem hp_apply (w : World) (b : Nat) : w.hp b = w.heap[b]? := rfl
theorem Hp.upd_self (h : Hp) (b : Nat) (o : Obj) : (h.upd b o) b = some o := by simp [Hp.upd_apply]
theorem Hp.upd_ne {h : Hp} {b c : Nat} {o : Obj} (hc : c ≠ b) : (h.upd b o) c = h c := by simp [Hp.upd_apply, hc]

theorem Disj.symm {h g : Hp} (d : Disj h g) : Disj g h := fun b => (d b).symm

theorem Hp.add_of_left {h g : Hp} {b : Nat} {o : Obj} (hb : h b = some o) : (h.add g) b = some o := by simp [Hp.add_apply, hb]

theorem Hp.add_assoc (a b c : Hp) : (a.add b).add c = a.add (b.add c) := Hp.ext' fun x => by
  simp only [Hp.add_apply]; cases a x <;> rfl

theorem Hp.add_comm {a b : Hp} (d : Disj a b) : a.add b = b.add a := Hp.ext' fun x => by
  simp only [Hp.add_apply]
  rcases d x with h | h <;> simp [h]

theorem Hp.emp_add (a : Hp) : Hp.emp.add a = a := Hp.ext' fun x => by simp [Hp.add_apply, Hp.emp_apply]
theorem Hp.add_emp (a : Hp) : a.add Hp.emp = a := Hp.ext' fun x => by simp [Hp.add_apply, Hp.emp_apply]
theorem Disj.emp (a : Hp) : Disj a Hp.emp := fun _ => .inr rfl
theorem Disj.emp_left (a : Hp) : Disj Hp.emp a := fun _ => .inl rfl

theorem Disj.add_left {a b c : Hp} : Disj (a.add b) c ↔ Disj a c ∧ Disj b c := by
  constructor
  · intro d
    refine ⟨fun x => ?_, fun x => ?_⟩ <;> rcases d x with h | h
    · simp only [Hp.add_apply, Option.or_eq_none_iff] at h; exact .inl h.1
    · exact .inr h
    · simp only [Hp.add_apply, Option.or_eq_none_iff] at h; exact .inl h.2
    · exact .inr h
  · rintro ⟨d1, d2⟩ x
    rcases d1 x with h1 | h1
    · rcases d2 x with h2 | h2
      · exact .inl (by simp [Hp.add_apply, h1, h2])
      · exact .inr h2
    · exact .inr h1

theorem Disj.add_right {a b c : Hp} : Disj c (a.add b) ↔ Disj c a ∧ Disj c b :=
  ⟨fun d => let ⟨x, y⟩ := Disj.add_left.1 d.symm; ⟨x.symm, y.symm⟩, fun ⟨x, y⟩ => (Disj.add_left.2 ⟨x.symm, y.symm⟩).symm⟩

theorem Disj.upd_mem {h f : Hp} {b : Nat} {o o' : Obj} (d : Disj h f) (hb : h b = some o) : Disj (h.upd b o') f := fun x => by
  by_cases hx : x = b
  · subst hx
    rcases d x with h1 | h1
    · rw [hb] at h1; cases h1
    · exact .inr h1
  · rw [Hp.upd_ne hx]; exact d x

theorem Hp.upd_mem_add {h f : Hp} {b : Nat} {o' : Obj} : (h.upd b o').add f = (h.add f).upd b o' := Hp.ext' fun x => by
  by_cases hx : x = b
  · subst hx; simp [Hp.add_apply, Hp.upd_self]
  · simp [Hp.add_apply, Hp.upd_ne hx]

theorem Disj.upd_new {h f : Hp} {b : Nat} {o' : Obj} (d : Disj h f) (hb : f b = none) : Disj (h.upd b o') f := fun x => by
  by_cases hx : x = b
  · subst hx; exact .inr hb
  · rw [Hp.upd_ne hx]; exact d x

theorem Hp.fresh (h : Hp) : ∃ r, h r = none := let ⟨n, hn⟩ := h.fin; ⟨n, hn n (Nat.le_refl n)⟩

/-! ### Cells -/

def _root_.Go.Obj.cellAt (o : Obj) (a : Addr) : Option Value :=
  match o with
  | .cells c _ _ => if a.spot.isSome then none else c[a.off]?
  | _ => none

def _root_.Go.Obj.frz (o : Obj) (a : Addr) : Bool :=
  match o with
  | .cells _ _ (lo, hi) => lo ≤ a.off && a.off < hi
  | _ => false

def _root_.Go.Obj.shp (o : Obj) : Option (TypeId × Nat) :=
  match o with
  | .cells c e _ => some (e, c.size)
  | _ => none

def _root_.Go.Obj.setAt (o : Obj) (a : Addr) (v : Value) : Obj :=
  match o with
  | .cells c elem frozen => .cells (if a.spot.isSome then c else c.setIfInBounds a.off v) elem frozen
  | o => o

def _root_.Go.Obj.isCellsB : Obj → Bool
  | .cells .. => true
  | _ => false

def Hp.cell (h : Hp) (a : Addr) : Option Value := (h a.block).bind (·.cellAt a)

theorem cell?_hp (w : World) (a : Addr) : w.cell? a = w.hp.cell a := by
  simp only [World.cell?, Hp.cell, hp_apply]
  cases w.heap[a.block]? with
  | none => rfl
  | some o => cases o <;> rfl

theorem frozen?_hp (w : World) (a : Addr) {o : Obj} (h : w.hp a.block = some o) : w.frozen? a = o.frz a := by
  rw [hp_apply] at h
  simp only [World.frozen?, h]
  cases o <;> rfl

theorem shape?_hp (w : World) (r : Nat) {o : Obj} (h : w.hp r = some o) : w.shape? r = o.shp := by
  rw [hp_apply] at h
  simp only [World.shape?, h]
  cases o <;> rfl

theorem setCell_hp (w : World) (a : Addr) (v : Value) {o : Obj} (h : w.hp a.block = some o) :
    (w.setCell a v).hp = w.hp.upd a.block (o.setAt a v) := Hp.ext' fun b => by
  rw [hp_apply] at h
  simp only [hp_apply, World.setCell, Array.getElem?_modify, Hp.upd_apply]
  by_cases hb : a.block = b
  · subst hb
    simp only [if_pos, h, Option.map_some]
    cases o <;> rfl
  · rw [if_neg hb, if_neg (fun e => hb e.symm)]

theorem push_hp (w : World) (o : Obj) : ({ w with heap := w.heap.push o } : World).hp = w.hp.upd w.heap.size o := Hp.ext' fun b => by
  simp only [hp_apply, Hp.upd_apply, Array.getElem?_push]

theorem setObj_hp (w : World) (r : Nat) (o : Obj) {o' : Obj} (h : w.hp r = some o') :
    ({ w with heap := w.heap.setIfInBounds r o } : World).hp = w.hp.upd r o := Hp.ext' fun b => by
  rw [hp_apply] at h
  have hr := (Array.getElem?_eq_some_iff.1 h).1
  simp only [hp_apply, Hp.upd_apply, Array.getElem?_setIfInBounds]
  by_cases hb : r = b
  · subst hb; simp [hr]
  · rw [if_neg hb, if_neg (fun e => hb e.symm)]

theorem Hp.cell_add {h f : Hp} {a : Addr} {v : Value} (hc : h.cell a = some v) : (h.add f).cell a = some v := by
  unfold Hp.cell at *
  cases hb : h a.block with
  | none => rw [hb] at hc; cases hc
  | some o => rw [Hp.add_of_left hb]; rw [hb] at hc; exact hc

theorem Hp.block_of_cell {h : Hp} {a : Addr} {v : Value} (hc : h.cell a = some v) : ∃ o, h a.block = some o ∧ o.cellAt a = some v := by
  unfold Hp.cell at hc
  cases hb : h a.block with
  | none => rw [hb] at hc; cases hc
  | some o => exact ⟨o, rfl, by rw [hb] at hc; exact hc⟩

def one : Value → Bool
  | .agg _ | .tuple _ => false
  | _ => true

/-! ### What a computation of the model does with the part that it owns -/

def _root_.Go.Sem.vc {α : Type} (P : Program) : Sem α → (α → Hp → Prop) → Hp → Prop
  | .pure a, Q, h => Q a h
  | .load _ a k, Q, h => ∃ v, h.cell a = some v ∧ (k v).vc P Q h
  | .store _ a v k, Q, h => one v = true ∧ ∃ o, h a.block = some o ∧ (o.cellAt a).isSome = true ∧ o.frz a = false ∧ k.vc P Q (h.upd a.block (o.setAt a v))
  | .new o k, Q, h => ∀ r, h r = none → (k r).vc P Q (h.upd r o)
  | .shape r k, Q, h => ∃ o, h r = some o ∧ (k o.shp).vc P Q h
  | .freeze _ _ _, _, _ => False
  | .frozen a k, Q, h => ∃ o, h a.block = some o ∧ (k (o.frz a)).vc P Q h
  | .getObj r k, Q, h => ∃ o, h r = some o ∧ o.isCellsB = false ∧ (k o).vc P Q h
  | .setObj r o k, Q, h => ∃ o', h r = some o' ∧ o'.isCellsB = false ∧ k.vc P Q (h.upd r o)
  | .choose q k, Q, h => if q.forced then (k 0).vc P Q h else ∀ t, (k (q.cut t)).vc P Q h
  | .sys _ _, _, _ => False
  | .program k, Q, h => (k P).vc P Q h
  | .mark _ k, Q, h => k.vc P Q h
  | .halt _, _, _ => False

theorem vc_mono {α : Type} {P : Program} {s : Sem α} {Q Q' : α → Hp → Prop} (hq : ∀ a h, Q a h → Q' a h) : ∀ {h : Hp}, s.vc P Q h → s.vc P Q' h := by
  induction s with
  | pure a => exact fun hh => hq _ _ hh
  | load m a k ih => exact fun ⟨v, h1, h2⟩ => ⟨v, h1, ih v h2⟩
  | store m a v k ih => exact fun ⟨h0, o, h1, h2, h3, h4⟩ => ⟨h0, o, h1, h2, h3, ih h4⟩
  | new o k ih => exact fun hh r hr => ih r (hh r hr)
  | shape r k ih => exact fun ⟨o, h1, h2⟩ => ⟨o, h1, ih _ h2⟩
  | freeze a n k ih => exact fun hh => hh
  | frozen a k ih => exact fun ⟨o, h1, h2⟩ => ⟨o, h1, ih _ h2⟩
  | getObj r k ih => exact fun ⟨o, h1, h2, h3⟩ => ⟨o, h1, h2, ih _ h3⟩
  | setObj r o k ih => exact fun ⟨o', h1, h2, h3⟩ => ⟨o', h1, h2, ih h3⟩
  | choose q k ih =>
    intro h hh
    simp only [Sem.vc] at hh ⊢
    split
    · rename_i hf; rw [if_pos hf] at hh; exact ih _ hh
    · rename_i hf; rw [if_neg hf] at hh; exact fun t => ih _ (hh t)
  | sys c k ih => exact fun hh => hh
  | program k ih => exact fun hh => ih _ hh
  | mark m k ih => exact fun hh => ih hh
  | halt x => exact fun hh => hh

abbrev Tag := Os × Array (Nat × ByteArray) × Tape
/-- What the memory is; what lies outside of it. -/
def _root_.Go.World.At (w : World) (tg : Tag) (h : Hp) : Prop := w.hp = h ∧ (w.os, w.output, w.tape) = tg

theorem vc_run {α : Type} {P : Program} {s : Sem α} {Q : α → Hp → Prop} : ∀ {h : Hp}, s.vc P Q h → ∀ (w : World) (f : Hp) (tg : Tag), Disj h f → w.At tg (h.add f) →
    ∃ a w' h', s.run P w = .ok a w' ∧ Disj h' f ∧ w'.At tg (h'.add f) ∧ Q a h' := by
  induction s with
  | pure a => exact fun hh w f tg d e => ⟨a, w, _, rfl, d, e, hh⟩
  | load m a k ih =>
    rintro h ⟨v, h1, h2⟩ w f tg d ⟨e, et⟩
    have hc : w.cell? a = some v := by rw [cell?_hp, e]; exact Hp.cell_add h1
    obtain ⟨x, w', h', r, rest⟩ := ih v h2 w f tg d ⟨e, et⟩
    exact ⟨x, w', h', by simp only [Sem.run, hc]; exact r, rest⟩
  | store m a v k ih =>
    rintro h ⟨h0, o, h1, h2, h3, h4⟩ w f tg d ⟨e, et⟩
    have hb : w.hp a.block = some o := by rw [e]; exact Hp.add_of_left h1
    have hc : ∃ x, w.cell? a = some x := by
      rw [cell?_hp, Hp.cell, hb]
      exact Option.isSome_iff_exists.1 h2
    obtain ⟨x, hx⟩ := hc
    have hf : w.frozen? a = false := by rw [frozen?_hp w a hb]; exact h3
    obtain ⟨y, w', h', r, rest⟩ := ih h4 (w.setCell a v) f tg (d.upd_mem h1) ⟨by rw [setCell_hp w a v hb, e, Hp.upd_mem_add], et⟩
    refine ⟨y, w', h', ?_, rest⟩
    rw [← r]
    cases v <;> first | (simp [one] at h0; done) | simp [Sem.run, hx, hf]
  | new o k ih =>
    intro h hh w f tg d ⟨e, et⟩
    have hn : (h.add f) w.heap.size = none := by rw [← e, hp_apply]; simp
    have hn1 : h w.heap.size = none := by simp only [Hp.add_apply, Option.or_eq_none_iff] at hn; exact hn.1
    have hn2 : f w.heap.size = none := by simp only [Hp.add_apply, Option.or_eq_none_iff] at hn; exact hn.2
    obtain ⟨x, w', h', r, rest⟩ := ih _ (hh w.heap.size hn1) { w with heap := w.heap.push o } f tg (d.upd_new hn2) ⟨by rw [push_hp, e, Hp.upd_mem_add], et⟩
    exact ⟨x, w', h', r, rest⟩
  | shape r k ih =>
    rintro h ⟨o, h1, h2⟩ w f tg d ⟨e, et⟩
    have hb : w.hp r = some o := by rw [e]; exact Hp.add_of_left h1
    obtain ⟨x, w', h', r', rest⟩ := ih _ h2 w f tg d ⟨e, et⟩
    exact ⟨x, w', h', by simp only [Sem.run, shape?_hp w r hb]; exact r', rest⟩
  | freeze a n k ih => exact fun hh => hh.elim
  | frozen a k ih =>
    rintro h ⟨o, h1, h2⟩ w f tg d ⟨e, et⟩
    have hb : w.hp a.block = some o := by rw [e]; exact Hp.add_of_left h1
    obtain ⟨x, w', h', r', rest⟩ := ih _ h2 w f tg d ⟨e, et⟩
    exact ⟨x, w', h', by simp only [Sem.run, frozen?_hp w a hb]; exact r', rest⟩
  | getObj r k ih =>
    rintro h ⟨o, h1, h2, h3⟩ w f tg d ⟨e, et⟩
    have hb : w.heap[r]? = some o := by rw [← hp_apply, e]; exact Hp.add_of_left h1
    obtain ⟨x, w', h', r', rest⟩ := ih _ h3 w f tg d ⟨e, et⟩
    refine ⟨x, w', h', ?_, rest⟩
    rw [← r']
    cases o <;> first | (simp [Obj.isCellsB] at h2; done) | simp [Sem.run, hb]
  | setObj r o k ih =>
    rintro h ⟨o', h1, h2, h3⟩ w f tg d ⟨e, et⟩
    have hb : w.hp r = some o' := by rw [e]; exact Hp.add_of_left h1
    have hb' : w.heap[r]? = some o' := by rw [← hp_apply]; exact hb
    obtain ⟨x, w', h', r', rest⟩ := ih h3 { w with heap := w.heap.setIfInBounds r o } f tg (d.upd_mem h1) ⟨by rw [setObj_hp w r o hb, e, Hp.upd_mem_add], et⟩
    refine ⟨x, w', h', ?_, rest⟩
    rw [← r']
    cases o' <;> first | (simp [Obj.isCellsB] at h2; done) | simp [Sem.run, hb']
  | choose q k ih =>
    intro h hh w f tg d ⟨e, et⟩
    simp only [Sem.vc] at hh
    by_cases hf : q.forced = true
    · rw [if_pos hf] at hh
      obtain ⟨x, w', h', r', rest⟩ := ih _ hh w f tg d ⟨e, et⟩
      exact ⟨x, w', h', by simp only [Sem.run, hf, if_true]; exact r', rest⟩
    · rw [if_neg hf] at hh
      obtain ⟨x, w', h', r', rest⟩ := ih _ (hh (w.tape w.drawn q)) { w with drawn := w.drawn + 1 } f tg d ⟨e, et⟩
      exact ⟨x, w', h', by simp only [Sem.run]; rw [if_neg hf]; exact r', rest⟩
  | sys c k ih => exact fun hh => hh.elim
  | program k ih =>
    intro h hh w f tg d ⟨e, et⟩
    exact ih _ hh w f tg d ⟨e, et⟩
  | mark m k ih =>
    intro h hh w f tg d ⟨e, et⟩
    exact ih hh w f tg d ⟨e, et⟩
  | halt x => exact fun hh => hh.elim

/-- The frame rule. -/
theorem vc_frame {α : Type} {P : Program} {s : Sem α} {Q : α → Hp → Prop} : ∀ {h : Hp}, s.vc P Q h → ∀ (f : Hp), Disj h f →
    s.vc P (fun a h'' => ∃ h', Disj h' f ∧ h'' = h'.add f ∧ Q a h') (h.add f) := by
  induction s with
  | pure a => exact fun hh f d => ⟨_, d, rfl, hh⟩
  | load m a k ih => exact fun ⟨v, h1, h2⟩ f d => ⟨v, Hp.cell_add h1, ih v h2 f d⟩
  | store m a v k ih =>
    rintro h ⟨h0, o, h1, h2, h3, h4⟩ f d
    refine ⟨h0, o, Hp.add_of_left h1, h2, h3, ?_⟩
    rw [← Hp.upd_mem_add]
    exact ih h4 f (d.upd_mem h1)
  | new o k ih =>
    intro h hh f d r hr
    simp only [Hp.add_apply, Option.or_eq_none_iff] at hr
    rw [← Hp.upd_mem_add]
    exact ih r (hh r hr.1) f (d.upd_new hr.2)
  | shape r k ih => exact fun ⟨o, h1, h2⟩ f d => ⟨o, Hp.add_of_left h1, ih _ h2 f d⟩
  | freeze a n k ih => exact fun hh => hh.elim
  | frozen a k ih => exact fun ⟨o, h1, h2⟩ f d => ⟨o, Hp.add_of_left h1, ih _ h2 f d⟩
  | getObj r k ih => exact fun ⟨o, h1, h2, h3⟩ f d => ⟨o, Hp.add_of_left h1, h2, ih _ h3 f d⟩
  | setObj r o k ih =>
    rintro h ⟨o', h1, h2, h3⟩ f d
    refine ⟨o', Hp.add_of_left h1, h2, ?_⟩
    rw [← Hp.upd_mem_add]
    exact ih h3 f (d.upd_mem h1)
  | choose q k ih =>
    intro h hh f d
    simp only [Sem.vc] at hh ⊢
    by_cases hf : q.forced = true
    · rw [if_pos hf] at hh ⊢; exact ih _ hh f d
    · rw [if_neg hf] at hh ⊢; exact fun t => ih _ (hh t) f d
  | sys c k ih => exact fun hh => hh.elim
  | program k ih => exact fun hh f d => ih _ hh f d
  | mark m k ih => exact fun hh f d => ih hh f d
  | halt x => exact fun hh => hh.elim

/-- It does come to something. -/
theorem vc_some {α : Type} {P : Program} {s : Sem α} {Q : α → Hp → Prop} : ∀ {h : Hp}, s.vc P Q h → ∃ a h', Q a h' := by
  induction s with
  | pure a => exact fun hh => ⟨_, _, hh⟩
  | load m a k ih => exact fun ⟨v, _, h2⟩ => ih v h2
  | store m a v k ih => exact fun ⟨_, _, _, _, _, h4⟩ => ih h4
  | new o k ih => intro h hh; obtain ⟨r, hr⟩ := h.fresh; exact ih r (hh r hr)
  | shape r k ih => exact fun ⟨_, _, h2⟩ => ih _ h2
  | freeze a n k ih => exact fun hh => hh.elim
  | frozen a k ih => exact fun ⟨_, _, h2⟩ => ih _ h2
  | getObj r k ih => exact fun ⟨_, _, _, h3⟩ => ih _ h3
  | setObj r o k ih => exact fun ⟨_, _, _, h3⟩ => ih h3
  | choose q k ih =>
    intro h hh
    simp only [Sem.vc] at hh
    by_cases hf : q.forced = true
    · rw [if_pos hf] at hh; exact ih _ hh
    · rw [if_neg hf] at hh; exact ih _ (hh 0)
  | sys c k ih => exact fun hh => hh.elim
  | program k ih => exact fun hh => ih _ hh
  | mark m k ih => exact fun hh => ih hh
  | halt x => exact fun hh => hh.elim

theorem vc_bind {α β : Type} {P : Program} {s : Sem α} {k : α → Sem β} {Q : β → Hp → Prop} : ∀ {h : Hp}, (s.bind k).vc P Q h ↔ s.vc P (fun a h' => (k a).vc P Q h') h := by
  induction s with
  | pure a => exact Iff.rfl
  | load m a k ih => intro h; simp only [Sem.bind, Sem.vc, ih]
  | store m a v k ih => intro h; simp only [Sem.bind, Sem.vc, ih]
  | new o k ih => intro h; simp only [Sem.bind, Sem.vc, ih]
  | shape r k ih => intro h; simp only [Sem.bind, Sem.vc, ih]
  | freeze a n k ih => intro h; simp only [Sem.bind, Sem.vc]
  | frozen a k ih => intro h; simp only [Sem.bind, Sem.vc, ih]
  | getObj r k ih => intro h; simp only [Sem.bind, Sem.vc, ih]
  | setObj r o k ih => intro h; simp only [Sem.bind, Sem.vc, ih]
  | choose q k ih => intro h; simp only [Sem.bind, Sem.vc, ih]
  | sys c k ih => intro h; simp only [Sem.bind, Sem.vc]
  | program k ih => intro h; simp only [Sem.bind, Sem.vc, ih]
  | mark m k ih => intro h; simp only [Sem.bind, Sem.vc, ih]
  | halt x => intro h; simp only [Sem.bind, Sem.vc]

end Go.Sl
