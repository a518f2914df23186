/-
  Texts of the proof, in one file: V1, V2.
-/
import Derived.Calls
import Derived.Orders
import Derived.KernelRfl
set_option linter.unusedVariables false
set_option linter.unusedSimpArgs false
/-
  Partial heaps with a frame built in: what an operation of the model does to the part of the memory that it owns.
-/
namespace Go.Sl
structure Hp where
  f : Nat → Option Obj
  fin : ∃ n, ∀ b, n ≤ b → f b = none
instance : CoeFun Hp fun _ => Nat → Option Obj := ⟨Hp.f⟩
theorem Hp.ext' {h g : Hp} (e : ∀ b, h b = g b) : h = g := by
  cases h with | mk f hf => cases g with | mk g hg => have : f = g := funext e; subst this; rfl
def Hp.emp : Hp := ⟨fun _ => none, 0, fun _ _ => rfl⟩
def Hp.upd (h : Hp) (b : Nat) (o : Obj) : Hp :=
  ⟨fun c => if c = b then some o else h c, by
    obtain ⟨n, hn⟩ := h.fin
    exact ⟨max n (b + 1), fun c hc => by rw [if_neg (by omega)]; exact hn c (by omega)⟩⟩
def Hp.add (h g : Hp) : Hp :=
  ⟨fun b => (h b).or (g b), by
    obtain ⟨n, hn⟩ := h.fin
    obtain ⟨m, hm⟩ := g.fin
    exact ⟨max n m, fun c hc => by rw [hn c (by omega), hm c (by omega)]; rfl⟩⟩
def Disj (h g : Hp) : Prop := ∀ b, h b = none ∨ g b = none
def _root_.Go.World.hp (w : World) : Hp := ⟨fun b => w.heap[b]?, w.heap.size, fun b hb => by simp [hb]⟩
theorem Hp.upd_apply (h : Hp) (b c : Nat) (o : Obj) : (h.upd b o) c = if c = b then some o else h c := rfl
theorem Hp.add_apply (h g : Hp) (b : Nat) : (h.add g) b = (h b).or (g b) := rfl
theorem Hp.emp_apply (b : Nat) : Hp.emp b = none := rfl
theorem hp_apply (w : World) (b : Nat) : w.hp b = w.heap[b]? := rfl
theorem Hp.upd_self (h : Hp) (b : Nat) (o : Obj) : (h.upd b o) b = some o := by simp [Hp.upd_apply]
theorem Hp.upd_ne {h : Hp} {b c : Nat} {o : Obj} (hc : c ≠ b) : (h.upd b o) c = h c := by simp [Hp.upd_apply, hc]
theorem Disj.symm {h g : Hp} (d : Disj h g) : Disj g h := fun b => (d b).symm
theorem Hp.add_of_left {h g : Hp} {b : Nat} {o : Obj} (hb : h b = some o) : (h.add g) b = some o := by simp [Hp.add_apply, hb]
theorem Hp.add_assoc (a b c : Hp) : (a.add b).add c = a.add (b.add c) := Hp.ext' fun x => by
  simp only [Hp.add_apply]; cases a x <;> rfl
theorem Hp.add_comm {a b : Hp} (d : Disj a b) : a.add b = b.add a := Hp.ext' fun x => by
  simp only [Hp.add_apply]
  rcases d x with h | h <;> simp [h]
theorem Hp.emp_add (a : Hp) : Hp.emp.add a = a := Hp.ext' fun x => by simp [Hp.add_apply, Hp.emp_apply]
theorem Hp.add_emp (a : Hp) : a.add Hp.emp = a := Hp.ext' fun x => by simp [Hp.add_apply, Hp.emp_apply]
theorem Disj.emp (a : Hp) : Disj a Hp.emp := fun _ => .inr rfl
theorem Disj.emp_left (a : Hp) : Disj Hp.emp a := fun _ => .inl rfl
theorem Disj.add_left {a b c : Hp} : Disj (a.add b) c ↔ Disj a c ∧ Disj b c := by
  constructor
  · intro d
    refine ⟨fun x => ?_, fun x => ?_⟩ <;> rcases d x with h | h
    · simp only [Hp.add_apply, Option.or_eq_none_iff] at h; exact .inl h.1
    · exact .inr h
    · simp only [Hp.add_apply, Option.or_eq_none_iff] at h; exact .inl h.2
    · exact .inr h
  · rintro ⟨d1, d2⟩ x
    rcases d1 x with h1 | h1
    · rcases d2 x with h2 | h2
      · exact .inl (by simp [Hp.add_apply, h1, h2])
      · exact .inr h2
    · exact .inr h1
theorem Disj.add_right {a b c : Hp} : Disj c (a.add b) ↔ Disj c a ∧ Disj c b :=
  ⟨fun d => let ⟨x, y⟩ := Disj.add_left.1 d.symm; ⟨x.symm, y.symm⟩, fun ⟨x, y⟩ => (Disj.add_left.2 ⟨x.symm, y.symm⟩).symm⟩
theorem Disj.upd_mem {h f : Hp} {b : Nat} {o o' : Obj} (d : Disj h f) (hb : h b = some o) : Disj (h.upd b o') f := fun x => by
  by_cases hx : x = b
  · subst hx
    rcases d x with h1 | h1
    · rw [hb] at h1; cases h1
    · exact .inr h1
  · rw [Hp.upd_ne hx]; exact d x
theorem Hp.upd_mem_add {h f : Hp} {b : Nat} {o' : Obj} : (h.upd b o').add f = (h.add f).upd b o' := Hp.ext' fun x => by
  by_cases hx : x = b
  · subst hx; simp [Hp.add_apply, Hp.upd_self]
  · simp [Hp.add_apply, Hp.upd_ne hx]
theorem Disj.upd_new {h f : Hp} {b : Nat} {o' : Obj} (d : Disj h f) (hb : f b = none) : Disj (h.upd b o') f := fun x => by
  by_cases hx : x = b
  · subst hx; exact .inr hb
  · rw [Hp.upd_ne hx]; exact d x
theorem Hp.fresh (h : Hp) : ∃ r, h r = none := let ⟨n, hn⟩ := h.fin; ⟨n, hn n (Nat.le_refl n)⟩
def _root_.Go.Obj.cellAt (o : Obj) (a : Addr) : Option Value :=
  match o with
  | .cells c _ _ => if a.spot.isSome then none else c[a.off]?
  | _ => none
def _root_.Go.Obj.frz (o : Obj) (a : Addr) : Bool :=
  match o with
  | .cells _ _ (lo, hi) => lo ≤ a.off && a.off < hi
  | _ => false
def _root_.Go.Obj.shp (o : Obj) : Option (TypeId × Nat) :=
  match o with
  | .cells c e _ => some (e, c.size)
  | _ => none
def _root_.Go.Obj.setAt (o : Obj) (a : Addr) (v : Value) : Obj :=
  match o with
  | .cells c elem frozen => .cells (if a.spot.isSome then c else c.setIfInBounds a.off v) elem frozen
  | o => o
def _root_.Go.Obj.isCellsB : Obj → Bool
  | .cells .. => true
  | _ => false
def Hp.cell (h : Hp) (a : Addr) : Option Value := (h a.block).bind (·.cellAt a)
theorem cell?_hp (w : World) (a : Addr) : w.cell? a = w.hp.cell a := by
  simp only [World.cell?, Hp.cell, hp_apply]
  cases w.heap[a.block]? with
  | none => rfl
  | some o => cases o <;> rfl
theorem frozen?_hp (w : World) (a : Addr) {o : Obj} (h : w.hp a.block = some o) : w.frozen? a = o.frz a := by
  rw [hp_apply] at h
  simp only [World.frozen?, h]
  cases o <;> rfl
theorem shape?_hp (w : World) (r : Nat) {o : Obj} (h : w.hp r = some o) : w.shape? r = o.shp := by
  rw [hp_apply] at h
  simp only [World.shape?, h]
  cases o <;> rfl
theorem setCell_hp (w : World) (a : Addr) (v : Value) {o : Obj} (h : w.hp a.block = some o) :
    (w.setCell a v).hp = w.hp.upd a.block (o.setAt a v) := Hp.ext' fun b => by
  rw [hp_apply] at h
  simp only [hp_apply, World.setCell, Array.getElem?_modify, Hp.upd_apply]
  by_cases hb : a.block = b
  · subst hb
    simp only [if_pos, h, Option.map_some]
    cases o <;> rfl
  · rw [if_neg hb, if_neg (fun e => hb e.symm)]
theorem push_hp (w : World) (o : Obj) : ({ w with heap := w.heap.push o } : World).hp = w.hp.upd w.heap.size o := Hp.ext' fun b => by
  simp only [hp_apply, Hp.upd_apply, Array.getElem?_push]
theorem setObj_hp (w : World) (r : Nat) (o : Obj) {o' : Obj} (h : w.hp r = some o') :
    ({ w with heap := w.heap.setIfInBounds r o } : World).hp = w.hp.upd r o := Hp.ext' fun b => by
  rw [hp_apply] at h
  have hr := (Array.getElem?_eq_some_iff.1 h).1
  simp only [hp_apply, Hp.upd_apply, Array.getElem?_setIfInBounds]
  by_cases hb : r = b
  · subst hb; simp [hr]
  · rw [if_neg hb, if_neg (fun e => hb e.symm)]
theorem Hp.cell_add {h f : Hp} {a : Addr} {v : Value} (hc : h.cell a = some v) : (h.add f).cell a = some v := by
  unfold Hp.cell at *
  cases hb : h a.block with
  | none => rw [hb] at hc; cases hc
  | some o => rw [Hp.add_of_left hb]; rw [hb] at hc; exact hc
theorem Hp.block_of_cell {h : Hp} {a : Addr} {v : Value} (hc : h.cell a = some v) : ∃ o, h a.block = some o ∧ o.cellAt a = some v := by
  unfold Hp.cell at hc
  cases hb : h a.block with
  | none => rw [hb] at hc; cases hc
  | some o => exact ⟨o, rfl, by rw [hb] at hc; exact hc⟩
def one : Value → Bool
  | .agg _ | .tuple _ => false
  | _ => true
def _root_.Go.Sem.vc {α : Type} (P : Program) : Sem α → (α → Hp → Prop) → Hp → Prop
  | .pure a, Q, h => Q a h
  | .load _ a k, Q, h => ∃ v, h.cell a = some v ∧ (k v).vc P Q h
  | .store _ a v k, Q, h => one v = true ∧ ∃ o, h a.block = some o ∧ (o.cellAt a).isSome = true ∧ o.frz a = false ∧ k.vc P Q (h.upd a.block (o.setAt a v))
  | .new o k, Q, h => ∀ r, h r = none → (k r).vc P Q (h.upd r o)
  | .shape r k, Q, h => ∃ o, h r = some o ∧ (k o.shp).vc P Q h
  | .freeze _ _ _, _, _ => False
  | .frozen a k, Q, h => ∃ o, h a.block = some o ∧ (k (o.frz a)).vc P Q h
  | .getObj r k, Q, h => ∃ o, h r = some o ∧ o.isCellsB = false ∧ (k o).vc P Q h
  | .setObj r o k, Q, h => ∃ o', h r = some o' ∧ o'.isCellsB = false ∧ k.vc P Q (h.upd r o)
  | .choose q k, Q, h => if q.forced then (k 0).vc P Q h else ∀ t, (k (q.cut t)).vc P Q h
  | .sys _ _, _, _ => False
  | .program k, Q, h => (k P).vc P Q h
  | .mark _ k, Q, h => k.vc P Q h
  | .halt _, _, _ => False
theorem vc_mono {α : Type} {P : Program} {s : Sem α} {Q Q' : α → Hp → Prop} (hq : ∀ a h, Q a h → Q' a h) : ∀ {h : Hp}, s.vc P Q h → s.vc P Q' h := by
  induction s with
  | pure a => exact fun hh => hq _ _ hh
  | load m a k ih => exact fun ⟨v, h1, h2⟩ => ⟨v, h1, ih v h2⟩
  | store m a v k ih => exact fun ⟨h0, o, h1, h2, h3, h4⟩ => ⟨h0, o, h1, h2, h3, ih h4⟩
  | new o k ih => exact fun hh r hr => ih r (hh r hr)
  | shape r k ih => exact fun ⟨o, h1, h2⟩ => ⟨o, h1, ih _ h2⟩
  | freeze a n k ih => exact fun hh => hh
  | frozen a k ih => exact fun ⟨o, h1, h2⟩ => ⟨o, h1, ih _ h2⟩
  | getObj r k ih => exact fun ⟨o, h1, h2, h3⟩ => ⟨o, h1, h2, ih _ h3⟩
  | setObj r o k ih => exact fun ⟨o', h1, h2, h3⟩ => ⟨o', h1, h2, ih h3⟩
  | choose q k ih =>
    intro h hh
    simp only [Sem.vc] at hh ⊢
    split
    · rename_i hf; rw [if_pos hf] at hh; exact ih _ hh
    · rename_i hf; rw [if_neg hf] at hh; exact fun t => ih _ (hh t)
  | sys c k ih => exact fun hh => hh
  | program k ih => exact fun hh => ih _ hh
  | mark m k ih => exact fun hh => ih hh
  | halt x => exact fun hh => hh
abbrev Tag := Os × Array (Nat × ByteArray) × Tape
def _root_.Go.World.At (w : World) (tg : Tag) (h : Hp) : Prop := w.hp = h ∧ (w.os, w.output, w.tape) = tg
theorem vc_run {α : Type} {P : Program} {s : Sem α} {Q : α → Hp → Prop} : ∀ {h : Hp}, s.vc P Q h → ∀ (w : World) (f : Hp) (tg : Tag), Disj h f → w.At tg (h.add f) →
    ∃ a w' h', s.run P w = .ok a w' ∧ Disj h' f ∧ w'.At tg (h'.add f) ∧ Q a h' := by
  induction s with
  | pure a => exact fun hh w f tg d e => ⟨a, w, _, rfl, d, e, hh⟩
  | load m a k ih =>
    rintro h ⟨v, h1, h2⟩ w f tg d ⟨e, et⟩
    have hc : w.cell? a = some v := by rw [cell?_hp, e]; exact Hp.cell_add h1
    obtain ⟨x, w', h', r, rest⟩ := ih v h2 w f tg d ⟨e, et⟩
    exact ⟨x, w', h', by simp only [Sem.run, hc]; exact r, rest⟩
  | store m a v k ih =>
    rintro h ⟨h0, o, h1, h2, h3, h4⟩ w f tg d ⟨e, et⟩
    have hb : w.hp a.block = some o := by rw [e]; exact Hp.add_of_left h1
    have hc : ∃ x, w.cell? a = some x := by
      rw [cell?_hp, Hp.cell, hb]
      exact Option.isSome_iff_exists.1 h2
    obtain ⟨x, hx⟩ := hc
    have hf : w.frozen? a = false := by rw [frozen?_hp w a hb]; exact h3
    obtain ⟨y, w', h', r, rest⟩ := ih h4 (w.setCell a v) f tg (d.upd_mem h1) ⟨by rw [setCell_hp w a v hb, e, Hp.upd_mem_add], et⟩
    refine ⟨y, w', h', ?_, rest⟩
    rw [← r]
    cases v <;> first | (simp [one] at h0; done) | simp [Sem.run, hx, hf]
  | new o k ih =>
    intro h hh w f tg d ⟨e, et⟩
    have hn : (h.add f) w.heap.size = none := by rw [← e, hp_apply]; simp
    have hn1 : h w.heap.size = none := by simp only [Hp.add_apply, Option.or_eq_none_iff] at hn; exact hn.1
    have hn2 : f w.heap.size = none := by simp only [Hp.add_apply, Option.or_eq_none_iff] at hn; exact hn.2
    obtain ⟨x, w', h', r, rest⟩ := ih _ (hh w.heap.size hn1) { w with heap := w.heap.push o } f tg (d.upd_new hn2) ⟨by rw [push_hp, e, Hp.upd_mem_add], et⟩
    exact ⟨x, w', h', r, rest⟩
  | shape r k ih =>
    rintro h ⟨o, h1, h2⟩ w f tg d ⟨e, et⟩
    have hb : w.hp r = some o := by rw [e]; exact Hp.add_of_left h1
    obtain ⟨x, w', h', r', rest⟩ := ih _ h2 w f tg d ⟨e, et⟩
    exact ⟨x, w', h', by simp only [Sem.run, shape?_hp w r hb]; exact r', rest⟩
  | freeze a n k ih => exact fun hh => hh.elim
  | frozen a k ih =>
    rintro h ⟨o, h1, h2⟩ w f tg d ⟨e, et⟩
    have hb : w.hp a.block = some o := by rw [e]; exact Hp.add_of_left h1
    obtain ⟨x, w', h', r', rest⟩ := ih _ h2 w f tg d ⟨e, et⟩
    exact ⟨x, w', h', by simp only [Sem.run, frozen?_hp w a hb]; exact r', rest⟩
  | getObj r k ih =>
    rintro h ⟨o, h1, h2, h3⟩ w f tg d ⟨e, et⟩
    have hb : w.heap[r]? = some o := by rw [← hp_apply, e]; exact Hp.add_of_left h1
    obtain ⟨x, w', h', r', rest⟩ := ih _ h3 w f tg d ⟨e, et⟩
    refine ⟨x, w', h', ?_, rest⟩
    rw [← r']
    cases o <;> first | (simp [Obj.isCellsB] at h2; done) | simp [Sem.run, hb]
  | setObj r o k ih =>
    rintro h ⟨o', h1, h2, h3⟩ w f tg d ⟨e, et⟩
    have hb : w.hp r = some o' := by rw [e]; exact Hp.add_of_left h1
    have hb' : w.heap[r]? = some o' := by rw [← hp_apply]; exact hb
    obtain ⟨x, w', h', r', rest⟩ := ih h3 { w with heap := w.heap.setIfInBounds r o } f tg (d.upd_mem h1) ⟨by rw [setObj_hp w r o hb, e, Hp.upd_mem_add], et⟩
    refine ⟨x, w', h', ?_, rest⟩
    rw [← r']
    cases o' <;> first | (simp [Obj.isCellsB] at h2; done) | simp [Sem.run, hb']
  | choose q k ih =>
    intro h hh w f tg d ⟨e, et⟩
    simp only [Sem.vc] at hh
    by_cases hf : q.forced = true
    · rw [if_pos hf] at hh
      obtain ⟨x, w', h', r', rest⟩ := ih _ hh w f tg d ⟨e, et⟩
      exact ⟨x, w', h', by simp only [Sem.run, hf, if_true]; exact r', rest⟩
    · rw [if_neg hf] at hh
      obtain ⟨x, w', h', r', rest⟩ := ih _ (hh (w.tape w.drawn q)) { w with drawn := w.drawn + 1 } f tg d ⟨e, et⟩
      exact ⟨x, w', h', by simp only [Sem.run]; rw [if_neg hf]; exact r', rest⟩
  | sys c k ih => exact fun hh => hh.elim
  | program k ih =>
    intro h hh w f tg d ⟨e, et⟩
    exact ih _ hh w f tg d ⟨e, et⟩
  | mark m k ih =>
    intro h hh w f tg d ⟨e, et⟩
    exact ih hh w f tg d ⟨e, et⟩
  | halt x => exact fun hh => hh.elim
theorem vc_frame {α : Type} {P : Program} {s : Sem α} {Q : α → Hp → Prop} : ∀ {h : Hp}, s.vc P Q h → ∀ (f : Hp), Disj h f →
    s.vc P (fun a h'' => ∃ h', Disj h' f ∧ h'' = h'.add f ∧ Q a h') (h.add f) := by
  induction s with
  | pure a => exact fun hh f d => ⟨_, d, rfl, hh⟩
  | load m a k ih => exact fun ⟨v, h1, h2⟩ f d => ⟨v, Hp.cell_add h1, ih v h2 f d⟩
  | store m a v k ih =>
    rintro h ⟨h0, o, h1, h2, h3, h4⟩ f d
    refine ⟨h0, o, Hp.add_of_left h1, h2, h3, ?_⟩
    rw [← Hp.upd_mem_add]
    exact ih h4 f (d.upd_mem h1)
  | new o k ih =>
    intro h hh f d r hr
    simp only [Hp.add_apply, Option.or_eq_none_iff] at hr
    rw [← Hp.upd_mem_add]
    exact ih r (hh r hr.1) f (d.upd_new hr.2)
  | shape r k ih => exact fun ⟨o, h1, h2⟩ f d => ⟨o, Hp.add_of_left h1, ih _ h2 f d⟩
  | freeze a n k ih => exact fun hh => hh.elim
  | frozen a k ih => exact fun ⟨o, h1, h2⟩ f d => ⟨o, Hp.add_of_left h1, ih _ h2 f d⟩
  | getObj r k ih => exact fun ⟨o, h1, h2, h3⟩ f d => ⟨o, Hp.add_of_left h1, h2, ih _ h3 f d⟩
  | setObj r o k ih =>
    rintro h ⟨o', h1, h2, h3⟩ f d
    refine ⟨o', Hp.add_of_left h1, h2, ?_⟩
    rw [← Hp.upd_mem_add]
    exact ih h3 f (d.upd_mem h1)
  | choose q k ih =>
    intro h hh f d
    simp only [Sem.vc] at hh ⊢
    by_cases hf : q.forced = true
    · rw [if_pos hf] at hh ⊢; exact ih _ hh f d
    · rw [if_neg hf] at hh ⊢; exact fun t => ih _ (hh t) f d
  | sys c k ih => exact fun hh => hh.elim
  | program k ih => exact fun hh f d => ih _ hh f d
  | mark m k ih => exact fun hh f d => ih hh f d
  | halt x => exact fun hh => hh.elim
theorem vc_some {α : Type} {P : Program} {s : Sem α} {Q : α → Hp → Prop} : ∀ {h : Hp}, s.vc P Q h → ∃ a h', Q a h' := by
  induction s with
  | pure a => exact fun hh => ⟨_, _, hh⟩
  | load m a k ih => exact fun ⟨v, _, h2⟩ => ih v h2
  | store m a v k ih => exact fun ⟨_, _, _, _, _, h4⟩ => ih h4
  | new o k ih => intro h hh; obtain ⟨r, hr⟩ := h.fresh; exact ih r (hh r hr)
  | shape r k ih => exact fun ⟨_, _, h2⟩ => ih _ h2
  | freeze a n k ih => exact fun hh => hh.elim
  | frozen a k ih => exact fun ⟨_, _, h2⟩ => ih _ h2
  | getObj r k ih => exact fun ⟨_, _, _, h3⟩ => ih _ h3
  | setObj r o k ih => exact fun ⟨_, _, _, h3⟩ => ih h3
  | choose q k ih =>
    intro h hh
    simp only [Sem.vc] at hh
    by_cases hf : q.forced = true
    · rw [if_pos hf] at hh; exact ih _ hh
    · rw [if_neg hf] at hh; exact ih _ (hh 0)
  | sys c k ih => exact fun hh => hh.elim
  | program k ih => exact fun hh => ih _ hh
  | mark m k ih => exact fun hh => ih hh
  | halt x => exact fun hh => hh.elim
theorem vc_bind {α β : Type} {P : Program} {s : Sem α} {k : α → Sem β} {Q : β → Hp → Prop} : ∀ {h : Hp}, (s.bind k).vc P Q h ↔ s.vc P (fun a h' => (k a).vc P Q h') h := by
  induction s with
  | pure a => exact Iff.rfl
  | load m a k ih => intro h; simp only [Sem.bind, Sem.vc, ih]
  | store m a v k ih => intro h; simp only [Sem.bind, Sem.vc, ih]
  | new o k ih => intro h; simp only [Sem.bind, Sem.vc, ih]
  | shape r k ih => intro h; simp only [Sem.bind, Sem.vc, ih]
  | freeze a n k ih => intro h; simp only [Sem.bind, Sem.vc]
  | frozen a k ih => intro h; simp only [Sem.bind, Sem.vc, ih]
  | getObj r k ih => intro h; simp only [Sem.bind, Sem.vc, ih]
  | setObj r o k ih => intro h; simp only [Sem.bind, Sem.vc, ih]
  | choose q k ih => intro h; simp only [Sem.bind, Sem.vc, ih]
  | sys c k ih => intro h; simp only [Sem.bind, Sem.vc]
  | program k ih => intro h; simp only [Sem.bind, Sem.vc, ih]
  | mark m k ih => intro h; simp only [Sem.bind, Sem.vc, ih]
  | halt x => intro h; simp only [Sem.bind, Sem.vc]
end Go.Sl

/-
  Calls with a built-in frame; what an operation comes to (four kinds); a region in whatever order its edges allow, out of one walk of one order.
-/
namespace Go.Sl
def Grows (f g : Hp) : Prop := ∀ b o, f b = some o → g b = some o
theorem Grows.refl (f : Hp) : Grows f f := fun _ _ h => h
theorem Grows.trans {f g k : Hp} (h1 : Grows f g) (h2 : Grows g k) : Grows f k := fun b o h => h2 b o (h1 b o h)
def CallH (P : Program) (f : FuncId) (args : Array Value) (K : Value → Hp → Prop) (h : Hp) : Prop :=
  ∀ (w : World) (fr : Hp) (tg : Tag), Disj h fr → w.At tg (h.add fr) →
    Calls P f args w (fun e w' => ∃ v h' fr', e = .returned v ∧ Disj h' fr' ∧ w'.At tg (h'.add fr') ∧ Grows fr fr' ∧ K v h')
theorem CallH.mono {P : Program} {f : FuncId} {args : Array Value} {K K' : Value → Hp → Prop} {h : Hp} (hc : CallH P f args K h)
    (hk : ∀ v h', K v h' → K' v h') : CallH P f args K' h :=
  fun w fr tg d e => (hc w fr tg d e).mono fun _ _ ⟨v, h', fr', a, b, c, g, k⟩ => ⟨v, h', fr', a, b, c, g, hk _ _ k⟩
def Hp.minus (g f : Hp) : Hp := ⟨fun b => if (f b).isSome then none else g b, by
  obtain ⟨n, hn⟩ := g.fin
  exact ⟨n, fun b hb => by rw [hn b hb]; simp⟩⟩
theorem Hp.minus_apply (g f : Hp) (b : Nat) : g.minus f b = if (f b).isSome then none else g b := rfl
theorem CallH.frame {P : Program} {f : FuncId} {args : Array Value} {K : Value → Hp → Prop} {h : Hp} (hc : CallH P f args K h) (g : Hp) (d : Disj h g) :
    CallH P f args (fun v h'' => ∃ h', Disj h' g ∧ h'' = h'.add g ∧ K v h') (h.add g) := by
  intro w fr tg d1 ⟨e, et⟩
  obtain ⟨d2, d3⟩ := Disj.add_left.1 d1
  refine (hc w (g.add fr) tg (Disj.add_right.2 ⟨d, d2⟩) ⟨by rw [e, Hp.add_assoc], et⟩).mono ?_
  rintro e' w' ⟨v, h', fr', he, dh, ⟨hw, hwt⟩, hg, hk⟩
  have hgg : ∀ b o, g b = some o → fr' b = some o := fun b o hb => hg b o (Hp.add_of_left hb)
  have dhg : Disj h' g := fun b => by
    rcases dh b with x | x
    · exact .inl x
    · cases hb : g b with
      | none => exact .inr rfl
      | some o => rw [hgg b o hb] at x; cases x
  refine ⟨v, h'.add g, fr'.minus g, he, ?_, ⟨?_, hwt⟩, ?_, h', dhg, rfl, hk⟩
  · intro b
    rw [Hp.add_apply, Hp.minus_apply]
    cases hb : g b with
    | some o => exact .inr (by simp)
    | none =>
      rcases dh b with x | x
      · exact .inl (by simp [x])
      · exact .inr (by simp [x])
  · rw [hw]
    apply Hp.ext'
    intro b
    simp only [Hp.add_apply, Hp.minus_apply]
    cases h' b with
    | some o => rfl
    | none =>
      cases hb : g b with
      | some o => simp [hgg b o hb]
      | none => simp
  · intro b o hb
    rw [Hp.minus_apply]
    have hgb : g b = none := by
      rcases d3 b with x | x
      · exact x
      · rw [hb] at x; cases x
    rw [if_neg (by simp [hgb])]
    refine hg b o ?_
    simp [Hp.add_apply, hgb, hb]
theorem Hp.world (h : Hp) : ∃ (w : World) (fr : Hp), Disj h fr ∧ w.hp = h.add fr := by
  obtain ⟨n, hn⟩ := h.fin
  refine ⟨{ (default : World) with heap := Array.ofFn fun i : Fin n => (h i.1).getD (.map #[] 0) },
    ⟨fun b => if b < n ∧ (h b).isSome = false then some (.map #[] 0) else none, n, fun b hb => if_neg (by omega)⟩, ?_, ?_⟩
  · intro b
    show h b = none ∨ (if b < n ∧ (h b).isSome = false then some (Obj.map #[] 0) else none) = none
    cases hb : h b with
    | none => exact .inl rfl
    | some o => exact .inr (by simp)
  · apply Hp.ext'
    intro b
    show (Array.ofFn fun i : Fin n => (h i.1).getD (.map #[] 0))[b]? = (h b).or (if b < n ∧ (h b).isSome = false then some (Obj.map #[] 0) else none)
    by_cases hb : b < n
    · rw [Array.getElem?_eq_getElem (by simpa using hb)]
      cases hh : h b with
      | none => simp [hh, hb]
      | some o => simp [hh]
    · rw [Array.getElem?_eq_none (by simp; omega), hn b (by omega)]
      simp [hb]
theorem CallH.some {P : Program} {f : FuncId} {args : Array Value} {K : Value → Hp → Prop} {h : Hp} (hc : CallH P f args K h) : ∃ v h', K v h' := by
  obtain ⟨w, fr, d, e⟩ := h.world
  obtain ⟨_, _, _, ⟨v, h', _, _, _, _, _, hk⟩, _⟩ := hc w fr _ d ⟨e, rfl⟩ []
  exact ⟨v, h', hk⟩
def nextK (P : Program) (K : Value → Hp → Prop) : Next → Hp → Prop
  | .value v, h => K v h
  | .skip, h => K undef h
  | .enter f args, h => CallH P f args K h
  | _, _ => False
def rawWp (P : Program) (s : Sem Next) (K : Value → Hp → Prop) (h : Hp) : Prop := s.vc P (nextK P K) h
theorem nextK_mono {P : Program} {K K' : Value → Hp → Prop} (hk : ∀ v h, K v h → K' v h) : ∀ nx h, nextK P K nx h → nextK P K' nx h := by
  intro nx h hh
  cases nx <;> simp only [nextK] at hh ⊢ <;> first | exact hk _ _ hh | exact hh.mono hk | exact hh.elim
def vP (v : Option Value) (K : Value → Prop) : Prop :=
  match v with
  | some x => K x
  | none => False
def vA (p : Option (Obj × (Nat → Value))) (K : Value → Hp → Prop) (h : Hp) : Prop :=
  match p with
  | some (o, f) => ∀ r, h r = none → K (f r) (h.upd r o)
  | none => False
inductive Den where
  | pu (v : Option Value)
  | rd (r : Hp → Option Value)
  | al (p : Option (Obj × (Nat → Value)))
  | ef (T : (Value → Hp → Prop) → Hp → Prop)
inductive Kind where
  | pu | rd | al | ef
  deriving DecidableEq
def Den.kind : Den → Kind
  | .pu _ => .pu
  | .rd _ => .rd
  | .al _ => .al
  | .ef _ => .ef
def Den.wp : Den → (Value → Hp → Prop) → Hp → Prop
  | .pu v, K, h => vP v fun x => K x h
  | .rd r, K, h => vP (r h) fun x => K x h
  | .al p, K, h => vA p K h
  | .ef T, K, h => T K h
structure EfOk (T : (Value → Hp → Prop) → Hp → Prop) : Prop where
  mono : ∀ {K K' : Value → Hp → Prop} {h : Hp}, (∀ v h', K v h' → K' v h') → T K h → T K' h
  frame : ∀ {K : Value → Hp → Prop} {h : Hp}, T K h → ∀ g, Disj h g → T (fun v h'' => ∃ h', Disj h' g ∧ h'' = h'.add g ∧ K v h') (h.add g)
  some : ∀ {K : Value → Hp → Prop} {h : Hp}, T K h → ∃ v h', K v h'
def Den.Ok : Den → Prop
  | .pu _ => True
  | .rd r => ∀ h f v, Disj h f → r h = some v → r (h.add f) = some v
  | .al _ => True
  | .ef T => EfOk T
theorem vP_mono {v : Option Value} {K K' : Value → Prop} (h : vP v K) (hk : ∀ x, K x → K' x) : vP v K' := by
  cases v with
  | none => exact h
  | some x => exact hk _ h
theorem vA_mono {p : Option (Obj × (Nat → Value))} {K K' : Value → Hp → Prop} {h : Hp} (hh : vA p K h) (hk : ∀ v h', K v h' → K' v h') : vA p K' h := by
  cases p with
  | none => exact hh
  | some q => exact fun r hr => hk _ _ (hh r hr)
theorem Den.wp_mono {d : Den} (hd : d.Ok) {K K' : Value → Hp → Prop} {h : Hp} (hk : ∀ v h', K v h' → K' v h') (hh : d.wp K h) : d.wp K' h := by
  cases d with
  | pu v => exact vP_mono hh fun x => hk x h
  | rd r => exact vP_mono hh fun x => hk x h
  | al p => exact vA_mono hh hk
  | ef T => exact hd.mono hk hh
theorem rawWp_ok (P : Program) (s : Sem Next) : EfOk (rawWp P s) where
  mono hk hh := vc_mono (nextK_mono hk) hh
  frame {K h} hh g d := by
    refine vc_mono ?_ (vc_frame hh g d)
    rintro nx h'' ⟨h', d', rfl, hn⟩
    cases nx <;> simp only [nextK] at hn ⊢ <;> first | exact ⟨h', d', rfl, hn⟩ | exact hn.frame g d' | exact hn.elim
  some hh := by
    obtain ⟨nx, h', hn⟩ := vc_some hh
    cases nx <;> simp only [nextK] at hn <;> first | exact ⟨_, _, hn⟩ | exact hn.some | exact hn.elim
theorem nbeq {a b : Nat} (h : a ≠ b) : Nat.beq a b = false := by
  cases e : Nat.beq a b with
  | false => rfl
  | true => exact absurd (Nat.eq_of_beq_eq_true e) h
abbrev St := Nat → Value
def ev (σ : St) : Operand → Value
  | .tmp t => σ t
  | .const v => v
  | .global g => .pointer (some ⟨g, 0, none⟩)
  | .func f => .func (.func f) #[] #[]
def St.put (σ : St) (d : Option Tmp) (v : Value) : St :=
  match d with
  | some t => fun i => bif Nat.beq i t then v else σ i
  | none => σ
def yl (ops : Array Oper) (σ : St) (j : Nat) : Option Bool :=
  match (ops[j]?).bind (·.dst) with
  | some t => match σ t with
    | .bool b => some b
    | _ => none
  | none => none
theorem St.put_comm (σ : St) {x y : Option Tmp} (v u : Value) (h : ∀ d, x = some d → y ≠ some d) : (σ.put x v).put y u = (σ.put y u).put x v := by
  cases x with
  | none => rfl
  | some d =>
    cases y with
    | none => rfl
    | some e =>
      have hne : d ≠ e := fun he => h d rfl (he ▸ rfl)
      funext i
      simp only [St.put]
      by_cases h1 : i = d
      · subst h1
        have : Nat.beq i e = false := by exact nbeq hne
        simp [this]
      · have : Nat.beq i d = false := by exact nbeq h1
        simp [this]
theorem ev_put {σ : St} {d : Option Tmp} {v : Value} {x : Operand} (h : ∀ t, d = some t → x ≠ .tmp t) : ev (σ.put d v) x = ev σ x := by
  cases d with
  | none => rfl
  | some t =>
    cases x with
    | tmp i =>
      have hne : i ≠ t := fun e => h t rfl (by rw [e])
      have : Nat.beq i t = false := by exact nbeq hne
      simp [ev, St.put, this]
    | _ => rfl
theorem wanted_put (ops : Array Oper) (o : Oper) (σ : St) (d : Option Tmp) (v : Value) (h : ∀ t, d = some t → t ∉ o.looksAt ops) :
    Region.wanted o (yl ops (σ.put d v)) = Region.wanted o (yl ops σ) := by
  cases d with
  | none => rfl
  | some t =>
    unfold Region.wanted
    cases hg : o.guard with
    | none => rfl
    | some gw =>
      obtain ⟨g, want⟩ := gw
      have hy : yl ops (σ.put (some t) v) g = yl ops σ g := by
        unfold yl
        cases ht : (ops[g]?).bind (·.dst) with
        | none => rfl
        | some u =>
          have hne : u ≠ t := fun e => h t rfl (by subst e; simp [Oper.looksAt, hg, ht])
          have : Nat.beq u t = false := by exact nbeq hne
          simp [St.put, this]
      simp only [hy]
def mvOf : Op → Option Operand
  | .move x | .assign x => some x
  | _ => none
structure Sys (P : Program) where
  D : (Operand → Value) → Oper → Den
  kind : Oper → Kind
  ok : ∀ ρ o, (D ρ o).Ok
  kindOf : ∀ ρ o, (D ρ o).kind = kind o
  sound : ∀ σ o K h, (D (ev σ) o).wp K h → rawWp P (execOp (ev σ) o) K h
  congr : ∀ ρ ρ' o, (∀ x ∈ o.op.operands, ρ x = ρ' x) → D ρ o = D ρ' o
  mv : ∀ ρ o x, mvOf o.op = Option.some x → D ρ o = .pu (Option.some (ρ x))
section
variable {P : Program} (S : Sys P) (A : List Nat) (ops : Array Oper)
def anc (A : List Nat) (j i : Nat) : Bool := (A.getD j 0).testBit i
abbrev Rec := Nat → Hp → Prop
def Rec.put (R : Rec) (i : Nat) (p : Hp → Prop) : Rec := fun x => bif Nat.beq x i then p else R x
def needs : List Nat → Rec → Hp → Prop → Prop
  | [], _, _, p => p
  | y :: ys, R, h, p => R y h ∧ needs ys R h p
theorem needs_iff {R : Rec} {h : Hp} {p : Prop} : ∀ {l : List Nat}, needs l R h p ↔ (∀ y ∈ l, R y h) ∧ p
  | [] => by simp [needs]
  | y :: l => by rw [needs, needs_iff]; simp [and_assoc]
def gdW (w : Bool) (v : Option Value) : Option Value := bif w then v else some undef
def vE (w : Bool) (T : (Value → Hp → Prop) → Hp → Prop) (K : Value → Hp → Prop) (h : Hp) : Prop := bif w then T K h else K undef h
def stepO (o : Oper) (i : Nat) (need : List Nat) (K : Rec → St → Hp → Prop) (R : Rec) (σ : St) (h : Hp) : Prop :=
  match o.guard with
  | none =>
    match S.D (ev σ) o with
    | .pu v => vP v fun x => K R (σ.put o.dst x) h
    | .rd r => vP (r h) fun x => K (R.put i fun h' => r h' = some x) (σ.put o.dst x) h
    | .al p => vA p (fun x h' => K R (σ.put o.dst x) h') h
    | .ef T => T (fun x h' => needs need R h' (K R (σ.put o.dst x) h')) h
  | some _ =>
    match S.D (ev σ) o with
    | .pu v => vP (gdW (Region.wanted o (yl ops σ)) v) fun x => K R (σ.put o.dst x) h
    | .rd r => vP (gdW (Region.wanted o (yl ops σ)) (r h)) fun x => K (R.put i fun h' => gdW (Region.wanted o (yl ops σ)) (r h') = some x) (σ.put o.dst x) h
    | .al p => vE (Region.wanted o (yl ops σ)) (vA p) (fun x h' => K R (σ.put o.dst x) h') h
    | .ef T => vE (Region.wanted o (yl ops σ)) T (fun x h' => needs need R h' (K R (σ.put o.dst x) h')) h
def stepW (i : Nat) (need : List Nat) (K : Rec → St → Hp → Prop) (R : Rec) (σ : St) (h : Hp) : Prop :=
  match ops[i]? with
  | none => K R σ h
  | some o =>
    match o.guard, mvOf o.op with
    | none, some x => K R (σ.put o.dst (ev σ x)) h
    | _, _ => stepO S ops o i need K R σ h
theorem stepW_eq (i : Nat) (need : List Nat) (K : Rec → St → Hp → Prop) (R : Rec) (σ : St) (h : Hp) : stepW S ops i need K R σ h = (match ops[i]? with
    | none => K R σ h
    | some o => stepO S ops o i need K R σ h) := by
  unfold stepW
  cases ops[i]? with
  | none => rfl
  | some o =>
    simp only
    split
    · rename_i x hg hm
      unfold stepO
      rw [hg, S.mv (ev σ) o x hm]
      rfl
    · rfl
def stepW0 (i : Nat) (need : List Nat) (K : Rec → St → Hp → Prop) (R : Rec) (σ : St) (h : Hp) : Prop :=
  match ops[i]? with
  | none => K R σ h
  | some o =>
    if Region.wanted o (yl ops σ) then
      match S.D (ev σ) o with
      | .pu v => vP v fun x => K R (σ.put o.dst x) h
      | .rd r => vP (r h) fun x => K (R.put i fun h' => r h' = some x) (σ.put o.dst x) h
      | .al p => vA p (fun x h' => K R (σ.put o.dst x) h') h
      | .ef T => T (fun x h' => (∀ y ∈ need, R y h') ∧ K R (σ.put o.dst x) h') h
    else K R (σ.put o.dst undef) h
def stepA (i : Nat) (K : Rec → St → Hp → Prop) (R : Rec) (σ : St) (h : Hp) : Prop :=
  match ops[i]? with
  | none => K R σ h
  | some o =>
    if Region.wanted o (yl ops σ) then
      match S.D (ev σ) o with
      | .pu v => vP v fun x => K R (σ.put o.dst x) h
      | .rd r => vP (r h) fun x => K (R.put i fun h' => r h' = some x) (σ.put o.dst x) h
      | .al p => vA p (fun x h' => K R (σ.put o.dst x) h') h
      | .ef T => T (fun x h' => (∀ y, anc A i y = false → R y h') ∧ K R (σ.put o.dst x) h') h
    else K R (σ.put o.dst undef) h
theorem stepA_mono {i : Nat} {K K' : Rec → St → Hp → Prop} {R : Rec} {σ : St} {h : Hp} (hk : ∀ R σ h, K R σ h → K' R σ h)
    (hh : stepA S A ops i K R σ h) : stepA S A ops i K' R σ h := by
  unfold stepA at *
  split
  · rename_i e; simp only [e] at hh; exact hk _ _ _ hh
  · rename_i o e
    simp only [e] at hh
    split
    · rename_i hw
      rw [if_pos hw] at hh
      have hok := S.ok (ev σ) o
      generalize S.D (ev σ) o = d at *
      cases d with
      | pu v => exact vP_mono hh fun x => hk _ _ _
      | rd r => exact vP_mono hh fun x => hk _ _ _
      | al p => exact vA_mono hh fun x h' => hk _ _ _
      | ef T => exact EfOk.mono hok (fun x h' ⟨a, b⟩ => ⟨a, hk _ _ _ b⟩) hh
    · rename_i hw
      rw [if_neg hw] at hh
      exact hk _ _ _ hh
def anyA (Q : St → Hp → Prop) : Nat → Array Bool → Rec → St → Hp → Prop
  | 0, listed, _, σ, h => Region.ready .any ops listed = [] ∧ Q σ h
  | fuel + 1, listed, R, σ, h =>
    (Region.ready .any ops listed = [] → Q σ h) ∧
    ∀ i ∈ Region.ready .any ops listed, stepA S A ops i (anyA Q fuel (listed.setIfInBounds i true)) R σ h
def compat (i j : Oper) : Bool :=
  i.apart ops j && (match S.kind i, S.kind j with
    | _, .pu => true
    | .pu, _ => true
    | .rd, .rd => true
    | _, .al => true
    | .rd, .ef => true
    | _, _ => false)
theorem Rec.put_comm (R : Rec) {i j : Nat} (hne : i ≠ j) (p q : Hp → Prop) : (R.put i p).put j q = (R.put j q).put i p := by
  funext x
  simp only [Rec.put]
  by_cases h1 : x = i
  · subst h1
    have : Nat.beq x j = false := by exact nbeq hne
    simp [this]
  · have : Nat.beq x i = false := by exact nbeq h1
    simp [this]
theorem Rec.put_self (R : Rec) (i : Nat) (p : Hp → Prop) : R.put i p i = p := by simp [Rec.put]
theorem Rec.put_ne (R : Rec) {i x : Nat} (p : Hp → Prop) (h : x ≠ i) : R.put i p x = R x := by
  have : Nat.beq x i = false := by exact nbeq h
  simp [Rec.put, this]
def Rec.up (R : Rec) : Prop := ∀ y h g, Disj h g → R y h → R y (h.add g)
theorem Hp.add_one {h : Hp} {x : Nat} (o : Obj) (hx : h x = none) : h.add (Hp.emp.upd x o) = h.upd x o := Hp.ext' fun b => by
  by_cases hb : b = x
  · subst hb; simp [Hp.add_apply, Hp.upd_self, hx]
  · simp [Hp.add_apply, Hp.upd_ne hb, Hp.emp_apply]
theorem Disj.one {h : Hp} {x : Nat} (o : Obj) (hx : h x = none) : Disj h (Hp.emp.upd x o) := fun b => by
  by_cases hb : b = x
  · subst hb; exact .inl hx
  · exact .inr (by rw [Hp.upd_ne hb]; rfl)
theorem Disj.of_one {h : Hp} {x : Nat} {o : Obj} (d : Disj h (Hp.emp.upd x o)) : h x = none := by
  rcases d x with z | z
  · exact z
  · rw [Hp.upd_self] at z; cases z
theorem Hp.upd_comm {h : Hp} {x y : Nat} (o q : Obj) (hyx : y ≠ x) : (h.upd y o).upd x q = (h.upd x q).upd y o := Hp.ext' fun b => by
  simp only [Hp.upd_apply]
  by_cases e1 : b = x
  · subst e1; simp [Ne.symm hyx]
  · by_cases e2 : b = y
    · subst e2; simp [e1]
    · simp [e1, e2]
theorem stepA_swap {i j : Nat} {oi oj : Oper} (hi : ops[i]? = some oi) (hj : ops[j]? = some oj) (hne : i ≠ j) (hc : compat S ops oi oj = true)
    (hij : anc A j i = false) {K : Rec → St → Hp → Prop} {R : Rec} (hup : R.up) (hRi : ∀ h, R i h) {σ : St} {h : Hp}
    (hh : stepA S A ops i (stepA S A ops j K) R σ h) : stepA S A ops j (stepA S A ops i K) R σ h := by
  simp only [compat, Bool.and_eq_true] at hc
  obtain ⟨hap, hk⟩ := hc
  obtain ⟨a1, a2, a3⟩ := Oper.apart_spec hap
  have ewi : ∀ v, Region.wanted oi (yl ops (σ.put oj.dst v)) = Region.wanted oi (yl ops σ) := fun v => wanted_put ops oi σ oj.dst v a3
  have ewj : ∀ v, Region.wanted oj (yl ops (σ.put oi.dst v)) = Region.wanted oj (yl ops σ) := fun v => wanted_put ops oj σ oi.dst v a1
  have mem : ∀ (o : Oper) (x : Operand), x ∈ o.op.operands → ∀ t, x = .tmp t → t ∈ o.looksAt ops := fun o x hx t ht => by
    subst ht
    exact List.mem_append_left _ (List.mem_filterMap.2 ⟨.tmp t, by simpa using hx, rfl⟩)
  have edi : ∀ v, S.D (ev (σ.put oj.dst v)) oi = S.D (ev σ) oi := fun v => S.congr _ _ _ fun x hx => ev_put fun t ht hxt => a3 t ht (mem oi x hx t hxt)
  have edj : ∀ v, S.D (ev (σ.put oi.dst v)) oj = S.D (ev σ) oj := fun v => S.congr _ _ _ fun x hx => ev_put fun t ht hxt => a1 t ht (mem oj x hx t hxt)
  have epc : ∀ v u, (σ.put oi.dst v).put oj.dst u = (σ.put oj.dst u).put oi.dst v := fun v u => σ.put_comm v u a2
  have hki := S.kindOf (ev σ) oi
  have hkj := S.kindOf (ev σ) oj
  have hoi := S.ok (ev σ) oi
  have hoj := S.ok (ev σ) oj
  unfold stepA at hh ⊢
  simp only [hi, hj, ewi, ewj, edi, edj, epc] at hh ⊢
  generalize S.D (ev σ) oi = di at *
  generalize S.D (ev σ) oj = dj at *
  rw [← hki, ← hkj] at hk
  by_cases wi : Region.wanted oi (yl ops σ) = true <;> by_cases wj : Region.wanted oj (yl ops σ) = true
  · simp only [wi, wj, if_true] at hh ⊢
    cases di <;> cases dj <;> simp only [Den.kind, Bool.false_eq_true] at hk <;> simp only at hh ⊢
    case pu.pu v u => cases v <;> cases u <;> simp_all [vP]
    case pu.rd v r => cases v with
      | none => exact hh.elim
      | some v => cases hr : r h <;> simp_all [vP]
    case pu.al v p => cases v with
      | none => exact hh.elim
      | some v => exact hh
    case pu.ef v T => cases v with
      | none => exact hh.elim
      | some v => exact hh
    case rd.pu r u => cases hr : r h with
      | none => rw [hr] at hh; exact hh.elim
      | some v => cases u <;> simp_all [vP]
    case rd.rd r q => cases hr : r h with
      | none => rw [hr] at hh; exact hh.elim
      | some v =>
        rw [hr] at hh
        cases hq : q h with
        | none => simp [vP, hq] at hh
        | some u => simp only [vP, hq] at hh ⊢; rw [Rec.put_comm R hne] at hh; exact hh
    case rd.al r p => cases hr : r h with
      | none => rw [hr] at hh; exact hh.elim
      | some v =>
        rw [hr] at hh
        cases p with
        | none => exact hh.elim
        | some p =>
          intro x hx
          have hup := hoi h _ v (Disj.one p.1 hx) hr
          rw [Hp.add_one p.1 hx] at hup
          rw [hup]
          exact hh x hx
    case rd.ef r T => cases hr : r h with
      | none => rw [hr] at hh; exact hh.elim
      | some v =>
        rw [hr] at hh
        refine EfOk.mono hoj (fun x h' ⟨c1, c2⟩ => ?_) hh
        have h1 := c1 i hij
        rw [Rec.put_self] at h1
        refine ⟨fun y hy => ?_, ?_⟩
        · by_cases hyi : y = i
          · subst hyi; exact hRi h'
          · have := c1 y hy; rwa [Rec.put_ne _ _ hyi] at this
        · rw [h1]; exact c2
    case al.pu p u => cases p with
      | none => exact hh.elim
      | some p =>
        cases u with
        | none => obtain ⟨x, hx⟩ := h.fresh; exact hh x hx
        | some u => exact hh
    case al.al p q => cases p with
      | none => exact hh.elim
      | some p =>
        cases q with
        | none => obtain ⟨x, hx⟩ := h.fresh; exact hh x hx
        | some q =>
          intro x hx y hy
          have hyx : y ≠ x := fun e => by subst e; rw [Hp.upd_self] at hy; cases hy
          rw [Hp.upd_ne hyx] at hy
          have := hh y hy x (by rw [Hp.upd_ne (Ne.symm hyx)]; exact hx)
          rwa [Hp.upd_comm _ _ hyx] at this
    case ef.pu T u => cases u with
      | none => obtain ⟨_, _, _, hf⟩ := EfOk.some hoi hh; exact hf.elim
      | some u => exact hh
    case ef.al T p => cases p with
      | none => obtain ⟨_, _, _, hf⟩ := EfOk.some hoi hh; exact hf.elim
      | some p =>
        intro x hx
        have := EfOk.frame hoi hh _ (Disj.one p.1 hx)
        rw [Hp.add_one p.1 hx] at this
        refine EfOk.mono hoi ?_ this
        rintro v h'' ⟨h', d', rfl, c1, c2⟩
        refine ⟨fun y hy => hup y h' _ d' (c1 y hy), ?_⟩
        rw [Hp.add_one p.1 d'.of_one]; exact c2 x d'.of_one
  · simp only [wi, wj, if_true] at hh ⊢
    cases di <;> simp only [Bool.false_eq_true, if_false] at hh ⊢ <;> exact hh
  · simp only [wi, wj, if_true] at hh ⊢
    cases dj <;> simp only [Bool.false_eq_true, if_false] at hh ⊢ <;> exact hh
  · simp only [wi, wj, Bool.false_eq_true, if_false] at hh ⊢
    exact hh
def RInv (listed : Array Bool) (R : Rec) : Prop := R.up ∧ ∀ x, listed.getD x false = false → ∀ h, R x h
theorem RInv.put {listed : Array Bool} {R : Rec} {i : Nat} (hR : RInv listed R) {r : Hp → Option Value} (hr : ∀ h f v, Disj h f → r h = some v → r (h.add f) = some v) (v : Value)
    (hi : i < listed.size) : RInv (listed.setIfInBounds i true) (R.put i fun h' => r h' = some v) := by
  refine ⟨fun y h g d hy => ?_, fun x hx h => ?_⟩
  · by_cases e : y = i
    · subst e; rw [Rec.put_self] at hy ⊢; exact hr _ _ _ d hy
    · rw [Rec.put_ne _ _ e] at hy ⊢; exact hR.1 y h g d hy
  · have e : x ≠ i := fun e => by subst e; simp [hi] at hx
    rw [Rec.put_ne _ _ e]
    exact hR.2 x (by rwa [getD_set_ne false (Ne.symm e)] at hx) h
theorem RInv.set {listed : Array Bool} {R : Rec} (i : Nat) (hR : RInv listed R) : RInv (listed.setIfInBounds i true) R :=
  ⟨hR.1, fun x hx h => hR.2 x (by
    cases hl : listed.getD x false with
    | false => rfl
    | true => rw [getD_set_true hl] at hx; cases hx) h⟩
theorem stepA_inv {i : Nat} {K K' : Rec → St → Hp → Prop} {listed : Array Bool} {R : Rec} {σ : St} {h : Hp} (hR : RInv listed R) (hi : i < listed.size)
    (hk : ∀ R σ h, RInv (listed.setIfInBounds i true) R → K R σ h → K' R σ h) (hh : stepA S A ops i K R σ h) : stepA S A ops i K' R σ h := by
  unfold stepA at *
  split
  · rename_i e; simp only [e] at hh; exact hk _ _ _ (hR.set i) hh
  · rename_i o e
    simp only [e] at hh
    split
    · rename_i hw
      rw [if_pos hw] at hh
      have hok := S.ok (ev σ) o
      generalize S.D (ev σ) o = d at *
      cases d with
      | pu v => exact vP_mono hh fun x => hk _ _ _ (hR.set i)
      | rd r => exact vP_mono hh fun x => hk _ _ _ (hR.put hok x hi)
      | al p => exact vA_mono hh fun x h' => hk _ _ _ (hR.set i)
      | ef T => exact EfOk.mono hok (fun x h' ⟨a, b⟩ => ⟨a, hk _ _ _ (hR.set i) b⟩) hh
    · rename_i hw
      rw [if_neg hw] at hh
      exact hk _ _ _ (hR.set i) hh
def Closed (listed : Array Bool) : Prop := ∀ j o, ops[j]? = some o → listed.getD j false = true → ∀ e ∈ o.after, Region.binds .any e = true → listed.getD e.on false = true
theorem Closed.set {listed : Array Bool} {i : Nat} (hc : Closed ops listed) (hi : i ∈ Region.ready .any ops listed) : Closed ops (listed.setIfInBounds i true) := by
  intro j o ho hj e he hb
  by_cases hji : j = i
  · subst hji
    obtain ⟨_, o', ho', hall⟩ := mem_ready.1 hi
    rw [ho] at ho'; cases ho'
    exact getD_set_true (hall e he hb)
  · rw [getD_set_ne false (Ne.symm hji)] at hj
    exact getD_set_true (hc j o ho hj e he hb)
def ancOk : Bool := ops.toList.zipIdx.all fun (o, j) =>
  Nat.beq (A.getD j 0) (o.after.toList.foldl (fun s e => bif Region.binds .any e && Nat.blt e.on j then s ||| (1 <<< e.on ||| A.getD e.on 0) else s) 0)
theorem foldl_bits (p : Edge → Bool) (f : Edge → Nat) (i : Nat) : ∀ (l : List Edge) (s : Nat), (l.foldl (fun s e => bif p e then s ||| f e else s) s).testBit i = true → s.testBit i = true ∨ ∃ e ∈ l, p e = true ∧ (f e).testBit i = true
  | [], s, h => .inl h
  | e :: l, s, h => by
    simp only [List.foldl_cons] at h
    rcases foldl_bits p f i l _ h with h1 | ⟨x, hx, h2⟩
    · cases hp : p e with
      | false => rw [hp] at h1; exact .inl h1
      | true =>
        rw [hp, cond_true, Nat.testBit_or, Bool.or_eq_true] at h1
        rcases h1 with h1 | h1
        · exact .inl h1
        · exact .inr ⟨e, List.mem_cons_self, hp, h1⟩
    · exact .inr ⟨x, List.mem_cons_of_mem _ hx, h2⟩
theorem ancOk_spec (hA : ancOk A ops = true) {j i : Nat} {o : Oper} (ho : ops[j]? = some o) (hb : anc A j i = true) :
    ∃ e ∈ o.after, Region.binds .any e = true ∧ e.on < j ∧ (e.on = i ∨ anc A e.on i = true) := by
  unfold ancOk at hA
  have h1 := List.all_eq_true.1 hA (o, j) (by
    rw [List.mem_iff_getElem?]
    exact ⟨j, by simp [List.getElem?_zipIdx, ho]⟩)
  simp only at h1
  have h1 := Nat.eq_of_beq_eq_true h1
  unfold anc at hb
  rw [h1] at hb
  rcases foldl_bits (fun e => Region.binds .any e && Nat.blt e.on j) (fun e => 1 <<< e.on ||| A.getD e.on 0) i o.after.toList 0 hb with h2 | ⟨e, he, hp, hb⟩
  · simp at h2
  · simp only [Bool.and_eq_true] at hp
    refine ⟨e, Array.mem_toList_iff.1 he, hp.1, ?_, ?_⟩
    · have := hp.2; exact Nat.le_of_ble_eq_true this
    · rw [Nat.testBit_or, Bool.or_eq_true] at hb
      rcases hb with hb | hb
      · left
        rw [Nat.one_shiftLeft, Nat.testBit_two_pow] at hb
        simpa using hb
      · exact .inr hb
theorem anc_listed (hA : ancOk A ops = true) {listed : Array Bool} (hc : Closed ops listed) (hs : listed.size = ops.size) : ∀ (j i : Nat), anc A j i = true →
    (listed.getD j false = true ∨ j ∈ Region.ready .any ops listed) → listed.getD i false = true := by
  intro j
  induction j using Nat.strongRecOn with
  | _ j ih =>
    intro i hb hj
    have hlt : j < ops.size := by
      rcases hj with h | h
      · rcases Nat.lt_or_ge j listed.size with h' | h'
        · omega
        · simp [Array.getElem?_eq_none h'] at h
      · obtain ⟨_, o, ho, _⟩ := mem_ready.1 h
        exact (Array.getElem?_eq_some_iff.1 ho).1
    have ho : ops[j]? = some ops[j] := Array.getElem?_eq_getElem hlt
    obtain ⟨e, he, hbe, hlt', h4⟩ := ancOk_spec A ops hA ho hb
    have hle : listed.getD e.on false = true := by
      rcases hj with h | h
      · exact hc j _ ho h e he hbe
      · obtain ⟨_, o, ho', hall⟩ := mem_ready.1 h
        rw [ho] at ho'; cases ho'
        exact hall e he hbe
    rcases h4 with h4 | h4
    · rw [← h4]; exact hle
    · exact ih e.on hlt' i h4 (.inl hle)
theorem anyA_first {Q : St → Hp → Prop} (hA : ancOk A ops = true) {i : Nat} {oi : Oper} (hi : ops[i]? = some oi) :
    ∀ (fuel : Nat) (listed : Array Bool) (R : Rec) (σ : St) (h : Hp), listed.size = ops.size → Closed ops listed → RInv listed R →
      (∀ j oj, ops[j]? = some oj → j ≠ i → listed.getD j true = false → anc A j i = false → compat S ops oi oj = true) →
      i ∈ Region.ready .any ops listed →
      stepA S A ops i (anyA S A ops Q fuel (listed.setIfInBounds i true)) R σ h → anyA S A ops Q (fuel + 1) listed R σ h := by
  intro fuel
  induction fuel with
  | zero =>
    intro listed R σ h hs hcl hR hfree hr H
    refine ⟨fun h => (by rw [h] at hr; cases hr), fun j hj => ?_⟩
    by_cases hji : j = i
    · subst hji; exact H
    · have h1 := ready_mono hj hji
      have : Region.ready .any ops (listed.setIfInBounds i true) = [] := by
        unfold stepA at H
        simp only [hi] at H
        split at H
        · have hoi := S.ok (ev σ) oi
          generalize S.D (ev σ) oi = d at *
          cases d with
          | pu v => cases v with
            | none => exact H.elim
            | some v => exact H.1
          | rd r =>
            simp only at H
            cases hv : r h with
            | none => rw [hv] at H; exact H.elim
            | some v => rw [hv] at H; exact H.1
          | al p => cases p with
            | none => exact H.elim
            | some p => obtain ⟨x, hx⟩ := h.fresh; exact (H x hx).1
          | ef T => obtain ⟨_, _, _, hf⟩ := EfOk.some hoi H; exact hf.1
        · exact H.1
      rw [this] at h1; cases h1
  | succ fuel ih =>
    intro listed R σ h hs hcl hR hfree hr H
    refine ⟨fun h => (by rw [h] at hr; cases hr), fun j hj => ?_⟩
    by_cases hji : j = i
    · subst hji; exact H
    · obtain ⟨hjun, oj, hoj, hall⟩ := mem_ready.1 hj
      have hjlt : j < ops.size := (Array.getElem?_eq_some_iff.1 hoj).1
      have hilt : i < ops.size := (Array.getElem?_eq_some_iff.1 hi).1
      have hiun : listed.getD i false = false := by
        have := (mem_ready.1 hr).1
        rw [← this]; simp [hs, hilt]
      have hij : anc A j i = false := by
        cases hb : anc A j i with
        | false => rfl
        | true => rw [anc_listed A ops hA hcl hs j i hb (.inr hj)] at hiun; cases hiun
      have hc := hfree j oj hoj hji hjun hij
      have h1 : stepA S A ops i (stepA S A ops j (anyA S A ops Q fuel ((listed.setIfInBounds i true).setIfInBounds j true))) R σ h :=
        stepA_mono S A ops (fun R σ h hK => hK.2 j (ready_mono hj hji)) H
      have h2 := stepA_swap S A ops hi hoj (Ne.symm hji) hc hij hR.1 (hR.2 i hiun) h1
      refine stepA_inv S A ops hR (by omega) (fun R σ h hR' h3 => ih (listed.setIfInBounds j true) R σ h (by simpa using hs) (Closed.set ops hcl hj) hR' ?_ (ready_mono hr (Ne.symm hji)) ?_) h2
      · intro k ok hk hki hun hno
        refine hfree k ok hk hki ?_ hno
        by_cases hjk : j = k
        · subst hjk; exact hjun
        · rw [getD_set_ne true hjk] at hun; exact hun
      · rw [Array.setIfInBounds_comm _ _ hji]
        exact h3
theorem needs_fun (need : List Nat) (R : Rec) (K : Value → Hp → Prop) : (fun x h' => needs need R h' (K x h')) = fun x h' => (∀ y ∈ need, R y h') ∧ K x h' := by
  funext x h'; exact propext needs_iff
theorem Rec.put_triv (R : Rec) (i : Nat) (p : Hp → Prop) (h1 : ∀ h, R i h) (h2 : ∀ h, p h) : R.put i p = R := by
  funext x h
  by_cases e : x = i
  · subst e; rw [Rec.put_self]; exact propext ⟨fun _ => h1 h, fun _ => h2 h⟩
  · rw [Rec.put_ne _ _ e]
theorem stepW_to0 {i : Nat} {need : List Nat} {K : Rec → St → Hp → Prop} {R : Rec} {σ : St} {h : Hp} (hR : ∀ h, R i h) (hh : stepW S ops i need K R σ h) : stepW0 S ops i need K R σ h := by
  rw [stepW_eq] at hh
  unfold stepO at hh
  unfold stepW0
  cases hi : ops[i]? with
  | none => rw [hi] at hh; exact hh
  | some o =>
    rw [hi] at hh
    simp only at hh ⊢
    cases hg : o.guard with
    | none =>
      have hw : Region.wanted o (yl ops σ) = true := by unfold Region.wanted; rw [hg]
      rw [if_pos hw]
      rw [hg] at hh
      simp only at hh
      generalize S.D (ev σ) o = d at *
      cases d with
      | ef T => simp only [needs_fun] at hh; exact hh
      | _ => exact hh
    | some gw =>
      rw [hg] at hh
      simp only at hh
      generalize S.D (ev σ) o = d at *
      cases hw : Region.wanted o (yl ops σ) with
      | true =>
        rw [hw] at hh
        rw [if_pos rfl]
        cases d with
        | ef T => simp only [vE, needs_fun] at hh; exact hh
        | _ => exact hh
      | false =>
        rw [hw] at hh
        rw [if_neg Bool.false_ne_true]
        cases d with
        | pu v => exact hh
        | rd r =>
          have hh : K (R.put i fun h' => gdW false (r h') = some undef) (σ.put o.dst undef) h := hh
          have e := Rec.put_triv R i (fun h' => gdW false (r h') = some undef) hR fun _ => rfl
          rw [e] at hh; exact hh
        | al p => exact hh
        | ef T => exact (needs_iff.1 hh).2
theorem stepW_any {i : Nat} {need : List Nat} {K : Rec → St → Hp → Prop} {R : Rec} {σ : St} {h : Hp} (hh : stepW S ops i need K R σ h) : stepW0 S ops i need (fun _ σ h => ∃ R', K R' σ h) R σ h := by
  rw [stepW_eq] at hh
  unfold stepO at hh
  unfold stepW0
  cases hi : ops[i]? with
  | none => rw [hi] at hh; exact ⟨_, hh⟩
  | some o =>
    rw [hi] at hh
    simp only at hh ⊢
    have hok := S.ok (ev σ) o
    cases hg : o.guard with
    | none =>
      have hw : Region.wanted o (yl ops σ) = true := by unfold Region.wanted; rw [hg]
      rw [if_pos hw]
      rw [hg] at hh
      simp only at hh
      generalize S.D (ev σ) o = d at *
      cases d with
      | pu v => exact vP_mono hh fun x hx => ⟨_, hx⟩
      | rd r => exact vP_mono hh fun x hx => ⟨_, hx⟩
      | al p => exact vA_mono (K' := fun x h' => ∃ R', K R' (σ.put o.dst x) h') hh fun x h' hx => ⟨_, hx⟩
      | ef T => simp only [needs_fun] at hh; exact EfOk.mono hok (fun x h' hx => ⟨hx.1, _, hx.2⟩) hh
    | some gw =>
      rw [hg] at hh
      simp only at hh
      generalize S.D (ev σ) o = d at *
      cases hw : Region.wanted o (yl ops σ) with
      | true =>
        rw [hw] at hh
        rw [if_pos rfl]
        cases d with
        | pu v => exact vP_mono hh fun x hx => ⟨_, hx⟩
        | rd r => exact vP_mono hh fun x hx => ⟨_, hx⟩
        | al p => exact vA_mono (p := p) (K := fun x h' => K R (σ.put o.dst x) h') (K' := fun x h' => ∃ R', K R' (σ.put o.dst x) h') hh fun x h' hx => ⟨_, hx⟩
        | ef T => simp only [vE, needs_fun] at hh; exact EfOk.mono hok (fun x h' hx => ⟨hx.1, _, hx.2⟩) hh
      | false =>
        rw [hw] at hh
        rw [if_neg Bool.false_ne_true]
        cases d with
        | pu v => exact ⟨_, hh⟩
        | rd r => exact ⟨_, hh⟩
        | al p => exact ⟨_, hh⟩
        | ef T => exact ⟨_, (needs_iff.1 hh).2⟩
theorem stepW_mono {i : Nat} {need : List Nat} {K K' : Rec → St → Hp → Prop} {R : Rec} {σ : St} {h : Hp} (h0 : ops[i]? = none → K R σ h → K' R σ h)
    (hk : ∀ o, ops[i]? = some o → ∀ R v h', K R (σ.put o.dst v) h' → K' R (σ.put o.dst v) h') (hh : stepW S ops i need K R σ h) : stepW S ops i need K' R σ h := by
  rw [stepW_eq] at *
  unfold stepO at *
  cases hi : ops[i]? with
  | none => rw [hi] at hh; exact h0 hi hh
  | some o =>
    rw [hi] at hh
    simp only at hh ⊢
    have hk := hk o hi
    have hok := S.ok (ev σ) o
    have hn : ∀ x h', needs need R h' (K R (σ.put o.dst x) h') → needs need R h' (K' R (σ.put o.dst x) h') := fun x h' hx => by
      rw [needs_iff] at hx ⊢; exact ⟨hx.1, hk _ _ _ hx.2⟩
    cases hg : o.guard with
    | none =>
      rw [hg] at hh
      simp only at hh ⊢
      generalize S.D (ev σ) o = d at *
      cases d with
      | pu v => exact vP_mono hh fun x => hk _ _ _
      | rd r => exact vP_mono hh fun x => hk _ _ _
      | al p => exact vA_mono hh fun x h' => hk _ _ _
      | ef T => exact EfOk.mono hok hn hh
    | some gw =>
      rw [hg] at hh
      simp only at hh ⊢
      generalize S.D (ev σ) o = d at *
      cases d with
      | pu v => exact vP_mono hh fun x => hk _ _ _
      | rd r => exact vP_mono hh fun x => hk _ _ _
      | al p =>
        simp only [vE] at hh ⊢
        cases hw : Region.wanted o (yl ops σ) with
        | true => rw [hw] at hh; exact vA_mono (p := p) (K := fun x h' => K R (σ.put o.dst x) h') hh fun x h' => hk _ _ _
        | false => rw [hw] at hh; exact hk _ _ _ hh
      | ef T =>
        simp only [vE] at hh ⊢
        cases hw : Region.wanted o (yl ops σ) with
        | true => rw [hw] at hh; exact EfOk.mono hok hn hh
        | false => rw [hw] at hh; exact hn _ _ hh
def planW (Q : St → Hp → Prop) : List (Nat × List Nat) → Rec → St → Hp → Prop
  | [], _, σ, h => Q σ h
  | (i, need) :: rest, R, σ, h => stepW S ops i need (planW Q rest) R σ h
def needOf (done : List Nat) (i : Nat) : List Nat :=
  done.filter fun y => !anc A i y && (match ops[y]? with | some o => S.kind o == .rd | none => false)
def readyB (listed : Array Bool) (i : Nat) (o : Oper) : Bool := !listed.getD i true && o.after.toList.all fun e => !Region.binds .any e || listed.getD e.on false
def planOk : List (Nat × List Nat) → List Nat → Array Bool → Bool
  | [], _, listed => listed.toList.all id && Nat.beq listed.size ops.size
  | (i, need) :: rest, done, listed =>
    match ops[i]? with
    | none => false
    | some oi =>
      readyB listed i oi &&
      ((List.range ops.size).all fun j => Nat.beq j i || listed.getD j true || anc A j i ||
        (match ops[j]? with | some oj => compat S ops oi oj | none => true)) &&
      ((needOf S A ops done i).all fun y => S.kind oi != .ef || need.contains y) &&
      planOk rest (i :: done) (listed.setIfInBounds i true)
theorem all_ready (listed : Array Bool) (hB : (listed.toList.all id && Nat.beq listed.size ops.size) = true) : Region.ready .any ops listed = [] := by
  simp only [Bool.and_eq_true, List.all_eq_true] at hB
  cases hr : Region.ready .any ops listed with
  | nil => rfl
  | cons j l =>
    have hj : j ∈ Region.ready .any ops listed := by rw [hr]; exact List.mem_cons_self
    obtain ⟨h1, o, ho, _⟩ := mem_ready.1 hj
    have hsz := Nat.eq_of_beq_eq_true hB.2
    have hlt : j < listed.size := by rw [hsz]; exact (Array.getElem?_eq_some_iff.1 ho).1
    have h2 := hB.1 listed[j] (by simp)
    simp [hlt] at h1
    rw [h1] at h2
    cases h2
def RDone (done : List Nat) (R : Rec) : Prop := ∀ y, (y ∈ done ∧ (match ops[y]? with | some o => S.kind o == .rd | none => false) = true) ∨ ∀ h, R y h
theorem anyA_of_plan {Q : St → Hp → Prop} (hA : ancOk A ops = true) : ∀ (l : List (Nat × List Nat)) (done : List Nat) (listed : Array Bool) (R : Rec) (σ : St) (h : Hp),
    listed.size = ops.size → Closed ops listed → RInv listed R → RDone S ops done R → planOk S A ops l done listed = true → planW S ops Q l R σ h → anyA S A ops Q l.length listed R σ h
  | [], _, listed, _, _, _, _, _, _, _, hB, h => ⟨all_ready ops listed hB, h⟩
  | (i, need) :: rest, done, listed, R, σ, h, hs, hcl, hR, hD, hB, hh => by
    simp only [planOk] at hB
    cases hi : ops[i]? with
    | none => rw [hi] at hB; cases hB
    | some oi =>
      rw [hi] at hB
      simp only [Bool.and_eq_true, List.all_eq_true, List.mem_range, Bool.or_eq_true] at hB
      obtain ⟨⟨⟨hr, hf⟩, hn⟩, hrest⟩ := hB
      have hr : i ∈ Region.ready .any ops listed := by
        simp only [readyB, Bool.and_eq_true, Bool.not_eq_true', List.all_eq_true, Bool.or_eq_true] at hr
        refine mem_ready.2 ⟨hr.1, oi, hi, fun e he hb => ?_⟩
        rcases hr.2 e (Array.mem_toList_iff.2 he) with x | x
        · rw [hb] at x; cases x
        · exact x
      have hilt : i < ops.size := (Array.getElem?_eq_some_iff.1 hi).1
      refine anyA_first S A ops hA hi _ listed R σ h hs hcl hR ?_ hr ?_
      · intro j oj hj hji hun hno
        have := hf j (Array.getElem?_eq_some_iff.1 hj).1
        rw [hj] at this
        rcases this with ((x | x) | x) | x
        · exact absurd (Nat.eq_of_beq_eq_true x) hji
        · rw [hun] at x; cases x
        · rw [hno] at x; cases x
        · exact x
      · simp only [planW] at hh
        have next : ∀ R' σ' h', RInv (listed.setIfInBounds i true) R' → RDone S ops (i :: done) R' → planW S ops Q rest R' σ' h' → anyA S A ops Q rest.length (listed.setIfInBounds i true) R' σ' h' :=
          fun R' σ' h' hR' hD' hp => anyA_of_plan hA rest (i :: done) _ R' σ' h' (by simpa using hs) (Closed.set ops hcl hr) hR' hD' hrest hp
        have hD1 : RDone S ops (i :: done) R := fun y => (hD y).imp (fun ⟨a, b⟩ => ⟨List.mem_cons_of_mem _ a, b⟩) id
        have hiun : listed.getD i false = false := by
          have := (mem_ready.1 hr).1
          rw [← this]; simp [hs, hilt]
        have hh := stepW_to0 S ops (hR.2 i hiun) hh
        unfold stepW0 at hh
        unfold stepA
        simp only [hi] at hh ⊢
        have hok := S.ok (ev σ) oi
        have hkd := S.kindOf (ev σ) oi
        generalize S.D (ev σ) oi = d at *
        by_cases hw : Region.wanted oi (yl ops σ) = true
        case neg =>
          rw [if_neg hw] at hh ⊢
          exact next _ _ _ (hR.set i) hD1 hh
        case pos =>
          rw [if_pos hw] at hh ⊢
          cases d with
          | pu v => exact vP_mono hh fun x => next _ _ _ (hR.set i) hD1
          | rd r =>
            refine vP_mono hh fun x => next _ _ _ (hR.put hok x (by omega)) fun y => ?_
            by_cases e : y = i
            · subst e; exact .inl ⟨List.mem_cons_self, by rw [hi]; simp [← hkd, Den.kind]⟩
            · rw [Rec.put_ne _ _ e]; exact hD1 y
          | al p => exact vA_mono hh fun x h' => next _ _ _ (hR.set i) hD1
          | ef T =>
            refine EfOk.mono hok (fun x h' ⟨a, b⟩ => ⟨fun y hy => ?_, next _ _ _ (hR.set i) hD1 b⟩) hh
            rcases hD y with ⟨hy1, hy2⟩ | hy1
            · have := hn y (List.mem_filter.2 ⟨hy1, by rw [hy, hy2]; rfl⟩)
              rcases this with t | t
              · simp [← hkd, Den.kind] at t
              · exact a y (by simpa using t)
            · exact hy1 h'
end
end Go.Sl
