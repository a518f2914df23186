/-
  Calls by way of an interface.
-/
import Derived.Test.YtdcoflglkfbpcaaV11
set_option linter.unusedVariables false
set_option linter.unusedSimpArgs false
namespace Go.Sl

/-- The function behind a method's name: not by way of an embedded part. -/
def methB (P : Program) (t : TypeId) (name : String) : Option (FuncId × Bool) :=
  match (P.info? t).bind fun i => i.methods.find? (·.name == name) with
  | some m => if m.path.toList.isEmpty then m.func else none
  | none => none

theorem methB_some {P : Program} {t : TypeId} {name : String} {r : FuncId × Bool} (h : methB P t name = some r) :
    ∃ i m, P.info? t = some i ∧ i.methods.find? (·.name == name) = some m ∧ m.path.toList = [] ∧ m.func = some r := by
  unfold methB at h
  split at h
  · rename_i m hm
    cases hi : P.info? t with
    | none => rw [hi] at hm; cases hm
    | some i =>
      rw [hi] at hm
      split at h
      · rename_i he
        exact ⟨i, m, rfl, hm, List.isEmpty_iff.1 he, h⟩
      · cases h
  · cases h

theorem iv_ptr {P : Program} {t e : TypeId} {name : String} {f : FuncId} {v : Value} {args : Array Value} {K : Value → Hp → Prop} {h : Hp} (hm : methB P t name = some (f, true)) (hu : P.underlying t = some (.pointer e)) (hb : bodied P f = true)
    (hh : CallH P f (#[v] ++ args) K h) : ivW P (.iface t v) name args K h := by
  obtain ⟨i, m, h1, h2, h3, h4⟩ := methB_some hm
  refine ⟨?_⟩
  unfold rawWp callMethod
  show Sem.vc P (do let (f, receiver) ← method (P.types.size + Made.depth) t v name; callFunc f (#[receiver] ++ args)) (nextK P K) h
  have hd : P.types.size + Made.depth = (P.types.size + (Made.depth - 1)) + 1 := rfl
  rw [hd]
  refine vc_rd_bind (a := (f, v)) ?_ (callFunc_bodied hb hh)
  unfold method
  rw [rd_bind', rd_typeInfo, h1]
  simp only [Option.bind_some, h2]
  show ((follow m.path.toList t (.val v)) >>= _).rd P h = _
  rw [h3]
  show Sem.rd P (match m.func with | none => _ | some (f, pointerReceiver) => _) h = _
  rw [h4]
  show ((receiverAt t (.val v) true _) >>= _).rd P h = _
  rw [rd_bind']
  unfold receiverAt
  rw [rd_bind', rd_underlying, hu]
  rfl

theorem iv_val {P : Program} {t e : TypeId} {name : String} {f : FuncId} {a : Addr} {rv : Value} {args : Array Value} {K : Value → Hp → Prop} {h : Hp} (hm : methB P t name = some (f, false)) (hu : P.underlying t = some (.pointer e))
    (ha : ((P.underlying e).map aggD) = some false) (hb : bodied P f = true) (hl : ld1 (.pointer (some a)) h = some rv)
    (hh : CallH P f (#[rv] ++ args) K h) : ivW P (.iface t (.pointer (some a))) name args K h := by
  obtain ⟨i, m, h1, h2, h3, h4⟩ := methB_some hm
  refine ⟨?_⟩
  unfold rawWp callMethod
  show Sem.vc P (do let (f, receiver) ← method (P.types.size + Made.depth) t (.pointer (some a)) name; callFunc f (#[receiver] ++ args)) (nextK P K) h
  have hd : P.types.size + Made.depth = (P.types.size + (Made.depth - 1)) + 1 := rfl
  rw [hd]
  refine vc_rd_bind (a := (f, rv)) ?_ (callFunc_bodied hb hh)
  unfold method
  rw [rd_bind', rd_typeInfo, h1]
  simp only [Option.bind_some, h2]
  show ((follow m.path.toList t (.val (.pointer (some a)))) >>= _).rd P h = _
  rw [h3]
  show Sem.rd P (match m.func with | none => _ | some (f, pointerReceiver) => _) h = _
  rw [h4]
  have hp : m.path.isEmpty = true := by
    have : m.path = #[] := by
      cases hq : m.path with
      | mk l => rw [hq] at h3; simp only at h3; rw [h3]
    rw [this]; rfl
  rw [hp]
  show ((receiverAt t (.val (.pointer (some a))) false (some _)) >>= _).rd P h = _
  rw [rd_bind']
  unfold receiverAt
  rw [rd_bind', rd_underlying, hu]
  show (((loadVar e a).rd P h).bind _) = _
  rw [rd_loadVar1 ha hl]
  rfl

/-- What is returned. -/
theorem ret {p : Prop} {Q F : Asrt} {h : Hp} (hp : p) (hq : (Q * F) h) : (pr p * Q * F) h := by
  rw [star_assoc, pr_star]; exact ⟨hp, hq⟩
theorem ret0 {p : Prop} {F : Asrt} {h : Hp} (hp : p) (hq : F h) : (pr p * F) h := pr_star.2 ⟨hp, hq⟩

/-- What is not needed any more goes. -/
theorem drp {P Q : Asrt} {h : Hp} (hh : (P * (Q * tt)) h) : (Q * tt) h := by
  have : (Q * (tt * P)) h := asr (by ac_rfl) hh
  exact star_right (fun _ _ => trivial) this

theorem drp2 {P Q R : Asrt} {h : Hp} (hh : (P * (Q * (R * tt))) h) : (R * tt) h :=
  drp (asr (star_assoc P Q _).symm hh)

theorem gB_undef (b : Bool) : gB undef b = false := by cases b <;> rfl
theorem vP_guard (w : Bool) (v : Option Value) (K : Value → Prop) : vP (gdW w v) K = if w = true then vP v K else K undef := by cases w <;> rfl

end Go.Sl
