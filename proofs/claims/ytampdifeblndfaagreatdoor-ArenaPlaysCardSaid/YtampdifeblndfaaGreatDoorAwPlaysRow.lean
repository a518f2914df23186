/-
  ArenaPlays, the given card: whatever the input, it returns true, and each argument reads as it did; the table that it reads is tied to the program's text.
-/
import Derived.Test.YtampdifeblndfaaGreatDoorB14
import Derived.Test.YtampdifeblndfaaGreatDoorB5
import Derived.Test.YtampdifeblndfaaGreatDoorRows
import Derived.Test.YtampdifeblndfaaGreatDoorCards
import Derived.Test.YtampdifeblndfaaGreatDoorTie
import Derived.ProofKit
import Derived.LaidMore
import Derived.OpenShut
import Derived.Stop.Joined
import Derived.SevenTiedAt
set_option linter.unusedVariables false
set_option linter.unusedSimpArgs false
namespace Go.Proofs.YtampdifeblndfaaGreatDoor
open Go.ChangeShapes Go.WideShapes Go.ChangeAt Go.RowKit
theorem Tryz.own : ownKnob Tryz.prog.godebug = none := by kernel_rfl
theorem Tryz.laidOut : laidOutB Tryz.prog = true := by kernel_rfl
theorem gTabN : Tryz.prog.globalNamed "math/bits.deBruijn64tab" = some 0 := by kernel_rfl
theorem tTabN : (Tryz.prog.globals[0]?).map (·.type) = some 131 := by kernel_rfl
abbrev tabL : List (String × DataW Unit) := [("math/bits.deBruijn64tab", Rows.laid_math_bits_deBruijn64tab)]
theorem tabL_eq : (Rows.laid_math_bits_deBruijn64tab : DataW Unit) = .agg (Lib.deBruijn64tab.map fun n : Nat => .lit (.int .u8 (n : Int))) := rfl
set_option maxRecDepth 100000 in
theorem tab_of {W : World} (h : laidMetH Tryz.prog tabL W) : Sl.TabG 0 W.hp := by
  rw [MakeChecks.laidMetH_plain _ _ _ (by kernel_rfl)] at h
  obtain ⟨ps, ⟨g0, t0, cs0, f0, p0, q0, hg0, ht0, hv0, hd0, _, _⟩, _, _⟩ := h
  obtain rfl := Option.some.inj (gTabN.symm.trans hg0)
  obtain rfl := Option.some.inj (tTabN.symm.trans ht0)
  obtain ⟨xs, m1, rfl, hx1, hlen, hn, hel⟩ := DataW.trod_array Tryz.underlying131 hd0
  have c5 : Tryz.prog.cellsOf 5 = 1 := by kernel_rfl
  simp only [Prod.mk.injEq] at hx1
  have hx2 := hx1.1
  rw [tabL_eq] at hx2
  simp only [DataW.agg.injEq] at hx2
  intro j hj
  have h1 := hel j hj
  rw [c5, Nat.mul_one, List.getElem?_eq_getElem (by omega)] at h1
  obtain ⟨k, e1, e2, _⟩ := DataW.trod_int Tryz.underlying5 h1
  have h2 : (xs.map (·.1))[j]? = some (.lit (.int .u8 k)) := by
    rw [List.getElem?_map, List.getElem?_eq_getElem (by omega), Option.map_some, e2]
  rw [← hx2, List.getElem?_map] at h2
  have h3 := World.var?_cell hg0 hv0 j
  have hl : Lib.deBruijn64tab.length = 64 := rfl
  rw [List.getElem?_eq_getElem (by omega)] at h2
  have h4 : k = ((Lib.deBruijn64tab[j]'(by omega) : Nat) : Int) := by simpa using h2.symm
  have h5 : cs0[j]? = some (.int .u8 k) := by
    have := congrArg (fun l : List Value => l[0]?) e1
    simpa [List.getElem?_take, List.getElem?_drop] using this
  rw [← Sl.cell?_hp, h3, h5, h4, List.getD_eq_getElem?_getD, List.getElem?_eq_getElem (by omega)]
  rfl
theorem door_met (os : Os) (args : Array Value) : laidMetH Tryz.prog tabL ((World.doorLaid Tryz.prog 400 os).forCall (fun _ _ => 0) ⟨#[], args, []⟩).memory :=
  laidMetH_of_parts3 (fuel := 8) (laidMet_of_run' 8 (by kernel_rfl) (by kernel_rfl)) (by kernel_rfl) (by kernel_rfl)
set_option maxRecDepth 100000 in
theorem lifted (os : Os) (started : os.Started) (H : Type) (enc : TypeId × Value → H) :
    ReturnsInHanded {} Tryz.checked os 4 .any (fun w args => (Rows.arenaPlaysSpec.pre enc Tryz.prog Tryz.f4 [] false w args ∧ laidMetH Tryz.prog tabL w) ∧ sizedMet enc Tryz.prog Tryz.f4 (OpenSpec.ofChange Rows.arenaPlaysSpec) false w args)
      (Rows.arenaPlaysSpec.post enc Tryz.prog Tryz.f4 false true false false) := by
  refine returnsInHanded_of_change_and (C := Tryz.checked) (X := fun w _ => laidMetH Tryz.prog tabL w) (fun _ _ _ hh h => h.of_heap hh) Tryz.own started (by kernel_rfl) Tryz.func4
    (ChangeSpec.witness_shaped (enc := enc) (C := Tryz.checked) (os := os) (X := fun w _ => laidMetH Tryz.prog tabL w) false (World.doorLaid Tryz.prog 400 os) #[.int .i64 0, .slice none 0 0] 8 rfl (World.shaped_of_RefB (by kernel_rfl) (by kernel_rfl)) (by kernel_rfl) (by kernel_rfl) (by kernel_rfl) (door_met os _)) ?_
  intro W base args ds gs before hval0 hW _ _ hL _
  have hval : ∀ (j : Nat) t v, Tryz.f4.params[j]? = some t → args[j]? = some v → Value.okWide Tryz.prog W .any base t v := hval0
  have hW' := hW
  obtain ⟨p, q, hA0, hV, rfl, hfz, hnd⟩ := hW
  have hA : DataW.TrodAll enc Tryz.prog W 0 (fun _ => true) true Tryz.f4.params.toList args.toList ds p := hA0
  rw [Tryz.params4] at hA hval
  have hA1 := hA
  obtain ⟨v0, v1, d0, d1, p0, p1, rfl, rfl, rfl, h0, h1⟩ := trodAll_two hA
  obtain ⟨rfl, rfl⟩ := trodVars_none hV
  obtain ⟨x0, rfl⟩ := Sl.int_in (t := 3) (by kernel_rfl) (hval 0 3 v0 rfl rfl)
  obtain ⟨os1, hx1⟩ := Go.Proofs.ops_in (hval 1 43 v1 rfl rfl) h1
  clear hA0 hval0
  simp only [List.append_nil] at hW'
  have hlt : ∀ x ∈ p0 ++ p1, x.block < W.heap.size := fun x hx => hW'.lt x hx
  have hc : Calls Tryz.prog 4 #[.int .i64 x0, v1] W fun e W' => e = .returned (.bool true) ∧ Below W.heap.size W W' :=
    (Go.Proofs.aplays_tr W.hp x0 v1 os1 (tab_of hL) hx1).row
  refine hc.mono fun e W' ⟨he, hb⟩ => ?_
  subst he
  exact ⟨_, rfl, ⟨_, _, _, [], _, [], hW', trodAll_mk1 (shut_bool (by kernel_rfl) _), Sl.trodAll_below Tryz.laidOut hb (by kernel_rfl) hA1 hlt, rfl, hb.frame _, fun h => by cases h⟩⟩
theorem row_holds : Rows.ArenaPlaysSaid :=
  OpenClaim.holds_of_wide 4 Tryz.f4 rfl rfl rfl rfl rfl rfl rfl ⟨rfl, rfl, rfl, rfl, rfl⟩ rfl rfl rfl rfl rfl (by kernel_rfl) Tryz.func4 (by kernel_rfl)
    (of_decide_eq_true (by kernel_rfl)) (by unfold Func.isWrapper; first | (rw [if_pos (by decide +kernel)]; kernel_rfl) | (rw [if_neg (by decide +kernel)]; exact ⟨rfl, rfl⟩))
    (fun os started H enc _ => lifted os started H enc)
theorem arenaPlays_holds : Rows.ArenaPlaysCardSaid :=
  Claim7.holds_tied_plain_at .later [] [.data] true (true, "cdf54cc2a9b6bb91790762e1041fd96eb7133bc34c7c3c806438aa26902fe248") true
    row_holds (fun _ h => by cases h) (by kernel_rfl) (fun _ h => by cases h) arenaPlays_row_tie rfl ⟨rfl, rfl⟩ (by kernel_rfl) rfl
    (fun f fn hf hfn => by
      obtain rfl : f = 4 := Option.some.inj ((show Tryz.prog.funcNamed "treadmill/treadmilllaw7.ArenaPlays" = some 4 by kernel_rfl).symm.trans hf) |>.symm
      obtain rfl : fn = Tryz.f4 := (Option.some.inj (Tryz.func4.symm.trans hfn)).symm
      exact ⟨by kernel_rfl, fun j t ht => by
        rw [Tryz.params4] at ht
        have hm : t ∈ [3, 43] := by
          have := Array.mem_of_getElem? ht
          simp at this ⊢
          first | exact this | exact this.symm | omega | grind
        have hall : ([3, 43].all fun u => !Tryz.prog.wantsStandIn u) = true := by kernel_rfl
        exact (show Tryz.prog.wantsStandIn t = false by simpa using List.all_eq_true.1 hall t hm)⟩)
    (by kernel_rfl)
end Go.Proofs.YtampdifeblndfaaGreatDoor
