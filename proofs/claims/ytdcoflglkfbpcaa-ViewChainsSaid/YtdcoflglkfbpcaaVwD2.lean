/-
  The conditions of some functions, as the printer wrote them out of the dump; the kernel checks that each is the function's own.
-/
import Derived.Test.YtdcoflglkfbpcaaVwD1
import Derived.Test.YtdcoflglkfbpcaaProg
set_option linter.unusedVariables false
set_option linter.unusedSimpArgs false
set_option maxRecDepth 100000
namespace Go.Proofs
open Go.Sl
/- 41: treadmill/view.places; slots: 0 v, 1 v, 3 m, 4 i, 5 o, 6 _, 7 ok -/
def x41 : Ann := (.seq (.reg [] [(0, []), (1, [])]) (.seq (.reg [] [(0, []), (1, [])]) (.seq (.seq (.reg [] [(0, []), (1, []), (2, []), (3, [])]) (.blk (.loop [12] [13, 14, 15, 16, 5, 4, 18, 19, 20, 21, 17, 22, 23, 6, 7, 24, 25, 26, 27, 28, 29, 30, 12] (.seq (.reg [] [(0, [])]) (.seq (.cond .leaf .leaf) (.join [] [14, 15, 16, 5, 4, 18, 19, 20, 21, 17, 22, 23, 6, 7, 24, 25, 26, 27, 28, 29] (.blk (.seq (.reg [] [(0, []), (1, []), (2, []), (3, []), (4, []), (5, [])]) (.seq (.reg [] [(0, []), (1, []), (2, []), (3, []), (4, []), (5, []), (6, []), (7, []), (8, [])]) (.seq (.reg [] [(0, []), (1, [])]) (.cond (.reg [] [(0, []), (1, []), (2, []), (3, []), (4, [])]) .leaf))))) (.reg [] [(0, []), (1, [])]))))))) (.seq (.reg [] [(0, []), (1, [])]) .leaf))))
def D41 (a0 : Value) (K : Value → Hp → Prop) (h : Hp) : Prop :=
  vA (some (Obj.cells (Value.cells a0) 26 (0, 0), ptrV)) (fun v1 h1 =>
  vA (some (Obj.map #[] 0, fun r => Value.map (some r))) (fun v8 h2 =>
  vP (faV 5 v1) fun v9 =>
  vP (ld1 v9 h2) fun v10 =>
  vP (lenV v10) fun v11 =>
  ∃ I1 : Nat → List Value → Hp → Prop, (∃ n, I1 n [(Value.int .i64 0)] h2) ∧
  ∀ n1 : Nat, ∀ v12 : Value, ∀ h3 : Hp, I1 n1 [v12] h3 → ∀ g1 : St,
    vP (binV .lss v12 v11) fun v13 =>
    vB v13 (∀ J2 : List Value → Hp → Prop, (∀ h4 : Hp, (∀ g2 : St,
        vP (binV .add v12 (Value.int .i64 1)) fun v30 =>
        ∃ m1, m1 < n1 ∧ I1 m1 [v30] h4) → J2 [] h4) →
      vP (iaS 3 v10 v12) fun v15 =>
      vP (ldN 3 v15 h3) fun v16 =>
      vA (some (Obj.cells #[(Value.int .i64 0), (Value.slice none 0 0), (Value.bool false)] 30 (0, 0), ptrV)) (fun v5 h5 =>
      stN 3 v5 v16 (fun _ h6 =>
      vP (faV 0 v5) fun v19 =>
      vP (ld1 v19 h6) fun v20 =>
      vP (lkV Try.prog 51 v8 v20 true h6) fun v21 =>
      vP (exV v21 0) fun v22 =>
      vP (exV v21 1) fun v23 =>
      vP (unV .not v23) fun v25 =>
      vB v25 (vP (faV 0 v5) fun v27 =>
        vP (ld1 v27 h6) fun v28 =>
        muW Try.prog 51 v8 v28 v12 (fun _ h7 =>
        J2 [] h7) h6)
      (J2 [] h6)) h5) h3)
    (K v8 h3)) h1) h
theorem D41_eq (a0 : Value) (K : Value → Hp → Prop) (h : Hp) : fnVC Try.prog Try.f41 x41 [a0] K h = D41 a0 K h := by kernel_rfl
theorem D41_ok : fnOk Try.prog Try.f41 x41 1 = true := by kernel_rfl
theorem C41 {a0 : Value} {K : Value → Hp → Prop} {h : Hp} (hh : D41 a0 K h) : CallH Try.prog 41 #[a0] K h :=
  callH_of mixed Try.func41 x41 [a0] D41_ok (D41_eq a0 K h ▸ hh)

/- 46: treadmill/view.walk; slots: 0 v, 1 v, 2 there, 3 lost, 4 at, 5 l, 6 seen, 7 _, 8 a, 9 i, 10 k, 11 ok, 12 _, 13 a -/
def x46 : Ann := (.seq (.reg [] [(0, []), (1, []), (2, [])]) (.seq (.reg [] [(0, []), (1, []), (2, [])]) (.seq (.reg [] [(0, []), (1, []), (2, [])]) (.seq (.reg [] [(0, []), (1, []), (2, []), (3, [])]) (.seq (.seq (.reg [] [(0, []), (1, []), (2, [])]) (.blk (.loop [22] [23, 24, 25, 8, 26, 27, 28, 22] (.seq (.reg [] [(0, [])]) (.seq (.cond .leaf .leaf) (.seq (.blk (.seq (.reg [] [(0, []), (1, []), (2, [])]) (.reg [] [(0, []), (1, []), (2, [])]))) (.reg [] [(0, []), (1, [])]))))))) (.seq (.seq (.reg [] [(0, [])]) (.blk (.loop [9, 5, 3, 2] [29, 30, 31, 32, 36, 37, 38, 39, 40, 41, 35, 42, 43, 10, 11, 44, 45, 46, 47, 48, 49, 50, 51, 52, 3, 53, 54, 55, 56, 57, 58, 59, 2, 60, 61, 62, 63, 64, 65, 66, 67, 68, 69, 70, 13, 71, 72, 73, 74, 75, 76, 77, 78, 79, 80, 5, 81, 33, 34, 9] (.seq (.seq (.reg [] [(0, []), (1, []), (2, []), (3, [])]) (.cond .leaf .leaf)) (.join [5, 3, 2] [36, 37, 38, 39, 40, 41, 35, 42, 43, 10, 11, 44, 45, 46, 47, 48, 49, 50, 51, 52, 3, 53, 54, 55, 56, 57, 58, 59, 2, 60, 61, 62, 63, 64, 65, 66, 67, 68, 69, 70, 13, 71, 72, 73, 74, 75, 76, 77, 78, 79, 80, 5, 81] (.blk (.seq (.reg [] [(0, []), (1, []), (2, []), (3, []), (4, []), (5, []), (6, []), (7, []), (8, []), (9, []), (10, [])]) (.seq (.seq (.reg [] [(0, []), (1, [])]) (.cond (.seq (.reg [] [(0, []), (1, []), (2, []), (3, []), (4, []), (5, []), (6, []), (7, [])]) .leaf) .leaf)) (.seq (.reg [] [(0, []), (1, []), (2, []), (3, []), (4, []), (5, []), (6, []), (7, [])]) (.seq (.reg [] [(0, []), (1, []), (2, []), (3, []), (4, []), (5, []), (6, []), (7, [])]) (.blk (.loop [67, 5] [68, 69, 70, 13, 71, 72, 73, 74, 75, 76, 77, 78, 79, 80, 5, 81, 67] (.seq (.reg [] [(0, [])]) (.seq (.cond .leaf .leaf) (.join [5] [69, 70, 13, 71, 72, 73, 74, 75, 76, 77, 78, 79, 80, 5] (.blk (.seq (.reg [] [(0, []), (1, []), (2, [])]) (.seq (.reg [] [(0, []), (1, []), (2, []), (3, [])]) (.cond (.seq (.reg [] [(0, []), (1, []), (2, [])]) (.reg [] [(0, []), (1, []), (2, []), (3, []), (4, [])])) .leaf)))) (.reg [] [(0, []), (1, [])]))))))))))) (.reg [] [(0, []), (1, []), (2, [])])))))) (.seq (.reg [] [(0, []), (1, [])]) (.seq (.reg [] [(0, []), (1, [])]) (.seq (.reg [] [(0, []), (1, []), (2, []), (3, [])]) .leaf)))))))))
def D46 (a0 : Value) (K : Value → Hp → Prop) (h : Hp) : Prop :=
  vA (some (Obj.cells (Value.cells a0) 26 (0, 0), ptrV)) (fun v1 h1 =>
  vP (ldN 9 v1 h1) fun v14 =>
  CallH Try.prog 41 #[v14] (fun v15 h2 =>
  vP (ldN 9 v1 h2) fun v16 =>
  CallH Try.prog 19 #[v16] (fun v17 h3 =>
  vA (some (Obj.map #[] 0, fun r => Value.map (some r))) (fun v18 h4 =>
  muW Try.prog 51 v18 (Value.int .i64 0) (Value.int .i64 1) (fun _ h5 =>
  vP (lenV v17) fun v21 =>
  ∃ I1 : Nat → List Value → Hp → Prop, (∃ n, I1 n [(Value.int .i64 0)] h5) ∧
  ∀ n1 : Nat, ∀ v22 : Value, ∀ h6 : Hp, I1 n1 [v22] h6 → ∀ g1 : St,
    vP (binV .lss v22 v21) fun v23 =>
    vB v23 (vP (iaS 1 v17 v22) fun v24 =>
      vP (ld1 v24 h6) fun v25 =>
      muW Try.prog 51 v18 v25 (Value.int .i64 1) (fun _ h7 =>
      vP (binV .add v22 (Value.int .i64 1)) fun v28 =>
      ∃ m1, m1 < n1 ∧ I1 m1 [v28] h7) h6)
    (∃ I2 : Nat → List Value → Hp → Prop, (∃ n, I2 n [(Value.int .i64 0), v17, (Value.slice none 0 0), (Value.slice none 0 0)] h6) ∧
    ∀ n2 : Nat, ∀ v9 v5 v3 v2 : Value, ∀ h8 : Hp, I2 n2 [v9, v5, v3, v2] h8 → ∀ g2 : St,
      vP (lenV v5) fun v31 =>
      vP (binV .lss v9 v31) fun v32 =>
      vB v32 (∀ J3 : List Value → Hp → Prop, (∀ v5_1 v3_1 v2_1 : Value, ∀ h9 : Hp, (∀ g3 : St,
          vP (binV .add v9 (Value.int .i64 1)) fun v34 =>
          ∃ m2, m2 < n2 ∧ I2 m2 [v34, v5_1, v3_1, v2_1] h9) → J3 [v5_1, v3_1, v2_1] h9) →
        vP (iaS 1 v5 v9) fun v39 =>
        vP (ld1 v39 h8) fun v40 =>
        vP (lkV Try.prog 51 v15 v40 true h8) fun v41 =>
        vP (exV v41 0) fun v42 =>
        vP (exV v41 1) fun v43 =>
        vP (unV .not v43) fun v45 =>
        vB v45 (vP (iaS 1 v5 v9) fun v49 =>
          vP (ld1 v49 h8) fun v50 =>
          vA ((bldV #[(Value.int .i64 0)] [(0, 1, v50)]).map fun c => (Obj.cells c 3 (0, 0), fun r => Value.slice (some ⟨r, 0, none⟩) 1 1)) (fun v51 h10 =>
          apW Try.prog #[22, 22] 22 v3 v51 (fun v52 h11 =>
          J3 [v5, v52, v2] h11) h10) h8)
        (vP (iaS 1 v5 v9) fun v56 =>
        vP (ld1 v56 h8) fun v57 =>
        vA ((bldV #[(Value.int .i64 0)] [(0, 1, v57)]).map fun c => (Obj.cells c 3 (0, 0), fun r => Value.slice (some ⟨r, 0, none⟩) 1 1)) (fun v58 h12 =>
        apW Try.prog #[22, 22] 22 v2 v58 (fun v59 h13 =>
        vP (faV 5 v1) fun v60 =>
        vP (ld1 v60 h13) fun v61 =>
        vP (iaS 3 v61 v42) fun v63 =>
        vP (faV 1 v63) fun v64 =>
        vP (ld1 v64 h13) fun v65 =>
        vP (lenV v65) fun v66 =>
        ∃ I4 : Nat → List Value → Hp → Prop, (∃ n, I4 n [(Value.int .i64 0), v5] h13) ∧
        ∀ n4 : Nat, ∀ v67 v5_2 : Value, ∀ h14 : Hp, I4 n4 [v67, v5_2] h14 → ∀ g4 : St,
          vP (binV .lss v67 v66) fun v68 =>
          vB v68 (∀ J5 : List Value → Hp → Prop, (∀ v5_3 : Value, ∀ h15 : Hp, (∀ g5 : St,
              vP (binV .add v67 (Value.int .i64 1)) fun v81 =>
              ∃ m4, m4 < n4 ∧ I4 m4 [v81, v5_3] h15) → J5 [v5_3] h15) →
            vP (iaS 1 v65 v67) fun v69 =>
            vP (ld1 v69 h14) fun v70 =>
            vP (lkV Try.prog 51 v18 v70 false h14) fun v73 =>
            vP (eqV 1 false v73 (Value.int .i64 0)) fun v74 =>
            vB v74 (muW Try.prog 51 v18 v70 (Value.int .i64 1) (fun _ h16 =>
              vA ((bldV #[(Value.int .i64 0)] [(0, 1, v70)]).map fun c => (Obj.cells c 3 (0, 0), fun r => Value.slice (some ⟨r, 0, none⟩) 1 1)) (fun v79 h17 =>
              apW Try.prog #[22, 22] 22 v5_2 v79 (fun v80 h18 =>
              J5 [v80] h18) h17) h16) h14)
            (J5 [v5_2] h14))
          (J3 [v5_2, v3, v59] h14)) h12) h8))
      (CallH Try.prog 68 #[v2] (fun v83 h19 =>
      CallH Try.prog 68 #[v3] (fun v85 h20 =>
      K (Value.tuple #[v2, v3]) h20) h19) h8))) h4) h3) h2) h1) h
theorem D46_eq (a0 : Value) (K : Value → Hp → Prop) (h : Hp) : fnVC Try.prog Try.f46 x46 [a0] K h = D46 a0 K h := by kernel_rfl
theorem D46_ok : fnOk Try.prog Try.f46 x46 1 = true := by kernel_rfl
theorem C46 {a0 : Value} {K : Value → Hp → Prop} {h : Hp} (hh : D46 a0 K h) : CallH Try.prog 46 #[a0] K h :=
  callH_of mixed Try.func46 x46 [a0] D46_ok (D46_eq a0 K h ▸ hh)

/- 19: treadmill/view.Roots; slots: 0 v, 1 v, 3 out, 4 seen, 5 add, 6 _, 7 g -/
def x19 : Ann := (.seq (.reg [] [(0, []), (1, [])]) (.seq (.reg [] [(0, [])]) (.seq (.reg [] [(0, []), (1, []), (2, []), (3, []), (4, [])]) (.seq (.reg [] [(0, []), (1, [])]) (.seq (.reg [] [(0, []), (1, []), (2, []), (3, [])]) (.seq (.seq (.reg [] [(0, []), (1, []), (2, []), (3, [])]) (.blk (.loop [18] [19, 20, 21, 7, 22, 23, 24, 25, 26, 27, 28, 29, 18] (.seq (.reg [] [(0, [])]) (.seq (.cond .leaf .leaf) (.join [] [20, 21, 7, 22, 23, 24, 25, 26, 27, 28] (.blk (.seq (.reg [] [(0, []), (1, []), (2, []), (3, [])]) (.seq (.reg [] [(0, []), (1, []), (2, [])]) (.cond (.reg [] [(0, []), (1, []), (2, []), (3, [])]) .leaf)))) (.reg [] [(0, []), (1, [])]))))))) (.seq (.reg [] [(0, []), (1, [])]) .leaf)))))))
def D19 (a0 : Value) (K : Value → Hp → Prop) (h : Hp) : Prop :=
  vA (some (Obj.cells (Value.cells a0) 26 (0, 0), ptrV)) (fun v1 h1 =>
  vA (some (Obj.cells #[(Value.slice none 0 0)] 22 (0, 0), ptrV)) (fun v3 h2 =>
  vA (some (Obj.map #[] 0, fun r => Value.map (some r))) (fun v8 h3 =>
  muW Try.prog 51 v8 (Value.int .i64 0) (Value.int .i64 1) (fun _ h4 =>
  vA (some (Obj.cells #[(Value.map none)] 51 (0, 0), ptrV)) (fun v4 h5 =>
  st1 v4 v8 (fun _ h6 =>
  vP (some (Value.func (.func 47) #[] #[v4, v3])) fun v10 =>
  vP (faV 3 v1) fun v12 =>
  vP (ld1 v12 h6) fun v13 =>
  cvW Try.prog v10 #[v13] (fun v14 h7 =>
  vP (faV 4 v1) fun v15 =>
  vP (ld1 v15 h7) fun v16 =>
  vP (lenV v16) fun v17 =>
  ∃ I1 : Nat → List Value → Hp → Prop, (∃ n, I1 n [(Value.int .i64 0)] h7) ∧
  ∀ n1 : Nat, ∀ v18 : Value, ∀ h8 : Hp, I1 n1 [v18] h8 → ∀ g1 : St,
    vP (binV .lss v18 v17) fun v19 =>
    vB v19 (∀ J2 : List Value → Hp → Prop, (∀ h9 : Hp, (∀ g2 : St,
        vP (binV .add v18 (Value.int .i64 1)) fun v29 =>
        ∃ m1, m1 < n1 ∧ I1 m1 [v29] h9) → J2 [] h9) →
      vP (iaS 3 v16 v18) fun v20 =>
      vP (ldN 3 v20 h8) fun v21 =>
      vA (some (Obj.cells #[(Value.int .i64 0), (Value.int .i64 0), (Value.slice none 0 0)] 41 (0, 0), ptrV)) (fun v7 h10 =>
      stN 3 v7 v21 (fun _ h11 =>
      vP (faV 0 v7) fun v22 =>
      vP (ld1 v22 h11) fun v23 =>
      vP (eqV 1 true v23 (Value.int .i64 5)) fun v24 =>
      vB v24 (vP (faV 2 v7) fun v26 =>
        vP (ld1 v26 h11) fun v27 =>
        cvW Try.prog v10 #[v27] (fun v28 h12 =>
        J2 [] h12) h11)
      (J2 [] h11)) h10) h8)
    (vP (ld1 v3 h8) fun v30 =>
    K v30 h8)) h6) h5) h4) h3) h2) h1) h
theorem D19_eq (a0 : Value) (K : Value → Hp → Prop) (h : Hp) : fnVC Try.prog Try.f19 x19 [a0] K h = D19 a0 K h := by kernel_rfl
theorem D19_ok : fnOk Try.prog Try.f19 x19 1 = true := by kernel_rfl
theorem C19 {a0 : Value} {K : Value → Hp → Prop} {h : Hp} (hh : D19 a0 K h) : CallH Try.prog 19 #[a0] K h :=
  callH_of mixed Try.func19 x19 [a0] D19_ok (D19_eq a0 K h ▸ hh)

/- 47: treadmill/view.Roots$1; slots: 0 l, 3 l, 4 _, 5 a -/
def x47 : Ann := (.seq (.reg [] [(0, []), (1, []), (2, [])]) (.blk (.loop [8] [9, 10, 11, 5, 12, 13, 14, 15, 16, 17, 18, 19, 20, 21, 22, 8] (.seq (.reg [] [(0, [])]) (.seq (.cond .leaf .leaf) (.join [] [10, 11, 5, 12, 13, 14, 15, 16, 17, 18, 19, 20, 21] (.blk (.seq (.reg [] [(0, []), (1, []), (2, [])]) (.seq (.reg [] [(0, []), (1, []), (2, []), (3, [])]) (.cond (.seq (.reg [] [(0, []), (1, []), (2, [])]) (.reg [] [(0, []), (1, []), (2, []), (3, []), (4, [])])) .leaf)))) (.reg [] [(0, []), (1, [])])))))))
def D47 (a0 a1 a2 : Value) (K : Value → Hp → Prop) (h : Hp) : Prop :=
  vP (lenV a0) fun v7 =>
  ∃ I1 : Nat → List Value → Hp → Prop, (∃ n, I1 n [(Value.int .i64 0)] h) ∧
  ∀ n1 : Nat, ∀ v8 : Value, ∀ h1 : Hp, I1 n1 [v8] h1 → ∀ g1 : St,
    vP (binV .lss v8 v7) fun v9 =>
    vB v9 (∀ J2 : List Value → Hp → Prop, (∀ h2 : Hp, (∀ g2 : St,
        vP (binV .add v8 (Value.int .i64 1)) fun v22 =>
        ∃ m1, m1 < n1 ∧ I1 m1 [v22] h2) → J2 [] h2) →
      vP (iaS 1 a0 v8) fun v10 =>
      vP (ld1 v10 h1) fun v11 =>
      vP (ld1 a1 h1) fun v12 =>
      vP (lkV Try.prog 51 v12 v11 false h1) fun v14 =>
      vP (eqV 1 false v14 (Value.int .i64 0)) fun v15 =>
      vB v15 (vP (ld1 a1 h1) fun v16 =>
        muW Try.prog 51 v16 v11 (Value.int .i64 1) (fun _ h3 =>
        vP (ld1 a2 h3) fun v18 =>
        vA ((bldV #[(Value.int .i64 0)] [(0, 1, v11)]).map fun c => (Obj.cells c 3 (0, 0), fun r => Value.slice (some ⟨r, 0, none⟩) 1 1)) (fun v20 h4 =>
        apW Try.prog #[22, 22] 22 v18 v20 (fun v21 h5 =>
        st1 a2 v21 (fun _ h6 =>
        J2 [] h6) h5) h4) h3) h1)
      (J2 [] h1))
    (K (Value.tuple #[]) h1)
theorem D47_eq (a0 a1 a2 : Value) (K : Value → Hp → Prop) (h : Hp) : fnVC Try.prog Try.f47 x47 [a0, a1, a2] K h = D47 a0 a1 a2 K h := by kernel_rfl
theorem D47_ok : fnOk Try.prog Try.f47 x47 3 = true := by kernel_rfl
theorem C47 {a0 a1 a2 : Value} {K : Value → Hp → Prop} {h : Hp} (hh : D47 a0 a1 a2 K h) : CallH Try.prog 47 #[a0, a1, a2] K h :=
  callH_of mixed Try.func47 x47 [a0, a1, a2] D47_ok (D47_eq a0 a1 a2 K h ▸ hh)

/- 17: treadmill/view.Reach; slots: 0 v, 1 v, 3 l, 4 _ -/
def x17 : Ann := (.seq (.reg [] [(0, []), (1, [])]) (.seq (.reg [] [(0, []), (1, []), (2, []), (3, []), (4, []), (5, []), (6, [])]) (.seq (.reg [] [(0, []), (1, [])]) .leaf)))
def D17 (a0 : Value) (K : Value → Hp → Prop) (h : Hp) : Prop :=
  vA (some (Obj.cells (Value.cells a0) 26 (0, 0), ptrV)) (fun v1 h1 =>
  vP (ldN 9 v1 h1) fun v6 =>
  CallH Try.prog 46 #[v6] (fun v7 h2 =>
  vP (exV v7 0) fun v8 =>
  vP (exV v7 1) fun v9 =>
  K v8 h2) h1) h
theorem D17_eq (a0 : Value) (K : Value → Hp → Prop) (h : Hp) : fnVC Try.prog Try.f17 x17 [a0] K h = D17 a0 K h := by kernel_rfl
theorem D17_ok : fnOk Try.prog Try.f17 x17 1 = true := by kernel_rfl
theorem C17 {a0 : Value} {K : Value → Hp → Prop} {h : Hp} (hh : D17 a0 K h) : CallH Try.prog 17 #[a0] K h :=
  callH_of mixed Try.func17 x17 [a0] D17_ok (D17_eq a0 K h ▸ hh)

/- 18: treadmill/view.Lost; slots: 0 v, 1 v, 3 _, 4 l -/
def x18 : Ann := (.seq (.reg [] [(0, []), (1, [])]) (.seq (.reg [] [(0, []), (1, []), (2, []), (3, []), (4, []), (5, []), (6, [])]) (.seq (.reg [] [(0, []), (1, [])]) .leaf)))
def D18 (a0 : Value) (K : Value → Hp → Prop) (h : Hp) : Prop :=
  vA (some (Obj.cells (Value.cells a0) 26 (0, 0), ptrV)) (fun v1 h1 =>
  vP (ldN 9 v1 h1) fun v6 =>
  CallH Try.prog 46 #[v6] (fun v7 h2 =>
  vP (exV v7 0) fun v8 =>
  vP (exV v7 1) fun v9 =>
  K v9 h2) h1) h
theorem D18_eq (a0 : Value) (K : Value → Hp → Prop) (h : Hp) : fnVC Try.prog Try.f18 x18 [a0] K h = D18 a0 K h := by kernel_rfl
theorem D18_ok : fnOk Try.prog Try.f18 x18 1 = true := by kernel_rfl
theorem C18 {a0 : Value} {K : Value → Hp → Prop} {h : Hp} (hh : D18 a0 K h) : CallH Try.prog 18 #[a0] K h :=
  callH_of mixed Try.func18 x18 [a0] D18_ok (D18_eq a0 K h ▸ hh)

/- 23: treadmill/view.White; slots: 0 v, 1 v, 3 at, 4 out, 5 _, 6 a -/
def x23 : Ann := (.seq (.reg [] [(0, []), (1, [])]) (.seq (.reg [] [(0, []), (1, []), (2, [])]) (.seq (.reg [] [(0, [])]) (.seq (.seq (.reg [] [(0, []), (1, []), (2, []), (3, [])]) (.blk (.loop [12, 4] [13, 14, 15, 6, 16, 17, 18, 19, 20, 21, 22, 23, 24, 25, 26, 27, 28, 4, 29, 12] (.seq (.reg [] [(0, [])]) (.seq (.cond .leaf .leaf) (.join [4] [14, 15, 6, 16, 17, 18, 19, 20, 21, 22, 23, 24, 25, 26, 27, 28, 4] (.blk (.seq (.reg [] [(0, []), (1, []), (2, [])]) (.seq (.reg [] [(0, []), (1, []), (2, []), (3, []), (4, []), (5, []), (6, []), (7, []), (8, [])]) (.cond (.reg [] [(0, []), (1, []), (2, []), (3, []), (4, [])]) .leaf)))) (.reg [] [(0, []), (1, [])]))))))) (.seq (.reg [] [(0, []), (1, [])]) .leaf)))))
def D23 (a0 : Value) (K : Value → Hp → Prop) (h : Hp) : Prop :=
  vA (some (Obj.cells (Value.cells a0) 26 (0, 0), ptrV)) (fun v1 h1 =>
  vP (ldN 9 v1 h1) fun v7 =>
  CallH Try.prog 41 #[v7] (fun v8 h2 =>
  vP (ldN 9 v1 h2) fun v9 =>
  CallH Try.prog 17 #[v9] (fun v10 h3 =>
  vP (lenV v10) fun v11 =>
  ∃ I1 : Nat → List Value → Hp → Prop, (∃ n, I1 n [(Value.int .i64 0), (Value.slice none 0 0)] h3) ∧
  ∀ n1 : Nat, ∀ v12 v4 : Value, ∀ h4 : Hp, I1 n1 [v12, v4] h4 → ∀ g1 : St,
    vP (binV .lss v12 v11) fun v13 =>
    vB v13 (∀ J2 : List Value → Hp → Prop, (∀ v4_1 : Value, ∀ h5 : Hp, (∀ g2 : St,
        vP (binV .add v12 (Value.int .i64 1)) fun v29 =>
        ∃ m1, m1 < n1 ∧ I1 m1 [v29, v4_1] h5) → J2 [v4_1] h5) →
      vP (iaS 1 v10 v12) fun v14 =>
      vP (ld1 v14 h4) fun v15 =>
      vP (faV 5 v1) fun v16 =>
      vP (ld1 v16 h4) fun v17 =>
      vP (lkV Try.prog 51 v8 v15 false h4) fun v20 =>
      vP (iaS 3 v17 v20) fun v21 =>
      vP (faV 2 v21) fun v22 =>
      vP (ld1 v22 h4) fun v23 =>
      vP (unV .not v23) fun v24 =>
      vB v24 (vA ((bldV #[(Value.int .i64 0)] [(0, 1, v15)]).map fun c => (Obj.cells c 3 (0, 0), fun r => Value.slice (some ⟨r, 0, none⟩) 1 1)) (fun v27 h6 =>
        apW Try.prog #[22, 22] 22 v4 v27 (fun v28 h7 =>
        J2 [v28] h7) h6) h4)
      (J2 [v4] h4))
    (K v4 h4)) h2) h1) h
theorem D23_eq (a0 : Value) (K : Value → Hp → Prop) (h : Hp) : fnVC Try.prog Try.f23 x23 [a0] K h = D23 a0 K h := by kernel_rfl
theorem D23_ok : fnOk Try.prog Try.f23 x23 1 = true := by kernel_rfl
theorem C23 {a0 : Value} {K : Value → Hp → Prop} {h : Hp} (hh : D23 a0 K h) : CallH Try.prog 23 #[a0] K h :=
  callH_of mixed Try.func23 x23 [a0] D23_ok (D23_eq a0 K h ▸ hh)

/- 22: treadmill/view.Find; slots: 0 v, 1 addr, 2 v, 3 addr -/
def x22 : Ann := (.seq (.reg [] [(0, []), (1, []), (2, [])]) (.seq (.reg [] [(0, []), (1, []), (2, []), (3, []), (4, [])]) .leaf))
def D22 (a0 a1 : Value) (K : Value → Hp → Prop) (h : Hp) : Prop :=
  vA (some (Obj.cells (Value.cells a0) 26 (0, 0), ptrV)) (fun v2 h1 =>
  vA (some (Obj.cells (Value.cells a1) 3 (0, 0), ptrV)) (fun v3 h2 =>
  vP (faV 5 v2) fun v5 =>
  vP (ld1 v5 h2) fun v6 =>
  vP (some (Value.func (.func 49) #[] #[v3])) fun v7 =>
  CallH Try.prog 48 #[v6, v7] (fun v8 h3 =>
  K v8 h3) h2) h1) h
theorem D22_eq (a0 a1 : Value) (K : Value → Hp → Prop) (h : Hp) : fnVC Try.prog Try.f22 x22 [a0, a1] K h = D22 a0 a1 K h := by kernel_rfl
theorem D22_ok : fnOk Try.prog Try.f22 x22 2 = true := by kernel_rfl
theorem C22 {a0 a1 : Value} {K : Value → Hp → Prop} {h : Hp} (hh : D22 a0 a1 K h) : CallH Try.prog 22 #[a0, a1] K h :=
  callH_of mixed Try.func22 x22 [a0, a1] D22_ok (D22_eq a0 a1 K h ▸ hh)

/- 49: treadmill/view.Find$1; slots: 0 o, 2 o -/
def x49 : Ann := (.seq (.reg [] [(0, []), (1, [])]) (.seq (.reg [] [(0, []), (1, []), (2, []), (3, []), (4, [])]) .leaf))
def D49 (a0 a1 : Value) (K : Value → Hp → Prop) (h : Hp) : Prop :=
  vA (some (Obj.cells (Value.cells a0) 30 (0, 0), ptrV)) (fun v2 h1 =>
  vP (faV 0 v2) fun v4 =>
  vP (ld1 v4 h1) fun v5 =>
  vP (ld1 a1 h1) fun v6 =>
  vP (eqV 1 false v5 v6) fun v7 =>
  K v7 h1) h
theorem D49_eq (a0 a1 : Value) (K : Value → Hp → Prop) (h : Hp) : fnVC Try.prog Try.f49 x49 [a0, a1] K h = D49 a0 a1 K h := by kernel_rfl
theorem D49_ok : fnOk Try.prog Try.f49 x49 2 = true := by kernel_rfl
theorem C49 {a0 a1 : Value} {K : Value → Hp → Prop} {h : Hp} (hh : D49 a0 a1 K h) : CallH Try.prog 49 #[a0, a1] K h :=
  callH_of mixed Try.func49 x49 [a0, a1] D49_ok (D49_eq a0 a1 K h ▸ hh)

/- 48: slices.IndexFunc[[]treadmill/api.Object,treadmill/api.Object]; slots: 0 s, 1 f, 2 s, 3 f, 5 i -/
def x48 : Ann := (.seq (.reg [] [(0, [])]) (.seq (.seq (.reg [] [(0, []), (1, []), (2, [])]) (.blk (.loop [8] [9, 10, 5, 11, 12, 13, 14, 15, 16, 17, 4, 18, 8] (.seq (.reg [] [(0, [])]) (.seq (.cond .leaf .leaf) (.seq (.blk (.seq (.reg [] [(0, []), (1, [])]) (.seq (.reg [] [(0, []), (1, []), (2, []), (3, []), (4, []), (5, [])]) (.cond (.seq (.reg [] [(0, []), (1, [])]) .leaf) .leaf)))) (.reg [] [(0, []), (1, [])]))))))) (.seq (.reg [] [(0, [])]) .leaf)))
def D48 (a0 a1 : Value) (K : Value → Hp → Prop) (h : Hp) : Prop :=
  vP (lenV a0) fun v7 =>
  ∃ I1 : Nat → List Value → Hp → Prop, (∃ n, I1 n [(Value.int .i64 0)] h) ∧
  ∀ n1 : Nat, ∀ v8 : Value, ∀ h1 : Hp, I1 n1 [v8] h1 → ∀ g1 : St,
    vP (binV .lss v8 v7) fun v9 =>
    vB v9 (vP (iaS 3 a0 v8) fun v14 =>
      vP (ldN 3 v14 h1) fun v15 =>
      cvW Try.prog a1 #[v15] (fun v16 h2 =>
      vB v16 (K v8 h2)
      (vP (binV .add v8 (Value.int .i64 1)) fun v18 =>
      ∃ m1, m1 < n1 ∧ I1 m1 [v18] h2)) h1)
    (K (Value.int .i64 (-1)) h1)
theorem D48_eq (a0 a1 : Value) (K : Value → Hp → Prop) (h : Hp) : fnVC Try.prog Try.f48 x48 [a0, a1] K h = D48 a0 a1 K h := by kernel_rfl
theorem D48_ok : fnOk Try.prog Try.f48 x48 2 = true := by kernel_rfl
theorem C48 {a0 a1 : Value} {K : Value → Hp → Prop} {h : Hp} (hh : D48 a0 a1 K h) : CallH Try.prog 48 #[a0, a1] K h :=
  callH_of mixed Try.func48 x48 [a0, a1] D48_ok (D48_eq a0 a1 K h ▸ hh)

/- 25: treadmill/view.Words; slots: 0 v, 1 v, 3 n, 4 _, 5 o, 6 k -/
def x25 : Ann := (.seq (.reg [] [(0, []), (1, [])]) (.seq (.reg [] [(0, [])]) (.seq (.seq (.reg [] [(0, []), (1, []), (2, []), (3, [])]) (.blk (.loop [10, 3] [11, 12, 13, 5, 14, 15, 16, 17, 6, 18, 19, 20, 21, 22, 23, 3, 24, 10] (.seq (.reg [] [(0, [])]) (.seq (.cond .leaf .leaf) (.join [3] [12, 13, 5, 14, 15, 16, 17, 6, 18, 19, 20, 21, 22, 23, 3] (.blk (.seq (.reg [] [(0, []), (1, []), (2, []), (3, [])]) (.seq (.reg [] [(0, []), (1, []), (2, []), (3, []), (4, [])]) (.seq (.reg [] [(0, []), (1, [])]) (.cond (.reg [] [(0, []), (1, []), (2, []), (3, []), (4, [])]) .leaf))))) (.reg [] [(0, []), (1, [])]))))))) (.seq (.reg [] [(0, []), (1, [])]) .leaf))))
def D25 (a0 : Value) (K : Value → Hp → Prop) (h : Hp) : Prop :=
  vA (some (Obj.cells (Value.cells a0) 26 (0, 0), ptrV)) (fun v1 h1 =>
  vP (faV 5 v1) fun v7 =>
  vP (ld1 v7 h1) fun v8 =>
  vP (lenV v8) fun v9 =>
  ∃ I1 : Nat → List Value → Hp → Prop, (∃ n, I1 n [(Value.int .i64 0), (Value.int .i64 0)] h1) ∧
  ∀ n1 : Nat, ∀ v10 v3 : Value, ∀ h2 : Hp, I1 n1 [v10, v3] h2 → ∀ g1 : St,
    vP (binV .lss v10 v9) fun v11 =>
    vB v11 (∀ J2 : List Value → Hp → Prop, (∀ v3_1 : Value, ∀ h3 : Hp, (∀ g2 : St,
        vP (binV .add v10 (Value.int .i64 1)) fun v24 =>
        ∃ m1, m1 < n1 ∧ I1 m1 [v24, v3_1] h3) → J2 [v3_1] h3) →
      vP (iaS 3 v8 v10) fun v12 =>
      vP (ldN 3 v12 h2) fun v13 =>
      vA (some (Obj.cells #[(Value.int .i64 0), (Value.slice none 0 0), (Value.bool false)] 30 (0, 0), ptrV)) (fun v5 h4 =>
      stN 3 v5 v13 (fun _ h5 =>
      vP (faV 1 v5) fun v14 =>
      vP (ld1 v14 h5) fun v15 =>
      vP (lenV v15) fun v16 =>
      CallH Try.prog 50 #[v16] (fun v17 h6 =>
      vP (binV .geq v17 (Value.int .i64 0)) fun v19 =>
      vB v19 (CallH Try.prog 51 #[v17] (fun v22 h7 =>
        vP (binV .add v3 v22) fun v23 =>
        J2 [v23] h7) h6)
      (J2 [v3] h6)) h5) h4) h2)
    (K v3 h2)) h
theorem D25_eq (a0 : Value) (K : Value → Hp → Prop) (h : Hp) : fnVC Try.prog Try.f25 x25 [a0] K h = D25 a0 K h := by kernel_rfl
theorem D25_ok : fnOk Try.prog Try.f25 x25 1 = true := by kernel_rfl
theorem C25 {a0 : Value} {K : Value → Hp → Prop} {h : Hp} (hh : D25 a0 K h) : CallH Try.prog 25 #[a0] K h :=
  callH_of mixed Try.func25 x25 [a0] D25_ok (D25_eq a0 K h ▸ hh)

end Go.Proofs
