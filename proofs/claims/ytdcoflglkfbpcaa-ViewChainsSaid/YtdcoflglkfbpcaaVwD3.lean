/-
  The conditions of some functions, as the printer wrote them out of the dump; the kernel checks that each is the function's own.
-/
import Derived.Test.YtdcoflglkfbpcaaVwD2
import Derived.Test.YtdcoflglkfbpcaaProg
set_option linter.unusedVariables false
set_option linter.unusedSimpArgs false
set_option maxRecDepth 100000
namespace Go.Proofs
open Go.Sl
/- 33: treadmill/treadmillref29.Find; slots: 0 v, 1 addr, 2 v, 3 addr, 5 i -/
def x33 : Ann := (.seq (.reg [] [(0, []), (1, [])]) (.seq (.seq (.reg [] [(0, [])]) (.blk (.loop [5] [6, 7, 8, 9, 10, 13, 14, 15, 16, 17, 18, 19, 20, 21, 4, 11, 12, 5] (.seq (.seq (.reg [] [(0, []), (1, []), (2, []), (3, []), (4, [])]) (.cond .leaf .leaf)) (.seq (.blk (.seq (.reg [] [(0, []), (1, []), (2, []), (3, []), (4, []), (5, []), (6, []), (7, [])]) (.cond (.seq (.reg [] [(0, []), (1, [])]) .leaf) .leaf))) (.reg [] [(0, []), (1, []), (2, [])])))))) (.seq (.reg [] [(0, [])]) .leaf)))
def D33 (a0 a1 : Value) (K : Value → Hp → Prop) (h : Hp) : Prop :=
  vA (some (Obj.cells (Value.cells a0) 26 (0, 0), ptrV)) (fun v2 h1 =>
  ∃ I1 : Nat → List Value → Hp → Prop, (∃ n, I1 n [(Value.int .i64 0)] h1) ∧
  ∀ n1 : Nat, ∀ v5 : Value, ∀ h2 : Hp, I1 n1 [v5] h2 → ∀ g1 : St,
    vP (faV 5 v2) fun v7 =>
    vP (ld1 v7 h2) fun v8 =>
    vP (lenV v8) fun v9 =>
    vP (binV .lss v5 v9) fun v10 =>
    vB v10 (vP (faV 5 v2) fun v13 =>
      vP (ld1 v13 h2) fun v14 =>
      vP (iaS 3 v14 v5) fun v16 =>
      vP (faV 0 v16) fun v17 =>
      vP (ld1 v17 h2) fun v18 =>
      vP (eqV 1 false v18 a1) fun v20 =>
      vB v20 (K v5 h2)
      (vP (binV .add v5 (Value.int .i64 1)) fun v12 =>
      ∃ m1, m1 < n1 ∧ I1 m1 [v12] h2))
    (K (Value.int .i64 (-1)) h2)) h
theorem D33_eq (a0 a1 : Value) (K : Value → Hp → Prop) (h : Hp) : fnVC Try.prog Try.f33 x33 [a0, a1] K h = D33 a0 a1 K h := by kernel_rfl
theorem D33_ok : fnOk Try.prog Try.f33 x33 2 = true := by kernel_rfl
theorem C33 {a0 a1 : Value} {K : Value → Hp → Prop} {h : Hp} (hh : D33 a0 a1 K h) : CallH Try.prog 33 #[a0, a1] K h :=
  callH_of mixed Try.func33 x33 [a0, a1] D33_ok (D33_eq a0 a1 K h ▸ hh)

/- 34: treadmill/treadmillref29.Roots; slots: 0 v, 1 v, 3 l, 4 i, 5 g, 6 i -/
def x34 : Ann := (.seq (.reg [] [(0, []), (1, [])]) (.seq (.reg [] [(0, [])]) (.seq (.seq (.reg [] [(0, [])]) (.blk (.loop [4, 3] [7, 8, 9, 10, 11, 14, 15, 16, 17, 18, 19, 20, 3, 12, 13, 4] (.seq (.seq (.reg [] [(0, []), (1, []), (2, []), (3, []), (4, [])]) (.cond .leaf .leaf)) (.seq (.blk (.reg [] [(0, []), (1, []), (2, []), (3, []), (4, []), (5, []), (6, []), (7, [])])) (.reg [] [(0, []), (1, []), (2, [])])))))) (.seq (.seq (.reg [] [(0, [])]) (.blk (.loop [5, 3] [21, 22, 23, 24, 25, 6, 28, 29, 30, 31, 32, 33, 34, 35, 36, 37, 38, 39, 40, 41, 42, 43, 44, 45, 48, 49, 50, 51, 52, 53, 54, 55, 56, 57, 58, 3, 46, 47, 26, 27, 5] (.seq (.seq (.reg [] [(0, []), (1, []), (2, []), (3, []), (4, [])]) (.cond .leaf .leaf)) (.seq (.blk (.seq (.reg [] [(0, [])]) (.blk (.loop [6, 3] [28, 29, 30, 31, 32, 33, 34, 35, 36, 37, 38, 39, 40, 41, 42, 43, 44, 45, 48, 49, 50, 51, 52, 53, 54, 55, 56, 57, 58, 3, 46, 47, 6] (.seq (.seq (.reg [] [(0, []), (1, []), (2, []), (3, []), (4, []), (5, []), (6, []), (7, []), (8, []), (9, []), (10, []), (11, []), (12, []), (13, []), (14, []), (15, []), (16, []), (17, [])]) (.cond .leaf .leaf)) (.seq (.blk (.reg [] [(0, []), (1, []), (2, []), (3, []), (4, []), (5, []), (6, []), (7, []), (8, []), (9, []), (10, []), (11, [])])) (.reg [] [(0, []), (1, []), (2, [])]))))))) (.reg [] [(0, []), (1, []), (2, [])])))))) (.seq (.reg [] [(0, []), (1, [])]) .leaf)))))
def D34 (a0 : Value) (K : Value → Hp → Prop) (h : Hp) : Prop :=
  vA (some (Obj.cells (Value.cells a0) 26 (0, 0), ptrV)) (fun v1 h1 =>
  ∃ I1 : Nat → List Value → Hp → Prop, (∃ n, I1 n [(Value.int .i64 0), (Value.slice none 0 0)] h1) ∧
  ∀ n1 : Nat, ∀ v4 v3 : Value, ∀ h2 : Hp, I1 n1 [v4, v3] h2 → ∀ g1 : St,
    vP (faV 3 v1) fun v8 =>
    vP (ld1 v8 h2) fun v9 =>
    vP (lenV v9) fun v10 =>
    vP (binV .lss v4 v10) fun v11 =>
    vB v11 (vP (faV 3 v1) fun v15 =>
      vP (ld1 v15 h2) fun v16 =>
      vP (iaS 1 v16 v4) fun v18 =>
      vP (ld1 v18 h2) fun v19 =>
      CallH Try.prog 58 #[v3, v19] (fun v20 h3 =>
      vP (binV .add v4 (Value.int .i64 1)) fun v13 =>
      ∃ m1, m1 < n1 ∧ I1 m1 [v13, v20] h3) h2)
    (∃ I2 : Nat → List Value → Hp → Prop, (∃ n, I2 n [(Value.int .i64 0), v3] h2) ∧
    ∀ n2 : Nat, ∀ v5 v3_1 : Value, ∀ h4 : Hp, I2 n2 [v5, v3_1] h4 → ∀ g2 : St,
      vP (faV 4 v1) fun v22 =>
      vP (ld1 v22 h4) fun v23 =>
      vP (lenV v23) fun v24 =>
      vP (binV .lss v5 v24) fun v25 =>
      vB v25 (∃ I3 : Nat → List Value → Hp → Prop, (∃ n, I3 n [(Value.int .i64 0), v3_1] h4) ∧
        ∀ n3 : Nat, ∀ v6 v3_2 : Value, ∀ h5 : Hp, I3 n3 [v6, v3_2] h5 → ∀ g3 : St,
          vP (faV 4 v1) fun v29 =>
          vP (ld1 v29 h5) fun v30 =>
          vP (iaS 3 v30 v5) fun v32 =>
          vP (faV 2 v32) fun v33 =>
          vP (ld1 v33 h5) fun v34 =>
          vP (lenV v34) fun v35 =>
          vP (binV .lss v6 v35) fun v36 =>
          vP (gdW (gB v36 true) (faV 4 v1)) fun v38 =>
          vP (gdW (gB v36 true) (ld1 v38 h5)) fun v39 =>
          vP (gdW (gB v36 true) (some v5)) fun v40 =>
          vP (gdW (gB v36 true) (iaS 3 v39 v40)) fun v41 =>
          vP (gdW (gB v36 true) (faV 0 v41)) fun v42 =>
          vP (gdW (gB v36 true) (ld1 v42 h5)) fun v43 =>
          vP (gdW (gB v36 true) (eqV 1 true v43 (Value.int .i64 5))) fun v44 =>
          vP (pickV v36 v44 (Value.bool false)) fun v45 =>
          vB v45 (vP (faV 4 v1) fun v49 =>
            vP (ld1 v49 h5) fun v50 =>
            vP (iaS 3 v50 v5) fun v52 =>
            vP (faV 2 v52) fun v53 =>
            vP (ld1 v53 h5) fun v54 =>
            vP (iaS 1 v54 v6) fun v56 =>
            vP (ld1 v56 h5) fun v57 =>
            CallH Try.prog 58 #[v3_2, v57] (fun v58 h6 =>
            vP (binV .add v6 (Value.int .i64 1)) fun v47 =>
            ∃ m3, m3 < n3 ∧ I3 m3 [v47, v58] h6) h5)
          (vP (binV .add v5 (Value.int .i64 1)) fun v27 =>
          ∃ m2, m2 < n2 ∧ I2 m2 [v27, v3_2] h5))
      (K v3_1 h4))) h
theorem D34_eq (a0 : Value) (K : Value → Hp → Prop) (h : Hp) : fnVC Try.prog Try.f34 x34 [a0] K h = D34 a0 K h := by kernel_rfl
theorem D34_ok : fnOk Try.prog Try.f34 x34 1 = true := by kernel_rfl
theorem C34 {a0 : Value} {K : Value → Hp → Prop} {h : Hp} (hh : D34 a0 K h) : CallH Try.prog 34 #[a0] K h :=
  callH_of mixed Try.func34 x34 [a0] D34_ok (D34_eq a0 K h ▸ hh)

/- 58: treadmill/treadmillref29.once; slots: 0 l, 1 x, 2 l, 3 x -/
def x58 : Ann := (.seq (.reg [] [(0, [])]) (.seq (.seq (.reg [] [(0, []), (1, []), (2, []), (3, []), (4, []), (5, []), (6, [])]) (.cond (.seq (.reg [] [(0, []), (1, [])]) .leaf) .leaf)) (.seq (.reg [] [(0, []), (1, []), (2, []), (3, []), (4, [])]) .leaf)))
def D58 (a0 a1 : Value) (K : Value → Hp → Prop) (h : Hp) : Prop :=
  vP (eqV 1 false a1 (Value.int .i64 0)) fun v6 =>
  vP (gdW (gB v6 false) (some a0)) fun v8 =>
  vP (gdW (gB v6 false) (some a1)) fun v9 =>
  vE (gB v6 false) (CallH Try.prog 21 #[v8, v9]) (fun v10 h1 =>
  vP (pickV v6 (Value.bool true) v10) fun v11 =>
  vB v11 (K a0 h1)
  (vA ((bldV #[(Value.int .i64 0)] [(0, 1, a1)]).map fun c => (Obj.cells c 3 (0, 0), fun r => Value.slice (some ⟨r, 0, none⟩) 1 1)) (fun v15 h2 =>
  apW Try.prog #[22, 22] 22 a0 v15 (fun v16 h3 =>
  K v16 h3) h2) h1)) h
theorem D58_eq (a0 a1 : Value) (K : Value → Hp → Prop) (h : Hp) : fnVC Try.prog Try.f58 x58 [a0, a1] K h = D58 a0 a1 K h := by kernel_rfl
theorem D58_ok : fnOk Try.prog Try.f58 x58 2 = true := by kernel_rfl
theorem C58 {a0 a1 : Value} {K : Value → Hp → Prop} {h : Hp} (hh : D58 a0 a1 K h) : CallH Try.prog 58 #[a0, a1] K h :=
  callH_of mixed Try.func58 x58 [a0, a1] D58_ok (D58_eq a0 a1 K h ▸ hh)

/- 59: treadmill/treadmillref29.walk; slots: 0 v, 1 v, 4 at, 5 i, 6 in, 7 l, 8 lost, 9 names, 10 k, 11 i, 12 x, 13 n -/
def x59 : Ann := (.seq (.reg [] [(0, []), (1, []), (2, [])]) (.seq (.reg [] [(0, []), (1, [])]) (.seq (.seq (.reg [] [(0, []), (1, []), (2, []), (3, []), (4, [])]) (.blk (.loop [5] [19, 20, 23, 24, 25, 26, 27, 28, 29, 30, 31, 21, 22, 5] (.seq (.seq (.reg [] [(0, []), (1, [])]) (.cond .leaf .leaf)) (.seq (.blk (.reg [] [(0, []), (1, []), (2, []), (3, []), (4, []), (5, []), (6, []), (7, []), (8, []), (9, [])])) (.reg [] [(0, []), (1, []), (2, [])])))))) (.seq (.reg [] [(0, []), (1, []), (2, []), (3, []), (4, [])]) (.seq (.reg [] [(0, []), (1, [])]) (.seq (.reg [] [(0, []), (1, []), (2, [])]) (.seq (.seq (.reg [] [(0, [])]) (.blk (.loop [7, 8, 9, 10] [11, 40, 41, 42, 43, 46, 47, 48, 49, 12, 50, 51, 52, 13, 53, 54, 55, 56, 57, 58, 59, 60, 61, 8, 62, 63, 64, 65, 66, 67, 68, 69, 70, 71, 72, 73, 74, 75, 76, 77, 78, 79, 80, 81, 82, 83, 84, 7, 44, 45, 85, 86, 87, 88, 89, 90, 91, 92, 93, 94, 95, 96, 97, 9, 38, 39, 10] (.seq (.blk (.seq (.seq (.reg [] [(0, [])]) (.blk (.loop [11, 7, 8] [40, 41, 42, 43, 46, 47, 48, 49, 12, 50, 51, 52, 13, 53, 54, 55, 56, 57, 58, 59, 60, 61, 8, 62, 63, 64, 65, 66, 67, 68, 69, 70, 71, 72, 73, 74, 75, 76, 77, 78, 79, 80, 81, 82, 83, 84, 7, 44, 45, 11] (.seq (.seq (.reg [] [(0, []), (1, []), (2, []), (3, [])]) (.cond .leaf .leaf)) (.join [7, 8] [46, 47, 48, 49, 12, 50, 51, 52, 13, 53, 54, 55, 56, 57, 58, 59, 60, 61, 8, 62, 63, 64, 65, 66, 67, 68, 69, 70, 71, 72, 73, 74, 75, 76, 77, 78, 79, 80, 81, 82, 83, 84, 7] (.blk (.seq (.reg [] [(0, []), (1, []), (2, []), (3, []), (4, [])]) (.seq (.reg [] [(0, []), (1, []), (2, []), (3, [])]) (.join [8] [53, 54, 55, 56, 57, 58, 59, 60, 61, 8] (.seq (.reg [] [(0, []), (1, []), (2, []), (3, []), (4, []), (5, [])]) (.cond (.reg [] [(0, []), (1, []), (2, []), (3, [])]) .leaf)) (.seq (.reg [] [(0, []), (1, []), (2, []), (3, []), (4, []), (5, []), (6, []), (7, []), (8, []), (9, []), (10, []), (11, []), (12, []), (13, [])]) (.cond (.seq (.reg [] [(0, []), (1, []), (2, []), (3, []), (4, [])]) (.reg [] [(0, []), (1, []), (2, []), (3, []), (4, []), (5, [])])) .leaf)))))) (.reg [] [(0, []), (1, []), (2, [])])))))) (.seq (.seq (.reg [] [(0, []), (1, []), (2, []), (3, [])]) (.cond .leaf .leaf)) (.reg [0, 1, 0, 0, 12, 28, 63, 127, 255, 511] [(0, []), (2, []), (3, []), (4, []), (1, []), (5, []), (6, []), (7, []), (8, []), (9, [])])))) (.reg [] [(0, []), (1, []), (2, [])]))))) (.seq (.reg [] [(0, []), (1, []), (2, []), (3, [])]) .leaf))))))))
def D59 (a0 : Value) (K : Value → Hp → Prop) (h : Hp) : Prop :=
  vA (some (Obj.cells (Value.cells a0) 26 (0, 0), ptrV)) (fun v1 h1 =>
  vA (some (Obj.map #[] 0, fun r => Value.map (some r))) (fun v14 h2 =>
  vP (faV 5 v1) fun v15 =>
  vP (ld1 v15 h2) fun v16 =>
  vP (lenV v16) fun v17 =>
  vP (binV .sub v17 (Value.int .i64 1)) fun v18 =>
  ∃ I1 : Nat → List Value → Hp → Prop, (∃ n, I1 n [v18] h2) ∧
  ∀ n1 : Nat, ∀ v5 : Value, ∀ h3 : Hp, I1 n1 [v5] h3 → ∀ g1 : St,
    vP (binV .geq v5 (Value.int .i64 0)) fun v20 =>
    vB v20 (vP (faV 5 v1) fun v24 =>
      vP (ld1 v24 h3) fun v25 =>
      vP (iaS 3 v25 v5) fun v27 =>
      vP (faV 0 v27) fun v28 =>
      vP (ld1 v28 h3) fun v29 =>
      vP (binV .add v5 (Value.int .i64 1)) fun v31 =>
      muW Try.prog 51 v14 v29 v31 (fun _ h4 =>
      vP (binV .sub v5 (Value.int .i64 1)) fun v22 =>
      ∃ m1, m1 < n1 ∧ I1 m1 [v22] h4) h3)
    (vP (faV 5 v1) fun v32 =>
    vP (ld1 v32 h3) fun v33 =>
    vP (lenV v33) fun v34 =>
    vA (msV 1 1 4 #[(Value.bool false)] v34 v34) (fun v35 h5 =>
    vP (ldN 9 v1 h5) fun v36 =>
    CallH Try.prog 34 #[v36] (fun v37 h6 =>
    ∃ I2 : Nat → List Value → Hp → Prop, (∃ n, I2 n [(Value.slice none 0 0), (Value.slice none 0 0), v37, (Value.int .i64 0)] h6) ∧
    ∀ n2 : Nat, ∀ v7 v8 v9 v10 : Value, ∀ h7 : Hp, I2 n2 [v7, v8, v9, v10] h7 → ∀ g2 : St,
      ∃ I3 : Nat → List Value → Hp → Prop, (∃ n, I3 n [(Value.int .i64 0), v7, v8] h7) ∧
      ∀ n3 : Nat, ∀ v11 v7_1 v8_1 : Value, ∀ h8 : Hp, I3 n3 [v11, v7_1, v8_1] h8 → ∀ g3 : St,
        vP (lenV v9) fun v42 =>
        vP (binV .lss v11 v42) fun v43 =>
        vB v43 (∀ J4 : List Value → Hp → Prop, (∀ v7_2 v8_2 : Value, ∀ h9 : Hp, (∀ g4 : St,
            vP (binV .add v11 (Value.int .i64 1)) fun v45 =>
            ∃ m3, m3 < n3 ∧ I3 m3 [v45, v7_2, v8_2] h9) → J4 [v7_2, v8_2] h9) →
          vP (iaS 1 v9 v11) fun v48 =>
          vP (ld1 v48 h8) fun v49 =>
          vP (lkV Try.prog 51 v14 v49 false h8) fun v52 =>
          ∀ J5 : List Value → Hp → Prop, (∀ v8_3 : Value, ∀ h10 : Hp, (∀ g5 : St,
            vP (eqV 1 true v49 (Value.int .i64 0)) fun v63 =>
            vP (gdW (gB v63 true) (some v52)) fun v65 =>
            vP (gdW (gB v63 true) (binV .gtr v65 (Value.int .i64 0))) fun v66 =>
            vP (pickV v63 v66 (Value.bool false)) fun v67 =>
            vP (gdW (gB v67 true) (some v35)) fun v69 =>
            vP (gdW (gB v67 true) (some v52)) fun v70 =>
            vP (gdW (gB v67 true) (binV .sub v70 (Value.int .i64 1))) fun v71 =>
            vP (gdW (gB v67 true) (iaS 1 v69 v71)) fun v72 =>
            vP (gdW (gB v67 true) (ld1 v72 h10)) fun v73 =>
            vP (gdW (gB v67 true) (unV .not v73)) fun v74 =>
            vP (pickV v67 v74 (Value.bool false)) fun v75 =>
            vB v75 (vP (binV .sub v52 (Value.int .i64 1)) fun v78 =>
              vP (iaS 1 v35 v78) fun v79 =>
              st1 v79 (Value.bool true) (fun _ h11 =>
              vP (binV .sub v52 (Value.int .i64 1)) fun v82 =>
              vA ((bldV #[(Value.int .i64 0)] [(0, 1, v82)]).map fun c => (Obj.cells c 3 (0, 0), fun r => Value.slice (some ⟨r, 0, none⟩) 1 1)) (fun v83 h12 =>
              apW Try.prog #[22, 22] 22 v7_1 v83 (fun v84 h13 =>
              J4 [v84, v8_3] h13) h12) h11) h10)
            (J4 [v7_1, v8_3] h10)) → J5 [v8_3] h10) →
          vP (eqV 1 true v49 (Value.int .i64 0)) fun v54 =>
          vP (gdW (gB v54 true) (some v52)) fun v56 =>
          vP (gdW (gB v54 true) (eqV 1 false v56 (Value.int .i64 0))) fun v57 =>
          vP (pickV v54 v57 (Value.bool false)) fun v58 =>
          vB v58 (CallH Try.prog 60 #[v8_1, v49] (fun v61 h14 =>
            J5 [v61] h14) h8)
          (J5 [v8_1] h8))
        (vP (lenV v7_1) fun v87 =>
        vP (binV .geq v10 v87) fun v88 =>
        vB v88 (K (Value.tuple #[v7_1, v8_1]) h8)
        (vP (faV 5 v1) fun v89 =>
        vP (iaS 1 v7_1 v10) fun v93 =>
        vP (ld1 v89 h8) fun v90 =>
        vP (ld1 v93 h8) fun v94 =>
        vP (iaS 3 v90 v94) fun v95 =>
        vP (faV 1 v95) fun v96 =>
        vP (ld1 v96 h8) fun v97 =>
        vP (binV .add v10 (Value.int .i64 1)) fun v39 =>
        ∃ m2, m2 < n2 ∧ I2 m2 [v7_1, v8_1, v97, v39] h8))) h5) h3)) h1) h
theorem D59_eq (a0 : Value) (K : Value → Hp → Prop) (h : Hp) : fnVC Try.prog Try.f59 x59 [a0] K h = D59 a0 K h := by kernel_rfl
theorem D59_ok : fnOk Try.prog Try.f59 x59 1 = true := by kernel_rfl
theorem C59 {a0 : Value} {K : Value → Hp → Prop} {h : Hp} (hh : D59 a0 K h) : CallH Try.prog 59 #[a0] K h :=
  callH_of mixed Try.func59 x59 [a0] D59_ok (D59_eq a0 K h ▸ hh)

/- 35: treadmill/treadmillref29.Reach; slots: 0 v, 1 v, 3 l, 4 _, 5 in, 6 i, 7 out, 8 i -/
def x35 : Ann := (.seq (.reg [] [(0, []), (1, [])]) (.seq (.reg [] [(0, []), (1, []), (2, []), (3, []), (4, []), (5, []), (6, [])]) (.seq (.reg [] [(0, []), (1, []), (2, []), (3, []), (4, [])]) (.seq (.seq (.reg [] [(0, [])]) (.blk (.loop [6] [18, 19, 20, 21, 24, 25, 26, 27, 28, 29, 22, 23, 6] (.seq (.seq (.reg [] [(0, []), (1, []), (2, []), (3, [])]) (.cond .leaf .leaf)) (.seq (.blk (.reg [] [(0, []), (1, []), (2, []), (3, []), (4, []), (5, []), (6, [])])) (.reg [] [(0, []), (1, []), (2, [])])))))) (.seq (.reg [] [(0, [])]) (.seq (.seq (.reg [] [(0, [])]) (.blk (.loop [8, 7] [30, 31, 32, 33, 36, 37, 38, 39, 40, 41, 42, 43, 44, 45, 46, 47, 7, 34, 35, 8] (.seq (.seq (.reg [] [(0, []), (1, []), (2, []), (3, [])]) (.cond .leaf .leaf)) (.join [7] [36, 37, 38, 39, 40, 41, 42, 43, 44, 45, 46, 47, 7] (.blk (.seq (.reg [] [(0, []), (1, []), (2, []), (3, [])]) (.cond (.reg [] [(0, []), (1, []), (2, []), (3, []), (4, []), (5, []), (6, []), (7, []), (8, [])]) .leaf))) (.reg [] [(0, []), (1, []), (2, [])])))))) (.seq (.reg [] [(0, []), (1, [])]) .leaf)))))))
def D35 (a0 : Value) (K : Value → Hp → Prop) (h : Hp) : Prop :=
  vA (some (Obj.cells (Value.cells a0) 26 (0, 0), ptrV)) (fun v1 h1 =>
  vP (ldN 9 v1 h1) fun v10 =>
  CallH Try.prog 59 #[v10] (fun v11 h2 =>
  vP (exV v11 0) fun v12 =>
  vP (exV v11 1) fun v13 =>
  vP (faV 5 v1) fun v14 =>
  vP (ld1 v14 h2) fun v15 =>
  vP (lenV v15) fun v16 =>
  vA (msV 1 1 4 #[(Value.bool false)] v16 v16) (fun v17 h3 =>
  ∃ I1 : Nat → List Value → Hp → Prop, (∃ n, I1 n [(Value.int .i64 0)] h3) ∧
  ∀ n1 : Nat, ∀ v6 : Value, ∀ h4 : Hp, I1 n1 [v6] h4 → ∀ g1 : St,
    vP (lenV v12) fun v20 =>
    vP (binV .lss v6 v20) fun v21 =>
    vB v21 (vP (iaS 1 v12 v6) fun v27 =>
      vP (ld1 v27 h4) fun v28 =>
      vP (iaS 1 v17 v28) fun v29 =>
      st1 v29 (Value.bool true) (fun _ h5 =>
      vP (binV .add v6 (Value.int .i64 1)) fun v23 =>
      ∃ m1, m1 < n1 ∧ I1 m1 [v23] h5) h4)
    (∃ I2 : Nat → List Value → Hp → Prop, (∃ n, I2 n [(Value.int .i64 0), (Value.slice none 0 0)] h4) ∧
    ∀ n2 : Nat, ∀ v8 v7 : Value, ∀ h6 : Hp, I2 n2 [v8, v7] h6 → ∀ g2 : St,
      vP (lenV v17) fun v32 =>
      vP (binV .lss v8 v32) fun v33 =>
      vB v33 (∀ J3 : List Value → Hp → Prop, (∀ v7_1 : Value, ∀ h7 : Hp, (∀ g3 : St,
          vP (binV .add v8 (Value.int .i64 1)) fun v35 =>
          ∃ m2, m2 < n2 ∧ I2 m2 [v35, v7_1] h7) → J3 [v7_1] h7) →
        vP (iaS 1 v17 v8) fun v38 =>
        vP (ld1 v38 h6) fun v39 =>
        vB v39 (vP (faV 5 v1) fun v41 =>
          vP (ld1 v41 h6) fun v42 =>
          vP (iaS 3 v42 v8) fun v44 =>
          vP (faV 0 v44) fun v45 =>
          vP (ld1 v45 h6) fun v46 =>
          CallH Try.prog 60 #[v7, v46] (fun v47 h8 =>
          J3 [v47] h8) h6)
        (J3 [v7] h6))
      (K v7 h6))) h2) h1) h
theorem D35_eq (a0 : Value) (K : Value → Hp → Prop) (h : Hp) : fnVC Try.prog Try.f35 x35 [a0] K h = D35 a0 K h := by kernel_rfl
theorem D35_ok : fnOk Try.prog Try.f35 x35 1 = true := by kernel_rfl
theorem C35 {a0 : Value} {K : Value → Hp → Prop} {h : Hp} (hh : D35 a0 K h) : CallH Try.prog 35 #[a0] K h :=
  callH_of mixed Try.func35 x35 [a0] D35_ok (D35_eq a0 K h ▸ hh)

/- 36: treadmill/treadmillref29.White; slots: 0 v, 1 v, 3 l, 4 _, 5 out, 6 i -/
def x36 : Ann := (.seq (.reg [] [(0, []), (1, [])]) (.seq (.reg [] [(0, []), (1, []), (2, []), (3, []), (4, []), (5, []), (6, [])]) (.seq (.reg [] [(0, [])]) (.seq (.seq (.reg [] [(0, [])]) (.blk (.loop [6, 5] [12, 13, 14, 15, 18, 19, 20, 21, 22, 23, 24, 25, 26, 27, 28, 29, 30, 31, 32, 33, 34, 35, 36, 37, 38, 5, 16, 17, 6] (.seq (.seq (.reg [] [(0, []), (1, []), (2, []), (3, [])]) (.cond .leaf .leaf)) (.join [5] [18, 19, 20, 21, 22, 23, 24, 25, 26, 27, 28, 29, 30, 31, 32, 33, 34, 35, 36, 37, 38, 5] (.blk (.seq (.reg [0, 1, 0, 0, 12, 28, 63, 127, 255, 511] [(0, []), (2, []), (3, []), (4, []), (1, []), (5, []), (6, []), (7, []), (8, []), (9, [])]) (.cond (.reg [0, 0, 2, 0, 0, 24, 56, 126, 254, 510, 1023, 2047] [(0, []), (1, []), (3, []), (4, []), (5, []), (2, []), (6, []), (7, []), (8, []), (9, []), (10, []), (11, [])]) .leaf))) (.reg [] [(0, []), (1, []), (2, [])])))))) (.seq (.reg [] [(0, []), (1, [])]) .leaf)))))
def D36 (a0 : Value) (K : Value → Hp → Prop) (h : Hp) : Prop :=
  vA (some (Obj.cells (Value.cells a0) 26 (0, 0), ptrV)) (fun v1 h1 =>
  vP (ldN 9 v1 h1) fun v8 =>
  CallH Try.prog 59 #[v8] (fun v9 h2 =>
  vP (exV v9 0) fun v10 =>
  vP (exV v9 1) fun v11 =>
  ∃ I1 : Nat → List Value → Hp → Prop, (∃ n, I1 n [(Value.int .i64 0), (Value.slice none 0 0)] h2) ∧
  ∀ n1 : Nat, ∀ v6 v5 : Value, ∀ h3 : Hp, I1 n1 [v6, v5] h3 → ∀ g1 : St,
    vP (lenV v10) fun v14 =>
    vP (binV .lss v6 v14) fun v15 =>
    vB v15 (∀ J2 : List Value → Hp → Prop, (∀ v5_1 : Value, ∀ h4 : Hp, (∀ g2 : St,
        vP (binV .add v6 (Value.int .i64 1)) fun v17 =>
        ∃ m1, m1 < n1 ∧ I1 m1 [v17, v5_1] h4) → J2 [v5_1] h4) →
      vP (faV 5 v1) fun v18 =>
      vP (iaS 1 v10 v6) fun v22 =>
      vP (ld1 v18 h3) fun v19 =>
      vP (ld1 v22 h3) fun v23 =>
      vP (iaS 3 v19 v23) fun v24 =>
      vP (faV 2 v24) fun v25 =>
      vP (ld1 v25 h3) fun v26 =>
      vP (unV .not v26) fun v27 =>
      vB v27 (vP (faV 5 v1) fun v29 =>
        vP (iaS 1 v10 v6) fun v33 =>
        vP (ld1 v29 h3) fun v30 =>
        vP (ld1 v33 h3) fun v34 =>
        vP (iaS 3 v30 v34) fun v35 =>
        vP (faV 0 v35) fun v36 =>
        vP (ld1 v36 h3) fun v37 =>
        CallH Try.prog 60 #[v5, v37] (fun v38 h5 =>
        J2 [v38] h5) h3)
      (J2 [v5] h3))
    (K v5 h3)) h1) h
theorem D36_eq (a0 : Value) (K : Value → Hp → Prop) (h : Hp) : fnVC Try.prog Try.f36 x36 [a0] K h = D36 a0 K h := by kernel_rfl
theorem D36_ok : fnOk Try.prog Try.f36 x36 1 = true := by kernel_rfl
theorem C36 {a0 : Value} {K : Value → Hp → Prop} {h : Hp} (hh : D36 a0 K h) : CallH Try.prog 36 #[a0] K h :=
  callH_of mixed Try.func36 x36 [a0] D36_ok (D36_eq a0 K h ▸ hh)

/- 37: treadmill/treadmillref29.Lost; slots: 0 v, 1 v, 3 _, 4 l -/
def x37 : Ann := (.seq (.reg [] [(0, []), (1, [])]) (.seq (.reg [] [(0, []), (1, []), (2, []), (3, []), (4, []), (5, []), (6, [])]) (.seq (.reg [] [(0, []), (1, [])]) .leaf)))
def D37 (a0 : Value) (K : Value → Hp → Prop) (h : Hp) : Prop :=
  vA (some (Obj.cells (Value.cells a0) 26 (0, 0), ptrV)) (fun v1 h1 =>
  vP (ldN 9 v1 h1) fun v6 =>
  CallH Try.prog 59 #[v6] (fun v7 h2 =>
  vP (exV v7 0) fun v8 =>
  vP (exV v7 1) fun v9 =>
  K v9 h2) h1) h
theorem D37_eq (a0 : Value) (K : Value → Hp → Prop) (h : Hp) : fnVC Try.prog Try.f37 x37 [a0] K h = D37 a0 K h := by kernel_rfl
theorem D37_ok : fnOk Try.prog Try.f37 x37 1 = true := by kernel_rfl
theorem C37 {a0 : Value} {K : Value → Hp → Prop} {h : Hp} (hh : D37 a0 K h) : CallH Try.prog 37 #[a0] K h :=
  callH_of mixed Try.func37 x37 [a0] D37_ok (D37_eq a0 K h ▸ hh)

/- 38: treadmill/treadmillref29.Words; slots: 0 v, 1 v, 3 n, 4 i -/
def x38 : Ann := (.seq (.reg [] [(0, []), (1, [])]) (.seq (.reg [] [(0, [])]) (.seq (.seq (.reg [] [(0, [])]) (.blk (.loop [4, 3] [5, 6, 7, 8, 9, 12, 13, 14, 15, 16, 17, 18, 19, 3, 10, 11, 4] (.seq (.seq (.reg [] [(0, []), (1, []), (2, []), (3, []), (4, [])]) (.cond .leaf .leaf)) (.seq (.blk (.reg [] [(0, []), (1, []), (2, []), (3, []), (4, []), (5, []), (6, []), (7, []), (8, [])])) (.reg [] [(0, []), (1, []), (2, [])])))))) (.seq (.reg [] [(0, []), (1, [])]) .leaf))))
def D38 (a0 : Value) (K : Value → Hp → Prop) (h : Hp) : Prop :=
  vA (some (Obj.cells (Value.cells a0) 26 (0, 0), ptrV)) (fun v1 h1 =>
  ∃ I1 : Nat → List Value → Hp → Prop, (∃ n, I1 n [(Value.int .i64 0), (Value.int .i64 0)] h1) ∧
  ∀ n1 : Nat, ∀ v4 v3 : Value, ∀ h2 : Hp, I1 n1 [v4, v3] h2 → ∀ g1 : St,
    vP (faV 5 v1) fun v6 =>
    vP (ld1 v6 h2) fun v7 =>
    vP (lenV v7) fun v8 =>
    vP (binV .lss v4 v8) fun v9 =>
    vB v9 (vP (faV 5 v1) fun v13 =>
      vP (ld1 v13 h2) fun v14 =>
      vP (iaS 3 v14 v4) fun v16 =>
      vP (ldN 3 v16 h2) fun v17 =>
      CallH Try.prog 61 #[v17] (fun v18 h3 =>
      vP (binV .add v3 v18) fun v19 =>
      vP (binV .add v4 (Value.int .i64 1)) fun v11 =>
      ∃ m1, m1 < n1 ∧ I1 m1 [v11, v19] h3) h2)
    (K v3 h2)) h
theorem D38_eq (a0 : Value) (K : Value → Hp → Prop) (h : Hp) : fnVC Try.prog Try.f38 x38 [a0] K h = D38 a0 K h := by kernel_rfl
theorem D38_ok : fnOk Try.prog Try.f38 x38 1 = true := by kernel_rfl
theorem C38 {a0 : Value} {K : Value → Hp → Prop} {h : Hp} (hh : D38 a0 K h) : CallH Try.prog 38 #[a0] K h :=
  callH_of mixed Try.func38 x38 [a0] D38_ok (D38_eq a0 K h ▸ hh)

/- 52: treadmill/treadmillref29.apart; slots: 0 v, 1 v, 3 i, 4 o, 5 last -/
def x52 : Ann := (.seq (.reg [] [(0, []), (1, [])]) (.seq (.seq (.reg [] [(0, [])]) (.blk (.loop [3] [6, 7, 8, 9, 10, 13, 14, 15, 16, 17, 4, 18, 19, 20, 21, 22, 23, 24, 25, 2, 26, 27, 28, 29, 30, 31, 32, 33, 5, 34, 35, 36, 37, 38, 39, 40, 41, 42, 43, 44, 45, 46, 47, 48, 11, 12, 3] (.seq (.seq (.reg [] [(0, []), (1, []), (2, []), (3, []), (4, [])]) (.cond .leaf .leaf)) (.join [] [13, 14, 15, 16, 17, 4, 18, 19, 20, 21, 22, 23, 24, 25, 2, 26, 27, 28, 29, 30, 31, 32, 33, 5, 34, 35, 36, 37, 38, 39, 40, 41, 42, 43, 44, 45, 46, 47, 48] (.blk (.seq (.reg [] [(0, []), (1, []), (2, []), (3, []), (4, []), (5, []), (6, [])]) (.seq (.seq (.reg [] [(0, []), (1, []), (2, []), (3, []), (4, []), (5, []), (6, []), (7, [])]) (.cond (.seq (.reg [] [(0, [])]) .leaf) .leaf)) (.seq (.seq (.reg [] [(0, []), (1, [])]) (.cond .leaf .leaf)) (.seq (.reg [] [(0, []), (1, []), (2, []), (3, []), (4, []), (5, []), (6, []), (7, [])]) (.seq (.reg [0, 1, 0, 4, 15, 31, 63, 127, 63, 319, 1023, 63, 2111, 8191, 16383] [(0, []), (2, []), (1, []), (3, []), (4, []), (5, []), (6, []), (8, []), (7, []), (9, []), (10, []), (11, []), (12, [9, 7]), (13, []), (14, [])]) (.cond (.seq (.reg [] [(0, [])]) .leaf) .leaf))))))) (.reg [] [(0, []), (1, []), (2, [])])))))) (.seq (.reg [] [(0, [])]) .leaf)))
def D52 (a0 : Value) (K : Value → Hp → Prop) (h : Hp) : Prop :=
  vA (some (Obj.cells (Value.cells a0) 26 (0, 0), ptrV)) (fun v1 h1 =>
  ∃ I1 : Nat → List Value → Hp → Prop, (∃ n, I1 n [(Value.int .i64 0)] h1) ∧
  ∀ n1 : Nat, ∀ v3 : Value, ∀ h2 : Hp, I1 n1 [v3] h2 → ∀ g1 : St,
    vP (faV 5 v1) fun v7 =>
    vP (ld1 v7 h2) fun v8 =>
    vP (lenV v8) fun v9 =>
    vP (binV .lss v3 v9) fun v10 =>
    vB v10 (∀ J2 : List Value → Hp → Prop, (∀ h3 : Hp, (∀ g2 : St,
        vP (binV .add v3 (Value.int .i64 1)) fun v12 =>
        ∃ m1, m1 < n1 ∧ I1 m1 [v12] h3) → J2 [] h3) →
      vP (faV 5 v1) fun v13 =>
      vP (ld1 v13 h2) fun v14 =>
      vP (iaS 3 v14 v3) fun v16 =>
      vP (ldN 3 v16 h2) fun v17 =>
      vA (some (Obj.cells #[(Value.int .i64 0), (Value.slice none 0 0), (Value.bool false)] 30 (0, 0), ptrV)) (fun v4 h4 =>
      stN 3 v4 v17 (fun _ h5 =>
      vP (ldN 3 v4 h5) fun v18 =>
      CallH Try.prog 61 #[v18] (fun v19 h6 =>
      vP (eqV 1 false v19 (Value.int .i64 0)) fun v20 =>
      vP (gdW (gB v20 false) (faV 0 v4)) fun v22 =>
      vP (gdW (gB v20 false) (ld1 v22 h6)) fun v23 =>
      vP (gdW (gB v20 false) (binV .lss v23 (Value.int .i64 64))) fun v24 =>
      vP (pickV v20 (Value.bool true) v24) fun v25 =>
      vB v25 (K (Value.bool false) h6)
      (vP (eqV 1 false v3 (Value.int .i64 0)) fun v27 =>
      vB v27 (J2 [] h6)
      (vP (faV 5 v1) fun v28 =>
      vP (ld1 v28 h6) fun v29 =>
      vP (binV .sub v3 (Value.int .i64 1)) fun v31 =>
      vP (iaS 3 v29 v31) fun v32 =>
      vP (ldN 3 v32 h6) fun v33 =>
      vA (some (Obj.cells #[(Value.int .i64 0), (Value.slice none 0 0), (Value.bool false)] 30 (0, 0), ptrV)) (fun v5 h7 =>
      stN 3 v5 v33 (fun _ h8 =>
      vP (faV 0 v4) fun v34 =>
      vP (faV 0 v5) fun v36 =>
      vP (ld1 v34 h8) fun v35 =>
      vP (ld1 v36 h8) fun v37 =>
      vP (binV .leq v35 v37) fun v38 =>
      vP (gdW (gB v38 false) (faV 0 v4)) fun v40 =>
      vP (gdW (gB v38 false) (faV 0 v5)) fun v42 =>
      vP (gdW (gB v38 false) (ld1 v40 h8)) fun v41 =>
      vP (gdW (gB v38 false) (ld1 v42 h8)) fun v43 =>
      vP (gdW (gB v38 false) (binV .sub v41 v43)) fun v44 =>
      vP (gdW (gB v38 false) (ldN 3 v5 h8)) fun v45 =>
      vE (gB v38 false) (CallH Try.prog 61 #[v45]) (fun v46 h9 =>
      gdW (gB v38 false) (ld1 v42 h9) = some v43 ∧ (gdW (gB v38 false) (ld1 v40 h9) = some v41 ∧ (vP (gdW (gB v38 false) (binV .lss v44 v46)) fun v47 =>
      vP (pickV v38 (Value.bool true) v47) fun v48 =>
      vB v48 (K (Value.bool false) h9)
      (J2 [] h9)))) h8) h7) h6))) h5) h4) h2)
    (K (Value.bool true) h2)) h
theorem D52_eq (a0 : Value) (K : Value → Hp → Prop) (h : Hp) : fnVC Try.prog Try.f52 x52 [a0] K h = D52 a0 K h := by kernel_rfl
theorem D52_ok : fnOk Try.prog Try.f52 x52 1 = true := by kernel_rfl
theorem C52 {a0 : Value} {K : Value → Hp → Prop} {h : Hp} (hh : D52 a0 K h) : CallH Try.prog 52 #[a0] K h :=
  callH_of mixed Try.func52 x52 [a0] D52_ok (D52_eq a0 K h ▸ hh)

/- 53: treadmill/treadmillref29.twice; slots: 0 v, 1 v, 3 i, 4 k -/
def x53 : Ann := (.seq (.reg [] [(0, []), (1, [])]) (.seq (.seq (.reg [] [(0, [])]) (.blk (.loop [3] [5, 6, 7, 8, 9, 4, 12, 13, 14, 17, 18, 19, 20, 21, 22, 23, 24, 25, 26, 27, 28, 29, 30, 31, 32, 33, 34, 35, 36, 37, 38, 39, 40, 41, 42, 43, 44, 45, 46, 47, 2, 15, 16, 10, 11, 3] (.seq (.seq (.reg [] [(0, []), (1, []), (2, []), (3, []), (4, [])]) (.cond .leaf .leaf)) (.seq (.blk (.seq (.reg [] [(0, [])]) (.blk (.loop [4] [12, 13, 14, 17, 18, 19, 20, 21, 22, 23, 24, 25, 26, 27, 28, 29, 30, 31, 32, 33, 34, 35, 36, 37, 38, 39, 40, 41, 42, 43, 44, 45, 46, 47, 2, 15, 16, 4] (.seq (.seq (.reg [] [(0, []), (1, []), (2, [])]) (.cond .leaf .leaf)) (.seq (.blk (.seq (.reg [0, 1, 0, 7, 15, 31, 63, 127, 255, 511, 255, 2047, 4095, 8191, 16383, 32767, 65535, 131071, 262143, 131071, 1048575, 2097151, 4194303, 131071, 8519679, 131071, 58851327, 125960191, 260177919, 536870911, 1073741823] [(0, []), (2, []), (1, []), (3, []), (4, []), (5, []), (6, []), (7, []), (8, []), (10, []), (9, []), (11, []), (12, []), (13, []), (14, []), (15, []), (16, []), (17, []), (19, []), (23, []), (25, []), (18, []), (20, []), (21, []), (22, []), (24, []), (26, []), (27, []), (28, []), (29, []), (30, [])]) (.cond (.seq (.reg [] [(0, [])]) .leaf) .leaf))) (.reg [] [(0, []), (1, []), (2, [])]))))))) (.reg [] [(0, []), (1, []), (2, [])])))))) (.seq (.reg [] [(0, [])]) .leaf)))
def D53 (a0 : Value) (K : Value → Hp → Prop) (h : Hp) : Prop :=
  vA (some (Obj.cells (Value.cells a0) 26 (0, 0), ptrV)) (fun v1 h1 =>
  ∃ I1 : Nat → List Value → Hp → Prop, (∃ n, I1 n [(Value.int .i64 0)] h1) ∧
  ∀ n1 : Nat, ∀ v3 : Value, ∀ h2 : Hp, I1 n1 [v3] h2 → ∀ g1 : St,
    vP (faV 4 v1) fun v6 =>
    vP (ld1 v6 h2) fun v7 =>
    vP (lenV v7) fun v8 =>
    vP (binV .lss v3 v8) fun v9 =>
    vB v9 (∃ I2 : Nat → List Value → Hp → Prop, (∃ n, I2 n [(Value.int .i64 0)] h2) ∧
      ∀ n2 : Nat, ∀ v4 : Value, ∀ h3 : Hp, I2 n2 [v4] h3 → ∀ g2 : St,
        vP (binV .lss v4 v3) fun v14 =>
        vB v14 (vP (faV 4 v1) fun v17 =>
          vP (ld1 v17 h3) fun v18 =>
          vP (iaS 3 v18 v3) fun v20 =>
          vP (faV 0 v20) fun v21 =>
          vP (ld1 v21 h3) fun v22 =>
          vP (eqV 1 false v22 (Value.int .i64 2)) fun v23 =>
          vP (gdW (gB v23 true) (faV 4 v1)) fun v25 =>
          vP (gdW (gB v23 true) (some v4)) fun v27 =>
          vP (gdW (gB v23 true) (ld1 v25 h3)) fun v26 =>
          vP (gdW (gB v23 true) (iaS 3 v26 v27)) fun v28 =>
          vP (gdW (gB v23 true) (faV 0 v28)) fun v29 =>
          vP (gdW (gB v23 true) (ld1 v29 h3)) fun v30 =>
          vP (gdW (gB v23 true) (eqV 1 false v30 (Value.int .i64 2))) fun v31 =>
          vP (pickV v23 v31 (Value.bool false)) fun v32 =>
          vP (gdW (gB v32 true) (faV 4 v1)) fun v34 =>
          vP (gdW (gB v32 true) (some v3)) fun v36 =>
          vP (gdW (gB v32 true) (faV 4 v1)) fun v40 =>
          vP (gdW (gB v32 true) (some v4)) fun v42 =>
          vP (gdW (gB v32 true) (ld1 v34 h3)) fun v35 =>
          vP (gdW (gB v32 true) (iaS 3 v35 v36)) fun v37 =>
          vP (gdW (gB v32 true) (faV 1 v37)) fun v38 =>
          vP (gdW (gB v32 true) (ld1 v38 h3)) fun v39 =>
          vP (gdW (gB v32 true) (ld1 v40 h3)) fun v41 =>
          vP (gdW (gB v32 true) (iaS 3 v41 v42)) fun v43 =>
          vP (gdW (gB v32 true) (faV 1 v43)) fun v44 =>
          vP (gdW (gB v32 true) (ld1 v44 h3)) fun v45 =>
          vP (gdW (gB v32 true) (eqV 1 false v39 v45)) fun v46 =>
          vP (pickV v32 v46 (Value.bool false)) fun v47 =>
          vB v47 (K (Value.bool true) h3)
          (vP (binV .add v4 (Value.int .i64 1)) fun v16 =>
          ∃ m2, m2 < n2 ∧ I2 m2 [v16] h3))
        (vP (binV .add v3 (Value.int .i64 1)) fun v11 =>
        ∃ m1, m1 < n1 ∧ I1 m1 [v11] h3))
    (K (Value.bool false) h2)) h
theorem D53_eq (a0 : Value) (K : Value → Hp → Prop) (h : Hp) : fnVC Try.prog Try.f53 x53 [a0] K h = D53 a0 K h := by kernel_rfl
theorem D53_ok : fnOk Try.prog Try.f53 x53 1 = true := by kernel_rfl
theorem C53 {a0 : Value} {K : Value → Hp → Prop} {h : Hp} (hh : D53 a0 K h) : CallH Try.prog 53 #[a0] K h :=
  callH_of mixed Try.func53 x53 [a0] D53_ok (D53_eq a0 K h ▸ hh)

/- 54: treadmill/treadmillref29.placed; slots: 0 v, 1 ps, 2 v, 3 ps, 5 i, 6 p -/
def x54 : Ann := (.seq (.reg [] [(0, []), (1, [])]) (.seq (.seq (.reg [] [(0, [])]) (.blk (.loop [5] [7, 8, 9, 10, 11, 14, 15, 16, 17, 18, 19, 6, 20, 21, 22, 23, 24, 25, 29, 28, 30, 31, 32, 33, 34, 35, 36, 4, 38, 37, 39, 40, 41, 42, 43, 44, 45, 26, 27, 12, 13, 5] (.seq (.seq (.reg [] [(0, []), (1, []), (2, []), (3, []), (4, [])]) (.cond .leaf .leaf)) (.join [] [14, 15, 16, 17, 18, 19, 6, 20, 21, 22, 23, 24, 25, 29, 28, 30, 31, 32, 33, 34, 35, 36, 4, 38, 37, 39, 40, 41, 42, 43, 44, 45, 26, 27] (.blk (.seq (.reg [] [(0, []), (1, []), (2, []), (3, []), (4, []), (5, []), (6, [])]) (.seq (.reg [] [(0, []), (1, []), (2, []), (3, []), (4, []), (5, [])]) (.blk (.seq (.reg [] [(0, []), (1, [])]) (.cond (.seq (.reg [] [(0, []), (1, []), (2, []), (3, []), (4, []), (5, []), (6, [])]) (.cond (.seq (.reg [] [(0, [])]) .leaf) .leaf)) (.seq (.reg [] [(0, []), (1, [])]) (.cond (.seq (.reg [] [(0, []), (1, []), (2, []), (3, []), (4, []), (5, []), (6, [])]) (.cond (.seq (.reg [] [(0, [])]) .leaf) .leaf)) (.seq (.reg [] [(0, []), (1, [])]) (.cond (.seq (.reg [] [(0, [])]) .leaf) .leaf)))))))))) (.reg [] [(0, []), (1, []), (2, [])])))))) (.seq (.reg [] [(0, [])]) .leaf)))
def D54 (a0 a1 : Value) (K : Value → Hp → Prop) (h : Hp) : Prop :=
  vA (some (Obj.cells (Value.cells a0) 26 (0, 0), ptrV)) (fun v2 h1 =>
  ∃ I1 : Nat → List Value → Hp → Prop, (∃ n, I1 n [(Value.int .i64 0)] h1) ∧
  ∀ n1 : Nat, ∀ v5 : Value, ∀ h2 : Hp, I1 n1 [v5] h2 → ∀ g1 : St,
    vP (faV 4 v2) fun v8 =>
    vP (ld1 v8 h2) fun v9 =>
    vP (lenV v9) fun v10 =>
    vP (binV .lss v5 v10) fun v11 =>
    vB v11 (∀ J2 : List Value → Hp → Prop, (∀ h3 : Hp, (∀ g2 : St,
        vP (binV .add v5 (Value.int .i64 1)) fun v13 =>
        ∃ m1, m1 < n1 ∧ I1 m1 [v13] h3) → J2 [] h3) →
      vP (faV 4 v2) fun v14 =>
      vP (ld1 v14 h2) fun v15 =>
      vP (iaS 3 v15 v5) fun v17 =>
      vP (faV 1 v17) fun v18 =>
      vP (ld1 v18 h2) fun v19 =>
      vP (faV 4 v2) fun v20 =>
      vP (ld1 v20 h2) fun v21 =>
      vP (iaS 3 v21 v5) fun v23 =>
      vP (faV 0 v23) fun v24 =>
      vP (ld1 v24 h2) fun v25 =>
      vP (eqV 1 false v25 (Value.int .i64 2)) fun v29 =>
      vB v29 (vP (binV .lss v19 (Value.int .i64 0)) fun v31 =>
        vP (gdW (gB v31 false) (some v19)) fun v33 =>
        vP (gdW (gB v31 false) (some a1)) fun v34 =>
        vP (gdW (gB v31 false) (binV .geq v33 v34)) fun v35 =>
        vP (pickV v31 (Value.bool true) v35) fun v36 =>
        vB v36 (K (Value.bool false) h2)
        (J2 [] h2))
      (vP (eqV 1 false v25 (Value.int .i64 1)) fun v38 =>
      vB v38 (vP (binV .lss v19 (Value.int .i64 (-1))) fun v40 =>
        vP (gdW (gB v40 false) (some v19)) fun v42 =>
        vP (gdW (gB v40 false) (some a1)) fun v43 =>
        vP (gdW (gB v40 false) (binV .geq v42 v43)) fun v44 =>
        vP (pickV v40 (Value.bool true) v44) fun v45 =>
        vB v45 (K (Value.bool false) h2)
        (J2 [] h2))
      (vP (eqV 1 true v19 (Value.int .i64 (-1))) fun v27 =>
      vB v27 (K (Value.bool false) h2)
      (J2 [] h2))))
    (K (Value.bool true) h2)) h
theorem D54_eq (a0 a1 : Value) (K : Value → Hp → Prop) (h : Hp) : fnVC Try.prog Try.f54 x54 [a0, a1] K h = D54 a0 a1 K h := by kernel_rfl
theorem D54_ok : fnOk Try.prog Try.f54 x54 2 = true := by kernel_rfl
theorem C54 {a0 a1 : Value} {K : Value → Hp → Prop} {h : Hp} (hh : D54 a0 a1 K h) : CallH Try.prog 54 #[a0, a1] K h :=
  callH_of mixed Try.func54 x54 [a0, a1] D54_ok (D54_eq a0 a1 K h ▸ hh)

/- 55: treadmill/treadmillref29.numbers; slots: 0 v, 1 v, 3 i -/
def x55 : Ann := (.seq (.reg [] [(0, []), (1, [])]) (.seq (.seq (.reg [] [(0, [])]) (.blk (.loop [3] [4, 5, 6, 7, 8, 11, 12, 13, 14, 15, 16, 17, 18, 2, 9, 10, 3] (.seq (.seq (.reg [] [(0, []), (1, []), (2, []), (3, []), (4, [])]) (.cond .leaf .leaf)) (.seq (.blk (.seq (.reg [] [(0, []), (1, []), (2, []), (3, []), (4, []), (5, []), (6, []), (7, [])]) (.cond (.seq (.reg [] [(0, [])]) .leaf) .leaf))) (.reg [] [(0, []), (1, []), (2, [])])))))) (.seq (.reg [] [(0, []), (1, []), (2, []), (3, []), (4, []), (5, []), (6, []), (7, []), (8, []), (9, []), (10, []), (11, []), (12, []), (13, []), (14, []), (15, []), (16, []), (17, []), (18, [])]) .leaf)))
def D55 (a0 : Value) (K : Value → Hp → Prop) (h : Hp) : Prop :=
  vA (some (Obj.cells (Value.cells a0) 26 (0, 0), ptrV)) (fun v1 h1 =>
  ∃ I1 : Nat → List Value → Hp → Prop, (∃ n, I1 n [(Value.int .i64 0)] h1) ∧
  ∀ n1 : Nat, ∀ v3 : Value, ∀ h2 : Hp, I1 n1 [v3] h2 → ∀ g1 : St,
    vP (faV 4 v1) fun v5 =>
    vP (ld1 v5 h2) fun v6 =>
    vP (lenV v6) fun v7 =>
    vP (binV .lss v3 v7) fun v8 =>
    vB v8 (vP (faV 4 v1) fun v11 =>
      vP (ld1 v11 h2) fun v12 =>
      vP (iaS 3 v12 v3) fun v14 =>
      vP (faV 2 v14) fun v15 =>
      vP (ld1 v15 h2) fun v16 =>
      vP (lenV v16) fun v17 =>
      vP (eqV 1 true v17 (Value.int .i64 16)) fun v18 =>
      vB v18 (K (Value.bool false) h2)
      (vP (binV .add v3 (Value.int .i64 1)) fun v10 =>
      ∃ m1, m1 < n1 ∧ I1 m1 [v10] h2))
    (vP (faV 0 v1) fun v19 =>
    vP (ld1 v19 h2) fun v20 =>
    vP (binV .geq v20 (Value.int .i64 0)) fun v21 =>
    vP (gdW (gB v21 true) (faV 0 v1)) fun v23 =>
    vP (gdW (gB v21 true) (ld1 v23 h2)) fun v24 =>
    vP (gdW (gB v21 true) (binV .leq v24 (Value.int .i64 3))) fun v25 =>
    vP (pickV v21 v25 (Value.bool false)) fun v26 =>
    vP (gdW (gB v26 true) (faV 1 v1)) fun v28 =>
    vP (gdW (gB v26 true) (ld1 v28 h2)) fun v29 =>
    vP (gdW (gB v26 true) (binV .geq v29 (Value.int .i64 0))) fun v30 =>
    vP (pickV v26 v30 (Value.bool false)) fun v31 =>
    vP (gdW (gB v31 true) (faV 2 v1)) fun v33 =>
    vP (gdW (gB v31 true) (ld1 v33 h2)) fun v34 =>
    vP (gdW (gB v31 true) (binV .geq v34 (Value.int .i64 0))) fun v35 =>
    vP (pickV v31 v35 (Value.bool false)) fun v36 =>
    K v36 h2)) h
theorem D55_eq (a0 : Value) (K : Value → Hp → Prop) (h : Hp) : fnVC Try.prog Try.f55 x55 [a0] K h = D55 a0 K h := by kernel_rfl
theorem D55_ok : fnOk Try.prog Try.f55 x55 1 = true := by kernel_rfl
theorem C55 {a0 : Value} {K : Value → Hp → Prop} {h : Hp} (hh : D55 a0 K h) : CallH Try.prog 55 #[a0] K h :=
  callH_of mixed Try.func55 x55 [a0] D55_ok (D55_eq a0 K h ▸ hh)

/- 56: treadmill/treadmillref29.clean; slots: 0 v, 1 v, 3 i -/
def x56 : Ann := (.seq (.reg [] [(0, []), (1, [])]) (.seq (.seq (.reg [] [(0, [])]) (.blk (.loop [3] [4, 5, 6, 7, 8, 11, 12, 13, 14, 15, 16, 17, 18, 19, 20, 21, 2, 9, 10, 3] (.seq (.seq (.reg [] [(0, []), (1, []), (2, []), (3, []), (4, [])]) (.cond .leaf .leaf)) (.seq (.blk (.seq (.reg [] [(0, []), (1, []), (2, []), (3, []), (4, []), (5, []), (6, []), (7, []), (8, []), (9, []), (10, [])]) (.cond (.seq (.reg [] [(0, [])]) .leaf) .leaf))) (.reg [] [(0, []), (1, []), (2, [])])))))) (.seq (.reg [] [(0, [])]) .leaf)))
def D56 (a0 : Value) (K : Value → Hp → Prop) (h : Hp) : Prop :=
  vA (some (Obj.cells (Value.cells a0) 26 (0, 0), ptrV)) (fun v1 h1 =>
  ∃ I1 : Nat → List Value → Hp → Prop, (∃ n, I1 n [(Value.int .i64 0)] h1) ∧
  ∀ n1 : Nat, ∀ v3 : Value, ∀ h2 : Hp, I1 n1 [v3] h2 → ∀ g1 : St,
    vP (faV 5 v1) fun v5 =>
    vP (ld1 v5 h2) fun v6 =>
    vP (lenV v6) fun v7 =>
    vP (binV .lss v3 v7) fun v8 =>
    vB v8 (vP (faV 0 v1) fun v11 =>
      vP (ld1 v11 h2) fun v12 =>
      vP (eqV 1 false v12 (Value.int .i64 0)) fun v13 =>
      vP (gdW (gB v13 true) (faV 5 v1)) fun v15 =>
      vP (gdW (gB v13 true) (ld1 v15 h2)) fun v16 =>
      vP (gdW (gB v13 true) (some v3)) fun v17 =>
      vP (gdW (gB v13 true) (iaS 3 v16 v17)) fun v18 =>
      vP (gdW (gB v13 true) (faV 2 v18)) fun v19 =>
      vP (gdW (gB v13 true) (ld1 v19 h2)) fun v20 =>
      vP (pickV v13 v20 (Value.bool false)) fun v21 =>
      vB v21 (K (Value.bool false) h2)
      (vP (binV .add v3 (Value.int .i64 1)) fun v10 =>
      ∃ m1, m1 < n1 ∧ I1 m1 [v10] h2))
    (K (Value.bool true) h2)) h
theorem D56_eq (a0 : Value) (K : Value → Hp → Prop) (h : Hp) : fnVC Try.prog Try.f56 x56 [a0] K h = D56 a0 K h := by kernel_rfl
theorem D56_ok : fnOk Try.prog Try.f56 x56 1 = true := by kernel_rfl
theorem C56 {a0 : Value} {K : Value → Hp → Prop} {h : Hp} (hh : D56 a0 K h) : CallH Try.prog 56 #[a0] K h :=
  callH_of mixed Try.func56 x56 [a0] D56_ok (D56_eq a0 K h ▸ hh)

/- 27: treadmill/treadmillref29.All; slots: 0 v, 1 ps, 2 v, 3 ps, 5 work, 6 bad, 7 out, 8 i -/
def x27 : Ann := (.seq (.reg [] [(0, []), (1, [])]) (.seq (.reg [] [(0, []), (1, []), (2, []), (3, []), (4, []), (5, []), (6, []), (7, []), (8, []), (9, []), (10, []), (11, []), (12, []), (13, []), (14, []), (15, []), (16, []), (17, []), (18, []), (19, []), (20, []), (21, []), (22, []), (23, []), (24, []), (25, []), (26, []), (27, []), (28, []), (29, []), (30, []), (31, []), (32, []), (33, [])]) (.seq (.reg [0, 1, 3, 7, 0, 19, 51, 0, 179, 0, 0, 1971, 4019, 0, 0, 16384, 49152, 118707, 249779, 511923, 1036211, 2084787, 4181939, 0, 9424819, 26202035, 0, 93310899, 227528627, 536870911, 1073741823] [(10, []), (13, []), (14, []), (0, []), (4, []), (7, []), (9, []), (15, []), (16, []), (23, []), (26, []), (1, [26, 23, 15, 9, 7, 4]), (2, []), (3, []), (5, [26, 23, 15, 9, 7]), (6, []), (8, [26, 23, 15, 9]), (11, [26, 23, 15]), (12, []), (17, []), (18, []), (19, [26, 23]), (20, []), (21, []), (22, []), (24, [26]), (25, []), (27, []), (28, []), (29, []), (30, [])]) (.seq (.reg [] [(0, [])]) (.seq (.seq (.reg [] [(0, [])]) (.blk (.loop [8, 7] [72, 73, 74, 75, 78, 79, 80, 81, 82, 83, 84, 85, 86, 7, 76, 77, 8] (.seq (.seq (.reg [] [(0, []), (1, []), (2, []), (3, [])]) (.cond .leaf .leaf)) (.join [7] [78, 79, 80, 81, 82, 83, 84, 85, 86, 7] (.blk (.seq (.reg [] [(0, []), (1, []), (2, []), (3, [])]) (.cond (.reg [] [(0, []), (1, []), (2, []), (3, []), (4, []), (5, [])]) .leaf))) (.reg [] [(0, []), (1, []), (2, [])])))))) (.seq (.reg [] [(0, []), (1, [])]) .leaf))))))
def D27 (a0 a1 : Value) (K : Value → Hp → Prop) (h : Hp) : Prop :=
  vA (some (Obj.cells (Value.cells a0) 26 (0, 0), ptrV)) (fun v2 h1 =>
  vP (faV 6 v2) fun v9 =>
  vP (ld1 v9 h1) fun v10 =>
  vP (binV .lss v10 (Value.int .i64 0)) fun v11 =>
  vP (gdW (gB v11 false) (faV 7 v2)) fun v13 =>
  vP (gdW (gB v11 false) (ld1 v13 h1)) fun v14 =>
  vP (gdW (gB v11 false) (binV .lss v14 (Value.int .i64 0))) fun v15 =>
  vP (pickV v11 (Value.bool true) v15) fun v16 =>
  vP (gdW (gB v16 false) (faV 8 v2)) fun v18 =>
  vP (gdW (gB v16 false) (ld1 v18 h1)) fun v19 =>
  vP (gdW (gB v16 false) (binV .lss v19 (Value.int .i64 0))) fun v20 =>
  vP (pickV v16 (Value.bool true) v20) fun v21 =>
  vP (gdW (gB v21 false) (faV 0 v2)) fun v23 =>
  vP (gdW (gB v21 false) (ld1 v23 h1)) fun v24 =>
  vP (gdW (gB v21 false) (eqV 1 true v24 (Value.int .i64 1))) fun v25 =>
  vP (gdW (gB v21 false) (some v25)) fun v26 =>
  vP (gdW (gB v26 true) (faV 6 v2)) fun v27 =>
  vP (gdW (gB v26 true) (ld1 v27 h1)) fun v28 =>
  vP (gdW (gB v26 true) (eqV 1 true v28 (Value.int .i64 0))) fun v29 =>
  vP (gdW (gB v26 true) (some v29)) fun v30 =>
  vP (gdW (gB v30 false) (faV 7 v2)) fun v31 =>
  vP (gdW (gB v30 false) (ld1 v31 h1)) fun v32 =>
  vP (gdW (gB v30 false) (eqV 1 true v32 (Value.int .i64 0))) fun v33 =>
  vP (gdW (gB v26 true) (pickV v30 (Value.bool true) v33)) fun v34 =>
  vP (gdW (gB v26 true) (some v34)) fun v35 =>
  vP (gdW (gB v35 false) (faV 8 v2)) fun v36 =>
  vP (gdW (gB v35 false) (ld1 v36 h1)) fun v37 =>
  vP (gdW (gB v35 false) (eqV 1 true v37 (Value.int .i64 0))) fun v38 =>
  vP (gdW (gB v26 true) (pickV v35 (Value.bool true) v38)) fun v39 =>
  vP (gdW (gB v21 false) (pickV v26 v39 (Value.bool false))) fun v40 =>
  vP (pickV v21 (Value.bool true) v40) fun v41 =>
  vP (faV 0 v2) fun v56 =>
  vP (ldN 9 v2 h1) fun v42 =>
  vP (ldN 9 v2 h1) fun v46 =>
  vP (ldN 9 v2 h1) fun v49 =>
  vP (ldN 9 v2 h1) fun v51 =>
  vP (ld1 v56 h1) fun v57 =>
  vP (eqV 1 false v57 (Value.int .i64 2)) fun v58 =>
  vP (ldN 9 v2 h1) fun v65 =>
  vP (ldN 9 v2 h1) fun v68 =>
  CallH Try.prog 37 #[v42] (fun v43 h2 =>
  (ldN 9 v2 h2) = some v68 ∧ ((ldN 9 v2 h2) = some v65 ∧ ((ld1 v56 h2) = some v57 ∧ ((ldN 9 v2 h2) = some v51 ∧ ((ldN 9 v2 h2) = some v49 ∧ ((ldN 9 v2 h2) = some v46 ∧ (vP (lenV v43) fun v44 =>
  vP (binV .gtr v44 (Value.int .i64 0)) fun v45 =>
  CallH Try.prog 52 #[v46] (fun v47 h3 =>
  (ldN 9 v2 h3) = some v68 ∧ ((ldN 9 v2 h3) = some v65 ∧ ((ld1 v56 h3) = some v57 ∧ ((ldN 9 v2 h3) = some v51 ∧ ((ldN 9 v2 h3) = some v49 ∧ (vP (unV .not v47) fun v48 =>
  CallH Try.prog 53 #[v49] (fun v50 h4 =>
  (ldN 9 v2 h4) = some v68 ∧ ((ldN 9 v2 h4) = some v65 ∧ ((ld1 v56 h4) = some v57 ∧ ((ldN 9 v2 h4) = some v51 ∧ (CallH Try.prog 54 #[v51, a1] (fun v53 h5 =>
  (ldN 9 v2 h5) = some v68 ∧ ((ldN 9 v2 h5) = some v65 ∧ ((ld1 v56 h5) = some v57 ∧ (vP (unV .not v53) fun v54 =>
  vP (gdW (gB v58 true) (ldN 9 v2 h5)) fun v60 =>
  vE (gB v58 true) (CallH Try.prog 36 #[v60]) (fun v61 h6 =>
  (ldN 9 v2 h6) = some v68 ∧ ((ldN 9 v2 h6) = some v65 ∧ (vP (gdW (gB v58 true) (lenV v61)) fun v62 =>
  vP (gdW (gB v58 true) (binV .gtr v62 (Value.int .i64 0))) fun v63 =>
  vP (pickV v58 v63 (Value.bool false)) fun v64 =>
  CallH Try.prog 55 #[v65] (fun v66 h7 =>
  (ldN 9 v2 h7) = some v68 ∧ (vP (unV .not v66) fun v67 =>
  CallH Try.prog 56 #[v68] (fun v69 h8 =>
  vP (unV .not v69) fun v70 =>
  vA ((bldV #[(Value.bool false), (Value.bool false), (Value.bool false), (Value.bool false), (Value.bool false), (Value.bool false), (Value.bool false), (Value.bool false)] [(0, 1, v45), (1, 1, v48), (2, 1, v50), (3, 1, v54), (4, 1, v41), (5, 1, v64), (6, 1, v67), (7, 1, v70)]).map fun c => (Obj.cells c 4 (0, 0), fun r => Value.slice (some ⟨r, 0, none⟩) 8 8)) (fun v71 h9 =>
  ∃ I1 : Nat → List Value → Hp → Prop, (∃ n, I1 n [(Value.int .i64 0), (Value.slice none 0 0)] h9) ∧
  ∀ n1 : Nat, ∀ v8 v7 : Value, ∀ h10 : Hp, I1 n1 [v8, v7] h10 → ∀ g1 : St,
    vP (lenV v71) fun v74 =>
    vP (binV .lss v8 v74) fun v75 =>
    vB v75 (∀ J2 : List Value → Hp → Prop, (∀ v7_1 : Value, ∀ h11 : Hp, (∀ g2 : St,
        vP (binV .add v8 (Value.int .i64 1)) fun v77 =>
        ∃ m1, m1 < n1 ∧ I1 m1 [v77, v7_1] h11) → J2 [v7_1] h11) →
      vP (iaS 1 v71 v8) fun v80 =>
      vP (ld1 v80 h10) fun v81 =>
      vB v81 (vP (binV .add v8 (Value.int .i64 1)) fun v84 =>
        vA ((bldV #[(Value.int .i64 0)] [(0, 1, v84)]).map fun c => (Obj.cells c 3 (0, 0), fun r => Value.slice (some ⟨r, 0, none⟩) 1 1)) (fun v85 h12 =>
        apW Try.prog #[22, 22] 22 v7 v85 (fun v86 h13 =>
        J2 [v86] h13) h12) h10)
      (J2 [v7] h10))
    (K v7 h10)) h8) h7)) h6))) h5)))) h4))))) h3)))))) h2))))))) h1) h
theorem D27_eq (a0 a1 : Value) (K : Value → Hp → Prop) (h : Hp) : fnVC Try.prog Try.f27 x27 [a0, a1] K h = D27 a0 a1 K h := by kernel_rfl
theorem D27_ok : fnOk Try.prog Try.f27 x27 2 = true := by kernel_rfl
theorem C27 {a0 a1 : Value} {K : Value → Hp → Prop} {h : Hp} (hh : D27 a0 a1 K h) : CallH Try.prog 27 #[a0, a1] K h :=
  callH_of mixed Try.func27 x27 [a0, a1] D27_ok (D27_eq a0 a1 K h ▸ hh)

/- 31: treadmill/treadmillref29.Text; slots: 0 code, 1 code, 3 l -/
def x31 : Ann := (.seq (.reg [] [(0, [])]) (.seq (.reg [] [(0, []), (1, [])]) (.seq (.seq (.reg [] [(0, []), (1, []), (2, []), (3, []), (4, []), (5, []), (6, []), (7, [])]) (.cond (.seq (.reg [] [(0, [])]) .leaf) .leaf)) (.seq (.reg [] [(0, []), (1, []), (2, []), (3, []), (4, [])]) .leaf))))
def D31 (a0 : Value) (K : Value → Hp → Prop) (h : Hp) : Prop :=
  vA ((bldV #[(Value.string ⟨#[]⟩), (Value.string ⟨#[]⟩), (Value.string ⟨#[]⟩), (Value.string ⟨#[]⟩), (Value.string ⟨#[]⟩), (Value.string ⟨#[]⟩), (Value.string ⟨#[]⟩), (Value.string ⟨#[]⟩), (Value.string ⟨#[]⟩)] [(0, 1, (Value.string ⟨#[]⟩)), (1, 1, (Value.string ⟨#[108, 111, 115, 116]⟩)), (2, 1, (Value.string ⟨#[111, 98, 106, 101, 99, 116, 115]⟩)), (3, 1, (Value.string ⟨#[116, 119, 105, 99, 101]⟩)), (4, 1, (Value.string ⟨#[112, 108, 97, 99, 101, 115]⟩)), (5, 1, (Value.string ⟨#[119, 111, 114, 107]⟩)), (6, 1, (Value.string ⟨#[119, 104, 105, 116, 101]⟩)), (7, 1, (Value.string ⟨#[110, 117, 109, 98, 101, 114, 115]⟩)), (8, 1, (Value.string ⟨#[109, 97, 114, 107, 101, 100]⟩))]).map fun c => (Obj.cells c 9 (0, 0), fun r => Value.slice (some ⟨r, 0, none⟩) 9 9)) (fun v4 h1 =>
  vP (binV .lss a0 (Value.int .i64 0)) fun v6 =>
  vP (gdW (gB v6 false) (some a0)) fun v8 =>
  vP (gdW (gB v6 false) (some v4)) fun v9 =>
  vP (gdW (gB v6 false) (lenV v9)) fun v10 =>
  vP (gdW (gB v6 false) (binV .geq v8 v10)) fun v11 =>
  vP (pickV v6 (Value.bool true) v11) fun v12 =>
  vB v12 (K (Value.string ⟨#[]⟩) h1)
  (vP (iaS 1 v4 a0) fun v15 =>
  vP (ld1 v15 h1) fun v16 =>
  K v16 h1)) h
theorem D31_eq (a0 : Value) (K : Value → Hp → Prop) (h : Hp) : fnVC Try.prog Try.f31 x31 [a0] K h = D31 a0 K h := by kernel_rfl
theorem D31_ok : fnOk Try.prog Try.f31 x31 1 = true := by kernel_rfl
theorem C31 {a0 : Value} {K : Value → Hp → Prop} {h : Hp} (hh : D31 a0 K h) : CallH Try.prog 31 #[a0] K h :=
  callH_of mixed Try.func31 x31 [a0] D31_ok (D31_eq a0 K h ▸ hh)

end Go.Proofs
