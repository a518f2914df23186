/-
  The conditions of some functions, as the printer wrote them out of the dump; the kernel checks that each is the function's own.
-/
import Derived.Test.YtampdifeblndfaaDoorB3
import Derived.Test.YtampdifeblndfaaDoorProg
set_option linter.unusedVariables false
set_option linter.unusedSimpArgs false
set_option maxRecDepth 100000
namespace Go.Proofs
open Go.Sl
/- 16: treadmill/treadmillref1.Ints; slots: 0 a, 1 b, 2 a, 3 b, 5 i -/
def x16 : Ann := (.seq (.reg [] [(0, [])]) (.seq (.seq (.reg [] [(0, []), (1, []), (2, []), (3, []), (4, [])]) (.cond (.seq (.reg [] [(0, [])]) .leaf) .leaf)) (.seq (.seq (.reg [] [(0, [])]) (.blk (.loop [5] [11, 12, 13, 14, 17, 18, 19, 20, 21, 22, 23, 24, 25, 4, 15, 16, 5] (.seq (.seq (.reg [] [(0, []), (1, []), (2, []), (3, [])]) (.cond .leaf .leaf)) (.seq (.blk (.seq (.reg [0, 0, 3, 7, 0, 0, 48, 112, 255] [(0, []), (1, []), (2, []), (4, []), (5, []), (6, []), (3, []), (7, []), (8, [])]) (.cond (.seq (.reg [] [(0, [])]) .leaf) .leaf))) (.reg [] [(0, []), (1, []), (2, [])])))))) (.seq (.reg [] [(0, [])]) .leaf))))
def D16 (a0 a1 : Value) (K : Value → Hp → Prop) (h : Hp) : Prop :=
  vP (lenV a0) fun v7 =>
  vP (lenV a1) fun v9 =>
  vP (eqV 1 true v7 v9) fun v10 =>
  vB v10 (K (Value.bool false) h)
  (∃ I1 : Nat → List Value → Hp → Prop, (∃ n, I1 n [(Value.int .i64 0)] h) ∧
  ∀ n1 : Nat, ∀ v5 : Value, ∀ h1 : Hp, I1 n1 [v5] h1 → ∀ g1 : St,
    vP (lenV a0) fun v13 =>
    vP (binV .lss v5 v13) fun v14 =>
    vB v14 (vP (iaS 1 a0 v5) fun v19 =>
      vP (iaS 1 a1 v5) fun v23 =>
      vP (ld1 v19 h1) fun v20 =>
      vP (ld1 v23 h1) fun v24 =>
      vP (eqV 1 true v20 v24) fun v25 =>
      vB v25 (K (Value.bool false) h1)
      (vP (binV .add v5 (Value.int .i64 1)) fun v16 =>
      ∃ m1, m1 < n1 ∧ I1 m1 [v16] h1))
    (K (Value.bool true) h1))
theorem D16_eq (a0 a1 : Value) (K : Value → Hp → Prop) (h : Hp) : fnVC Tryd.prog Tryd.f16 x16 [a0, a1] K h = D16 a0 a1 K h := by kernel_rfl
theorem D16_ok : fnOk Tryd.prog Tryd.f16 x16 2 = true := by kernel_rfl
theorem C16 {a0 a1 : Value} {K : Value → Hp → Prop} {h : Hp} (hh : D16 a0 a1 K h) : CallH Tryd.prog 16 #[a0, a1] K h :=
  callH_of mixed Tryd.func16 x16 [a0, a1] D16_ok (D16_eq a0 a1 K h ▸ hh)

/- 25: treadmill/treadmillref1.Has; slots: 0 l, 1 x, 2 l, 3 x, 5 i -/
def x25 : Ann := (.seq (.reg [] [(0, [])]) (.seq (.seq (.reg [] [(0, [])]) (.blk (.loop [5] [6, 7, 8, 9, 12, 13, 14, 15, 16, 17, 4, 10, 11, 5] (.seq (.seq (.reg [] [(0, []), (1, []), (2, []), (3, [])]) (.cond .leaf .leaf)) (.seq (.blk (.seq (.reg [] [(0, []), (1, []), (2, []), (3, []), (4, []), (5, [])]) (.cond (.seq (.reg [] [(0, [])]) .leaf) .leaf))) (.reg [] [(0, []), (1, []), (2, [])])))))) (.seq (.reg [] [(0, [])]) .leaf)))
def D25 (a0 a1 : Value) (K : Value → Hp → Prop) (h : Hp) : Prop :=
  ∃ I1 : Nat → List Value → Hp → Prop, (∃ n, I1 n [(Value.int .i64 0)] h) ∧
  ∀ n1 : Nat, ∀ v5 : Value, ∀ h1 : Hp, I1 n1 [v5] h1 → ∀ g1 : St,
    vP (lenV a0) fun v8 =>
    vP (binV .lss v5 v8) fun v9 =>
    vB v9 (vP (iaS 1 a0 v5) fun v14 =>
      vP (ld1 v14 h1) fun v15 =>
      vP (eqV 1 false v15 a1) fun v17 =>
      vB v17 (K (Value.bool true) h1)
      (vP (binV .add v5 (Value.int .i64 1)) fun v11 =>
      ∃ m1, m1 < n1 ∧ I1 m1 [v11] h1))
    (K (Value.bool false) h1)
theorem D25_eq (a0 a1 : Value) (K : Value → Hp → Prop) (h : Hp) : fnVC Tryd.prog Tryd.f25 x25 [a0, a1] K h = D25 a0 a1 K h := by kernel_rfl
theorem D25_ok : fnOk Tryd.prog Tryd.f25 x25 2 = true := by kernel_rfl
theorem C25 {a0 a1 : Value} {K : Value → Hp → Prop} {h : Hp} (hh : D25 a0 a1 K h) : CallH Tryd.prog 25 #[a0, a1] K h :=
  callH_of mixed Tryd.func25 x25 [a0, a1] D25_ok (D25_eq a0 a1 K h ▸ hh)

/- 23: treadmill/treadmillref1.Put; slots: 0 l, 1 x, 2 l, 3 x, 5 i -/
def x23 : Ann := (.seq (.reg [] [(0, [])]) (.seq (.reg [] [(0, [])]) (.seq (.blk (.loop [5] [6, 7, 8, 9, 10, 11, 12, 13, 14, 15, 16, 17, 18, 19, 5] (.seq (.seq (.reg [] [(0, []), (1, []), (2, []), (3, []), (4, []), (5, []), (6, []), (7, []), (8, []), (9, []), (10, []), (11, [])]) (.cond .leaf .leaf)) (.blk (.reg [] [(0, []), (1, []), (2, [])]))))) (.seq (.seq (.reg [] [(0, []), (1, []), (2, []), (3, []), (4, []), (5, []), (6, []), (7, []), (8, []), (9, []), (10, []), (11, [])]) (.cond (.seq (.reg [] [(0, []), (1, [])]) .leaf) .leaf)) (.seq (.reg [0, 0, 0, 6, 15, 0, 32, 127, 0, 0, 768, 2047, 4095] [(1, []), (2, []), (3, []), (5, []), (8, []), (9, []), (10, []), (0, []), (4, []), (6, []), (7, []), (11, []), (12, [])]) .leaf)))))
def D23 (a0 a1 : Value) (K : Value → Hp → Prop) (h : Hp) : Prop :=
  ∃ I1 : Nat → List Value → Hp → Prop, (∃ n, I1 n [(Value.int .i64 0)] h) ∧
  ∀ n1 : Nat, ∀ v5 : Value, ∀ h1 : Hp, I1 n1 [v5] h1 → ∀ g1 : St,
    vP (lenV a0) fun v8 =>
    vP (binV .lss v5 v8) fun v9 =>
    vP (gdW (gB v9 true) (some a0)) fun v11 =>
    vP (gdW (gB v9 true) (some v5)) fun v12 =>
    vP (gdW (gB v9 true) (iaS 1 v11 v12)) fun v13 =>
    vP (gdW (gB v9 true) (ld1 v13 h1)) fun v14 =>
    vP (gdW (gB v9 true) (some a1)) fun v15 =>
    vP (gdW (gB v9 true) (binV .lss v14 v15)) fun v16 =>
    vP (pickV v9 v16 (Value.bool false)) fun v17 =>
    vB v17 (vP (binV .add v5 (Value.int .i64 1)) fun v19 =>
      ∃ m1, m1 < n1 ∧ I1 m1 [v19] h1)
    (vP (lenV a0) fun v22 =>
    vP (binV .lss v5 v22) fun v23 =>
    vP (gdW (gB v23 true) (some a0)) fun v25 =>
    vP (gdW (gB v23 true) (some v5)) fun v26 =>
    vP (gdW (gB v23 true) (iaS 1 v25 v26)) fun v27 =>
    vP (gdW (gB v23 true) (ld1 v27 h1)) fun v28 =>
    vP (gdW (gB v23 true) (some a1)) fun v29 =>
    vP (gdW (gB v23 true) (eqV 1 false v28 v29)) fun v30 =>
    vP (pickV v23 v30 (Value.bool false)) fun v31 =>
    vB v31 (K a0 h1)
    (vP (slV 1 a0 none (some v5) none) fun v36 =>
    vP (slV 1 a0 (some v5) none none) fun v43 =>
    vA ((bldV #[] []).map fun c => (Obj.cells c 3 (0, 0), fun r => Value.slice (some ⟨r, 0, none⟩) 0 0)) (fun v33 h2 =>
    apW Tryd.prog #[32, 32] 32 v33 v36 (fun v37 h3 =>
    vA ((bldV #[(Value.int .i64 0)] [(0, 1, a1)]).map fun c => (Obj.cells c 3 (0, 0), fun r => Value.slice (some ⟨r, 0, none⟩) 1 1)) (fun v39 h4 =>
    apW Tryd.prog #[32, 32] 32 v37 v39 (fun v40 h5 =>
    apW Tryd.prog #[32, 32] 32 v40 v43 (fun v44 h6 =>
    K v44 h6) h5) h4) h3) h2) h1))
theorem D23_eq (a0 a1 : Value) (K : Value → Hp → Prop) (h : Hp) : fnVC Tryd.prog Tryd.f23 x23 [a0, a1] K h = D23 a0 a1 K h := by kernel_rfl
theorem D23_ok : fnOk Tryd.prog Tryd.f23 x23 2 = true := by kernel_rfl
theorem C23 {a0 a1 : Value} {K : Value → Hp → Prop} {h : Hp} (hh : D23 a0 a1 K h) : CallH Tryd.prog 23 #[a0, a1] K h :=
  callH_of mixed Tryd.func23 x23 [a0, a1] D23_ok (D23_eq a0 a1 K h ▸ hh)

/- 42: treadmill/treadmillref1.Sizes; slots:  -/
def x42 : Ann := (.seq (.reg [] [(0, [])]) (.seq (.reg [] [(0, []), (1, [])]) .leaf))
def D42 (K : Value → Hp → Prop) (h : Hp) : Prop :=
  vA ((bldV #[(Value.int .i64 0), (Value.int .i64 0), (Value.int .i64 0), (Value.int .i64 0), (Value.int .i64 0), (Value.int .i64 0), (Value.int .i64 0), (Value.int .i64 0), (Value.int .i64 0), (Value.int .i64 0), (Value.int .i64 0), (Value.int .i64 0), (Value.int .i64 0), (Value.int .i64 0), (Value.int .i64 0), (Value.int .i64 0)] [(0, 1, (Value.int .i64 1)), (1, 1, (Value.int .i64 2)), (2, 1, (Value.int .i64 3)), (3, 1, (Value.int .i64 4)), (4, 1, (Value.int .i64 6)), (5, 1, (Value.int .i64 8)), (6, 1, (Value.int .i64 12)), (7, 1, (Value.int .i64 16)), (8, 1, (Value.int .i64 24)), (9, 1, (Value.int .i64 32)), (10, 1, (Value.int .i64 48)), (11, 1, (Value.int .i64 64)), (12, 1, (Value.int .i64 96)), (13, 1, (Value.int .i64 128)), (14, 1, (Value.int .i64 192)), (15, 1, (Value.int .i64 256))]).map fun c => (Obj.cells c 3 (0, 0), fun r => Value.slice (some ⟨r, 0, none⟩) 16 16)) (fun v1 h1 =>
  K v1 h1) h
theorem D42_eq (K : Value → Hp → Prop) (h : Hp) : fnVC Tryd.prog Tryd.f42 x42 [] K h = D42  K h := by kernel_rfl
theorem D42_ok : fnOk Tryd.prog Tryd.f42 x42 0 = true := by kernel_rfl
theorem C42 {K : Value → Hp → Prop} {h : Hp} (hh : D42  K h) : CallH Tryd.prog 42 #[] K h :=
  callH_of mixed Tryd.func42 x42 [] D42_ok (D42_eq  K h ▸ hh)

/- 20: treadmill/treadmillref1.Size; slots: 0 k, 1 k -/
def x20 : Ann := (.seq (.reg [] [(0, [])]) (.seq (.seq (.reg [] [(0, []), (1, []), (2, []), (3, []), (4, []), (5, [])]) (.cond (.seq (.reg [] [(0, [])]) .leaf) .leaf)) (.seq (.reg [] [(0, []), (1, []), (2, []), (3, []), (4, [])]) .leaf)))
def D20 (a0 : Value) (K : Value → Hp → Prop) (h : Hp) : Prop :=
  vP (binV .lss a0 (Value.int .i64 0)) fun v4 =>
  vP (gdW (gB v4 false) (some a0)) fun v6 =>
  vP (gdW (gB v4 false) (binV .gtr v6 (Value.int .i64 15))) fun v7 =>
  vP (pickV v4 (Value.bool true) v7) fun v8 =>
  vB v8 (K (Value.int .i64 0) h)
  (CallH Tryd.prog 42 #[] (fun v9 h1 =>
  vP (iaS 1 v9 a0) fun v11 =>
  vP (ld1 v11 h1) fun v12 =>
  K v12 h1) h)
theorem D20_eq (a0 : Value) (K : Value → Hp → Prop) (h : Hp) : fnVC Tryd.prog Tryd.f20 x20 [a0] K h = D20 a0 K h := by kernel_rfl
theorem D20_ok : fnOk Tryd.prog Tryd.f20 x20 1 = true := by kernel_rfl
theorem C20 {a0 : Value} {K : Value → Hp → Prop} {h : Hp} (hh : D20 a0 K h) : CallH Tryd.prog 20 #[a0] K h :=
  callH_of mixed Tryd.func20 x20 [a0] D20_ok (D20_eq a0 K h ▸ hh)

/- 10: treadmill/treadmillref1.Of; slots: 0 n, 1 n, 3 k -/
def x10 : Ann := (.seq (.reg [] [(0, [])]) (.seq (.seq (.reg [] [(0, []), (1, []), (2, []), (3, []), (4, []), (5, [])]) (.cond (.seq (.reg [] [(0, [])]) .leaf) .leaf)) (.seq (.reg [] [(0, [])]) (.seq (.blk (.loop [3] [10, 11, 12, 13, 14, 15, 3] (.seq (.seq (.reg [] [(0, []), (1, []), (2, []), (3, [])]) (.cond .leaf .leaf)) (.blk (.reg [] [(0, []), (1, []), (2, [])]))))) (.seq (.reg [] [(0, []), (1, [])]) .leaf)))))
def D10 (a0 : Value) (K : Value → Hp → Prop) (h : Hp) : Prop :=
  vP (binV .lss a0 (Value.int .i64 1)) fun v5 =>
  vP (gdW (gB v5 false) (some a0)) fun v7 =>
  vP (gdW (gB v5 false) (binV .gtr v7 (Value.int .i64 256))) fun v8 =>
  vP (pickV v5 (Value.bool true) v8) fun v9 =>
  vB v9 (K (Value.int .i64 (-1)) h)
  (∃ I1 : Nat → List Value → Hp → Prop, (∃ n, I1 n [(Value.int .i64 0)] h) ∧
  ∀ n1 : Nat, ∀ v3 : Value, ∀ h1 : Hp, I1 n1 [v3] h1 → ∀ g1 : St,
    CallH Tryd.prog 20 #[v3] (fun v11 h2 =>
    vP (binV .lss v11 a0) fun v13 =>
    vB v13 (vP (binV .add v3 (Value.int .i64 1)) fun v15 =>
      ∃ m1, m1 < n1 ∧ I1 m1 [v15] h2)
    (K v3 h2)) h1)
theorem D10_eq (a0 : Value) (K : Value → Hp → Prop) (h : Hp) : fnVC Tryd.prog Tryd.f10 x10 [a0] K h = D10 a0 K h := by kernel_rfl
theorem D10_ok : fnOk Tryd.prog Tryd.f10 x10 1 = true := by kernel_rfl
theorem C10 {a0 : Value} {K : Value → Hp → Prop} {h : Hp} (hh : D10 a0 K h) : CallH Tryd.prog 10 #[a0] K h :=
  callH_of mixed Tryd.func10 x10 [a0] D10_ok (D10_eq a0 K h ▸ hh)

/- 18: treadmill/treadmilllaw7.told; slots: 1 a, 2 e, 3 _, 4 f, 5 id, 6 g, 7 x, 8 h, 9 i, 10 v, 11 j, 12 _, 13 k -/
def x18 : Ann := (.seq (.reg [] [(0, [])]) (.seq (.reg [] [(0, []), (1, []), (2, []), (3, []), (4, []), (5, [])]) (.seq (.reg [] [(0, []), (1, []), (2, []), (3, []), (4, []), (5, [])]) (.seq (.seq (.reg [] [(0, []), (1, []), (2, []), (3, []), (4, []), (5, []), (6, []), (7, []), (8, []), (9, [])]) (.cond (.seq (.reg [] [(0, [])]) .leaf) .leaf)) (.seq (.reg [] [(0, []), (1, []), (2, []), (3, []), (4, []), (5, []), (6, [])]) (.seq (.reg [] [(0, []), (1, []), (2, []), (3, []), (4, []), (5, []), (6, []), (7, [])]) (.seq (.reg [] [(0, []), (1, []), (2, []), (3, [])]) (.seq (.reg [] [(0, []), (1, []), (2, []), (3, []), (4, []), (5, []), (6, []), (7, [])]) (.seq (.reg [] [(0, []), (1, []), (2, []), (3, []), (4, []), (5, []), (6, []), (7, [])]) (.seq (.reg [] [(0, []), (1, []), (2, []), (3, []), (4, []), (5, []), (6, []), (7, []), (8, []), (9, []), (10, []), (11, []), (12, []), (13, []), (14, []), (15, []), (16, []), (17, []), (18, []), (19, []), (20, []), (21, []), (22, []), (23, []), (24, []), (25, []), (26, []), (27, []), (28, []), (29, []), (30, []), (31, []), (32, []), (33, []), (34, []), (35, []), (36, []), (37, []), (38, []), (39, []), (40, []), (41, []), (42, []), (43, []), (44, []), (45, []), (46, []), (47, []), (48, []), (49, []), (50, []), (51, [])]) .leaf))))))))))
def D18 (K : Value → Hp → Prop) (h : Hp) : Prop :=
  CallH Tryd.prog 8 #[(Value.int .i64 256)] (fun v15 h1 =>
  vP (exV v15 0) fun v16 =>
  vP (exV v15 1) fun v17 =>
  CallH Tryd.prog 8 #[(Value.int .i64 255)] (fun v19 h2 =>
  vP (exV v19 0) fun v20 =>
  vP (exV v19 1) fun v21 =>
  vP (eqV 1 true v17 (Value.int .i64 0)) fun v23 =>
  vP (gdW (gB v23 false) (some v16)) fun v25 =>
  vP (gdW (gB v23 false) (eqV 4 false v25 (Value.pointer none))) fun v26 =>
  vP (pickV v23 (Value.bool true) v26) fun v27 =>
  vP (gdW (gB v27 false) (some v21)) fun v29 =>
  vP (gdW (gB v27 false) (eqV 1 true v29 (Value.int .i64 1))) fun v30 =>
  vP (pickV v27 (Value.bool true) v30) fun v31 =>
  vB v31 (K (Value.bool false) h2)
  (CallH Tryd.prog 9 #[v16, (Value.int .i64 0)] (fun v34 h3 =>
  vP (exV v34 0) fun v35 =>
  vP (exV v34 1) fun v36 =>
  CallH Tryd.prog 11 #[v16, v35, (Value.int .i64 1), (Value.bool true)] (fun v40 h4 =>
  vP (exV v40 0) fun v41 =>
  vP (exV v40 1) fun v42 =>
  CallH Tryd.prog 13 #[v16, v41, (Value.int .i64 0), (Value.int .i64 7)] (fun v45 h5 =>
  CallH Tryd.prog 15 #[v16, v41, (Value.int .i64 0)] (fun v49 h6 =>
  vP (exV v49 0) fun v50 =>
  vP (exV v49 1) fun v51 =>
  CallH Tryd.prog 15 #[v16, v41, (Value.int .i64 1)] (fun v55 h7 =>
  vP (exV v55 0) fun v56 =>
  vP (exV v55 1) fun v57 =>
  vP (eqV 1 false v35 (Value.int .i64 0)) fun v59 =>
  vP (gdW (gB v59 true) (some v36)) fun v61 =>
  vP (gdW (gB v59 true) (eqV 1 false v61 (Value.int .i64 0))) fun v62 =>
  vP (pickV v59 v62 (Value.bool false)) fun v63 =>
  vP (gdW (gB v63 true) (some v41)) fun v65 =>
  vP (gdW (gB v63 true) (eqV 1 false v65 (Value.int .i64 64))) fun v66 =>
  vP (pickV v63 v66 (Value.bool false)) fun v67 =>
  vP (gdW (gB v67 true) (some v42)) fun v69 =>
  vP (gdW (gB v67 true) (eqV 1 false v69 (Value.int .i64 0))) fun v70 =>
  vP (pickV v67 v70 (Value.bool false)) fun v71 =>
  vP (gdW (gB v71 true) (some v45)) fun v73 =>
  vP (gdW (gB v71 true) (eqV 1 false v73 (Value.int .i64 0))) fun v74 =>
  vP (pickV v71 v74 (Value.bool false)) fun v75 =>
  vP (gdW (gB v75 true) (some v50)) fun v77 =>
  vP (gdW (gB v75 true) (eqV 1 false v77 (Value.int .i64 7))) fun v78 =>
  vP (pickV v75 v78 (Value.bool false)) fun v79 =>
  vP (gdW (gB v79 true) (some v51)) fun v81 =>
  vP (gdW (gB v79 true) (eqV 1 false v81 (Value.int .i64 0))) fun v82 =>
  vP (pickV v79 v82 (Value.bool false)) fun v83 =>
  vP (gdW (gB v83 true) (some v57)) fun v85 =>
  vP (gdW (gB v83 true) (eqV 1 false v85 (Value.int .i64 2))) fun v86 =>
  vP (pickV v83 v86 (Value.bool false)) fun v87 =>
  vP (gdW (gB v87 true) (some v16)) fun v89 =>
  vP (gdW (gB v87 true) (some v41)) fun v90 =>
  vE (gB v87 true) (CallH Tryd.prog 12 #[v89, v90]) (fun v91 h8 =>
  vP (pickV v87 v91 (Value.bool false)) fun v92 =>
  vP (gdW (gB v92 true) (some v16)) fun v94 =>
  vP (gdW (gB v92 true) (some v41)) fun v95 =>
  vE (gB v92 true) (CallH Tryd.prog 26 #[v94, v95]) (fun v96 h9 =>
  vP (gdW (gB v92 true) (unV .not v96)) fun v97 =>
  vP (pickV v92 v97 (Value.bool false)) fun v98 =>
  vP (gdW (gB v98 true) (some v16)) fun v100 =>
  vE (gB v98 true) (CallH Tryd.prog 24 #[v100]) (fun v101 h10 =>
  vP (gdW (gB v98 true) (eqV 1 false v101 (Value.int .i64 1))) fun v102 =>
  vP (pickV v98 v102 (Value.bool false)) fun v103 =>
  vP (gdW (gB v103 true) (some v16)) fun v105 =>
  vE (gB v103 true) (CallH Tryd.prog 38 #[v105]) (fun v106 h11 =>
  vP (gdW (gB v103 true) (eqV 1 false v106 (Value.int .i64 2))) fun v107 =>
  vP (pickV v103 v107 (Value.bool false)) fun v108 =>
  K v108 h11) h10) h9) h8) h7) h6) h5) h4) h3) h2)) h1) h
theorem D18_eq (K : Value → Hp → Prop) (h : Hp) : fnVC Tryd.prog Tryd.f18 x18 [] K h = D18  K h := by kernel_rfl
theorem D18_ok : fnOk Tryd.prog Tryd.f18 x18 0 = true := by kernel_rfl
theorem C18 {K : Value → Hp → Prop} {h : Hp} (hh : D18  K h) : CallH Tryd.prog 18 #[] K h :=
  callH_of mixed Tryd.func18 x18 [] D18_ok (D18_eq  K h ▸ hh)

/- 3: treadmill/treadmilllaw7.ArenaComes; slots: 0 n, 1 v, 2 m, 3 n, 4 v, 5 m, 7 k, 8 a, 9 e, 10 id, 11 f, 12 x, 13 g, 14 i, 15 first, 16 _, 17 second, 18 _, 19 _, 20 gone, 21 w, 22 y, 23 h, 24 i, 25 u, 26 j, 27 _, 28 over -/
def x3 : Ann := (.seq (.reg [] [(0, [])]) (.seq (.reg [] [(0, []), (1, []), (2, []), (3, []), (4, []), (5, [])]) (.seq (.reg [] [(0, []), (1, []), (2, []), (3, []), (4, []), (5, [])]) (.seq (.seq (.reg [] [(0, []), (1, []), (2, []), (3, []), (4, []), (5, [])]) (.cond (.seq (.reg [] [(0, [])]) .leaf) .leaf)) (.seq (.reg [] [(0, []), (1, []), (2, []), (3, []), (4, []), (5, []), (6, []), (7, []), (8, [])]) (.seq (.reg [] [(0, []), (1, []), (2, []), (3, []), (4, []), (5, []), (6, []), (7, []), (8, [])]) (.seq (.seq (.reg [] [(0, []), (1, []), (2, []), (3, []), (4, []), (5, []), (6, []), (7, []), (8, []), (9, []), (10, []), (11, [])]) (.cond (.seq (.reg [] [(0, [])]) .leaf) .leaf)) (.seq (.seq (.reg [] [(0, [])]) (.blk (.loop [14] [70, 71, 72, 75, 76, 77, 78, 79, 73, 74, 14] (.seq (.seq (.reg [] [(0, []), (1, []), (2, [])]) (.cond .leaf .leaf)) (.seq (.blk (.reg [] [(0, []), (1, []), (2, []), (3, []), (4, [])])) (.reg [] [(0, []), (1, []), (2, [])])))))) (.seq (.reg [] [(0, []), (1, []), (2, []), (3, []), (4, []), (5, []), (6, []), (7, [])]) (.seq (.reg [] [(0, []), (1, []), (2, []), (3, []), (4, []), (5, []), (6, []), (7, [])]) (.seq (.reg [] [(0, []), (1, []), (2, []), (3, []), (4, []), (5, []), (6, []), (7, [])]) (.seq (.reg [] [(0, []), (1, []), (2, []), (3, []), (4, []), (5, []), (6, []), (7, [])]) (.seq (.reg [] [(0, []), (1, []), (2, []), (3, []), (4, []), (5, []), (6, []), (7, []), (8, [])]) (.seq (.seq (.reg [] [(0, []), (1, []), (2, []), (3, []), (4, []), (5, []), (6, []), (7, []), (8, []), (9, []), (10, []), (11, []), (12, []), (13, []), (14, []), (15, []), (16, []), (17, []), (18, []), (19, []), (20, []), (21, []), (22, []), (23, []), (24, []), (25, []), (26, []), (27, []), (28, []), (29, []), (30, []), (31, []), (32, []), (33, []), (34, [])]) (.cond (.seq (.reg [] [(0, [])]) .leaf) .leaf)) (.seq (.seq (.reg [] [(0, [])]) (.blk (.loop [24] [147, 148, 149, 153, 154, 155, 156, 152, 157, 158, 25, 26, 159, 160, 161, 162, 163, 164, 6, 150, 151, 24] (.seq (.seq (.reg [] [(0, []), (1, []), (2, [])]) (.cond .leaf .leaf)) (.seq (.blk (.seq (.reg [] [(0, []), (1, []), (2, []), (3, []), (4, []), (5, []), (6, []), (7, []), (8, [])]) (.seq (.reg [] [(0, []), (1, []), (2, []), (3, []), (4, []), (5, [])]) (.cond (.seq (.reg [] [(0, [])]) .leaf) .leaf)))) (.reg [] [(0, []), (1, []), (2, [])])))))) (.seq (.reg [] [(0, []), (1, []), (2, []), (3, []), (4, []), (5, []), (6, []), (7, []), (8, [])]) (.seq (.reg [] [(0, []), (1, []), (2, []), (3, []), (4, []), (5, []), (6, []), (7, []), (8, []), (9, []), (10, []), (11, [])]) .leaf)))))))))))))))))
def D3 (a0 a1 a2 : Value) (K : Value → Hp → Prop) (h : Hp) : Prop :=
  vP (convV .u64 a0) fun v30 =>
  vP (binV .rem v30 (Value.int .u64 256)) fun v31 =>
  vP (convV .i64 v31) fun v32 =>
  vP (binV .add (Value.int .i64 1) v32) fun v33 =>
  CallH Tryd.prog 8 #[(Value.int .i64 4096)] (fun v35 h1 =>
  vP (exV v35 0) fun v36 =>
  vP (exV v35 1) fun v37 =>
  vP (eqV 1 true v37 (Value.int .i64 0)) fun v39 =>
  vP (gdW (gB v39 false) (some v36)) fun v41 =>
  vP (gdW (gB v39 false) (eqV 4 false v41 (Value.pointer none))) fun v42 =>
  vP (pickV v39 (Value.bool true) v42) fun v43 =>
  vB v43 (K (Value.bool false) h1)
  (CallH Tryd.prog 10 #[v33] (fun v47 h2 =>
  CallH Tryd.prog 9 #[v36, v47] (fun v48 h3 =>
  vP (exV v48 0) fun v49 =>
  vP (exV v48 1) fun v50 =>
  CallH Tryd.prog 11 #[v36, v49, v33, (Value.bool true)] (fun v55 h4 =>
  vP (exV v55 0) fun v56 =>
  vP (exV v55 1) fun v57 =>
  vP (eqV 1 true v50 (Value.int .i64 0)) fun v59 =>
  vP (gdW (gB v59 false) (some v57)) fun v61 =>
  vP (gdW (gB v59 false) (eqV 1 true v61 (Value.int .i64 0))) fun v62 =>
  vP (pickV v59 (Value.bool true) v62) fun v63 =>
  vP (gdW (gB v63 false) (some v36)) fun v65 =>
  vP (gdW (gB v63 false) (some v56)) fun v66 =>
  vE (gB v63 false) (CallH Tryd.prog 12 #[v65, v66]) (fun v67 h5 =>
  vP (gdW (gB v63 false) (unV .not v67)) fun v68 =>
  vP (pickV v63 (Value.bool true) v68) fun v69 =>
  vB v69 (K (Value.bool false) h5)
  (∃ I1 : Nat → List Value → Hp → Prop, (∃ n, I1 n [(Value.int .i64 0)] h5) ∧
  ∀ n1 : Nat, ∀ v14 : Value, ∀ h6 : Hp, I1 n1 [v14] h6 → ∀ g1 : St,
    vP (binV .lss v14 v33) fun v72 =>
    vB v72 (CallH Tryd.prog 13 #[v36, v56, v14, a1] (fun v79 h7 =>
      vP (binV .add v14 (Value.int .i64 1)) fun v74 =>
      ∃ m1, m1 < n1 ∧ I1 m1 [v74] h7) h6)
    (CallH Tryd.prog 14 #[v36, v49] (fun v83 h8 =>
    vP (exV v83 0) fun v84 =>
    vP (exV v83 1) fun v85 =>
    CallH Tryd.prog 14 #[v36, v49] (fun v89 h9 =>
    vP (exV v89 0) fun v90 =>
    vP (exV v89 1) fun v91 =>
    CallH Tryd.prog 15 #[v36, v56, (Value.int .i64 0)] (fun v95 h10 =>
    vP (exV v95 0) fun v96 =>
    vP (exV v95 1) fun v97 =>
    vP (convV .u64 a2) fun v99 =>
    vP (convV .u64 v33) fun v101 =>
    vP (binV .rem v99 v101) fun v102 =>
    vP (convV .i64 v102) fun v103 =>
    vP (binV .add (Value.int .i64 1) v103) fun v104 =>
    CallH Tryd.prog 11 #[v36, v49, v104, (Value.bool false)] (fun v109 h11 =>
    vP (exV v109 0) fun v110 =>
    vP (exV v109 1) fun v111 =>
    vP (lenV v84) fun v113 =>
    vP (eqV 1 true v113 (Value.int .i64 0)) fun v114 =>
    vP (gdW (gB v114 false) (some v90)) fun v116 =>
    vP (gdW (gB v114 false) (some v56)) fun v117 =>
    vE (gB v114 false) (vA ((bldV #[(Value.int .i64 0)] [(0, 1, v117)]).map fun c => (Obj.cells c 3 (0, 0), fun r => Value.slice (some ⟨r, 0, none⟩) 1 1))) (fun v118 h12 =>
    vE (gB v114 false) (CallH Tryd.prog 16 #[v116, v118]) (fun v119 h13 =>
    vP (gdW (gB v114 false) (unV .not v119)) fun v120 =>
    vP (pickV v114 (Value.bool true) v120) fun v121 =>
    vP (gdW (gB v121 false) (some v97)) fun v123 =>
    vP (gdW (gB v121 false) (eqV 1 true v123 (Value.int .i64 4))) fun v124 =>
    vP (pickV v121 (Value.bool true) v124) fun v125 =>
    vP (gdW (gB v125 false) (some v111)) fun v127 =>
    vP (gdW (gB v125 false) (eqV 1 true v127 (Value.int .i64 0))) fun v128 =>
    vP (pickV v125 (Value.bool true) v128) fun v129 =>
    vP (gdW (gB v129 false) (some v110)) fun v131 =>
    vP (gdW (gB v129 false) (some v56)) fun v132 =>
    vP (gdW (gB v129 false) (eqV 1 true v131 v132)) fun v133 =>
    vP (pickV v129 (Value.bool true) v133) fun v134 =>
    vP (gdW (gB v134 false) (some v36)) fun v136 =>
    vP (gdW (gB v134 false) (some v110)) fun v137 =>
    vE (gB v134 false) (CallH Tryd.prog 12 #[v136, v137]) (fun v138 h14 =>
    vP (pickV v134 (Value.bool true) v138) fun v139 =>
    vP (gdW (gB v139 false) (some v36)) fun v141 =>
    vP (gdW (gB v139 false) (some v110)) fun v142 =>
    vE (gB v139 false) (CallH Tryd.prog 17 #[v141, v142]) (fun v143 h15 =>
    vP (gdW (gB v139 false) (some v104)) fun v144 =>
    vP (gdW (gB v139 false) (eqV 1 true v143 v144)) fun v145 =>
    vP (pickV v139 (Value.bool true) v145) fun v146 =>
    vB v146 (K (Value.bool false) h15)
    (∃ I2 : Nat → List Value → Hp → Prop, (∃ n, I2 n [(Value.int .i64 0)] h15) ∧
    ∀ n2 : Nat, ∀ v24 : Value, ∀ h16 : Hp, I2 n2 [v24] h16 → ∀ g2 : St,
      vP (binV .lss v24 v104) fun v149 =>
      vB v149 (CallH Tryd.prog 15 #[v36, v110, v24] (fun v156 h17 =>
        vP (exV v156 0) fun v157 =>
        vP (exV v156 1) fun v158 =>
        vP (eqV 1 true v157 (Value.int .i64 0)) fun v160 =>
        vP (gdW (gB v160 false) (some v158)) fun v162 =>
        vP (gdW (gB v160 false) (eqV 1 true v162 (Value.int .i64 0))) fun v163 =>
        vP (pickV v160 (Value.bool true) v163) fun v164 =>
        vB v164 (K (Value.bool false) h17)
        (vP (binV .add v24 (Value.int .i64 1)) fun v151 =>
        ∃ m2, m2 < n2 ∧ I2 m2 [v151] h17)) h16)
      (CallH Tryd.prog 15 #[v36, v110, v104] (fun v169 h18 =>
      vP (exV v169 0) fun v170 =>
      vP (exV v169 1) fun v171 =>
      CallH Tryd.prog 18 #[] (fun v172 h19 =>
      vP (gdW (gB v172 true) (some v171)) fun v174 =>
      vP (gdW (gB v172 true) (eqV 1 false v174 (Value.int .i64 2))) fun v175 =>
      vP (pickV v172 v175 (Value.bool false)) fun v176 =>
      vP (gdW (gB v176 true) (some v36)) fun v178 =>
      vP (gdW (gB v176 true) (some v49)) fun v179 =>
      vE (gB v176 true) (CallH Tryd.prog 19 #[v178, v179]) (fun v180 h20 =>
      vP (gdW (gB v176 true) (eqV 1 false v180 (Value.int .i64 5))) fun v181 =>
      vP (pickV v176 v181 (Value.bool false)) fun v182 =>
      K v182 h20) h19) h18) h16))) h14) h13) h12) h11) h10) h9) h8) h6))) h4) h3) h2) h1)) h
theorem D3_eq (a0 a1 a2 : Value) (K : Value → Hp → Prop) (h : Hp) : fnVC Tryd.prog Tryd.f3 x3 [a0, a1, a2] K h = D3 a0 a1 a2 K h := by kernel_rfl
theorem D3_ok : fnOk Tryd.prog Tryd.f3 x3 3 = true := by kernel_rfl
theorem C3 {a0 a1 a2 : Value} {K : Value → Hp → Prop} {h : Hp} (hh : D3 a0 a1 a2 K h) : CallH Tryd.prog 3 #[a0, a1, a2] K h :=
  callH_of mixed Tryd.func3 x3 [a0, a1, a2] D3_ok (D3_eq a0 a1 a2 K h ▸ hh)

/- 4: treadmill/treadmilllaw7.ArenaBounds; slots: 0 n, 1 slot, 2 v, 3 n, 4 slot, 5 v, 7 k, 8 a, 9 e, 10 id, 11 f, 12 x, 13 g, 14 i, 15 in, 16 s, 17 w, 18 t, 19 _, 20 none, 21 _, 22 long, 23 _, 24 zero, 25 _, 26 nobody -/
def x4 : Ann := (.seq (.reg [] [(0, [])]) (.seq (.reg [] [(0, []), (1, []), (2, []), (3, []), (4, []), (5, [])]) (.seq (.reg [] [(0, []), (1, []), (2, []), (3, []), (4, []), (5, [])]) (.seq (.seq (.reg [] [(0, []), (1, []), (2, []), (3, []), (4, []), (5, [])]) (.cond (.seq (.reg [] [(0, [])]) .leaf) .leaf)) (.seq (.reg [] [(0, []), (1, []), (2, []), (3, []), (4, []), (5, []), (6, []), (7, []), (8, [])]) (.seq (.reg [] [(0, []), (1, []), (2, []), (3, []), (4, []), (5, []), (6, []), (7, []), (8, [])]) (.seq (.seq (.reg [] [(0, []), (1, []), (2, []), (3, []), (4, []), (5, [])]) (.cond (.seq (.reg [] [(0, [])]) .leaf) .leaf)) (.seq (.reg [] [(0, []), (1, []), (2, []), (3, []), (4, []), (5, [])]) (.seq (.reg [] [(0, []), (1, []), (2, []), (3, []), (4, []), (5, []), (6, []), (7, [])]) (.seq (.reg [] [(0, []), (1, []), (2, []), (3, []), (4, []), (5, [])]) (.seq (.reg [] [(0, []), (1, []), (2, []), (3, []), (4, []), (5, []), (6, []), (7, []), (8, [])]) (.join [] [86, 87, 88, 89, 90, 91, 92, 93, 94, 95, 96, 97, 6, 98, 99, 100, 101, 102, 103, 104, 105, 106, 107] (.seq (.reg [] [(0, [])]) (.cond (.seq (.reg [] [(0, []), (1, []), (2, []), (3, []), (4, []), (5, []), (6, []), (7, []), (8, []), (9, []), (10, [])]) (.cond (.seq (.reg [] [(0, [])]) .leaf) .leaf)) (.seq (.reg [] [(0, []), (1, []), (2, []), (3, []), (4, []), (5, []), (6, []), (7, []), (8, []), (9, [])]) (.cond (.seq (.reg [] [(0, [])]) .leaf) .leaf)))) (.seq (.reg [] [(0, []), (1, []), (2, []), (3, []), (4, []), (5, []), (6, []), (7, []), (8, [])]) (.seq (.reg [] [(0, []), (1, []), (2, []), (3, []), (4, []), (5, []), (6, []), (7, []), (8, []), (9, []), (10, []), (11, [])]) (.seq (.reg [] [(0, []), (1, []), (2, []), (3, []), (4, []), (5, []), (6, []), (7, [])]) (.seq (.reg [] [(0, []), (1, []), (2, []), (3, []), (4, []), (5, []), (6, []), (7, []), (8, [])]) (.seq (.reg [] [(0, []), (1, []), (2, []), (3, []), (4, []), (5, []), (6, []), (7, []), (8, []), (9, []), (10, []), (11, []), (12, []), (13, []), (14, []), (15, []), (16, []), (17, []), (18, []), (19, []), (20, []), (21, []), (22, []), (23, []), (24, []), (25, []), (26, []), (27, []), (28, [])]) .leaf)))))))))))))))))
def D4 (a0 a1 a2 : Value) (K : Value → Hp → Prop) (h : Hp) : Prop :=
  vP (convV .u64 a0) fun v28 =>
  vP (binV .rem v28 (Value.int .u64 256)) fun v29 =>
  vP (convV .i64 v29) fun v30 =>
  vP (binV .add (Value.int .i64 1) v30) fun v31 =>
  CallH Tryd.prog 8 #[(Value.int .i64 4096)] (fun v33 h1 =>
  vP (exV v33 0) fun v34 =>
  vP (exV v33 1) fun v35 =>
  vP (eqV 1 true v35 (Value.int .i64 0)) fun v37 =>
  vP (gdW (gB v37 false) (some v34)) fun v39 =>
  vP (gdW (gB v37 false) (eqV 4 false v39 (Value.pointer none))) fun v40 =>
  vP (pickV v37 (Value.bool true) v40) fun v41 =>
  vB v41 (K (Value.bool false) h1)
  (CallH Tryd.prog 10 #[v31] (fun v45 h2 =>
  CallH Tryd.prog 9 #[v34, v45] (fun v46 h3 =>
  vP (exV v46 0) fun v47 =>
  vP (exV v46 1) fun v48 =>
  CallH Tryd.prog 11 #[v34, v47, v31, (Value.bool false)] (fun v53 h4 =>
  vP (exV v53 0) fun v54 =>
  vP (exV v53 1) fun v55 =>
  vP (eqV 1 true v48 (Value.int .i64 0)) fun v57 =>
  vP (gdW (gB v57 false) (some v55)) fun v59 =>
  vP (gdW (gB v57 false) (eqV 1 true v59 (Value.int .i64 0))) fun v60 =>
  vP (pickV v57 (Value.bool true) v60) fun v61 =>
  vB v61 (K (Value.bool false) h4)
  (vP (convV .u64 a1) fun v63 =>
  vP (binV .rem v63 (Value.int .u64 300)) fun v64 =>
  vP (convV .i64 v64) fun v65 =>
  vP (binV .sub v65 (Value.int .i64 20)) fun v66 =>
  vP (binV .geq v66 (Value.int .i64 0)) fun v68 =>
  vP (gdW (gB v68 true) (some v66)) fun v70 =>
  vP (gdW (gB v68 true) (some v31)) fun v71 =>
  vP (gdW (gB v68 true) (binV .lss v70 v71)) fun v72 =>
  vP (pickV v68 v72 (Value.bool false)) fun v73 =>
  CallH Tryd.prog 13 #[v34, v54, v66, a2] (fun v78 h5 =>
  CallH Tryd.prog 15 #[v34, v54, v66] (fun v83 h6 =>
  vP (exV v83 0) fun v84 =>
  vP (exV v83 1) fun v85 =>
  ∀ J1 : List Value → Hp → Prop, (∀ h7 : Hp, (∀ g1 : St,
    vP (binV .add v54 (Value.int .i64 1)) fun v111 =>
    CallH Tryd.prog 15 #[v34, v111, (Value.int .i64 0)] (fun v112 h8 =>
    vP (exV v112 0) fun v113 =>
    vP (exV v112 1) fun v114 =>
    CallH Tryd.prog 10 #[v31] (fun v119 h9 =>
    CallH Tryd.prog 20 #[v119] (fun v120 h10 =>
    vP (binV .add v120 (Value.int .i64 1)) fun v121 =>
    CallH Tryd.prog 11 #[v34, v47, v121, (Value.bool false)] (fun v122 h11 =>
    vP (exV v122 0) fun v123 =>
    vP (exV v122 1) fun v124 =>
    CallH Tryd.prog 11 #[v34, v47, (Value.int .i64 0), (Value.bool false)] (fun v128 h12 =>
    vP (exV v128 0) fun v129 =>
    vP (exV v128 1) fun v130 =>
    vP (binV .add v47 (Value.int .i64 1)) fun v134 =>
    CallH Tryd.prog 11 #[v34, v134, (Value.int .i64 1), (Value.bool false)] (fun v135 h13 =>
    vP (exV v135 0) fun v136 =>
    vP (exV v135 1) fun v137 =>
    CallH Tryd.prog 18 #[] (fun v138 h14 =>
    vP (gdW (gB v138 true) (some v114)) fun v140 =>
    vP (gdW (gB v138 true) (eqV 1 false v140 (Value.int .i64 4))) fun v141 =>
    vP (pickV v138 v141 (Value.bool false)) fun v142 =>
    vP (gdW (gB v142 true) (some v34)) fun v144 =>
    vE (gB v142 true) (CallH Tryd.prog 13 #[v144, (Value.int .i64 0), (Value.int .i64 0), (Value.int .i64 5)]) (fun v145 h15 =>
    vP (gdW (gB v142 true) (eqV 1 false v145 (Value.int .i64 4))) fun v146 =>
    vP (pickV v142 v146 (Value.bool false)) fun v147 =>
    vP (gdW (gB v147 true) (some v124)) fun v149 =>
    vP (gdW (gB v147 true) (eqV 1 false v149 (Value.int .i64 1))) fun v150 =>
    vP (pickV v147 v150 (Value.bool false)) fun v151 =>
    vP (gdW (gB v151 true) (some v130)) fun v153 =>
    vP (gdW (gB v151 true) (eqV 1 false v153 (Value.int .i64 1))) fun v154 =>
    vP (pickV v151 v154 (Value.bool false)) fun v155 =>
    vP (gdW (gB v155 true) (some v137)) fun v157 =>
    vP (gdW (gB v155 true) (eqV 1 false v157 (Value.int .i64 4))) fun v158 =>
    vP (pickV v155 v158 (Value.bool false)) fun v159 =>
    vP (gdW (gB v159 true) (some v34)) fun v161 =>
    vE (gB v159 true) (CallH Tryd.prog 21 #[v161]) (fun v162 h16 =>
    vP (gdW (gB v159 true) (lenV v162)) fun v163 =>
    vP (gdW (gB v159 true) (eqV 1 false v163 (Value.int .i64 1))) fun v164 =>
    vP (pickV v159 v164 (Value.bool false)) fun v165 =>
    K v165 h16) h15) h14) h13) h12) h11) h10) h9) h8) h7) → J1 [] h7) →
  vB v73 (vP (eqV 1 true v78 (Value.int .i64 0)) fun v88 =>
    vP (gdW (gB v88 false) (some v85)) fun v90 =>
    vP (gdW (gB v88 false) (eqV 1 true v90 (Value.int .i64 0))) fun v91 =>
    vP (pickV v88 (Value.bool true) v91) fun v92 =>
    vP (gdW (gB v92 false) (some v84)) fun v94 =>
    vP (gdW (gB v92 false) (some a2)) fun v95 =>
    vP (gdW (gB v92 false) (eqV 1 true v94 v95)) fun v96 =>
    vP (pickV v92 (Value.bool true) v96) fun v97 =>
    vB v97 (K (Value.bool false) h6)
    (J1 [] h6))
  (vP (eqV 1 true v78 (Value.int .i64 2)) fun v99 =>
  vP (gdW (gB v99 false) (some v85)) fun v101 =>
  vP (gdW (gB v99 false) (eqV 1 true v101 (Value.int .i64 2))) fun v102 =>
  vP (pickV v99 (Value.bool true) v102) fun v103 =>
  vP (gdW (gB v103 false) (some v84)) fun v105 =>
  vP (gdW (gB v103 false) (eqV 1 true v105 (Value.int .i64 0))) fun v106 =>
  vP (pickV v103 (Value.bool true) v106) fun v107 =>
  vB v107 (K (Value.bool false) h6)
  (J1 [] h6))) h5) h4)) h3) h2) h1)) h
theorem D4_eq (a0 a1 a2 : Value) (K : Value → Hp → Prop) (h : Hp) : fnVC Tryd.prog Tryd.f4 x4 [a0, a1, a2] K h = D4 a0 a1 a2 K h := by kernel_rfl
theorem D4_ok : fnOk Tryd.prog Tryd.f4 x4 3 = true := by kernel_rfl
theorem C4 {a0 a1 a2 : Value} {K : Value → Hp → Prop} {h : Hp} (hh : D4 a0 a1 a2 K h) : CallH Tryd.prog 4 #[a0, a1, a2] K h :=
  callH_of mixed Tryd.func4 x4 [a0, a1, a2] D4_ok (D4_eq a0 a1 a2 K h ▸ hh)

/- 5: treadmill/treadmilllaw7.ArenaApart; slots: 0 l, 1 l, 3 a, 4 e, 5 addrs, 6 sizes, 7 i, 8 n, 9 id, 10 f, 11 k, 12 x, 13 g, 14 i, 15 j, 16 v, 17 g, 18 i, 19 j, 20 v, 21 g -/
def x5 : Ann := (.seq (.reg [] [(0, [])]) (.seq (.seq (.reg [] [(0, []), (1, []), (2, []), (3, []), (4, []), (5, []), (6, []), (7, [])]) (.cond (.seq (.reg [] [(0, []), (1, [])]) .leaf) .leaf)) (.seq (.reg [] [(0, []), (1, []), (2, []), (3, []), (4, []), (5, [])]) (.seq (.seq (.reg [] [(0, []), (1, []), (2, []), (3, []), (4, []), (5, [])]) (.cond (.seq (.reg [] [(0, [])]) .leaf) .leaf)) (.seq (.reg [] [(0, []), (1, [])]) (.seq (.seq (.reg [] [(0, [])]) (.blk (.loop [7, 6, 5] [41, 42, 43, 44, 47, 48, 49, 50, 51, 52, 53, 54, 8, 56, 57, 58, 59, 55, 60, 61, 9, 10, 62, 63, 2, 11, 64, 65, 69, 70, 71, 72, 68, 73, 74, 12, 13, 75, 76, 77, 78, 79, 80, 81, 82, 83, 84, 85, 86, 87, 88, 89, 90, 91, 92, 93, 94, 95, 96, 97, 5, 6, 66, 67, 45, 46, 7] (.seq (.seq (.reg [] [(0, []), (1, []), (2, []), (3, [])]) (.cond .leaf .leaf)) (.join [6, 5] [47, 48, 49, 50, 51, 52, 53, 54, 8, 56, 57, 58, 59, 55, 60, 61, 9, 10, 62, 63, 2, 11, 64, 65, 69, 70, 71, 72, 68, 73, 74, 12, 13, 75, 76, 77, 78, 79, 80, 81, 82, 83, 84, 85, 86, 87, 88, 89, 90, 91, 92, 93, 94, 95, 96, 97, 5, 6, 66, 67] (.blk (.seq (.reg [] [(0, []), (1, []), (2, []), (3, []), (4, []), (5, []), (6, []), (7, []), (8, [])]) (.seq (.reg [] [(0, []), (1, []), (2, []), (3, []), (4, []), (5, []), (6, []), (7, []), (8, [])]) (.seq (.seq (.reg [] [(0, []), (1, [])]) (.cond (.seq (.reg [] [(0, [])]) .leaf) .leaf)) (.seq (.reg [] [(0, [])]) (.blk (.loop [6, 5, 11] [64, 65, 69, 70, 71, 72, 68, 73, 74, 12, 13, 75, 76, 77, 78, 79, 80, 81, 82, 83, 84, 85, 86, 87, 88, 89, 2, 90, 91, 92, 93, 94, 95, 96, 97, 5, 6, 66, 67, 11] (.seq (.seq (.reg [] [(0, []), (1, [])]) (.cond .leaf .leaf)) (.seq (.blk (.seq (.reg [] [(0, []), (1, []), (2, []), (3, []), (4, []), (5, []), (6, []), (7, []), (8, [])]) (.seq (.seq (.reg [] [(0, []), (1, []), (2, []), (3, []), (4, []), (5, [])]) (.cond .leaf .leaf)) (.seq (.seq (.reg [] [(0, []), (1, []), (2, []), (3, []), (4, []), (5, []), (6, []), (7, []), (8, [])]) (.cond (.seq (.reg [] [(0, [])]) .leaf) .leaf)) (.reg [] [(0, []), (1, []), (2, []), (3, []), (4, []), (5, []), (6, []), (7, []), (8, []), (9, [])]))))) (.reg [] [(0, []), (1, []), (2, [])])))))))))) (.reg [] [(0, []), (1, []), (2, [])])))))) (.seq (.seq (.reg [] [(0, [])]) (.blk (.loop [14] [98, 99, 100, 101, 15, 104, 105, 106, 107, 108, 109, 113, 114, 115, 116, 117, 118, 119, 112, 120, 121, 16, 17, 122, 123, 124, 125, 126, 127, 128, 129, 130, 131, 132, 133, 134, 135, 136, 137, 138, 139, 2, 110, 111, 102, 103, 14] (.seq (.seq (.reg [] [(0, []), (1, []), (2, []), (3, [])]) (.cond .leaf .leaf)) (.seq (.blk (.seq (.reg [] [(0, [])]) (.blk (.loop [15] [104, 105, 106, 107, 108, 109, 113, 114, 115, 116, 117, 118, 119, 112, 120, 121, 16, 17, 122, 123, 124, 125, 126, 127, 128, 129, 130, 131, 132, 133, 134, 135, 136, 137, 138, 139, 2, 110, 111, 15] (.seq (.seq (.reg [] [(0, []), (1, []), (2, []), (3, []), (4, []), (5, [])]) (.cond .leaf .leaf)) (.seq (.blk (.seq (.reg [] [(0, []), (1, []), (2, []), (3, []), (4, []), (5, []), (6, []), (7, []), (8, []), (9, []), (10, []), (11, [])]) (.seq (.reg [] [(0, []), (1, []), (2, []), (3, []), (4, []), (5, []), (6, []), (7, []), (8, []), (9, []), (10, []), (11, []), (12, []), (13, []), (14, []), (15, []), (16, []), (17, [])]) (.cond (.seq (.reg [] [(0, [])]) .leaf) .leaf)))) (.reg [] [(0, []), (1, []), (2, [])]))))))) (.reg [] [(0, []), (1, []), (2, [])])))))) (.seq (.seq (.reg [] [(0, [])]) (.blk (.loop [18] [140, 141, 142, 143, 19, 146, 147, 148, 149, 150, 151, 155, 156, 157, 158, 159, 160, 161, 154, 162, 163, 20, 21, 164, 165, 166, 167, 168, 169, 170, 171, 2, 152, 153, 144, 145, 18] (.seq (.seq (.reg [] [(0, []), (1, []), (2, []), (3, [])]) (.cond .leaf .leaf)) (.seq (.blk (.seq (.reg [] [(0, [])]) (.blk (.loop [19] [146, 147, 148, 149, 150, 151, 155, 156, 157, 158, 159, 160, 161, 154, 162, 163, 20, 21, 164, 165, 166, 167, 168, 169, 170, 171, 2, 152, 153, 19] (.seq (.seq (.reg [] [(0, []), (1, []), (2, []), (3, []), (4, []), (5, [])]) (.cond .leaf .leaf)) (.seq (.blk (.seq (.reg [] [(0, []), (1, []), (2, []), (3, []), (4, []), (5, []), (6, []), (7, []), (8, []), (9, []), (10, []), (11, [])]) (.seq (.reg [] [(0, []), (1, []), (2, []), (3, []), (4, []), (5, []), (6, []), (7, [])]) (.cond (.seq (.reg [] [(0, [])]) .leaf) .leaf)))) (.reg [] [(0, []), (1, []), (2, [])]))))))) (.reg [] [(0, []), (1, []), (2, [])])))))) (.seq (.reg [] [(0, []), (1, []), (2, []), (3, []), (4, []), (5, []), (6, []), (7, []), (8, []), (9, [])]) .leaf)))))))))
def D5 (a0 : Value) (K : Value → Hp → Prop) (h : Hp) : Prop :=
  vP (lenV a0) fun v23 =>
  vP (eqV 1 false v23 (Value.int .i64 0)) fun v24 =>
  vP (gdW (gB v24 false) (some a0)) fun v26 =>
  vP (gdW (gB v24 false) (lenV v26)) fun v27 =>
  vP (gdW (gB v24 false) (binV .gtr v27 (Value.int .i64 30))) fun v28 =>
  vP (pickV v24 (Value.bool true) v28) fun v29 =>
  vB v29 (CallH Tryd.prog 18 #[] (fun v30 h1 =>
    K v30 h1) h)
  (CallH Tryd.prog 8 #[(Value.int .i64 32768)] (fun v32 h2 =>
  vP (exV v32 0) fun v33 =>
  vP (exV v32 1) fun v34 =>
  vP (eqV 1 true v34 (Value.int .i64 0)) fun v36 =>
  vP (gdW (gB v36 false) (some v33)) fun v38 =>
  vP (gdW (gB v36 false) (eqV 4 false v38 (Value.pointer none))) fun v39 =>
  vP (pickV v36 (Value.bool true) v39) fun v40 =>
  vB v40 (K (Value.bool false) h2)
  (∃ I1 : Nat → List Value → Hp → Prop, (∃ n, I1 n [(Value.int .i64 0), (Value.slice none 0 0), (Value.slice none 0 0)] h2) ∧
  ∀ n1 : Nat, ∀ v7 v6 v5 : Value, ∀ h3 : Hp, I1 n1 [v7, v6, v5] h3 → ∀ g1 : St,
    vP (lenV a0) fun v43 =>
    vP (binV .lss v7 v43) fun v44 =>
    vB v44 (∀ J2 : List Value → Hp → Prop, (∀ v6_1 v5_1 : Value, ∀ h4 : Hp, (∀ g2 : St,
        vP (binV .add v7 (Value.int .i64 1)) fun v46 =>
        ∃ m1, m1 < n1 ∧ I1 m1 [v46, v6_1, v5_1] h4) → J2 [v6_1, v5_1] h4) →
      vP (iaS 1 a0 v7) fun v49 =>
      vP (ld1 v49 h3) fun v50 =>
      vP (convV .u64 v50) fun v51 =>
      vP (binV .rem v51 (Value.int .u64 256)) fun v52 =>
      vP (convV .i64 v52) fun v53 =>
      vP (binV .add (Value.int .i64 1) v53) fun v54 =>
      CallH Tryd.prog 10 #[v54] (fun v58 h5 =>
      CallH Tryd.prog 9 #[v33, v58] (fun v59 h6 =>
      vP (exV v59 0) fun v60 =>
      vP (exV v59 1) fun v61 =>
      vP (eqV 1 true v61 (Value.int .i64 0)) fun v63 =>
      vB v63 (K (Value.bool false) h6)
      (∃ I3 : Nat → List Value → Hp → Prop, (∃ n, I3 n [v6, v5, (Value.int .i64 0)] h6) ∧
      ∀ n3 : Nat, ∀ v6_2 v5_2 v11 : Value, ∀ h7 : Hp, I3 n3 [v6_2, v5_2, v11] h7 → ∀ g3 : St,
        vP (binV .lss v11 (Value.int .i64 2)) fun v65 =>
        vB v65 (CallH Tryd.prog 11 #[v33, v60, v54, (Value.bool false)] (fun v72 h8 =>
          vP (exV v72 0) fun v73 =>
          vP (exV v72 1) fun v74 =>
          vP (eqV 1 false v74 (Value.int .i64 3)) fun v76 =>
          vP (gdW (gB v76 true) (some v11)) fun v78 =>
          vP (gdW (gB v76 true) (eqV 1 false v78 (Value.int .i64 1))) fun v79 =>
          vP (pickV v76 v79 (Value.bool false)) fun v80 =>
          vB v80 (J2 [v6_2, v5_2] h8)
          (vP (eqV 1 true v74 (Value.int .i64 0)) fun v82 =>
          vP (gdW (gB v82 false) (some v33)) fun v84 =>
          vP (gdW (gB v82 false) (some v73)) fun v85 =>
          vE (gB v82 false) (CallH Tryd.prog 17 #[v84, v85]) (fun v86 h9 =>
          vP (gdW (gB v82 false) (some v54)) fun v87 =>
          vP (gdW (gB v82 false) (eqV 1 true v86 v87)) fun v88 =>
          vP (pickV v82 (Value.bool true) v88) fun v89 =>
          vB v89 (K (Value.bool false) h9)
          (vA ((bldV #[(Value.int .i64 0)] [(0, 1, v73)]).map fun c => (Obj.cells c 3 (0, 0), fun r => Value.slice (some ⟨r, 0, none⟩) 1 1)) (fun v92 h10 =>
          apW Tryd.prog #[32, 32] 32 v5_2 v92 (fun v93 h11 =>
          vA ((bldV #[(Value.int .i64 0)] [(0, 1, v54)]).map fun c => (Obj.cells c 3 (0, 0), fun r => Value.slice (some ⟨r, 0, none⟩) 1 1)) (fun v96 h12 =>
          apW Tryd.prog #[32, 32] 32 v6_2 v96 (fun v97 h13 =>
          vP (binV .add v11 (Value.int .i64 1)) fun v67 =>
          ∃ m3, m3 < n3 ∧ I3 m3 [v97, v93, v67] h13) h12) h11) h10) h9)) h8)) h7)
        (J2 [v6_2, v5_2] h7))) h5) h3)
    (∃ I4 : Nat → List Value → Hp → Prop, (∃ n, I4 n [(Value.int .i64 0)] h3) ∧
    ∀ n4 : Nat, ∀ v14 : Value, ∀ h14 : Hp, I4 n4 [v14] h14 → ∀ g4 : St,
      vP (lenV v5) fun v100 =>
      vP (binV .lss v14 v100) fun v101 =>
      vB v101 (∃ I5 : Nat → List Value → Hp → Prop, (∃ n, I5 n [(Value.int .i64 0)] h14) ∧
        ∀ n5 : Nat, ∀ v15 : Value, ∀ h15 : Hp, I5 n5 [v15] h15 → ∀ g5 : St,
          vP (iaS 1 v6 v14) fun v107 =>
          vP (ld1 v107 h15) fun v108 =>
          vP (binV .lss v15 v108) fun v109 =>
          vB v109 (vP (iaS 1 v5 v14) fun v116 =>
            vP (ld1 v116 h15) fun v117 =>
            CallH Tryd.prog 15 #[v33, v117, v15] (fun v119 h16 =>
            vP (exV v119 0) fun v120 =>
            vP (exV v119 1) fun v121 =>
            vP (eqV 1 true v121 (Value.int .i64 0)) fun v123 =>
            vP (gdW (gB v123 false) (some v120)) fun v125 =>
            vP (gdW (gB v123 false) (eqV 1 true v125 (Value.int .i64 0))) fun v126 =>
            vP (pickV v123 (Value.bool true) v126) fun v127 =>
            vP (gdW (gB v127 false) (some v33)) fun v129 =>
            vP (gdW (gB v127 false) (some v5)) fun v130 =>
            vP (gdW (gB v127 false) (some v14)) fun v131 =>
            vP (gdW (gB v127 false) (iaS 1 v130 v131)) fun v132 =>
            vP (gdW (gB v127 false) (ld1 v132 h16)) fun v133 =>
            vP (gdW (gB v127 false) (some v15)) fun v134 =>
            vP (gdW (gB v127 false) (some v14)) fun v135 =>
            vP (gdW (gB v127 false) (binV .add v135 (Value.int .i64 1))) fun v136 =>
            vE (gB v127 false) (CallH Tryd.prog 13 #[v129, v133, v134, v136]) (fun v137 h17 =>
            vP (gdW (gB v127 false) (eqV 1 true v137 (Value.int .i64 0))) fun v138 =>
            vP (pickV v127 (Value.bool true) v138) fun v139 =>
            vB v139 (K (Value.bool false) h17)
            (vP (binV .add v15 (Value.int .i64 1)) fun v111 =>
            ∃ m5, m5 < n5 ∧ I5 m5 [v111] h17)) h16) h15)
          (vP (binV .add v14 (Value.int .i64 1)) fun v103 =>
          ∃ m4, m4 < n4 ∧ I4 m4 [v103] h15))
      (∃ I6 : Nat → List Value → Hp → Prop, (∃ n, I6 n [(Value.int .i64 0)] h14) ∧
      ∀ n6 : Nat, ∀ v18 : Value, ∀ h18 : Hp, I6 n6 [v18] h18 → ∀ g6 : St,
        vP (lenV v5) fun v142 =>
        vP (binV .lss v18 v142) fun v143 =>
        vB v143 (∃ I7 : Nat → List Value → Hp → Prop, (∃ n, I7 n [(Value.int .i64 0)] h18) ∧
          ∀ n7 : Nat, ∀ v19 : Value, ∀ h19 : Hp, I7 n7 [v19] h19 → ∀ g7 : St,
            vP (iaS 1 v6 v18) fun v149 =>
            vP (ld1 v149 h19) fun v150 =>
            vP (binV .lss v19 v150) fun v151 =>
            vB v151 (vP (iaS 1 v5 v18) fun v158 =>
              vP (ld1 v158 h19) fun v159 =>
              CallH Tryd.prog 15 #[v33, v159, v19] (fun v161 h20 =>
              vP (exV v161 0) fun v162 =>
              vP (exV v161 1) fun v163 =>
              vP (eqV 1 true v163 (Value.int .i64 0)) fun v165 =>
              vP (gdW (gB v165 false) (some v162)) fun v167 =>
              vP (gdW (gB v165 false) (some v18)) fun v168 =>
              vP (gdW (gB v165 false) (binV .add v168 (Value.int .i64 1))) fun v169 =>
              vP (gdW (gB v165 false) (eqV 1 true v167 v169)) fun v170 =>
              vP (pickV v165 (Value.bool true) v170) fun v171 =>
              vB v171 (K (Value.bool false) h20)
              (vP (binV .add v19 (Value.int .i64 1)) fun v153 =>
              ∃ m7, m7 < n7 ∧ I7 m7 [v153] h20)) h19)
            (vP (binV .add v18 (Value.int .i64 1)) fun v145 =>
            ∃ m6, m6 < n6 ∧ I6 m6 [v145] h19))
        (CallH Tryd.prog 18 #[] (fun v172 h21 =>
        vP (gdW (gB v172 true) (some v33)) fun v174 =>
        vE (gB v172 true) (CallH Tryd.prog 21 #[v174]) (fun v175 h22 =>
        vP (gdW (gB v172 true) (lenV v175)) fun v176 =>
        vP (gdW (gB v172 true) (some v5)) fun v177 =>
        vP (gdW (gB v172 true) (lenV v177)) fun v178 =>
        vP (gdW (gB v172 true) (eqV 1 false v176 v178)) fun v179 =>
        vP (pickV v172 v179 (Value.bool false)) fun v180 =>
        K v180 h22) h21) h18))))) h)
theorem D5_eq (a0 : Value) (K : Value → Hp → Prop) (h : Hp) : fnVC Tryd.prog Tryd.f5 x5 [a0] K h = D5 a0 K h := by kernel_rfl
theorem D5_ok : fnOk Tryd.prog Tryd.f5 x5 1 = true := by kernel_rfl
theorem C5 {a0 : Value} {K : Value → Hp → Prop} {h : Hp} (hh : D5 a0 K h) : CallH Tryd.prog 5 #[a0] K h :=
  callH_of mixed Tryd.func5 x5 [a0] D5_ok (D5_eq a0 K h ▸ hh)

/- 6: treadmill/treadmilllaw7.ArenaSums; slots: 0 l, 1 near, 2 l, 3 near, 5 a, 6 e, 7 sum, 8 addrs, 9 i, 10 n, 11 c, 12 id, 13 f, 14 x, 15 g, 16 s, 17 is, 18 x, 19 _, 20 is -/
def x6 : Ann := (.seq (.reg [] [(0, [])]) (.seq (.seq (.reg [] [(0, []), (1, []), (2, [])]) (.cond (.seq (.reg [] [(0, []), (1, [])]) .leaf) .leaf)) (.seq (.reg [] [(0, []), (1, []), (2, []), (3, []), (4, []), (5, [])]) (.seq (.seq (.reg [] [(0, []), (1, []), (2, []), (3, []), (4, []), (5, [])]) (.cond (.seq (.reg [] [(0, [])]) .leaf) .leaf)) (.seq (.reg [] [(0, [])]) (.seq (.reg [] [(0, [])]) (.seq (.seq (.reg [] [(0, [])]) (.blk (.loop [9, 8, 7] [35, 36, 37, 38, 41, 42, 43, 44, 45, 46, 47, 48, 10, 49, 50, 11, 52, 53, 54, 51, 55, 56, 12, 13, 58, 59, 60, 61, 62, 63, 64, 57, 65, 66, 14, 15, 68, 69, 70, 67, 71, 72, 16, 17, 73, 74, 75, 76, 77, 78, 79, 80, 81, 82, 83, 84, 85, 86, 87, 88, 89, 90, 91, 92, 93, 94, 95, 96, 97, 98, 99, 100, 101, 102, 4, 103, 104, 105, 106, 7, 107, 108, 109, 8, 110, 111, 112, 113, 39, 40, 9] (.seq (.seq (.reg [] [(0, []), (1, []), (2, []), (3, [])]) (.cond .leaf .leaf)) (.seq (.blk (.seq (.reg [] [(0, []), (1, []), (2, []), (3, []), (4, []), (5, []), (6, []), (7, []), (8, [])]) (.seq (.reg [] [(0, []), (1, []), (2, [])]) (.seq (.reg [] [(0, []), (1, []), (2, []), (3, []), (4, []), (5, []), (6, []), (7, [])]) (.seq (.reg [] [(0, []), (1, []), (2, []), (3, []), (4, []), (5, []), (6, []), (7, []), (8, []), (9, []), (10, []), (11, [])]) (.seq (.reg [] [(0, []), (1, []), (2, []), (3, []), (4, []), (5, []), (6, []), (7, []), (8, [])]) (.seq (.seq (.reg [] [(0, []), (1, []), (2, []), (3, []), (4, []), (5, []), (6, []), (7, []), (8, []), (9, []), (10, []), (11, []), (12, []), (13, []), (14, []), (15, []), (16, []), (17, []), (18, []), (19, []), (20, []), (21, []), (22, []), (23, []), (24, []), (25, []), (26, []), (27, []), (28, []), (29, [])]) (.cond (.seq (.reg [] [(0, [])]) .leaf) .leaf)) (.seq (.reg [] [(0, []), (1, []), (2, []), (3, []), (4, [])]) (.seq (.reg [] [(0, []), (1, []), (2, []), (3, [])]) (.seq (.reg [] [(0, []), (1, []), (2, []), (3, [])]) (.cond (.seq (.reg [] [(0, [])]) .leaf) .leaf))))))))))) (.reg [] [(0, []), (1, []), (2, [])])))))) (.join [] [114, 115, 116, 117, 118, 119, 120, 121, 122, 123, 124, 125, 18, 127, 128, 129, 126, 130, 131, 19, 20, 132, 133, 134, 135, 136, 4] (.seq (.reg [] [(0, []), (1, []), (2, [])]) (.cond (.seq (.reg [] [(0, []), (1, []), (2, []), (3, []), (4, []), (5, []), (6, []), (7, []), (8, []), (9, [])]) (.seq (.reg [] [(0, []), (1, []), (2, []), (3, []), (4, []), (5, []), (6, []), (7, []), (8, [])]) (.seq (.reg [] [(0, []), (1, []), (2, []), (3, []), (4, [])]) (.cond (.seq (.reg [] [(0, [])]) .leaf) .leaf)))) .leaf)) (.seq (.reg [] [(0, []), (1, []), (2, []), (3, []), (4, []), (5, []), (6, []), (7, [])]) .leaf)))))))))
def D6 (a0 a1 : Value) (K : Value → Hp → Prop) (h : Hp) : Prop :=
  vP (lenV a0) fun v22 =>
  vP (binV .gtr v22 (Value.int .i64 20)) fun v23 =>
  vB v23 (CallH Tryd.prog 18 #[] (fun v24 h1 =>
    K v24 h1) h)
  (CallH Tryd.prog 8 #[(Value.int .i64 32768)] (fun v26 h2 =>
  vP (exV v26 0) fun v27 =>
  vP (exV v26 1) fun v28 =>
  vP (eqV 1 true v28 (Value.int .i64 0)) fun v30 =>
  vP (gdW (gB v30 false) (some v27)) fun v32 =>
  vP (gdW (gB v30 false) (eqV 4 false v32 (Value.pointer none))) fun v33 =>
  vP (pickV v30 (Value.bool true) v33) fun v34 =>
  vB v34 (K (Value.bool false) h2)
  (∃ I1 : Nat → List Value → Hp → Prop, (∃ n, I1 n [(Value.int .i64 0), (Value.slice none 0 0), (Value.int .i64 0)] h2) ∧
  ∀ n1 : Nat, ∀ v9 v8 v7 : Value, ∀ h3 : Hp, I1 n1 [v9, v8, v7] h3 → ∀ g1 : St,
    vP (lenV a0) fun v37 =>
    vP (binV .lss v9 v37) fun v38 =>
    vB v38 (vP (iaS 1 a0 v9) fun v43 =>
      vP (ld1 v43 h3) fun v44 =>
      vP (convV .u64 v44) fun v45 =>
      vP (binV .rem v45 (Value.int .u64 256)) fun v46 =>
      vP (convV .i64 v46) fun v47 =>
      vP (binV .add (Value.int .i64 1) v47) fun v48 =>
      CallH Tryd.prog 10 #[v48] (fun v50 h4 =>
      CallH Tryd.prog 9 #[v27, v50] (fun v54 h5 =>
      vP (exV v54 0) fun v55 =>
      vP (exV v54 1) fun v56 =>
      vP (binV .and v9 (Value.int .i64 1)) fun v62 =>
      vP (eqV 1 false v62 (Value.int .i64 0)) fun v63 =>
      CallH Tryd.prog 11 #[v27, v55, v48, v63] (fun v64 h6 =>
      vP (exV v64 0) fun v65 =>
      vP (exV v64 1) fun v66 =>
      CallH Tryd.prog 22 #[v27, v65] (fun v70 h7 =>
      vP (exV v70 0) fun v71 =>
      vP (exV v70 1) fun v72 =>
      vA (some (Obj.cells #[(Value.int .i64 0), (Value.int .i64 0)] 42 (0, 0), ptrV)) (fun v16 h8 =>
      stN 2 v16 v71 (fun _ h9 =>
      vP (eqV 1 true v56 (Value.int .i64 0)) fun v74 =>
      vP (gdW (gB v74 false) (some v66)) fun v76 =>
      vP (gdW (gB v74 false) (eqV 1 true v76 (Value.int .i64 0))) fun v77 =>
      vP (pickV v74 (Value.bool true) v77) fun v78 =>
      vP (gdW (gB v78 false) (some v72)) fun v80 =>
      vP (gdW (gB v78 false) (unV .not v80)) fun v81 =>
      vP (pickV v78 (Value.bool true) v81) fun v82 =>
      vP (gdW (gB v82 false) (faV 0 v16)) fun v84 =>
      vP (gdW (gB v82 false) (ld1 v84 h9)) fun v85 =>
      vP (gdW (gB v82 false) (some v55)) fun v86 =>
      vP (gdW (gB v82 false) (eqV 1 true v85 v86)) fun v87 =>
      vP (pickV v82 (Value.bool true) v87) fun v88 =>
      vP (gdW (gB v88 false) (faV 1 v16)) fun v90 =>
      vP (gdW (gB v88 false) (ld1 v90 h9)) fun v91 =>
      vP (gdW (gB v88 false) (eqV 1 true v91 (Value.int .i64 0))) fun v92 =>
      vP (pickV v88 (Value.bool true) v92) fun v93 =>
      vP (gdW (gB v93 false) (some v27)) fun v95 =>
      vP (gdW (gB v93 false) (some v65)) fun v96 =>
      vE (gB v93 false) (CallH Tryd.prog 12 #[v95, v96]) (fun v97 h10 =>
      vP (gdW (gB v93 false) (some v9)) fun v98 =>
      vP (gdW (gB v93 false) (binV .and v98 (Value.int .i64 1))) fun v99 =>
      vP (gdW (gB v93 false) (eqV 1 false v99 (Value.int .i64 0))) fun v100 =>
      vP (gdW (gB v93 false) (eqV 2 true v97 v100)) fun v101 =>
      vP (pickV v93 (Value.bool true) v101) fun v102 =>
      vB v102 (K (Value.bool false) h10)
      (CallH Tryd.prog 20 #[v50] (fun v105 h11 =>
      vP (binV .add v7 v105) fun v106 =>
      CallH Tryd.prog 23 #[v8, v65] (fun v109 h12 =>
      CallH Tryd.prog 24 #[v27] (fun v111 h13 =>
      vP (eqV 1 true v111 v106) fun v113 =>
      vB v113 (K (Value.bool false) h13)
      (vP (binV .add v9 (Value.int .i64 1)) fun v40 =>
      ∃ m1, m1 < n1 ∧ I1 m1 [v40, v109, v106] h13)) h12) h11) h10)) h9) h8) h7) h6) h5) h4) h3)
    (∀ J2 : List Value → Hp → Prop, (∀ h14 : Hp, (∀ g2 : St,
      CallH Tryd.prog 18 #[] (fun v137 h15 =>
      vP (gdW (gB v137 true) (some v27)) fun v139 =>
      vE (gB v137 true) (CallH Tryd.prog 21 #[v139]) (fun v140 h16 =>
      vP (gdW (gB v137 true) (some v8)) fun v141 =>
      vE (gB v137 true) (CallH Tryd.prog 16 #[v140, v141]) (fun v142 h17 =>
      vP (pickV v137 v142 (Value.bool false)) fun v143 =>
      K v143 h17) h16) h15) h14) → J2 [] h14) →
    vP (lenV v8) fun v115 =>
    vP (binV .gtr v115 (Value.int .i64 0)) fun v116 =>
    vB v116 (vP (iaS 1 v8 (Value.int .i64 0)) fun v118 =>
      vP (ld1 v118 h3) fun v119 =>
      vP (binV .add v119 (Value.int .i64 1)) fun v120 =>
      vP (convV .u64 a1) fun v122 =>
      vP (binV .rem v122 (Value.int .u64 200)) fun v123 =>
      vP (convV .i64 v123) fun v124 =>
      vP (binV .add v120 v124) fun v125 =>
      CallH Tryd.prog 22 #[v27, v125] (fun v129 h18 =>
      vP (exV v129 0) fun v130 =>
      vP (exV v129 1) fun v131 =>
      vA (some (Obj.cells #[(Value.int .i64 0), (Value.int .i64 0)] 42 (0, 0), ptrV)) (fun v19 h19 =>
      stN 2 v19 v130 (fun _ h20 =>
      CallH Tryd.prog 25 #[v8, v125] (fun v135 h21 =>
      vP (eqV 2 true v131 v135) fun v136 =>
      vB v136 (K (Value.bool false) h21)
      (J2 [] h21)) h20) h19) h18) h3)
    (J2 [] h3)))) h)
theorem D6_eq (a0 a1 : Value) (K : Value → Hp → Prop) (h : Hp) : fnVC Tryd.prog Tryd.f6 x6 [a0, a1] K h = D6 a0 a1 K h := by kernel_rfl
theorem D6_ok : fnOk Tryd.prog Tryd.f6 x6 2 = true := by kernel_rfl
theorem C6 {a0 a1 : Value} {K : Value → Hp → Prop} {h : Hp} (hh : D6 a0 a1 K h) : CallH Tryd.prog 6 #[a0, a1] K h :=
  callH_of mixed Tryd.func6 x6 [a0, a1] D6_ok (D6_eq a0 a1 K h ▸ hh)

/- 7: treadmill/treadmilllaw7.ArenaMarks; slots: 0 l, 1 every, 2 l, 3 every, 5 a, 6 e, 7 m, 8 stay, 9 i, 10 n, 11 id, 12 f, 13 x, 14 g, 15 i, 16 gone, 17 f, 18 i -/
def x7 : Ann := (.seq (.reg [] [(0, [])]) (.seq (.seq (.reg [] [(0, []), (1, []), (2, []), (3, []), (4, []), (5, []), (6, []), (7, [])]) (.cond (.seq (.reg [] [(0, []), (1, [])]) .leaf) .leaf)) (.seq (.reg [] [(0, []), (1, []), (2, []), (3, []), (4, []), (5, [])]) (.seq (.seq (.reg [] [(0, []), (1, []), (2, []), (3, []), (4, []), (5, [])]) (.cond (.seq (.reg [] [(0, [])]) .leaf) .leaf)) (.seq (.reg [] [(0, []), (1, []), (2, []), (3, []), (4, []), (5, [])]) (.seq (.reg [] [(0, [])]) (.seq (.seq (.reg [] [(0, [])]) (.blk (.loop [9, 8] [43, 44, 45, 46, 49, 50, 51, 52, 53, 54, 55, 56, 10, 58, 59, 60, 61, 57, 62, 63, 11, 12, 65, 66, 67, 68, 64, 69, 70, 13, 14, 71, 72, 73, 74, 75, 76, 77, 78, 79, 80, 81, 4, 82, 83, 84, 85, 86, 87, 88, 89, 90, 91, 92, 93, 94, 95, 96, 97, 98, 99, 100, 101, 102, 103, 8, 47, 48, 9] (.seq (.seq (.reg [] [(0, []), (1, []), (2, []), (3, [])]) (.cond .leaf .leaf)) (.join [8] [49, 50, 51, 52, 53, 54, 55, 56, 10, 58, 59, 60, 61, 57, 62, 63, 11, 12, 65, 66, 67, 68, 64, 69, 70, 13, 14, 71, 72, 73, 74, 75, 76, 77, 78, 79, 80, 81, 4, 82, 83, 84, 85, 86, 87, 88, 89, 90, 91, 92, 93, 94, 95, 96, 97, 98, 99, 100, 101, 102, 103, 8] (.blk (.seq (.reg [] [(0, []), (1, []), (2, []), (3, []), (4, []), (5, []), (6, []), (7, []), (8, [])]) (.seq (.reg [] [(0, []), (1, []), (2, []), (3, []), (4, []), (5, []), (6, []), (7, []), (8, [])]) (.seq (.reg [] [(0, []), (1, []), (2, []), (3, []), (4, []), (5, []), (6, []), (7, []), (8, [])]) (.seq (.seq (.reg [] [(0, []), (1, []), (2, []), (3, []), (4, []), (5, []), (6, []), (7, []), (8, []), (9, []), (10, [])]) (.cond (.seq (.reg [] [(0, [])]) .leaf) .leaf)) (.seq (.reg [] [(0, []), (1, []), (2, []), (3, [])]) (.cond (.seq (.seq (.reg [] [(0, []), (1, []), (2, []), (3, []), (4, []), (5, []), (6, []), (7, []), (8, []), (9, []), (10, []), (11, []), (12, []), (13, []), (14, [])]) (.cond (.seq (.reg [] [(0, [])]) .leaf) .leaf)) (.reg [] [(0, []), (1, []), (2, []), (3, [])])) .leaf))))))) (.reg [] [(0, []), (1, []), (2, [])])))))) (.seq (.seq (.reg [] [(0, [])]) (.blk (.loop [15] [104, 105, 106, 107, 111, 112, 113, 110, 114, 115, 16, 17, 116, 117, 118, 119, 120, 121, 122, 123, 124, 125, 126, 127, 4, 108, 109, 15] (.seq (.seq (.reg [] [(0, []), (1, []), (2, []), (3, [])]) (.cond .leaf .leaf)) (.seq (.blk (.seq (.reg [] [(0, []), (1, []), (2, []), (3, []), (4, []), (5, []), (6, []), (7, [])]) (.seq (.reg [] [(0, []), (1, []), (2, []), (3, []), (4, []), (5, []), (6, []), (7, []), (8, []), (9, []), (10, []), (11, [])]) (.cond (.seq (.reg [] [(0, [])]) .leaf) .leaf)))) (.reg [] [(0, []), (1, []), (2, [])])))))) (.seq (.seq (.reg [] [(0, []), (1, []), (2, []), (3, []), (4, [])]) (.cond (.seq (.reg [] [(0, [])]) .leaf) .leaf)) (.seq (.seq (.reg [] [(0, [])]) (.blk (.loop [18] [133, 134, 135, 136, 139, 140, 141, 137, 138, 18] (.seq (.seq (.reg [] [(0, []), (1, []), (2, []), (3, [])]) (.cond .leaf .leaf)) (.seq (.blk (.reg [] [(0, []), (1, []), (2, [])])) (.reg [] [(0, []), (1, []), (2, [])])))))) (.seq (.reg [] [(0, []), (1, []), (2, []), (3, []), (4, []), (5, []), (6, []), (7, []), (8, []), (9, []), (10, []), (11, []), (12, [])]) .leaf)))))))))))
def D7 (a0 a1 : Value) (K : Value → Hp → Prop) (h : Hp) : Prop :=
  vP (lenV a0) fun v20 =>
  vP (eqV 1 false v20 (Value.int .i64 0)) fun v21 =>
  vP (gdW (gB v21 false) (some a0)) fun v23 =>
  vP (gdW (gB v21 false) (lenV v23)) fun v24 =>
  vP (gdW (gB v21 false) (binV .gtr v24 (Value.int .i64 20))) fun v25 =>
  vP (pickV v21 (Value.bool true) v25) fun v26 =>
  vB v26 (CallH Tryd.prog 18 #[] (fun v27 h1 =>
    K v27 h1) h)
  (CallH Tryd.prog 8 #[(Value.int .i64 32768)] (fun v29 h2 =>
  vP (exV v29 0) fun v30 =>
  vP (exV v29 1) fun v31 =>
  vP (eqV 1 true v31 (Value.int .i64 0)) fun v33 =>
  vP (gdW (gB v33 false) (some v30)) fun v35 =>
  vP (gdW (gB v33 false) (eqV 4 false v35 (Value.pointer none))) fun v36 =>
  vP (pickV v33 (Value.bool true) v36) fun v37 =>
  vB v37 (K (Value.bool false) h2)
  (vP (convV .u64 a1) fun v39 =>
  vP (binV .rem v39 (Value.int .u64 4)) fun v40 =>
  vP (convV .i64 v40) fun v41 =>
  vP (binV .add (Value.int .i64 1) v41) fun v42 =>
  ∃ I1 : Nat → List Value → Hp → Prop, (∃ n, I1 n [(Value.int .i64 0), (Value.slice none 0 0)] h2) ∧
  ∀ n1 : Nat, ∀ v9 v8 : Value, ∀ h3 : Hp, I1 n1 [v9, v8] h3 → ∀ g1 : St,
    vP (lenV a0) fun v45 =>
    vP (binV .lss v9 v45) fun v46 =>
    vB v46 (∀ J2 : List Value → Hp → Prop, (∀ v8_1 : Value, ∀ h4 : Hp, (∀ g2 : St,
        vP (binV .add v9 (Value.int .i64 1)) fun v48 =>
        ∃ m1, m1 < n1 ∧ I1 m1 [v48, v8_1] h4) → J2 [v8_1] h4) →
      vP (iaS 1 a0 v9) fun v51 =>
      vP (ld1 v51 h3) fun v52 =>
      vP (convV .u64 v52) fun v53 =>
      vP (binV .rem v53 (Value.int .u64 256)) fun v54 =>
      vP (convV .i64 v54) fun v55 =>
      vP (binV .add (Value.int .i64 1) v55) fun v56 =>
      CallH Tryd.prog 10 #[v56] (fun v60 h5 =>
      CallH Tryd.prog 9 #[v30, v60] (fun v61 h6 =>
      vP (exV v61 0) fun v62 =>
      vP (exV v61 1) fun v63 =>
      CallH Tryd.prog 11 #[v30, v62, v56, (Value.bool false)] (fun v68 h7 =>
      vP (exV v68 0) fun v69 =>
      vP (exV v68 1) fun v70 =>
      vP (eqV 1 true v63 (Value.int .i64 0)) fun v72 =>
      vP (gdW (gB v72 false) (some v70)) fun v74 =>
      vP (gdW (gB v72 false) (eqV 1 true v74 (Value.int .i64 0))) fun v75 =>
      vP (pickV v72 (Value.bool true) v75) fun v76 =>
      vP (gdW (gB v76 false) (some v30)) fun v78 =>
      vP (gdW (gB v76 false) (some v69)) fun v79 =>
      vE (gB v76 false) (CallH Tryd.prog 12 #[v78, v79]) (fun v80 h8 =>
      vP (pickV v76 (Value.bool true) v80) fun v81 =>
      vB v81 (K (Value.bool false) h8)
      (vP (binV .rem v9 v42) fun v84 =>
      vP (eqV 1 false v84 (Value.int .i64 0)) fun v85 =>
      vB v85 (CallH Tryd.prog 26 #[v30, v69] (fun v88 h9 =>
        vP (unV .not v88) fun v89 =>
        vP (gdW (gB v89 false) (some v30)) fun v91 =>
        vP (gdW (gB v89 false) (some v69)) fun v92 =>
        vE (gB v89 false) (CallH Tryd.prog 26 #[v91, v92]) (fun v93 h10 =>
        vP (pickV v89 (Value.bool true) v93) fun v94 =>
        vP (gdW (gB v94 false) (some v30)) fun v96 =>
        vP (gdW (gB v94 false) (some v69)) fun v97 =>
        vE (gB v94 false) (CallH Tryd.prog 12 #[v96, v97]) (fun v98 h11 =>
        vP (gdW (gB v94 false) (unV .not v98)) fun v99 =>
        vP (pickV v94 (Value.bool true) v99) fun v100 =>
        vB v100 (K (Value.bool false) h11)
        (CallH Tryd.prog 23 #[v8, v69] (fun v103 h12 =>
        J2 [v103] h12) h11)) h10) h9) h8)
      (J2 [v8] h8))) h7) h6) h5) h3)
    (∃ I3 : Nat → List Value → Hp → Prop, (∃ n, I3 n [(Value.int .i64 0)] h3) ∧
    ∀ n3 : Nat, ∀ v15 : Value, ∀ h13 : Hp, I3 n3 [v15] h13 → ∀ g3 : St,
      vP (lenV a0) fun v106 =>
      vP (binV .lss v15 v106) fun v107 =>
      vB v107 (CallH Tryd.prog 14 #[v30, v15] (fun v113 h14 =>
        vP (exV v113 0) fun v114 =>
        vP (exV v113 1) fun v115 =>
        vP (eqV 1 true v115 (Value.int .i64 0)) fun v117 =>
        vP (gdW (gB v117 false) (some v114)) fun v119 =>
        vP (gdW (gB v117 false) (lenV v119)) fun v120 =>
        vP (gdW (gB v117 false) (eqV 1 false v120 (Value.int .i64 1))) fun v121 =>
        vP (gdW (gB v117 false) (some v15)) fun v122 =>
        vP (gdW (gB v117 false) (some v42)) fun v123 =>
        vP (gdW (gB v117 false) (binV .rem v122 v123)) fun v124 =>
        vP (gdW (gB v117 false) (eqV 1 true v124 (Value.int .i64 0))) fun v125 =>
        vP (gdW (gB v117 false) (eqV 2 true v121 v125)) fun v126 =>
        vP (pickV v117 (Value.bool true) v126) fun v127 =>
        vB v127 (K (Value.bool false) h14)
        (vP (binV .add v15 (Value.int .i64 1)) fun v109 =>
        ∃ m3, m3 < n3 ∧ I3 m3 [v109] h14)) h13)
      (CallH Tryd.prog 21 #[v30] (fun v129 h15 =>
      CallH Tryd.prog 16 #[v129, v8] (fun v131 h16 =>
      vP (unV .not v131) fun v132 =>
      vB v132 (K (Value.bool false) h16)
      (∃ I4 : Nat → List Value → Hp → Prop, (∃ n, I4 n [(Value.int .i64 0)] h16) ∧
      ∀ n4 : Nat, ∀ v18 : Value, ∀ h17 : Hp, I4 n4 [v18] h17 → ∀ g4 : St,
        vP (lenV a0) fun v135 =>
        vP (binV .lss v18 v135) fun v136 =>
        vB v136 (CallH Tryd.prog 14 #[v30, v18] (fun v141 h18 =>
          vP (binV .add v18 (Value.int .i64 1)) fun v138 =>
          ∃ m4, m4 < n4 ∧ I4 m4 [v138] h18) h17)
        (CallH Tryd.prog 18 #[] (fun v142 h19 =>
        vP (gdW (gB v142 true) (some v30)) fun v144 =>
        vE (gB v142 true) (CallH Tryd.prog 21 #[v144]) (fun v145 h20 =>
        vP (gdW (gB v142 true) (lenV v145)) fun v146 =>
        vP (gdW (gB v142 true) (eqV 1 false v146 (Value.int .i64 0))) fun v147 =>
        vP (pickV v142 v147 (Value.bool false)) fun v148 =>
        vP (gdW (gB v148 true) (some v30)) fun v150 =>
        vE (gB v148 true) (CallH Tryd.prog 24 #[v150]) (fun v151 h21 =>
        vP (gdW (gB v148 true) (eqV 1 false v151 (Value.int .i64 0))) fun v152 =>
        vP (pickV v148 v152 (Value.bool false)) fun v153 =>
        K v153 h21) h20) h19) h17))) h15) h13)))) h)
theorem D7_eq (a0 a1 : Value) (K : Value → Hp → Prop) (h : Hp) : fnVC Tryd.prog Tryd.f7 x7 [a0, a1] K h = D7 a0 a1 K h := by kernel_rfl
theorem D7_ok : fnOk Tryd.prog Tryd.f7 x7 2 = true := by kernel_rfl
theorem C7 {a0 a1 : Value} {K : Value → Hp → Prop} {h : Hp} (hh : D7 a0 a1 K h) : CallH Tryd.prog 7 #[a0, a1] K h :=
  callH_of mixed Tryd.func7 x7 [a0, a1] D7_ok (D7_eq a0 a1 K h ▸ hh)

end Go.Proofs
