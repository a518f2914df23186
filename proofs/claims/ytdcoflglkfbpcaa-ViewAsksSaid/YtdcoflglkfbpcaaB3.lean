/-
  Texts of the proof, in one file: VwD1, VwD2, VwD3, VwD4, VwD5.
-/
import Derived.Test.YtdcoflglkfbpcaaB2
import Derived.Test.YtdcoflglkfbpcaaProg
set_option linter.unusedVariables false
set_option linter.unusedSimpArgs false
/-
  The conditions of some functions, as the printer wrote them out of the dump; the kernel checks that each is the function's own.
-/
set_option maxRecDepth 100000
namespace Go.Proofs
open Go.Sl
theorem mixed : Try.prog.follows .mixedOrders = true := by kernel_rfl
/- 14: treadmill/treadmillref1.Ints; slots: 0 a, 1 b, 2 a, 3 b, 5 i -/
def x14 : Ann := (.seq (.reg [] [(0, [])]) (.seq (.seq (.reg [] [(0, []), (1, []), (2, []), (3, []), (4, [])]) (.cond (.seq (.reg [] [(0, [])]) .leaf) .leaf)) (.seq (.seq (.reg [] [(0, [])]) (.blk (.loop [5] [11, 12, 13, 14, 17, 18, 19, 20, 21, 22, 23, 24, 25, 4, 15, 16, 5] (.seq (.seq (.reg [] [(0, []), (1, []), (2, []), (3, [])]) (.cond .leaf .leaf)) (.seq (.blk (.seq (.reg [0, 0, 3, 7, 0, 0, 48, 112, 255] [(0, []), (1, []), (2, []), (4, []), (5, []), (6, []), (3, []), (7, []), (8, [])]) (.cond (.seq (.reg [] [(0, [])]) .leaf) .leaf))) (.reg [] [(0, []), (1, []), (2, [])])))))) (.seq (.reg [] [(0, [])]) .leaf))))
def D14 (a0 a1 : Value) (K : Value → Hp → Prop) (h : Hp) : Prop :=
  vP (lenV a0) fun v7 =>
  vP (lenV a1) fun v9 =>
  vP (eqV 1 true v7 v9) fun v10 =>
  vB v10 (K (Value.bool false) h)
  (∃ I1 : Nat → List Value → Hp → Prop, (∃ n, I1 n [(Value.int .i64 0)] h) ∧
  ∀ n1 : Nat, ∀ v5 : Value, ∀ h1 : Hp, I1 n1 [v5] h1 → ∀ g1 : St,
    vP (lenV a0) fun v13 =>
    vP (binV .lss v5 v13) fun v14 =>
    vB v14 (vP (iaS 1 a0 v5) fun v19 =>
      vP (iaS 1 a1 v5) fun v23 =>
      vP (ld1 v19 h1) fun v20 =>
      vP (ld1 v23 h1) fun v24 =>
      vP (eqV 1 true v20 v24) fun v25 =>
      vB v25 (K (Value.bool false) h1)
      (vP (binV .add v5 (Value.int .i64 1)) fun v16 =>
      ∃ m1, m1 < n1 ∧ I1 m1 [v16] h1))
    (K (Value.bool true) h1))
theorem D14_eq (a0 a1 : Value) (K : Value → Hp → Prop) (h : Hp) : fnVC Try.prog Try.f14 x14 [a0, a1] K h = D14 a0 a1 K h := by kernel_rfl
theorem D14_ok : fnOk Try.prog Try.f14 x14 2 = true := by kernel_rfl
theorem C14 {a0 a1 : Value} {K : Value → Hp → Prop} {h : Hp} (hh : D14 a0 a1 K h) : CallH Try.prog 14 #[a0, a1] K h :=
  callH_of mixed Try.func14 x14 [a0, a1] D14_ok (D14_eq a0 a1 K h ▸ hh)

/- 21: treadmill/treadmillref1.Has; slots: 0 l, 1 x, 2 l, 3 x, 5 i -/
def x21 : Ann := (.seq (.reg [] [(0, [])]) (.seq (.seq (.reg [] [(0, [])]) (.blk (.loop [5] [6, 7, 8, 9, 12, 13, 14, 15, 16, 17, 4, 10, 11, 5] (.seq (.seq (.reg [] [(0, []), (1, []), (2, []), (3, [])]) (.cond .leaf .leaf)) (.seq (.blk (.seq (.reg [] [(0, []), (1, []), (2, []), (3, []), (4, []), (5, [])]) (.cond (.seq (.reg [] [(0, [])]) .leaf) .leaf))) (.reg [] [(0, []), (1, []), (2, [])])))))) (.seq (.reg [] [(0, [])]) .leaf)))
def D21 (a0 a1 : Value) (K : Value → Hp → Prop) (h : Hp) : Prop :=
  ∃ I1 : Nat → List Value → Hp → Prop, (∃ n, I1 n [(Value.int .i64 0)] h) ∧
  ∀ n1 : Nat, ∀ v5 : Value, ∀ h1 : Hp, I1 n1 [v5] h1 → ∀ g1 : St,
    vP (lenV a0) fun v8 =>
    vP (binV .lss v5 v8) fun v9 =>
    vB v9 (vP (iaS 1 a0 v5) fun v14 =>
      vP (ld1 v14 h1) fun v15 =>
      vP (eqV 1 false v15 a1) fun v17 =>
      vB v17 (K (Value.bool true) h1)
      (vP (binV .add v5 (Value.int .i64 1)) fun v11 =>
      ∃ m1, m1 < n1 ∧ I1 m1 [v11] h1))
    (K (Value.bool false) h1)
theorem D21_eq (a0 a1 : Value) (K : Value → Hp → Prop) (h : Hp) : fnVC Try.prog Try.f21 x21 [a0, a1] K h = D21 a0 a1 K h := by kernel_rfl
theorem D21_ok : fnOk Try.prog Try.f21 x21 2 = true := by kernel_rfl
theorem C21 {a0 a1 : Value} {K : Value → Hp → Prop} {h : Hp} (hh : D21 a0 a1 K h) : CallH Try.prog 21 #[a0, a1] K h :=
  callH_of mixed Try.func21 x21 [a0, a1] D21_ok (D21_eq a0 a1 K h ▸ hh)

/- 60: treadmill/treadmillref1.Put; slots: 0 l, 1 x, 2 l, 3 x, 5 i -/
def x60 : Ann := (.seq (.reg [] [(0, [])]) (.seq (.reg [] [(0, [])]) (.seq (.blk (.loop [5] [6, 7, 8, 9, 10, 11, 12, 13, 14, 15, 16, 17, 18, 19, 5] (.seq (.seq (.reg [] [(0, []), (1, []), (2, []), (3, []), (4, []), (5, []), (6, []), (7, []), (8, []), (9, []), (10, []), (11, [])]) (.cond .leaf .leaf)) (.blk (.reg [] [(0, []), (1, []), (2, [])]))))) (.seq (.seq (.reg [] [(0, []), (1, []), (2, []), (3, []), (4, []), (5, []), (6, []), (7, []), (8, []), (9, []), (10, []), (11, [])]) (.cond (.seq (.reg [] [(0, []), (1, [])]) .leaf) .leaf)) (.seq (.reg [0, 0, 0, 6, 15, 0, 32, 127, 0, 0, 768, 2047, 4095] [(1, []), (2, []), (3, []), (5, []), (8, []), (9, []), (10, []), (0, []), (4, []), (6, []), (7, []), (11, []), (12, [])]) .leaf)))))
def D60 (a0 a1 : Value) (K : Value → Hp → Prop) (h : Hp) : Prop :=
  ∃ I1 : Nat → List Value → Hp → Prop, (∃ n, I1 n [(Value.int .i64 0)] h) ∧
  ∀ n1 : Nat, ∀ v5 : Value, ∀ h1 : Hp, I1 n1 [v5] h1 → ∀ g1 : St,
    vP (lenV a0) fun v8 =>
    vP (binV .lss v5 v8) fun v9 =>
    vP (gdW (gB v9 true) (some a0)) fun v11 =>
    vP (gdW (gB v9 true) (some v5)) fun v12 =>
    vP (gdW (gB v9 true) (iaS 1 v11 v12)) fun v13 =>
    vP (gdW (gB v9 true) (ld1 v13 h1)) fun v14 =>
    vP (gdW (gB v9 true) (some a1)) fun v15 =>
    vP (gdW (gB v9 true) (binV .lss v14 v15)) fun v16 =>
    vP (pickV v9 v16 (Value.bool false)) fun v17 =>
    vB v17 (vP (binV .add v5 (Value.int .i64 1)) fun v19 =>
      ∃ m1, m1 < n1 ∧ I1 m1 [v19] h1)
    (vP (lenV a0) fun v22 =>
    vP (binV .lss v5 v22) fun v23 =>
    vP (gdW (gB v23 true) (some a0)) fun v25 =>
    vP (gdW (gB v23 true) (some v5)) fun v26 =>
    vP (gdW (gB v23 true) (iaS 1 v25 v26)) fun v27 =>
    vP (gdW (gB v23 true) (ld1 v27 h1)) fun v28 =>
    vP (gdW (gB v23 true) (some a1)) fun v29 =>
    vP (gdW (gB v23 true) (eqV 1 false v28 v29)) fun v30 =>
    vP (pickV v23 v30 (Value.bool false)) fun v31 =>
    vB v31 (K a0 h1)
    (vP (slV 1 a0 none (some v5) none) fun v36 =>
    vP (slV 1 a0 (some v5) none none) fun v43 =>
    vA ((bldV #[] []).map fun c => (Obj.cells c 3 (0, 0), fun r => Value.slice (some ⟨r, 0, none⟩) 0 0)) (fun v33 h2 =>
    apW Try.prog #[22, 22] 22 v33 v36 (fun v37 h3 =>
    vA ((bldV #[(Value.int .i64 0)] [(0, 1, a1)]).map fun c => (Obj.cells c 3 (0, 0), fun r => Value.slice (some ⟨r, 0, none⟩) 1 1)) (fun v39 h4 =>
    apW Try.prog #[22, 22] 22 v37 v39 (fun v40 h5 =>
    apW Try.prog #[22, 22] 22 v40 v43 (fun v44 h6 =>
    K v44 h6) h5) h4) h3) h2) h1))
theorem D60_eq (a0 a1 : Value) (K : Value → Hp → Prop) (h : Hp) : fnVC Try.prog Try.f60 x60 [a0, a1] K h = D60 a0 a1 K h := by kernel_rfl
theorem D60_ok : fnOk Try.prog Try.f60 x60 2 = true := by kernel_rfl
theorem C60 {a0 a1 : Value} {K : Value → Hp → Prop} {h : Hp} (hh : D60 a0 a1 K h) : CallH Try.prog 60 #[a0, a1] K h :=
  callH_of mixed Try.func60 x60 [a0, a1] D60_ok (D60_eq a0 a1 K h ▸ hh)

/- 81: treadmill/treadmillref1.Size; slots: 0 k, 1 k -/
def x81 : Ann := (.seq (.reg [] [(0, [])]) (.seq (.seq (.reg [] [(0, []), (1, []), (2, []), (3, []), (4, []), (5, [])]) (.cond (.seq (.reg [] [(0, [])]) .leaf) .leaf)) (.seq (.reg [] [(0, []), (1, []), (2, []), (3, []), (4, [])]) .leaf)))
def D81 (a0 : Value) (K : Value → Hp → Prop) (h : Hp) : Prop :=
  vP (binV .lss a0 (Value.int .i64 0)) fun v4 =>
  vP (gdW (gB v4 false) (some a0)) fun v6 =>
  vP (gdW (gB v4 false) (binV .gtr v6 (Value.int .i64 15))) fun v7 =>
  vP (pickV v4 (Value.bool true) v7) fun v8 =>
  vB v8 (K (Value.int .i64 0) h)
  (CallH Try.prog 89 #[] (fun v9 h1 =>
  vP (iaS 1 v9 a0) fun v11 =>
  vP (ld1 v11 h1) fun v12 =>
  K v12 h1) h)
theorem D81_eq (a0 : Value) (K : Value → Hp → Prop) (h : Hp) : fnVC Try.prog Try.f81 x81 [a0] K h = D81 a0 K h := by kernel_rfl
theorem D81_ok : fnOk Try.prog Try.f81 x81 1 = true := by kernel_rfl
theorem C81 {a0 : Value} {K : Value → Hp → Prop} {h : Hp} (hh : D81 a0 K h) : CallH Try.prog 81 #[a0] K h :=
  callH_of mixed Try.func81 x81 [a0] D81_ok (D81_eq a0 K h ▸ hh)

/- 82: treadmill/treadmillref1.Of; slots: 0 n, 1 n, 3 k -/
def x82 : Ann := (.seq (.reg [] [(0, [])]) (.seq (.seq (.reg [] [(0, []), (1, []), (2, []), (3, []), (4, []), (5, [])]) (.cond (.seq (.reg [] [(0, [])]) .leaf) .leaf)) (.seq (.reg [] [(0, [])]) (.seq (.blk (.loop [3] [10, 11, 12, 13, 14, 15, 3] (.seq (.seq (.reg [] [(0, []), (1, []), (2, []), (3, [])]) (.cond .leaf .leaf)) (.blk (.reg [] [(0, []), (1, []), (2, [])]))))) (.seq (.reg [] [(0, []), (1, [])]) .leaf)))))
def D82 (a0 : Value) (K : Value → Hp → Prop) (h : Hp) : Prop :=
  vP (binV .lss a0 (Value.int .i64 1)) fun v5 =>
  vP (gdW (gB v5 false) (some a0)) fun v7 =>
  vP (gdW (gB v5 false) (binV .gtr v7 (Value.int .i64 256))) fun v8 =>
  vP (pickV v5 (Value.bool true) v8) fun v9 =>
  vB v9 (K (Value.int .i64 (-1)) h)
  (∃ I1 : Nat → List Value → Hp → Prop, (∃ n, I1 n [(Value.int .i64 0)] h) ∧
  ∀ n1 : Nat, ∀ v3 : Value, ∀ h1 : Hp, I1 n1 [v3] h1 → ∀ g1 : St,
    CallH Try.prog 81 #[v3] (fun v11 h2 =>
    vP (binV .lss v11 a0) fun v13 =>
    vB v13 (vP (binV .add v3 (Value.int .i64 1)) fun v15 =>
      ∃ m1, m1 < n1 ∧ I1 m1 [v15] h2)
    (K v3 h2)) h1)
theorem D82_eq (a0 : Value) (K : Value → Hp → Prop) (h : Hp) : fnVC Try.prog Try.f82 x82 [a0] K h = D82 a0 K h := by kernel_rfl
theorem D82_ok : fnOk Try.prog Try.f82 x82 1 = true := by kernel_rfl
theorem C82 {a0 : Value} {K : Value → Hp → Prop} {h : Hp} (hh : D82 a0 K h) : CallH Try.prog 82 #[a0] K h :=
  callH_of mixed Try.func82 x82 [a0] D82_ok (D82_eq a0 K h ▸ hh)

/- 89: treadmill/treadmillref1.Sizes; slots:  -/
def x89 : Ann := (.seq (.reg [] [(0, [])]) (.seq (.reg [] [(0, []), (1, [])]) .leaf))
def D89 (K : Value → Hp → Prop) (h : Hp) : Prop :=
  vA ((bldV #[(Value.int .i64 0), (Value.int .i64 0), (Value.int .i64 0), (Value.int .i64 0), (Value.int .i64 0), (Value.int .i64 0), (Value.int .i64 0), (Value.int .i64 0), (Value.int .i64 0), (Value.int .i64 0), (Value.int .i64 0), (Value.int .i64 0), (Value.int .i64 0), (Value.int .i64 0), (Value.int .i64 0), (Value.int .i64 0)] [(0, 1, (Value.int .i64 1)), (1, 1, (Value.int .i64 2)), (2, 1, (Value.int .i64 3)), (3, 1, (Value.int .i64 4)), (4, 1, (Value.int .i64 6)), (5, 1, (Value.int .i64 8)), (6, 1, (Value.int .i64 12)), (7, 1, (Value.int .i64 16)), (8, 1, (Value.int .i64 24)), (9, 1, (Value.int .i64 32)), (10, 1, (Value.int .i64 48)), (11, 1, (Value.int .i64 64)), (12, 1, (Value.int .i64 96)), (13, 1, (Value.int .i64 128)), (14, 1, (Value.int .i64 192)), (15, 1, (Value.int .i64 256))]).map fun c => (Obj.cells c 3 (0, 0), fun r => Value.slice (some ⟨r, 0, none⟩) 16 16)) (fun v1 h1 =>
  K v1 h1) h
theorem D89_eq (K : Value → Hp → Prop) (h : Hp) : fnVC Try.prog Try.f89 x89 [] K h = D89  K h := by kernel_rfl
theorem D89_ok : fnOk Try.prog Try.f89 x89 0 = true := by kernel_rfl
theorem C89 {K : Value → Hp → Prop} {h : Hp} (hh : D89  K h) : CallH Try.prog 89 #[] K h :=
  callH_of mixed Try.func89 x89 [] D89_ok (D89_eq  K h ▸ hh)

/- 50: treadmill/class.Of; slots: 0 n, 1 n, 3 k, 4 s -/
def x50 : Ann := (.seq (.reg [] [(0, [])]) (.seq (.seq (.reg [] [(0, []), (1, [])]) (.blk (.loop [6] [7, 8, 9, 3, 4, 10, 11, 12, 13, 14, 15, 16, 17, 2, 18, 6] (.seq (.reg [] [(0, [])]) (.seq (.cond .leaf .leaf) (.seq (.blk (.seq (.reg [] [(0, []), (1, []), (2, []), (3, [])]) (.seq (.reg [] [(0, []), (1, []), (2, []), (3, []), (4, []), (5, []), (6, [])]) (.cond (.seq (.reg [] [(0, []), (1, [])]) .leaf) .leaf)))) (.reg [] [(0, []), (1, [])]))))))) (.seq (.reg [] [(0, [])]) .leaf)))
def D50 (a0 : Value) (K : Value → Hp → Prop) (h : Hp) : Prop :=
  CallH Try.prog 71 #[] (fun v5 h1 =>
  ∃ I1 : Nat → List Value → Hp → Prop, (∃ n, I1 n [(Value.int .i64 0)] h1) ∧
  ∀ n1 : Nat, ∀ v6 : Value, ∀ h2 : Hp, I1 n1 [v6] h2 → ∀ g1 : St,
    vP (binV .lss v6 (Value.int .i64 16)) fun v7 =>
    vB v7 (vP (ixA false 16 1 v5 v6) fun v9 =>
      vP (binV .geq a0 (Value.int .i64 1)) fun v11 =>
      vP (gdW (gB v11 true) (some a0)) fun v13 =>
      vP (gdW (gB v11 true) (some v9)) fun v14 =>
      vP (gdW (gB v11 true) (binV .leq v13 v14)) fun v15 =>
      vP (pickV v11 v15 (Value.bool false)) fun v16 =>
      vB v16 (K v6 h2)
      (vP (binV .add v6 (Value.int .i64 1)) fun v18 =>
      ∃ m1, m1 < n1 ∧ I1 m1 [v18] h2))
    (K (Value.int .i64 (-1)) h2)) h
theorem D50_eq (a0 : Value) (K : Value → Hp → Prop) (h : Hp) : fnVC Try.prog Try.f50 x50 [a0] K h = D50 a0 K h := by kernel_rfl
theorem D50_ok : fnOk Try.prog Try.f50 x50 1 = true := by kernel_rfl
theorem C50 {a0 : Value} {K : Value → Hp → Prop} {h : Hp} (hh : D50 a0 K h) : CallH Try.prog 50 #[a0] K h :=
  callH_of mixed Try.func50 x50 [a0] D50_ok (D50_eq a0 K h ▸ hh)

/- 51: treadmill/class.Size; slots: 0 k, 1 k -/
def x51 : Ann := (.seq (.reg [] [(0, [])]) (.seq (.seq (.reg [] [(0, []), (1, []), (2, []), (3, []), (4, []), (5, []), (6, [])]) (.cond (.seq (.reg [] [(0, [])]) .leaf) .leaf)) (.seq (.reg [] [(0, []), (1, []), (2, []), (3, [])]) .leaf)))
def D51 (a0 : Value) (K : Value → Hp → Prop) (h : Hp) : Prop :=
  vP (binV .lss a0 (Value.int .i64 0)) fun v4 =>
  vP (gdW (gB v4 false) (some a0)) fun v6 =>
  vE (gB v4 false) (CallH Try.prog 72 #[]) (fun v7 h1 =>
  vP (gdW (gB v4 false) (binV .geq v6 v7)) fun v8 =>
  vP (pickV v4 (Value.bool true) v8) fun v9 =>
  vB v9 (K (Value.int .i64 0) h1)
  (CallH Try.prog 71 #[] (fun v10 h2 =>
  vP (ixA false 16 1 v10 a0) fun v12 =>
  K v12 h2) h1)) h
theorem D51_eq (a0 : Value) (K : Value → Hp → Prop) (h : Hp) : fnVC Try.prog Try.f51 x51 [a0] K h = D51 a0 K h := by kernel_rfl
theorem D51_ok : fnOk Try.prog Try.f51 x51 1 = true := by kernel_rfl
theorem C51 {a0 : Value} {K : Value → Hp → Prop} {h : Hp} (hh : D51 a0 K h) : CallH Try.prog 51 #[a0] K h :=
  callH_of mixed Try.func51 x51 [a0] D51_ok (D51_eq a0 K h ▸ hh)

/- 71: treadmill/class.table; slots:  -/
def x71 : Ann := (.seq (.reg [] [(0, [])]) (.seq (.reg [] [(0, []), (1, [])]) .leaf))
def D71 (K : Value → Hp → Prop) (h : Hp) : Prop :=
  vA (some (Obj.cells #[(Value.int .i64 0), (Value.int .i64 0), (Value.int .i64 0), (Value.int .i64 0), (Value.int .i64 0), (Value.int .i64 0), (Value.int .i64 0), (Value.int .i64 0), (Value.int .i64 0), (Value.int .i64 0), (Value.int .i64 0), (Value.int .i64 0), (Value.int .i64 0), (Value.int .i64 0), (Value.int .i64 0), (Value.int .i64 0)] 78 (0, 0), ptrV)) (fun v0 h1 =>
  vP ((bldV #[(Value.int .i64 0), (Value.int .i64 0), (Value.int .i64 0), (Value.int .i64 0), (Value.int .i64 0), (Value.int .i64 0), (Value.int .i64 0), (Value.int .i64 0), (Value.int .i64 0), (Value.int .i64 0), (Value.int .i64 0), (Value.int .i64 0), (Value.int .i64 0), (Value.int .i64 0), (Value.int .i64 0), (Value.int .i64 0)] [(0, 1, (Value.int .i64 1)), (1, 1, (Value.int .i64 2)), (2, 1, (Value.int .i64 3)), (3, 1, (Value.int .i64 4)), (4, 1, (Value.int .i64 6)), (5, 1, (Value.int .i64 8)), (6, 1, (Value.int .i64 12)), (7, 1, (Value.int .i64 16)), (8, 1, (Value.int .i64 24)), (9, 1, (Value.int .i64 32)), (10, 1, (Value.int .i64 48)), (11, 1, (Value.int .i64 64)), (12, 1, (Value.int .i64 96)), (13, 1, (Value.int .i64 128)), (14, 1, (Value.int .i64 192)), (15, 1, (Value.int .i64 256))]).map Value.agg) fun v1 =>
  stN 16 v0 v1 (fun _ h2 =>
  vP (ldN 16 v0 h2) fun r0 => K r0 h2) h1) h
theorem D71_eq (K : Value → Hp → Prop) (h : Hp) : fnVC Try.prog Try.f71 x71 [] K h = D71  K h := by kernel_rfl
theorem D71_ok : fnOk Try.prog Try.f71 x71 0 = true := by kernel_rfl
theorem C71 {K : Value → Hp → Prop} {h : Hp} (hh : D71  K h) : CallH Try.prog 71 #[] K h :=
  callH_of mixed Try.func71 x71 [] D71_ok (D71_eq  K h ▸ hh)

/- 72: treadmill/class.Count; slots:  -/
def x72 : Ann := (.seq (.reg [] [(0, [])]) (.seq (.reg [] [(0, []), (1, []), (2, [])]) .leaf))
def D72 (K : Value → Hp → Prop) (h : Hp) : Prop :=
  CallH Try.prog 71 #[] (fun v1 h1 =>
  K (Value.int .i64 16) h1) h
theorem D72_eq (K : Value → Hp → Prop) (h : Hp) : fnVC Try.prog Try.f72 x72 [] K h = D72  K h := by kernel_rfl
theorem D72_ok : fnOk Try.prog Try.f72 x72 0 = true := by kernel_rfl
theorem C72 {K : Value → Hp → Prop} {h : Hp} (hh : D72  K h) : CallH Try.prog 72 #[] K h :=
  callH_of mixed Try.func72 x72 [] D72_ok (D72_eq  K h ▸ hh)

/- 86: treadmill/audit.size; slots: 0 o, 1 o, 3 k -/
def x86 : Ann := (.seq (.reg [] [(0, []), (1, [])]) (.seq (.seq (.reg [] [(0, []), (1, []), (2, []), (3, []), (4, [])]) (.seq (.reg [] [(0, []), (1, [])]) (.cond (.seq (.reg [] [(0, []), (1, []), (2, [])]) .leaf) .leaf))) (.seq (.reg [] [(0, [])]) .leaf)))
def D86 (a0 : Value) (K : Value → Hp → Prop) (h : Hp) : Prop :=
  vA (some (Obj.cells (Value.cells a0) 30 (0, 0), ptrV)) (fun v1 h1 =>
  vP (faV 1 v1) fun v4 =>
  vP (ld1 v4 h1) fun v5 =>
  vP (lenV v5) fun v6 =>
  CallH Try.prog 50 #[v6] (fun v7 h2 =>
  vP (binV .geq v7 (Value.int .i64 0)) fun v9 =>
  vB v9 (CallH Try.prog 51 #[v7] (fun v11 h3 =>
    K v11 h3) h2)
  (K (Value.int .i64 0) h2)) h1) h
theorem D86_eq (a0 : Value) (K : Value → Hp → Prop) (h : Hp) : fnVC Try.prog Try.f86 x86 [a0] K h = D86 a0 K h := by kernel_rfl
theorem D86_ok : fnOk Try.prog Try.f86 x86 1 = true := by kernel_rfl
theorem C86 {a0 : Value} {K : Value → Hp → Prop} {h : Hp} (hh : D86 a0 K h) : CallH Try.prog 86 #[a0] K h :=
  callH_of mixed Try.func86 x86 [a0] D86_ok (D86_eq a0 K h ▸ hh)

/- 61: treadmill/treadmillref29.size; slots: 0 o, 1 o -/
def x61 : Ann := (.seq (.reg [] [(0, []), (1, [])]) (.seq (.reg [] [(0, []), (1, []), (2, []), (3, []), (4, []), (5, [])]) .leaf))
def D61 (a0 : Value) (K : Value → Hp → Prop) (h : Hp) : Prop :=
  vA (some (Obj.cells (Value.cells a0) 30 (0, 0), ptrV)) (fun v1 h1 =>
  vP (faV 1 v1) fun v3 =>
  vP (ld1 v3 h1) fun v4 =>
  vP (lenV v4) fun v5 =>
  CallH Try.prog 82 #[v5] (fun v6 h2 =>
  CallH Try.prog 81 #[v6] (fun v7 h3 =>
  K v7 h3) h2) h1) h
theorem D61_eq (a0 : Value) (K : Value → Hp → Prop) (h : Hp) : fnVC Try.prog Try.f61 x61 [a0] K h = D61 a0 K h := by kernel_rfl
theorem D61_ok : fnOk Try.prog Try.f61 x61 1 = true := by kernel_rfl
theorem C61 {a0 : Value} {K : Value → Hp → Prop} {h : Hp} (hh : D61 a0 K h) : CallH Try.prog 61 #[a0] K h :=
  callH_of mixed Try.func61 x61 [a0] D61_ok (D61_eq a0 K h ▸ hh)

end Go.Proofs

/-
  The conditions of some functions, as the printer wrote them out of the dump; the kernel checks that each is the function's own.
-/
set_option maxRecDepth 100000
namespace Go.Proofs
open Go.Sl
/- 41: treadmill/view.places; slots: 0 v, 1 v, 3 m, 4 i, 5 o, 6 _, 7 ok -/
def x41 : Ann := (.seq (.reg [] [(0, []), (1, [])]) (.seq (.reg [] [(0, []), (1, [])]) (.seq (.seq (.reg [] [(0, []), (1, []), (2, []), (3, [])]) (.blk (.loop [12] [13, 14, 15, 16, 5, 4, 18, 19, 20, 21, 17, 22, 23, 6, 7, 24, 25, 26, 27, 28, 29, 30, 12] (.seq (.reg [] [(0, [])]) (.seq (.cond .leaf .leaf) (.join [] [14, 15, 16, 5, 4, 18, 19, 20, 21, 17, 22, 23, 6, 7, 24, 25, 26, 27, 28, 29] (.blk (.seq (.reg [] [(0, []), (1, []), (2, []), (3, []), (4, []), (5, [])]) (.seq (.reg [] [(0, []), (1, []), (2, []), (3, []), (4, []), (5, []), (6, []), (7, []), (8, [])]) (.seq (.reg [] [(0, []), (1, [])]) (.cond (.reg [] [(0, []), (1, []), (2, []), (3, []), (4, [])]) .leaf))))) (.reg [] [(0, []), (1, [])]))))))) (.seq (.reg [] [(0, []), (1, [])]) .leaf))))
def D41 (a0 : Value) (K : Value → Hp → Prop) (h : Hp) : Prop :=
  vA (some (Obj.cells (Value.cells a0) 26 (0, 0), ptrV)) (fun v1 h1 =>
  vA (some (Obj.map #[] 0, fun r => Value.map (some r))) (fun v8 h2 =>
  vP (faV 5 v1) fun v9 =>
  vP (ld1 v9 h2) fun v10 =>
  vP (lenV v10) fun v11 =>
  ∃ I1 : Nat → List Value → Hp → Prop, (∃ n, I1 n [(Value.int .i64 0)] h2) ∧
  ∀ n1 : Nat, ∀ v12 : Value, ∀ h3 : Hp, I1 n1 [v12] h3 → ∀ g1 : St,
    vP (binV .lss v12 v11) fun v13 =>
    vB v13 (∀ J2 : List Value → Hp → Prop, (∀ h4 : Hp, (∀ g2 : St,
        vP (binV .add v12 (Value.int .i64 1)) fun v30 =>
        ∃ m1, m1 < n1 ∧ I1 m1 [v30] h4) → J2 [] h4) →
      vP (iaS 3 v10 v12) fun v15 =>
      vP (ldN 3 v15 h3) fun v16 =>
      vA (some (Obj.cells #[(Value.int .i64 0), (Value.slice none 0 0), (Value.bool false)] 30 (0, 0), ptrV)) (fun v5 h5 =>
      stN 3 v5 v16 (fun _ h6 =>
      vP (faV 0 v5) fun v19 =>
      vP (ld1 v19 h6) fun v20 =>
      vP (lkV Try.prog 51 v8 v20 true h6) fun v21 =>
      vP (exV v21 0) fun v22 =>
      vP (exV v21 1) fun v23 =>
      vP (unV .not v23) fun v25 =>
      vB v25 (vP (faV 0 v5) fun v27 =>
        vP (ld1 v27 h6) fun v28 =>
        muW Try.prog 51 v8 v28 v12 (fun _ h7 =>
        J2 [] h7) h6)
      (J2 [] h6)) h5) h3)
    (K v8 h3)) h1) h
theorem D41_eq (a0 : Value) (K : Value → Hp → Prop) (h : Hp) : fnVC Try.prog Try.f41 x41 [a0] K h = D41 a0 K h := by kernel_rfl
theorem D41_ok : fnOk Try.prog Try.f41 x41 1 = true := by kernel_rfl
theorem C41 {a0 : Value} {K : Value → Hp → Prop} {h : Hp} (hh : D41 a0 K h) : CallH Try.prog 41 #[a0] K h :=
  callH_of mixed Try.func41 x41 [a0] D41_ok (D41_eq a0 K h ▸ hh)

/- 46: treadmill/view.walk; slots: 0 v, 1 v, 2 there, 3 lost, 4 at, 5 l, 6 seen, 7 _, 8 a, 9 i, 10 k, 11 ok, 12 _, 13 a -/
def x46 : Ann := (.seq (.reg [] [(0, []), (1, []), (2, [])]) (.seq (.reg [] [(0, []), (1, []), (2, [])]) (.seq (.reg [] [(0, []), (1, []), (2, [])]) (.seq (.reg [] [(0, []), (1, []), (2, []), (3, [])]) (.seq (.seq (.reg [] [(0, []), (1, []), (2, [])]) (.blk (.loop [22] [23, 24, 25, 8, 26, 27, 28, 22] (.seq (.reg [] [(0, [])]) (.seq (.cond .leaf .leaf) (.seq (.blk (.seq (.reg [] [(0, []), (1, []), (2, [])]) (.reg [] [(0, []), (1, []), (2, [])]))) (.reg [] [(0, []), (1, [])]))))))) (.seq (.seq (.reg [] [(0, [])]) (.blk (.loop [9, 5, 3, 2] [29, 30, 31, 32, 36, 37, 38, 39, 40, 41, 35, 42, 43, 10, 11, 44, 45, 46, 47, 48, 49, 50, 51, 52, 3, 53, 54, 55, 56, 57, 58, 59, 2, 60, 61, 62, 63, 64, 65, 66, 67, 68, 69, 70, 13, 71, 72, 73, 74, 75, 76, 77, 78, 79, 80, 5, 81, 33, 34, 9] (.seq (.seq (.reg [] [(0, []), (1, []), (2, []), (3, [])]) (.cond .leaf .leaf)) (.join [5, 3, 2] [36, 37, 38, 39, 40, 41, 35, 42, 43, 10, 11, 44, 45, 46, 47, 48, 49, 50, 51, 52, 3, 53, 54, 55, 56, 57, 58, 59, 2, 60, 61, 62, 63, 64, 65, 66, 67, 68, 69, 70, 13, 71, 72, 73, 74, 75, 76, 77, 78, 79, 80, 5, 81] (.blk (.seq (.reg [] [(0, []), (1, []), (2, []), (3, []), (4, []), (5, []), (6, []), (7, []), (8, []), (9, []), (10, [])]) (.seq (.seq (.reg [] [(0, []), (1, [])]) (.cond (.seq (.reg [] [(0, []), (1, []), (2, []), (3, []), (4, []), (5, []), (6, []), (7, [])]) .leaf) .leaf)) (.seq (.reg [] [(0, []), (1, []), (2, []), (3, []), (4, []), (5, []), (6, []), (7, [])]) (.seq (.reg [] [(0, []), (1, []), (2, []), (3, []), (4, []), (5, []), (6, []), (7, [])]) (.blk (.loop [67, 5] [68, 69, 70, 13, 71, 72, 73, 74, 75, 76, 77, 78, 79, 80, 5, 81, 67] (.seq (.reg [] [(0, [])]) (.seq (.cond .leaf .leaf) (.join [5] [69, 70, 13, 71, 72, 73, 74, 75, 76, 77, 78, 79, 80, 5] (.blk (.seq (.reg [] [(0, []), (1, []), (2, [])]) (.seq (.reg [] [(0, []), (1, []), (2, []), (3, [])]) (.cond (.seq (.reg [] [(0, []), (1, []), (2, [])]) (.reg [] [(0, []), (1, []), (2, []), (3, []), (4, [])])) .leaf)))) (.reg [] [(0, []), (1, [])]))))))))))) (.reg [] [(0, []), (1, []), (2, [])])))))) (.seq (.reg [] [(0, []), (1, [])]) (.seq (.reg [] [(0, []), (1, [])]) (.seq (.reg [] [(0, []), (1, []), (2, []), (3, [])]) .leaf)))))))))
def D46 (a0 : Value) (K : Value → Hp → Prop) (h : Hp) : Prop :=
  vA (some (Obj.cells (Value.cells a0) 26 (0, 0), ptrV)) (fun v1 h1 =>
  vP (ldN 9 v1 h1) fun v14 =>
  CallH Try.prog 41 #[v14] (fun v15 h2 =>
  vP (ldN 9 v1 h2) fun v16 =>
  CallH Try.prog 19 #[v16] (fun v17 h3 =>
  vA (some (Obj.map #[] 0, fun r => Value.map (some r))) (fun v18 h4 =>
  muW Try.prog 51 v18 (Value.int .i64 0) (Value.int .i64 1) (fun _ h5 =>
  vP (lenV v17) fun v21 =>
  ∃ I1 : Nat → List Value → Hp → Prop, (∃ n, I1 n [(Value.int .i64 0)] h5) ∧
  ∀ n1 : Nat, ∀ v22 : Value, ∀ h6 : Hp, I1 n1 [v22] h6 → ∀ g1 : St,
    vP (binV .lss v22 v21) fun v23 =>
    vB v23 (vP (iaS 1 v17 v22) fun v24 =>
      vP (ld1 v24 h6) fun v25 =>
      muW Try.prog 51 v18 v25 (Value.int .i64 1) (fun _ h7 =>
      vP (binV .add v22 (Value.int .i64 1)) fun v28 =>
      ∃ m1, m1 < n1 ∧ I1 m1 [v28] h7) h6)
    (∃ I2 : Nat → List Value → Hp → Prop, (∃ n, I2 n [(Value.int .i64 0), v17, (Value.slice none 0 0), (Value.slice none 0 0)] h6) ∧
    ∀ n2 : Nat, ∀ v9 v5 v3 v2 : Value, ∀ h8 : Hp, I2 n2 [v9, v5, v3, v2] h8 → ∀ g2 : St,
      vP (lenV v5) fun v31 =>
      vP (binV .lss v9 v31) fun v32 =>
      vB v32 (∀ J3 : List Value → Hp → Prop, (∀ v5_1 v3_1 v2_1 : Value, ∀ h9 : Hp, (∀ g3 : St,
          vP (binV .add v9 (Value.int .i64 1)) fun v34 =>
          ∃ m2, m2 < n2 ∧ I2 m2 [v34, v5_1, v3_1, v2_1] h9) → J3 [v5_1, v3_1, v2_1] h9) →
        vP (iaS 1 v5 v9) fun v39 =>
        vP (ld1 v39 h8) fun v40 =>
        vP (lkV Try.prog 51 v15 v40 true h8) fun v41 =>
        vP (exV v41 0) fun v42 =>
        vP (exV v41 1) fun v43 =>
        vP (unV .not v43) fun v45 =>
        vB v45 (vP (iaS 1 v5 v9) fun v49 =>
          vP (ld1 v49 h8) fun v50 =>
          vA ((bldV #[(Value.int .i64 0)] [(0, 1, v50)]).map fun c => (Obj.cells c 3 (0, 0), fun r => Value.slice (some ⟨r, 0, none⟩) 1 1)) (fun v51 h10 =>
          apW Try.prog #[22, 22] 22 v3 v51 (fun v52 h11 =>
          J3 [v5, v52, v2] h11) h10) h8)
        (vP (iaS 1 v5 v9) fun v56 =>
        vP (ld1 v56 h8) fun v57 =>
        vA ((bldV #[(Value.int .i64 0)] [(0, 1, v57)]).map fun c => (Obj.cells c 3 (0, 0), fun r => Value.slice (some ⟨r, 0, none⟩) 1 1)) (fun v58 h12 =>
        apW Try.prog #[22, 22] 22 v2 v58 (fun v59 h13 =>
        vP (faV 5 v1) fun v60 =>
        vP (ld1 v60 h13) fun v61 =>
        vP (iaS 3 v61 v42) fun v63 =>
        vP (faV 1 v63) fun v64 =>
        vP (ld1 v64 h13) fun v65 =>
        vP (lenV v65) fun v66 =>
        ∃ I4 : Nat → List Value → Hp → Prop, (∃ n, I4 n [(Value.int .i64 0), v5] h13) ∧
        ∀ n4 : Nat, ∀ v67 v5_2 : Value, ∀ h14 : Hp, I4 n4 [v67, v5_2] h14 → ∀ g4 : St,
          vP (binV .lss v67 v66) fun v68 =>
          vB v68 (∀ J5 : List Value → Hp → Prop, (∀ v5_3 : Value, ∀ h15 : Hp, (∀ g5 : St,
              vP (binV .add v67 (Value.int .i64 1)) fun v81 =>
              ∃ m4, m4 < n4 ∧ I4 m4 [v81, v5_3] h15) → J5 [v5_3] h15) →
            vP (iaS 1 v65 v67) fun v69 =>
            vP (ld1 v69 h14) fun v70 =>
            vP (lkV Try.prog 51 v18 v70 false h14) fun v73 =>
            vP (eqV 1 false v73 (Value.int .i64 0)) fun v74 =>
            vB v74 (muW Try.prog 51 v18 v70 (Value.int .i64 1) (fun _ h16 =>
              vA ((bldV #[(Value.int .i64 0)] [(0, 1, v70)]).map fun c => (Obj.cells c 3 (0, 0), fun r => Value.slice (some ⟨r, 0, none⟩) 1 1)) (fun v79 h17 =>
              apW Try.prog #[22, 22] 22 v5_2 v79 (fun v80 h18 =>
              J5 [v80] h18) h17) h16) h14)
            (J5 [v5_2] h14))
          (J3 [v5_2, v3, v59] h14)) h12) h8))
      (CallH Try.prog 68 #[v2] (fun v83 h19 =>
      CallH Try.prog 68 #[v3] (fun v85 h20 =>
      K (Value.tuple #[v2, v3]) h20) h19) h8))) h4) h3) h2) h1) h
theorem D46_eq (a0 : Value) (K : Value → Hp → Prop) (h : Hp) : fnVC Try.prog Try.f46 x46 [a0] K h = D46 a0 K h := by kernel_rfl
theorem D46_ok : fnOk Try.prog Try.f46 x46 1 = true := by kernel_rfl
theorem C46 {a0 : Value} {K : Value → Hp → Prop} {h : Hp} (hh : D46 a0 K h) : CallH Try.prog 46 #[a0] K h :=
  callH_of mixed Try.func46 x46 [a0] D46_ok (D46_eq a0 K h ▸ hh)

/- 19: treadmill/view.Roots; slots: 0 v, 1 v, 3 out, 4 seen, 5 add, 6 _, 7 g -/
def x19 : Ann := (.seq (.reg [] [(0, []), (1, [])]) (.seq (.reg [] [(0, [])]) (.seq (.reg [] [(0, []), (1, []), (2, []), (3, []), (4, [])]) (.seq (.reg [] [(0, []), (1, [])]) (.seq (.reg [] [(0, []), (1, []), (2, []), (3, [])]) (.seq (.seq (.reg [] [(0, []), (1, []), (2, []), (3, [])]) (.blk (.loop [18] [19, 20, 21, 7, 22, 23, 24, 25, 26, 27, 28, 29, 18] (.seq (.reg [] [(0, [])]) (.seq (.cond .leaf .leaf) (.join [] [20, 21, 7, 22, 23, 24, 25, 26, 27, 28] (.blk (.seq (.reg [] [(0, []), (1, []), (2, []), (3, [])]) (.seq (.reg [] [(0, []), (1, []), (2, [])]) (.cond (.reg [] [(0, []), (1, []), (2, []), (3, [])]) .leaf)))) (.reg [] [(0, []), (1, [])]))))))) (.seq (.reg [] [(0, []), (1, [])]) .leaf)))))))
def D19 (a0 : Value) (K : Value → Hp → Prop) (h : Hp) : Prop :=
  vA (some (Obj.cells (Value.cells a0) 26 (0, 0), ptrV)) (fun v1 h1 =>
  vA (some (Obj.cells #[(Value.slice none 0 0)] 22 (0, 0), ptrV)) (fun v3 h2 =>
  vA (some (Obj.map #[] 0, fun r => Value.map (some r))) (fun v8 h3 =>
  muW Try.prog 51 v8 (Value.int .i64 0) (Value.int .i64 1) (fun _ h4 =>
  vA (some (Obj.cells #[(Value.map none)] 51 (0, 0), ptrV)) (fun v4 h5 =>
  st1 v4 v8 (fun _ h6 =>
  vP (some (Value.func (.func 47) #[] #[v4, v3])) fun v10 =>
  vP (faV 3 v1) fun v12 =>
  vP (ld1 v12 h6) fun v13 =>
  cvW Try.prog v10 #[v13] (fun v14 h7 =>
  vP (faV 4 v1) fun v15 =>
  vP (ld1 v15 h7) fun v16 =>
  vP (lenV v16) fun v17 =>
  ∃ I1 : Nat → List Value → Hp → Prop, (∃ n, I1 n [(Value.int .i64 0)] h7) ∧
  ∀ n1 : Nat, ∀ v18 : Value, ∀ h8 : Hp, I1 n1 [v18] h8 → ∀ g1 : St,
    vP (binV .lss v18 v17) fun v19 =>
    vB v19 (∀ J2 : List Value → Hp → Prop, (∀ h9 : Hp, (∀ g2 : St,
        vP (binV .add v18 (Value.int .i64 1)) fun v29 =>
        ∃ m1, m1 < n1 ∧ I1 m1 [v29] h9) → J2 [] h9) →
      vP (iaS 3 v16 v18) fun v20 =>
      vP (ldN 3 v20 h8) fun v21 =>
      vA (some (Obj.cells #[(Value.int .i64 0), (Value.int .i64 0), (Value.slice none 0 0)] 41 (0, 0), ptrV)) (fun v7 h10 =>
      stN 3 v7 v21 (fun _ h11 =>
      vP (faV 0 v7) fun v22 =>
      vP (ld1 v22 h11) fun v23 =>
      vP (eqV 1 true v23 (Value.int .i64 5)) fun v24 =>
      vB v24 (vP (faV 2 v7) fun v26 =>
        vP (ld1 v26 h11) fun v27 =>
        cvW Try.prog v10 #[v27] (fun v28 h12 =>
        J2 [] h12) h11)
      (J2 [] h11)) h10) h8)
    (vP (ld1 v3 h8) fun v30 =>
    K v30 h8)) h6) h5) h4) h3) h2) h1) h
theorem D19_eq (a0 : Value) (K : Value → Hp → Prop) (h : Hp) : fnVC Try.prog Try.f19 x19 [a0] K h = D19 a0 K h := by kernel_rfl
theorem D19_ok : fnOk Try.prog Try.f19 x19 1 = true := by kernel_rfl
theorem C19 {a0 : Value} {K : Value → Hp → Prop} {h : Hp} (hh : D19 a0 K h) : CallH Try.prog 19 #[a0] K h :=
  callH_of mixed Try.func19 x19 [a0] D19_ok (D19_eq a0 K h ▸ hh)

/- 47: treadmill/view.Roots$1; slots: 0 l, 3 l, 4 _, 5 a -/
def x47 : Ann := (.seq (.reg [] [(0, []), (1, []), (2, [])]) (.blk (.loop [8] [9, 10, 11, 5, 12, 13, 14, 15, 16, 17, 18, 19, 20, 21, 22, 8] (.seq (.reg [] [(0, [])]) (.seq (.cond .leaf .leaf) (.join [] [10, 11, 5, 12, 13, 14, 15, 16, 17, 18, 19, 20, 21] (.blk (.seq (.reg [] [(0, []), (1, []), (2, [])]) (.seq (.reg [] [(0, []), (1, []), (2, []), (3, [])]) (.cond (.seq (.reg [] [(0, []), (1, []), (2, [])]) (.reg [] [(0, []), (1, []), (2, []), (3, []), (4, [])])) .leaf)))) (.reg [] [(0, []), (1, [])])))))))
def D47 (a0 a1 a2 : Value) (K : Value → Hp → Prop) (h : Hp) : Prop :=
  vP (lenV a0) fun v7 =>
  ∃ I1 : Nat → List Value → Hp → Prop, (∃ n, I1 n [(Value.int .i64 0)] h) ∧
  ∀ n1 : Nat, ∀ v8 : Value, ∀ h1 : Hp, I1 n1 [v8] h1 → ∀ g1 : St,
    vP (binV .lss v8 v7) fun v9 =>
    vB v9 (∀ J2 : List Value → Hp → Prop, (∀ h2 : Hp, (∀ g2 : St,
        vP (binV .add v8 (Value.int .i64 1)) fun v22 =>
        ∃ m1, m1 < n1 ∧ I1 m1 [v22] h2) → J2 [] h2) →
      vP (iaS 1 a0 v8) fun v10 =>
      vP (ld1 v10 h1) fun v11 =>
      vP (ld1 a1 h1) fun v12 =>
      vP (lkV Try.prog 51 v12 v11 false h1) fun v14 =>
      vP (eqV 1 false v14 (Value.int .i64 0)) fun v15 =>
      vB v15 (vP (ld1 a1 h1) fun v16 =>
        muW Try.prog 51 v16 v11 (Value.int .i64 1) (fun _ h3 =>
        vP (ld1 a2 h3) fun v18 =>
        vA ((bldV #[(Value.int .i64 0)] [(0, 1, v11)]).map fun c => (Obj.cells c 3 (0, 0), fun r => Value.slice (some ⟨r, 0, none⟩) 1 1)) (fun v20 h4 =>
        apW Try.prog #[22, 22] 22 v18 v20 (fun v21 h5 =>
        st1 a2 v21 (fun _ h6 =>
        J2 [] h6) h5) h4) h3) h1)
      (J2 [] h1))
    (K (Value.tuple #[]) h1)
theorem D47_eq (a0 a1 a2 : Value) (K : Value → Hp → Prop) (h : Hp) : fnVC Try.prog Try.f47 x47 [a0, a1, a2] K h = D47 a0 a1 a2 K h := by kernel_rfl
theorem D47_ok : fnOk Try.prog Try.f47 x47 3 = true := by kernel_rfl
theorem C47 {a0 a1 a2 : Value} {K : Value → Hp → Prop} {h : Hp} (hh : D47 a0 a1 a2 K h) : CallH Try.prog 47 #[a0, a1, a2] K h :=
  callH_of mixed Try.func47 x47 [a0, a1, a2] D47_ok (D47_eq a0 a1 a2 K h ▸ hh)

/- 17: treadmill/view.Reach; slots: 0 v, 1 v, 3 l, 4 _ -/
def x17 : Ann := (.seq (.reg [] [(0, []), (1, [])]) (.seq (.reg [] [(0, []), (1, []), (2, []), (3, []), (4, []), (5, []), (6, [])]) (.seq (.reg [] [(0, []), (1, [])]) .leaf)))
def D17 (a0 : Value) (K : Value → Hp → Prop) (h : Hp) : Prop :=
  vA (some (Obj.cells (Value.cells a0) 26 (0, 0), ptrV)) (fun v1 h1 =>
  vP (ldN 9 v1 h1) fun v6 =>
  CallH Try.prog 46 #[v6] (fun v7 h2 =>
  vP (exV v7 0) fun v8 =>
  vP (exV v7 1) fun v9 =>
  K v8 h2) h1) h
theorem D17_eq (a0 : Value) (K : Value → Hp → Prop) (h : Hp) : fnVC Try.prog Try.f17 x17 [a0] K h = D17 a0 K h := by kernel_rfl
theorem D17_ok : fnOk Try.prog Try.f17 x17 1 = true := by kernel_rfl
theorem C17 {a0 : Value} {K : Value → Hp → Prop} {h : Hp} (hh : D17 a0 K h) : CallH Try.prog 17 #[a0] K h :=
  callH_of mixed Try.func17 x17 [a0] D17_ok (D17_eq a0 K h ▸ hh)

/- 18: treadmill/view.Lost; slots: 0 v, 1 v, 3 _, 4 l -/
def x18 : Ann := (.seq (.reg [] [(0, []), (1, [])]) (.seq (.reg [] [(0, []), (1, []), (2, []), (3, []), (4, []), (5, []), (6, [])]) (.seq (.reg [] [(0, []), (1, [])]) .leaf)))
def D18 (a0 : Value) (K : Value → Hp → Prop) (h : Hp) : Prop :=
  vA (some (Obj.cells (Value.cells a0) 26 (0, 0), ptrV)) (fun v1 h1 =>
  vP (ldN 9 v1 h1) fun v6 =>
  CallH Try.prog 46 #[v6] (fun v7 h2 =>
  vP (exV v7 0) fun v8 =>
  vP (exV v7 1) fun v9 =>
  K v9 h2) h1) h
theorem D18_eq (a0 : Value) (K : Value → Hp → Prop) (h : Hp) : fnVC Try.prog Try.f18 x18 [a0] K h = D18 a0 K h := by kernel_rfl
theorem D18_ok : fnOk Try.prog Try.f18 x18 1 = true := by kernel_rfl
theorem C18 {a0 : Value} {K : Value → Hp → Prop} {h : Hp} (hh : D18 a0 K h) : CallH Try.prog 18 #[a0] K h :=
  callH_of mixed Try.func18 x18 [a0] D18_ok (D18_eq a0 K h ▸ hh)

/- 23: treadmill/view.White; slots: 0 v, 1 v, 3 at, 4 out, 5 _, 6 a -/
def x23 : Ann := (.seq (.reg [] [(0, []), (1, [])]) (.seq (.reg [] [(0, []), (1, []), (2, [])]) (.seq (.reg [] [(0, [])]) (.seq (.seq (.reg [] [(0, []), (1, []), (2, []), (3, [])]) (.blk (.loop [12, 4] [13, 14, 15, 6, 16, 17, 18, 19, 20, 21, 22, 23, 24, 25, 26, 27, 28, 4, 29, 12] (.seq (.reg [] [(0, [])]) (.seq (.cond .leaf .leaf) (.join [4] [14, 15, 6, 16, 17, 18, 19, 20, 21, 22, 23, 24, 25, 26, 27, 28, 4] (.blk (.seq (.reg [] [(0, []), (1, []), (2, [])]) (.seq (.reg [] [(0, []), (1, []), (2, []), (3, []), (4, []), (5, []), (6, []), (7, []), (8, [])]) (.cond (.reg [] [(0, []), (1, []), (2, []), (3, []), (4, [])]) .leaf)))) (.reg [] [(0, []), (1, [])]))))))) (.seq (.reg [] [(0, []), (1, [])]) .leaf)))))
def D23 (a0 : Value) (K : Value → Hp → Prop) (h : Hp) : Prop :=
  vA (some (Obj.cells (Value.cells a0) 26 (0, 0), ptrV)) (fun v1 h1 =>
  vP (ldN 9 v1 h1) fun v7 =>
  CallH Try.prog 41 #[v7] (fun v8 h2 =>
  vP (ldN 9 v1 h2) fun v9 =>
  CallH Try.prog 17 #[v9] (fun v10 h3 =>
  vP (lenV v10) fun v11 =>
  ∃ I1 : Nat → List Value → Hp → Prop, (∃ n, I1 n [(Value.int .i64 0), (Value.slice none 0 0)] h3) ∧
  ∀ n1 : Nat, ∀ v12 v4 : Value, ∀ h4 : Hp, I1 n1 [v12, v4] h4 → ∀ g1 : St,
    vP (binV .lss v12 v11) fun v13 =>
    vB v13 (∀ J2 : List Value → Hp → Prop, (∀ v4_1 : Value, ∀ h5 : Hp, (∀ g2 : St,
        vP (binV .add v12 (Value.int .i64 1)) fun v29 =>
        ∃ m1, m1 < n1 ∧ I1 m1 [v29, v4_1] h5) → J2 [v4_1] h5) →
      vP (iaS 1 v10 v12) fun v14 =>
      vP (ld1 v14 h4) fun v15 =>
      vP (faV 5 v1) fun v16 =>
      vP (ld1 v16 h4) fun v17 =>
      vP (lkV Try.prog 51 v8 v15 false h4) fun v20 =>
      vP (iaS 3 v17 v20) fun v21 =>
      vP (faV 2 v21) fun v22 =>
      vP (ld1 v22 h4) fun v23 =>
      vP (unV .not v23) fun v24 =>
      vB v24 (vA ((bldV #[(Value.int .i64 0)] [(0, 1, v15)]).map fun c => (Obj.cells c 3 (0, 0), fun r => Value.slice (some ⟨r, 0, none⟩) 1 1)) (fun v27 h6 =>
        apW Try.prog #[22, 22] 22 v4 v27 (fun v28 h7 =>
        J2 [v28] h7) h6) h4)
      (J2 [v4] h4))
    (K v4 h4)) h2) h1) h
theorem D23_eq (a0 : Value) (K : Value → Hp → Prop) (h : Hp) : fnVC Try.prog Try.f23 x23 [a0] K h = D23 a0 K h := by kernel_rfl
theorem D23_ok : fnOk Try.prog Try.f23 x23 1 = true := by kernel_rfl
theorem C23 {a0 : Value} {K : Value → Hp → Prop} {h : Hp} (hh : D23 a0 K h) : CallH Try.prog 23 #[a0] K h :=
  callH_of mixed Try.func23 x23 [a0] D23_ok (D23_eq a0 K h ▸ hh)

/- 22: treadmill/view.Find; slots: 0 v, 1 addr, 2 v, 3 addr -/
def x22 : Ann := (.seq (.reg [] [(0, []), (1, []), (2, [])]) (.seq (.reg [] [(0, []), (1, []), (2, []), (3, []), (4, [])]) .leaf))
def D22 (a0 a1 : Value) (K : Value → Hp → Prop) (h : Hp) : Prop :=
  vA (some (Obj.cells (Value.cells a0) 26 (0, 0), ptrV)) (fun v2 h1 =>
  vA (some (Obj.cells (Value.cells a1) 3 (0, 0), ptrV)) (fun v3 h2 =>
  vP (faV 5 v2) fun v5 =>
  vP (ld1 v5 h2) fun v6 =>
  vP (some (Value.func (.func 49) #[] #[v3])) fun v7 =>
  CallH Try.prog 48 #[v6, v7] (fun v8 h3 =>
  K v8 h3) h2) h1) h
theorem D22_eq (a0 a1 : Value) (K : Value → Hp → Prop) (h : Hp) : fnVC Try.prog Try.f22 x22 [a0, a1] K h = D22 a0 a1 K h := by kernel_rfl
theorem D22_ok : fnOk Try.prog Try.f22 x22 2 = true := by kernel_rfl
theorem C22 {a0 a1 : Value} {K : Value → Hp → Prop} {h : Hp} (hh : D22 a0 a1 K h) : CallH Try.prog 22 #[a0, a1] K h :=
  callH_of mixed Try.func22 x22 [a0, a1] D22_ok (D22_eq a0 a1 K h ▸ hh)

/- 49: treadmill/view.Find$1; slots: 0 o, 2 o -/
def x49 : Ann := (.seq (.reg [] [(0, []), (1, [])]) (.seq (.reg [] [(0, []), (1, []), (2, []), (3, []), (4, [])]) .leaf))
def D49 (a0 a1 : Value) (K : Value → Hp → Prop) (h : Hp) : Prop :=
  vA (some (Obj.cells (Value.cells a0) 30 (0, 0), ptrV)) (fun v2 h1 =>
  vP (faV 0 v2) fun v4 =>
  vP (ld1 v4 h1) fun v5 =>
  vP (ld1 a1 h1) fun v6 =>
  vP (eqV 1 false v5 v6) fun v7 =>
  K v7 h1) h
theorem D49_eq (a0 a1 : Value) (K : Value → Hp → Prop) (h : Hp) : fnVC Try.prog Try.f49 x49 [a0, a1] K h = D49 a0 a1 K h := by kernel_rfl
theorem D49_ok : fnOk Try.prog Try.f49 x49 2 = true := by kernel_rfl
theorem C49 {a0 a1 : Value} {K : Value → Hp → Prop} {h : Hp} (hh : D49 a0 a1 K h) : CallH Try.prog 49 #[a0, a1] K h :=
  callH_of mixed Try.func49 x49 [a0, a1] D49_ok (D49_eq a0 a1 K h ▸ hh)

/- 48: slices.IndexFunc[[]treadmill/api.Object,treadmill/api.Object]; slots: 0 s, 1 f, 2 s, 3 f, 5 i -/
def x48 : Ann := (.seq (.reg [] [(0, [])]) (.seq (.seq (.reg [] [(0, []), (1, []), (2, [])]) (.blk (.loop [8] [9, 10, 5, 11, 12, 13, 14, 15, 16, 17, 4, 18, 8] (.seq (.reg [] [(0, [])]) (.seq (.cond .leaf .leaf) (.seq (.blk (.seq (.reg [] [(0, []), (1, [])]) (.seq (.reg [] [(0, []), (1, []), (2, []), (3, []), (4, []), (5, [])]) (.cond (.seq (.reg [] [(0, []), (1, [])]) .leaf) .leaf)))) (.reg [] [(0, []), (1, [])]))))))) (.seq (.reg [] [(0, [])]) .leaf)))
def D48 (a0 a1 : Value) (K : Value → Hp → Prop) (h : Hp) : Prop :=
  vP (lenV a0) fun v7 =>
  ∃ I1 : Nat → List Value → Hp → Prop, (∃ n, I1 n [(Value.int .i64 0)] h) ∧
  ∀ n1 : Nat, ∀ v8 : Value, ∀ h1 : Hp, I1 n1 [v8] h1 → ∀ g1 : St,
    vP (binV .lss v8 v7) fun v9 =>
    vB v9 (vP (iaS 3 a0 v8) fun v14 =>
      vP (ldN 3 v14 h1) fun v15 =>
      cvW Try.prog a1 #[v15] (fun v16 h2 =>
      vB v16 (K v8 h2)
      (vP (binV .add v8 (Value.int .i64 1)) fun v18 =>
      ∃ m1, m1 < n1 ∧ I1 m1 [v18] h2)) h1)
    (K (Value.int .i64 (-1)) h1)
theorem D48_eq (a0 a1 : Value) (K : Value → Hp → Prop) (h : Hp) : fnVC Try.prog Try.f48 x48 [a0, a1] K h = D48 a0 a1 K h := by kernel_rfl
theorem D48_ok : fnOk Try.prog Try.f48 x48 2 = true := by kernel_rfl
theorem C48 {a0 a1 : Value} {K : Value → Hp → Prop} {h : Hp} (hh : D48 a0 a1 K h) : CallH Try.prog 48 #[a0, a1] K h :=
  callH_of mixed Try.func48 x48 [a0, a1] D48_ok (D48_eq a0 a1 K h ▸ hh)

/- 25: treadmill/view.Words; slots: 0 v, 1 v, 3 n, 4 _, 5 o, 6 k -/
def x25 : Ann := (.seq (.reg [] [(0, []), (1, [])]) (.seq (.reg [] [(0, [])]) (.seq (.seq (.reg [] [(0, []), (1, []), (2, []), (3, [])]) (.blk (.loop [10, 3] [11, 12, 13, 5, 14, 15, 16, 17, 6, 18, 19, 20, 21, 22, 23, 3, 24, 10] (.seq (.reg [] [(0, [])]) (.seq (.cond .leaf .leaf) (.join [3] [12, 13, 5, 14, 15, 16, 17, 6, 18, 19, 20, 21, 22, 23, 3] (.blk (.seq (.reg [] [(0, []), (1, []), (2, []), (3, [])]) (.seq (.reg [] [(0, []), (1, []), (2, []), (3, []), (4, [])]) (.seq (.reg [] [(0, []), (1, [])]) (.cond (.reg [] [(0, []), (1, []), (2, []), (3, []), (4, [])]) .leaf))))) (.reg [] [(0, []), (1, [])]))))))) (.seq (.reg [] [(0, []), (1, [])]) .leaf))))
def D25 (a0 : Value) (K : Value → Hp → Prop) (h : Hp) : Prop :=
  vA (some (Obj.cells (Value.cells a0) 26 (0, 0), ptrV)) (fun v1 h1 =>
  vP (faV 5 v1) fun v7 =>
  vP (ld1 v7 h1) fun v8 =>
  vP (lenV v8) fun v9 =>
  ∃ I1 : Nat → List Value → Hp → Prop, (∃ n, I1 n [(Value.int .i64 0), (Value.int .i64 0)] h1) ∧
  ∀ n1 : Nat, ∀ v10 v3 : Value, ∀ h2 : Hp, I1 n1 [v10, v3] h2 → ∀ g1 : St,
    vP (binV .lss v10 v9) fun v11 =>
    vB v11 (∀ J2 : List Value → Hp → Prop, (∀ v3_1 : Value, ∀ h3 : Hp, (∀ g2 : St,
        vP (binV .add v10 (Value.int .i64 1)) fun v24 =>
        ∃ m1, m1 < n1 ∧ I1 m1 [v24, v3_1] h3) → J2 [v3_1] h3) →
      vP (iaS 3 v8 v10) fun v12 =>
      vP (ldN 3 v12 h2) fun v13 =>
      vA (some (Obj.cells #[(Value.int .i64 0), (Value.slice none 0 0), (Value.bool false)] 30 (0, 0), ptrV)) (fun v5 h4 =>
      stN 3 v5 v13 (fun _ h5 =>
      vP (faV 1 v5) fun v14 =>
      vP (ld1 v14 h5) fun v15 =>
      vP (lenV v15) fun v16 =>
      CallH Try.prog 50 #[v16] (fun v17 h6 =>
      vP (binV .geq v17 (Value.int .i64 0)) fun v19 =>
      vB v19 (CallH Try.prog 51 #[v17] (fun v22 h7 =>
        vP (binV .add v3 v22) fun v23 =>
        J2 [v23] h7) h6)
      (J2 [v3] h6)) h5) h4) h2)
    (K v3 h2)) h
theorem D25_eq (a0 : Value) (K : Value → Hp → Prop) (h : Hp) : fnVC Try.prog Try.f25 x25 [a0] K h = D25 a0 K h := by kernel_rfl
theorem D25_ok : fnOk Try.prog Try.f25 x25 1 = true := by kernel_rfl
theorem C25 {a0 : Value} {K : Value → Hp → Prop} {h : Hp} (hh : D25 a0 K h) : CallH Try.prog 25 #[a0] K h :=
  callH_of mixed Try.func25 x25 [a0] D25_ok (D25_eq a0 K h ▸ hh)

end Go.Proofs

/-
  The conditions of some functions, as the printer wrote them out of the dump; the kernel checks that each is the function's own.
-/
set_option maxRecDepth 100000
namespace Go.Proofs
open Go.Sl
/- 33: treadmill/treadmillref29.Find; slots: 0 v, 1 addr, 2 v, 3 addr, 5 i -/
def x33 : Ann := (.seq (.reg [] [(0, []), (1, [])]) (.seq (.seq (.reg [] [(0, [])]) (.blk (.loop [5] [6, 7, 8, 9, 10, 13, 14, 15, 16, 17, 18, 19, 20, 21, 4, 11, 12, 5] (.seq (.seq (.reg [] [(0, []), (1, []), (2, []), (3, []), (4, [])]) (.cond .leaf .leaf)) (.seq (.blk (.seq (.reg [] [(0, []), (1, []), (2, []), (3, []), (4, []), (5, []), (6, []), (7, [])]) (.cond (.seq (.reg [] [(0, []), (1, [])]) .leaf) .leaf))) (.reg [] [(0, []), (1, []), (2, [])])))))) (.seq (.reg [] [(0, [])]) .leaf)))
def D33 (a0 a1 : Value) (K : Value → Hp → Prop) (h : Hp) : Prop :=
  vA (some (Obj.cells (Value.cells a0) 26 (0, 0), ptrV)) (fun v2 h1 =>
  ∃ I1 : Nat → List Value → Hp → Prop, (∃ n, I1 n [(Value.int .i64 0)] h1) ∧
  ∀ n1 : Nat, ∀ v5 : Value, ∀ h2 : Hp, I1 n1 [v5] h2 → ∀ g1 : St,
    vP (faV 5 v2) fun v7 =>
    vP (ld1 v7 h2) fun v8 =>
    vP (lenV v8) fun v9 =>
    vP (binV .lss v5 v9) fun v10 =>
    vB v10 (vP (faV 5 v2) fun v13 =>
      vP (ld1 v13 h2) fun v14 =>
      vP (iaS 3 v14 v5) fun v16 =>
      vP (faV 0 v16) fun v17 =>
      vP (ld1 v17 h2) fun v18 =>
      vP (eqV 1 false v18 a1) fun v20 =>
      vB v20 (K v5 h2)
      (vP (binV .add v5 (Value.int .i64 1)) fun v12 =>
      ∃ m1, m1 < n1 ∧ I1 m1 [v12] h2))
    (K (Value.int .i64 (-1)) h2)) h
theorem D33_eq (a0 a1 : Value) (K : Value → Hp → Prop) (h : Hp) : fnVC Try.prog Try.f33 x33 [a0, a1] K h = D33 a0 a1 K h := by kernel_rfl
theorem D33_ok : fnOk Try.prog Try.f33 x33 2 = true := by kernel_rfl
theorem C33 {a0 a1 : Value} {K : Value → Hp → Prop} {h : Hp} (hh : D33 a0 a1 K h) : CallH Try.prog 33 #[a0, a1] K h :=
  callH_of mixed Try.func33 x33 [a0, a1] D33_ok (D33_eq a0 a1 K h ▸ hh)

/- 34: treadmill/treadmillref29.Roots; slots: 0 v, 1 v, 3 l, 4 i, 5 g, 6 i -/
def x34 : Ann := (.seq (.reg [] [(0, []), (1, [])]) (.seq (.reg [] [(0, [])]) (.seq (.seq (.reg [] [(0, [])]) (.blk (.loop [4, 3] [7, 8, 9, 10, 11, 14, 15, 16, 17, 18, 19, 20, 3, 12, 13, 4] (.seq (.seq (.reg [] [(0, []), (1, []), (2, []), (3, []), (4, [])]) (.cond .leaf .leaf)) (.seq (.blk (.reg [] [(0, []), (1, []), (2, []), (3, []), (4, []), (5, []), (6, []), (7, [])])) (.reg [] [(0, []), (1, []), (2, [])])))))) (.seq (.seq (.reg [] [(0, [])]) (.blk (.loop [5, 3] [21, 22, 23, 24, 25, 6, 28, 29, 30, 31, 32, 33, 34, 35, 36, 37, 38, 39, 40, 41, 42, 43, 44, 45, 48, 49, 50, 51, 52, 53, 54, 55, 56, 57, 58, 3, 46, 47, 26, 27, 5] (.seq (.seq (.reg [] [(0, []), (1, []), (2, []), (3, []), (4, [])]) (.cond .leaf .leaf)) (.seq (.blk (.seq (.reg [] [(0, [])]) (.blk (.loop [6, 3] [28, 29, 30, 31, 32, 33, 34, 35, 36, 37, 38, 39, 40, 41, 42, 43, 44, 45, 48, 49, 50, 51, 52, 53, 54, 55, 56, 57, 58, 3, 46, 47, 6] (.seq (.seq (.reg [] [(0, []), (1, []), (2, []), (3, []), (4, []), (5, []), (6, []), (7, []), (8, []), (9, []), (10, []), (11, []), (12, []), (13, []), (14, []), (15, []), (16, []), (17, [])]) (.cond .leaf .leaf)) (.seq (.blk (.reg [] [(0, []), (1, []), (2, []), (3, []), (4, []), (5, []), (6, []), (7, []), (8, []), (9, []), (10, []), (11, [])])) (.reg [] [(0, []), (1, []), (2, [])]))))))) (.reg [] [(0, []), (1, []), (2, [])])))))) (.seq (.reg [] [(0, []), (1, [])]) .leaf)))))
def D34 (a0 : Value) (K : Value → Hp → Prop) (h : Hp) : Prop :=
  vA (some (Obj.cells (Value.cells a0) 26 (0, 0), ptrV)) (fun v1 h1 =>
  ∃ I1 : Nat → List Value → Hp → Prop, (∃ n, I1 n [(Value.int .i64 0), (Value.slice none 0 0)] h1) ∧
  ∀ n1 : Nat, ∀ v4 v3 : Value, ∀ h2 : Hp, I1 n1 [v4, v3] h2 → ∀ g1 : St,
    vP (faV 3 v1) fun v8 =>
    vP (ld1 v8 h2) fun v9 =>
    vP (lenV v9) fun v10 =>
    vP (binV .lss v4 v10) fun v11 =>
    vB v11 (vP (faV 3 v1) fun v15 =>
      vP (ld1 v15 h2) fun v16 =>
      vP (iaS 1 v16 v4) fun v18 =>
      vP (ld1 v18 h2) fun v19 =>
      CallH Try.prog 58 #[v3, v19] (fun v20 h3 =>
      vP (binV .add v4 (Value.int .i64 1)) fun v13 =>
      ∃ m1, m1 < n1 ∧ I1 m1 [v13, v20] h3) h2)
    (∃ I2 : Nat → List Value → Hp → Prop, (∃ n, I2 n [(Value.int .i64 0), v3] h2) ∧
    ∀ n2 : Nat, ∀ v5 v3_1 : Value, ∀ h4 : Hp, I2 n2 [v5, v3_1] h4 → ∀ g2 : St,
      vP (faV 4 v1) fun v22 =>
      vP (ld1 v22 h4) fun v23 =>
      vP (lenV v23) fun v24 =>
      vP (binV .lss v5 v24) fun v25 =>
      vB v25 (∃ I3 : Nat → List Value → Hp → Prop, (∃ n, I3 n [(Value.int .i64 0), v3_1] h4) ∧
        ∀ n3 : Nat, ∀ v6 v3_2 : Value, ∀ h5 : Hp, I3 n3 [v6, v3_2] h5 → ∀ g3 : St,
          vP (faV 4 v1) fun v29 =>
          vP (ld1 v29 h5) fun v30 =>
          vP (iaS 3 v30 v5) fun v32 =>
          vP (faV 2 v32) fun v33 =>
          vP (ld1 v33 h5) fun v34 =>
          vP (lenV v34) fun v35 =>
          vP (binV .lss v6 v35) fun v36 =>
          vP (gdW (gB v36 true) (faV 4 v1)) fun v38 =>
          vP (gdW (gB v36 true) (ld1 v38 h5)) fun v39 =>
          vP (gdW (gB v36 true) (some v5)) fun v40 =>
          vP (gdW (gB v36 true) (iaS 3 v39 v40)) fun v41 =>
          vP (gdW (gB v36 true) (faV 0 v41)) fun v42 =>
          vP (gdW (gB v36 true) (ld1 v42 h5)) fun v43 =>
          vP (gdW (gB v36 true) (eqV 1 true v43 (Value.int .i64 5))) fun v44 =>
          vP (pickV v36 v44 (Value.bool false)) fun v45 =>
          vB v45 (vP (faV 4 v1) fun v49 =>
            vP (ld1 v49 h5) fun v50 =>
            vP (iaS 3 v50 v5) fun v52 =>
            vP (faV 2 v52) fun v53 =>
            vP (ld1 v53 h5) fun v54 =>
            vP (iaS 1 v54 v6) fun v56 =>
            vP (ld1 v56 h5) fun v57 =>
            CallH Try.prog 58 #[v3_2, v57] (fun v58 h6 =>
            vP (binV .add v6 (Value.int .i64 1)) fun v47 =>
            ∃ m3, m3 < n3 ∧ I3 m3 [v47, v58] h6) h5)
          (vP (binV .add v5 (Value.int .i64 1)) fun v27 =>
          ∃ m2, m2 < n2 ∧ I2 m2 [v27, v3_2] h5))
      (K v3_1 h4))) h
theorem D34_eq (a0 : Value) (K : Value → Hp → Prop) (h : Hp) : fnVC Try.prog Try.f34 x34 [a0] K h = D34 a0 K h := by kernel_rfl
theorem D34_ok : fnOk Try.prog Try.f34 x34 1 = true := by kernel_rfl
theorem C34 {a0 : Value} {K : Value → Hp → Prop} {h : Hp} (hh : D34 a0 K h) : CallH Try.prog 34 #[a0] K h :=
  callH_of mixed Try.func34 x34 [a0] D34_ok (D34_eq a0 K h ▸ hh)

/- 58: treadmill/treadmillref29.once; slots: 0 l, 1 x, 2 l, 3 x -/
def x58 : Ann := (.seq (.reg [] [(0, [])]) (.seq (.seq (.reg [] [(0, []), (1, []), (2, []), (3, []), (4, []), (5, []), (6, [])]) (.cond (.seq (.reg [] [(0, []), (1, [])]) .leaf) .leaf)) (.seq (.reg [] [(0, []), (1, []), (2, []), (3, []), (4, [])]) .leaf)))
def D58 (a0 a1 : Value) (K : Value → Hp → Prop) (h : Hp) : Prop :=
  vP (eqV 1 false a1 (Value.int .i64 0)) fun v6 =>
  vP (gdW (gB v6 false) (some a0)) fun v8 =>
  vP (gdW (gB v6 false) (some a1)) fun v9 =>
  vE (gB v6 false) (CallH Try.prog 21 #[v8, v9]) (fun v10 h1 =>
  vP (pickV v6 (Value.bool true) v10) fun v11 =>
  vB v11 (K a0 h1)
  (vA ((bldV #[(Value.int .i64 0)] [(0, 1, a1)]).map fun c => (Obj.cells c 3 (0, 0), fun r => Value.slice (some ⟨r, 0, none⟩) 1 1)) (fun v15 h2 =>
  apW Try.prog #[22, 22] 22 a0 v15 (fun v16 h3 =>
  K v16 h3) h2) h1)) h
theorem D58_eq (a0 a1 : Value) (K : Value → Hp → Prop) (h : Hp) : fnVC Try.prog Try.f58 x58 [a0, a1] K h = D58 a0 a1 K h := by kernel_rfl
theorem D58_ok : fnOk Try.prog Try.f58 x58 2 = true := by kernel_rfl
theorem C58 {a0 a1 : Value} {K : Value → Hp → Prop} {h : Hp} (hh : D58 a0 a1 K h) : CallH Try.prog 58 #[a0, a1] K h :=
  callH_of mixed Try.func58 x58 [a0, a1] D58_ok (D58_eq a0 a1 K h ▸ hh)

/- 59: treadmill/treadmillref29.walk; slots: 0 v, 1 v, 4 at, 5 i, 6 in, 7 l, 8 lost, 9 names, 10 k, 11 i, 12 x, 13 n -/
def x59 : Ann := (.seq (.reg [] [(0, []), (1, []), (2, [])]) (.seq (.reg [] [(0, []), (1, [])]) (.seq (.seq (.reg [] [(0, []), (1, []), (2, []), (3, []), (4, [])]) (.blk (.loop [5] [19, 20, 23, 24, 25, 26, 27, 28, 29, 30, 31, 21, 22, 5] (.seq (.seq (.reg [] [(0, []), (1, [])]) (.cond .leaf .leaf)) (.seq (.blk (.reg [] [(0, []), (1, []), (2, []), (3, []), (4, []), (5, []), (6, []), (7, []), (8, []), (9, [])])) (.reg [] [(0, []), (1, []), (2, [])])))))) (.seq (.reg [] [(0, []), (1, []), (2, []), (3, []), (4, [])]) (.seq (.reg [] [(0, []), (1, [])]) (.seq (.reg [] [(0, []), (1, []), (2, [])]) (.seq (.seq (.reg [] [(0, [])]) (.blk (.loop [7, 8, 9, 10] [11, 40, 41, 42, 43, 46, 47, 48, 49, 12, 50, 51, 52, 13, 53, 54, 55, 56, 57, 58, 59, 60, 61, 8, 62, 63, 64, 65, 66, 67, 68, 69, 70, 71, 72, 73, 74, 75, 76, 77, 78, 79, 80, 81, 82, 83, 84, 7, 44, 45, 85, 86, 87, 88, 89, 90, 91, 92, 93, 94, 95, 96, 97, 9, 38, 39, 10] (.seq (.blk (.seq (.seq (.reg [] [(0, [])]) (.blk (.loop [11, 7, 8] [40, 41, 42, 43, 46, 47, 48, 49, 12, 50, 51, 52, 13, 53, 54, 55, 56, 57, 58, 59, 60, 61, 8, 62, 63, 64, 65, 66, 67, 68, 69, 70, 71, 72, 73, 74, 75, 76, 77, 78, 79, 80, 81, 82, 83, 84, 7, 44, 45, 11] (.seq (.seq (.reg [] [(0, []), (1, []), (2, []), (3, [])]) (.cond .leaf .leaf)) (.join [7, 8] [46, 47, 48, 49, 12, 50, 51, 52, 13, 53, 54, 55, 56, 57, 58, 59, 60, 61, 8, 62, 63, 64, 65, 66, 67, 68, 69, 70, 71, 72, 73, 74, 75, 76, 77, 78, 79, 80, 81, 82, 83, 84, 7] (.blk (.seq (.reg [] [(0, []), (1, []), (2, []), (3, []), (4, [])]) (.seq (.reg [] [(0, []), (1, []), (2, []), (3, [])]) (.join [8] [53, 54, 55, 56, 57, 58, 59, 60, 61, 8] (.seq (.reg [] [(0, []), (1, []), (2, []), (3, []), (4, []), (5, [])]) (.cond (.reg [] [(0, []), (1, []), (2, []), (3, [])]) .leaf)) (.seq (.reg [] [(0, []), (1, []), (2, []), (3, []), (4, []), (5, []), (6, []), (7, []), (8, []), (9, []), (10, []), (11, []), (12, []), (13, [])]) (.cond (.seq (.reg [] [(0, []), (1, []), (2, []), (3, []), (4, [])]) (.reg [] [(0, []), (1, []), (2, []), (3, []), (4, []), (5, [])])) .leaf)))))) (.reg [] [(0, []), (1, []), (2, [])])))))) (.seq (.seq (.reg [] [(0, []), (1, []), (2, []), (3, [])]) (.cond .leaf .leaf)) (.reg [0, 1, 0, 0, 12, 28, 63, 127, 255, 511] [(0, []), (2, []), (3, []), (4, []), (1, []), (5, []), (6, []), (7, []), (8, []), (9, [])])))) (.reg [] [(0, []), (1, []), (2, [])]))))) (.seq (.reg [] [(0, []), (1, []), (2, []), (3, [])]) .leaf))))))))
def D59 (a0 : Value) (K : Value → Hp → Prop) (h : Hp) : Prop :=
  vA (some (Obj.cells (Value.cells a0) 26 (0, 0), ptrV)) (fun v1 h1 =>
  vA (some (Obj.map #[] 0, fun r => Value.map (some r))) (fun v14 h2 =>
  vP (faV 5 v1) fun v15 =>
  vP (ld1 v15 h2) fun v16 =>
  vP (lenV v16) fun v17 =>
  vP (binV .sub v17 (Value.int .i64 1)) fun v18 =>
  ∃ I1 : Nat → List Value → Hp → Prop, (∃ n, I1 n [v18] h2) ∧
  ∀ n1 : Nat, ∀ v5 : Value, ∀ h3 : Hp, I1 n1 [v5] h3 → ∀ g1 : St,
    vP (binV .geq v5 (Value.int .i64 0)) fun v20 =>
    vB v20 (vP (faV 5 v1) fun v24 =>
      vP (ld1 v24 h3) fun v25 =>
      vP (iaS 3 v25 v5) fun v27 =>
      vP (faV 0 v27) fun v28 =>
      vP (ld1 v28 h3) fun v29 =>
      vP (binV .add v5 (Value.int .i64 1)) fun v31 =>
      muW Try.prog 51 v14 v29 v31 (fun _ h4 =>
      vP (binV .sub v5 (Value.int .i64 1)) fun v22 =>
      ∃ m1, m1 < n1 ∧ I1 m1 [v22] h4) h3)
    (vP (faV 5 v1) fun v32 =>
    vP (ld1 v32 h3) fun v33 =>
    vP (lenV v33) fun v34 =>
    vA (msV 1 1 4 #[(Value.bool false)] v34 v34) (fun v35 h5 =>
    vP (ldN 9 v1 h5) fun v36 =>
    CallH Try.prog 34 #[v36] (fun v37 h6 =>
    ∃ I2 : Nat → List Value → Hp → Prop, (∃ n, I2 n [(Value.slice none 0 0), (Value.slice none 0 0), v37, (Value.int .i64 0)] h6) ∧
    ∀ n2 : Nat, ∀ v7 v8 v9 v10 : Value, ∀ h7 : Hp, I2 n2 [v7, v8, v9, v10] h7 → ∀ g2 : St,
      ∃ I3 : Nat → List Value → Hp → Prop, (∃ n, I3 n [(Value.int .i64 0), v7, v8] h7) ∧
      ∀ n3 : Nat, ∀ v11 v7_1 v8_1 : Value, ∀ h8 : Hp, I3 n3 [v11, v7_1, v8_1] h8 → ∀ g3 : St,
        vP (lenV v9) fun v42 =>
        vP (binV .lss v11 v42) fun v43 =>
        vB v43 (∀ J4 : List Value → Hp → Prop, (∀ v7_2 v8_2 : Value, ∀ h9 : Hp, (∀ g4 : St,
            vP (binV .add v11 (Value.int .i64 1)) fun v45 =>
            ∃ m3, m3 < n3 ∧ I3 m3 [v45, v7_2, v8_2] h9) → J4 [v7_2, v8_2] h9) →
          vP (iaS 1 v9 v11) fun v48 =>
          vP (ld1 v48 h8) fun v49 =>
          vP (lkV Try.prog 51 v14 v49 false h8) fun v52 =>
          ∀ J5 : List Value → Hp → Prop, (∀ v8_3 : Value, ∀ h10 : Hp, (∀ g5 : St,
            vP (eqV 1 true v49 (Value.int .i64 0)) fun v63 =>
            vP (gdW (gB v63 true) (some v52)) fun v65 =>
            vP (gdW (gB v63 true) (binV .gtr v65 (Value.int .i64 0))) fun v66 =>
            vP (pickV v63 v66 (Value.bool false)) fun v67 =>
            vP (gdW (gB v67 true) (some v35)) fun v69 =>
            vP (gdW (gB v67 true) (some v52)) fun v70 =>
            vP (gdW (gB v67 true) (binV .sub v70 (Value.int .i64 1))) fun v71 =>
            vP (gdW (gB v67 true) (iaS 1 v69 v71)) fun v72 =>
            vP (gdW (gB v67 true) (ld1 v72 h10)) fun v73 =>
            vP (gdW (gB v67 true) (unV .not v73)) fun v74 =>
            vP (pickV v67 v74 (Value.bool false)) fun v75 =>
            vB v75 (vP (binV .sub v52 (Value.int .i64 1)) fun v78 =>
              vP (iaS 1 v35 v78) fun v79 =>
              st1 v79 (Value.bool true) (fun _ h11 =>
              vP (binV .sub v52 (Value.int .i64 1)) fun v82 =>
              vA ((bldV #[(Value.int .i64 0)] [(0, 1, v82)]).map fun c => (Obj.cells c 3 (0, 0), fun r => Value.slice (some ⟨r, 0, none⟩) 1 1)) (fun v83 h12 =>
              apW Try.prog #[22, 22] 22 v7_1 v83 (fun v84 h13 =>
              J4 [v84, v8_3] h13) h12) h11) h10)
            (J4 [v7_1, v8_3] h10)) → J5 [v8_3] h10) →
          vP (eqV 1 true v49 (Value.int .i64 0)) fun v54 =>
          vP (gdW (gB v54 true) (some v52)) fun v56 =>
          vP (gdW (gB v54 true) (eqV 1 false v56 (Value.int .i64 0))) fun v57 =>
          vP (pickV v54 v57 (Value.bool false)) fun v58 =>
          vB v58 (CallH Try.prog 60 #[v8_1, v49] (fun v61 h14 =>
            J5 [v61] h14) h8)
          (J5 [v8_1] h8))
        (vP (lenV v7_1) fun v87 =>
        vP (binV .geq v10 v87) fun v88 =>
        vB v88 (K (Value.tuple #[v7_1, v8_1]) h8)
        (vP (faV 5 v1) fun v89 =>
        vP (iaS 1 v7_1 v10) fun v93 =>
        vP (ld1 v89 h8) fun v90 =>
        vP (ld1 v93 h8) fun v94 =>
        vP (iaS 3 v90 v94) fun v95 =>
        vP (faV 1 v95) fun v96 =>
        vP (ld1 v96 h8) fun v97 =>
        vP (binV .add v10 (Value.int .i64 1)) fun v39 =>
        ∃ m2, m2 < n2 ∧ I2 m2 [v7_1, v8_1, v97, v39] h8))) h5) h3)) h1) h
theorem D59_eq (a0 : Value) (K : Value → Hp → Prop) (h : Hp) : fnVC Try.prog Try.f59 x59 [a0] K h = D59 a0 K h := by kernel_rfl
theorem D59_ok : fnOk Try.prog Try.f59 x59 1 = true := by kernel_rfl
theorem C59 {a0 : Value} {K : Value → Hp → Prop} {h : Hp} (hh : D59 a0 K h) : CallH Try.prog 59 #[a0] K h :=
  callH_of mixed Try.func59 x59 [a0] D59_ok (D59_eq a0 K h ▸ hh)

/- 35: treadmill/treadmillref29.Reach; slots: 0 v, 1 v, 3 l, 4 _, 5 in, 6 i, 7 out, 8 i -/
def x35 : Ann := (.seq (.reg [] [(0, []), (1, [])]) (.seq (.reg [] [(0, []), (1, []), (2, []), (3, []), (4, []), (5, []), (6, [])]) (.seq (.reg [] [(0, []), (1, []), (2, []), (3, []), (4, [])]) (.seq (.seq (.reg [] [(0, [])]) (.blk (.loop [6] [18, 19, 20, 21, 24, 25, 26, 27, 28, 29, 22, 23, 6] (.seq (.seq (.reg [] [(0, []), (1, []), (2, []), (3, [])]) (.cond .leaf .leaf)) (.seq (.blk (.reg [] [(0, []), (1, []), (2, []), (3, []), (4, []), (5, []), (6, [])])) (.reg [] [(0, []), (1, []), (2, [])])))))) (.seq (.reg [] [(0, [])]) (.seq (.seq (.reg [] [(0, [])]) (.blk (.loop [8, 7] [30, 31, 32, 33, 36, 37, 38, 39, 40, 41, 42, 43, 44, 45, 46, 47, 7, 34, 35, 8] (.seq (.seq (.reg [] [(0, []), (1, []), (2, []), (3, [])]) (.cond .leaf .leaf)) (.join [7] [36, 37, 38, 39, 40, 41, 42, 43, 44, 45, 46, 47, 7] (.blk (.seq (.reg [] [(0, []), (1, []), (2, []), (3, [])]) (.cond (.reg [] [(0, []), (1, []), (2, []), (3, []), (4, []), (5, []), (6, []), (7, []), (8, [])]) .leaf))) (.reg [] [(0, []), (1, []), (2, [])])))))) (.seq (.reg [] [(0, []), (1, [])]) .leaf)))))))
def D35 (a0 : Value) (K : Value → Hp → Prop) (h : Hp) : Prop :=
  vA (some (Obj.cells (Value.cells a0) 26 (0, 0), ptrV)) (fun v1 h1 =>
  vP (ldN 9 v1 h1) fun v10 =>
  CallH Try.prog 59 #[v10] (fun v11 h2 =>
  vP (exV v11 0) fun v12 =>
  vP (exV v11 1) fun v13 =>
  vP (faV 5 v1) fun v14 =>
  vP (ld1 v14 h2) fun v15 =>
  vP (lenV v15) fun v16 =>
  vA (msV 1 1 4 #[(Value.bool false)] v16 v16) (fun v17 h3 =>
  ∃ I1 : Nat → List Value → Hp → Prop, (∃ n, I1 n [(Value.int .i64 0)] h3) ∧
  ∀ n1 : Nat, ∀ v6 : Value, ∀ h4 : Hp, I1 n1 [v6] h4 → ∀ g1 : St,
    vP (lenV v12) fun v20 =>
    vP (binV .lss v6 v20) fun v21 =>
    vB v21 (vP (iaS 1 v12 v6) fun v27 =>
      vP (ld1 v27 h4) fun v28 =>
      vP (iaS 1 v17 v28) fun v29 =>
      st1 v29 (Value.bool true) (fun _ h5 =>
      vP (binV .add v6 (Value.int .i64 1)) fun v23 =>
      ∃ m1, m1 < n1 ∧ I1 m1 [v23] h5) h4)
    (∃ I2 : Nat → List Value → Hp → Prop, (∃ n, I2 n [(Value.int .i64 0), (Value.slice none 0 0)] h4) ∧
    ∀ n2 : Nat, ∀ v8 v7 : Value, ∀ h6 : Hp, I2 n2 [v8, v7] h6 → ∀ g2 : St,
      vP (lenV v17) fun v32 =>
      vP (binV .lss v8 v32) fun v33 =>
      vB v33 (∀ J3 : List Value → Hp → Prop, (∀ v7_1 : Value, ∀ h7 : Hp, (∀ g3 : St,
          vP (binV .add v8 (Value.int .i64 1)) fun v35 =>
          ∃ m2, m2 < n2 ∧ I2 m2 [v35, v7_1] h7) → J3 [v7_1] h7) →
        vP (iaS 1 v17 v8) fun v38 =>
        vP (ld1 v38 h6) fun v39 =>
        vB v39 (vP (faV 5 v1) fun v41 =>
          vP (ld1 v41 h6) fun v42 =>
          vP (iaS 3 v42 v8) fun v44 =>
          vP (faV 0 v44) fun v45 =>
          vP (ld1 v45 h6) fun v46 =>
          CallH Try.prog 60 #[v7, v46] (fun v47 h8 =>
          J3 [v47] h8) h6)
        (J3 [v7] h6))
      (K v7 h6))) h2) h1) h
theorem D35_eq (a0 : Value) (K : Value → Hp → Prop) (h : Hp) : fnVC Try.prog Try.f35 x35 [a0] K h = D35 a0 K h := by kernel_rfl
theorem D35_ok : fnOk Try.prog Try.f35 x35 1 = true := by kernel_rfl
theorem C35 {a0 : Value} {K : Value → Hp → Prop} {h : Hp} (hh : D35 a0 K h) : CallH Try.prog 35 #[a0] K h :=
  callH_of mixed Try.func35 x35 [a0] D35_ok (D35_eq a0 K h ▸ hh)

/- 36: treadmill/treadmillref29.White; slots: 0 v, 1 v, 3 l, 4 _, 5 out, 6 i -/
def x36 : Ann := (.seq (.reg [] [(0, []), (1, [])]) (.seq (.reg [] [(0, []), (1, []), (2, []), (3, []), (4, []), (5, []), (6, [])]) (.seq (.reg [] [(0, [])]) (.seq (.seq (.reg [] [(0, [])]) (.blk (.loop [6, 5] [12, 13, 14, 15, 18, 19, 20, 21, 22, 23, 24, 25, 26, 27, 28, 29, 30, 31, 32, 33, 34, 35, 36, 37, 38, 5, 16, 17, 6] (.seq (.seq (.reg [] [(0, []), (1, []), (2, []), (3, [])]) (.cond .leaf .leaf)) (.join [5] [18, 19, 20, 21, 22, 23, 24, 25, 26, 27, 28, 29, 30, 31, 32, 33, 34, 35, 36, 37, 38, 5] (.blk (.seq (.reg [0, 1, 0, 0, 12, 28, 63, 127, 255, 511] [(0, []), (2, []), (3, []), (4, []), (1, []), (5, []), (6, []), (7, []), (8, []), (9, [])]) (.cond (.reg [0, 0, 2, 0, 0, 24, 56, 126, 254, 510, 1023, 2047] [(0, []), (1, []), (3, []), (4, []), (5, []), (2, []), (6, []), (7, []), (8, []), (9, []), (10, []), (11, [])]) .leaf))) (.reg [] [(0, []), (1, []), (2, [])])))))) (.seq (.reg [] [(0, []), (1, [])]) .leaf)))))
def D36 (a0 : Value) (K : Value → Hp → Prop) (h : Hp) : Prop :=
  vA (some (Obj.cells (Value.cells a0) 26 (0, 0), ptrV)) (fun v1 h1 =>
  vP (ldN 9 v1 h1) fun v8 =>
  CallH Try.prog 59 #[v8] (fun v9 h2 =>
  vP (exV v9 0) fun v10 =>
  vP (exV v9 1) fun v11 =>
  ∃ I1 : Nat → List Value → Hp → Prop, (∃ n, I1 n [(Value.int .i64 0), (Value.slice none 0 0)] h2) ∧
  ∀ n1 : Nat, ∀ v6 v5 : Value, ∀ h3 : Hp, I1 n1 [v6, v5] h3 → ∀ g1 : St,
    vP (lenV v10) fun v14 =>
    vP (binV .lss v6 v14) fun v15 =>
    vB v15 (∀ J2 : List Value → Hp → Prop, (∀ v5_1 : Value, ∀ h4 : Hp, (∀ g2 : St,
        vP (binV .add v6 (Value.int .i64 1)) fun v17 =>
        ∃ m1, m1 < n1 ∧ I1 m1 [v17, v5_1] h4) → J2 [v5_1] h4) →
      vP (faV 5 v1) fun v18 =>
      vP (iaS 1 v10 v6) fun v22 =>
      vP (ld1 v18 h3) fun v19 =>
      vP (ld1 v22 h3) fun v23 =>
      vP (iaS 3 v19 v23) fun v24 =>
      vP (faV 2 v24) fun v25 =>
      vP (ld1 v25 h3) fun v26 =>
      vP (unV .not v26) fun v27 =>
      vB v27 (vP (faV 5 v1) fun v29 =>
        vP (iaS 1 v10 v6) fun v33 =>
        vP (ld1 v29 h3) fun v30 =>
        vP (ld1 v33 h3) fun v34 =>
        vP (iaS 3 v30 v34) fun v35 =>
        vP (faV 0 v35) fun v36 =>
        vP (ld1 v36 h3) fun v37 =>
        CallH Try.prog 60 #[v5, v37] (fun v38 h5 =>
        J2 [v38] h5) h3)
      (J2 [v5] h3))
    (K v5 h3)) h1) h
theorem D36_eq (a0 : Value) (K : Value → Hp → Prop) (h : Hp) : fnVC Try.prog Try.f36 x36 [a0] K h = D36 a0 K h := by kernel_rfl
theorem D36_ok : fnOk Try.prog Try.f36 x36 1 = true := by kernel_rfl
theorem C36 {a0 : Value} {K : Value → Hp → Prop} {h : Hp} (hh : D36 a0 K h) : CallH Try.prog 36 #[a0] K h :=
  callH_of mixed Try.func36 x36 [a0] D36_ok (D36_eq a0 K h ▸ hh)

/- 37: treadmill/treadmillref29.Lost; slots: 0 v, 1 v, 3 _, 4 l -/
def x37 : Ann := (.seq (.reg [] [(0, []), (1, [])]) (.seq (.reg [] [(0, []), (1, []), (2, []), (3, []), (4, []), (5, []), (6, [])]) (.seq (.reg [] [(0, []), (1, [])]) .leaf)))
def D37 (a0 : Value) (K : Value → Hp → Prop) (h : Hp) : Prop :=
  vA (some (Obj.cells (Value.cells a0) 26 (0, 0), ptrV)) (fun v1 h1 =>
  vP (ldN 9 v1 h1) fun v6 =>
  CallH Try.prog 59 #[v6] (fun v7 h2 =>
  vP (exV v7 0) fun v8 =>
  vP (exV v7 1) fun v9 =>
  K v9 h2) h1) h
theorem D37_eq (a0 : Value) (K : Value → Hp → Prop) (h : Hp) : fnVC Try.prog Try.f37 x37 [a0] K h = D37 a0 K h := by kernel_rfl
theorem D37_ok : fnOk Try.prog Try.f37 x37 1 = true := by kernel_rfl
theorem C37 {a0 : Value} {K : Value → Hp → Prop} {h : Hp} (hh : D37 a0 K h) : CallH Try.prog 37 #[a0] K h :=
  callH_of mixed Try.func37 x37 [a0] D37_ok (D37_eq a0 K h ▸ hh)

/- 38: treadmill/treadmillref29.Words; slots: 0 v, 1 v, 3 n, 4 i -/
def x38 : Ann := (.seq (.reg [] [(0, []), (1, [])]) (.seq (.reg [] [(0, [])]) (.seq (.seq (.reg [] [(0, [])]) (.blk (.loop [4, 3] [5, 6, 7, 8, 9, 12, 13, 14, 15, 16, 17, 18, 19, 3, 10, 11, 4] (.seq (.seq (.reg [] [(0, []), (1, []), (2, []), (3, []), (4, [])]) (.cond .leaf .leaf)) (.seq (.blk (.reg [] [(0, []), (1, []), (2, []), (3, []), (4, []), (5, []), (6, []), (7, []), (8, [])])) (.reg [] [(0, []), (1, []), (2, [])])))))) (.seq (.reg [] [(0, []), (1, [])]) .leaf))))
def D38 (a0 : Value) (K : Value → Hp → Prop) (h : Hp) : Prop :=
  vA (some (Obj.cells (Value.cells a0) 26 (0, 0), ptrV)) (fun v1 h1 =>
  ∃ I1 : Nat → List Value → Hp → Prop, (∃ n, I1 n [(Value.int .i64 0), (Value.int .i64 0)] h1) ∧
  ∀ n1 : Nat, ∀ v4 v3 : Value, ∀ h2 : Hp, I1 n1 [v4, v3] h2 → ∀ g1 : St,
    vP (faV 5 v1) fun v6 =>
    vP (ld1 v6 h2) fun v7 =>
    vP (lenV v7) fun v8 =>
    vP (binV .lss v4 v8) fun v9 =>
    vB v9 (vP (faV 5 v1) fun v13 =>
      vP (ld1 v13 h2) fun v14 =>
      vP (iaS 3 v14 v4) fun v16 =>
      vP (ldN 3 v16 h2) fun v17 =>
      CallH Try.prog 61 #[v17] (fun v18 h3 =>
      vP (binV .add v3 v18) fun v19 =>
      vP (binV .add v4 (Value.int .i64 1)) fun v11 =>
      ∃ m1, m1 < n1 ∧ I1 m1 [v11, v19] h3) h2)
    (K v3 h2)) h
theorem D38_eq (a0 : Value) (K : Value → Hp → Prop) (h : Hp) : fnVC Try.prog Try.f38 x38 [a0] K h = D38 a0 K h := by kernel_rfl
theorem D38_ok : fnOk Try.prog Try.f38 x38 1 = true := by kernel_rfl
theorem C38 {a0 : Value} {K : Value → Hp → Prop} {h : Hp} (hh : D38 a0 K h) : CallH Try.prog 38 #[a0] K h :=
  callH_of mixed Try.func38 x38 [a0] D38_ok (D38_eq a0 K h ▸ hh)

/- 52: treadmill/treadmillref29.apart; slots: 0 v, 1 v, 3 i, 4 o, 5 last -/
def x52 : Ann := (.seq (.reg [] [(0, []), (1, [])]) (.seq (.seq (.reg [] [(0, [])]) (.blk (.loop [3] [6, 7, 8, 9, 10, 13, 14, 15, 16, 17, 4, 18, 19, 20, 21, 22, 23, 24, 25, 2, 26, 27, 28, 29, 30, 31, 32, 33, 5, 34, 35, 36, 37, 38, 39, 40, 41, 42, 43, 44, 45, 46, 47, 48, 11, 12, 3] (.seq (.seq (.reg [] [(0, []), (1, []), (2, []), (3, []), (4, [])]) (.cond .leaf .leaf)) (.join [] [13, 14, 15, 16, 17, 4, 18, 19, 20, 21, 22, 23, 24, 25, 2, 26, 27, 28, 29, 30, 31, 32, 33, 5, 34, 35, 36, 37, 38, 39, 40, 41, 42, 43, 44, 45, 46, 47, 48] (.blk (.seq (.reg [] [(0, []), (1, []), (2, []), (3, []), (4, []), (5, []), (6, [])]) (.seq (.seq (.reg [] [(0, []), (1, []), (2, []), (3, []), (4, []), (5, []), (6, []), (7, [])]) (.cond (.seq (.reg [] [(0, [])]) .leaf) .leaf)) (.seq (.seq (.reg [] [(0, []), (1, [])]) (.cond .leaf .leaf)) (.seq (.reg [] [(0, []), (1, []), (2, []), (3, []), (4, []), (5, []), (6, []), (7, [])]) (.seq (.reg [0, 1, 0, 4, 15, 31, 63, 127, 63, 319, 1023, 63, 2111, 8191, 16383] [(0, []), (2, []), (1, []), (3, []), (4, []), (5, []), (6, []), (8, []), (7, []), (9, []), (10, []), (11, []), (12, [9, 7]), (13, []), (14, [])]) (.cond (.seq (.reg [] [(0, [])]) .leaf) .leaf))))))) (.reg [] [(0, []), (1, []), (2, [])])))))) (.seq (.reg [] [(0, [])]) .leaf)))
def D52 (a0 : Value) (K : Value → Hp → Prop) (h : Hp) : Prop :=
  vA (some (Obj.cells (Value.cells a0) 26 (0, 0), ptrV)) (fun v1 h1 =>
  ∃ I1 : Nat → List Value → Hp → Prop, (∃ n, I1 n [(Value.int .i64 0)] h1) ∧
  ∀ n1 : Nat, ∀ v3 : Value, ∀ h2 : Hp, I1 n1 [v3] h2 → ∀ g1 : St,
    vP (faV 5 v1) fun v7 =>
    vP (ld1 v7 h2) fun v8 =>
    vP (lenV v8) fun v9 =>
    vP (binV .lss v3 v9) fun v10 =>
    vB v10 (∀ J2 : List Value → Hp → Prop, (∀ h3 : Hp, (∀ g2 : St,
        vP (binV .add v3 (Value.int .i64 1)) fun v12 =>
        ∃ m1, m1 < n1 ∧ I1 m1 [v12] h3) → J2 [] h3) →
      vP (faV 5 v1) fun v13 =>
      vP (ld1 v13 h2) fun v14 =>
      vP (iaS 3 v14 v3) fun v16 =>
      vP (ldN 3 v16 h2) fun v17 =>
      vA (some (Obj.cells #[(Value.int .i64 0), (Value.slice none 0 0), (Value.bool false)] 30 (0, 0), ptrV)) (fun v4 h4 =>
      stN 3 v4 v17 (fun _ h5 =>
      vP (ldN 3 v4 h5) fun v18 =>
      CallH Try.prog 61 #[v18] (fun v19 h6 =>
      vP (eqV 1 false v19 (Value.int .i64 0)) fun v20 =>
      vP (gdW (gB v20 false) (faV 0 v4)) fun v22 =>
      vP (gdW (gB v20 false) (ld1 v22 h6)) fun v23 =>
      vP (gdW (gB v20 false) (binV .lss v23 (Value.int .i64 64))) fun v24 =>
      vP (pickV v20 (Value.bool true) v24) fun v25 =>
      vB v25 (K (Value.bool false) h6)
      (vP (eqV 1 false v3 (Value.int .i64 0)) fun v27 =>
      vB v27 (J2 [] h6)
      (vP (faV 5 v1) fun v28 =>
      vP (ld1 v28 h6) fun v29 =>
      vP (binV .sub v3 (Value.int .i64 1)) fun v31 =>
      vP (iaS 3 v29 v31) fun v32 =>
      vP (ldN 3 v32 h6) fun v33 =>
      vA (some (Obj.cells #[(Value.int .i64 0), (Value.slice none 0 0), (Value.bool false)] 30 (0, 0), ptrV)) (fun v5 h7 =>
      stN 3 v5 v33 (fun _ h8 =>
      vP (faV 0 v4) fun v34 =>
      vP (faV 0 v5) fun v36 =>
      vP (ld1 v34 h8) fun v35 =>
      vP (ld1 v36 h8) fun v37 =>
      vP (binV .leq v35 v37) fun v38 =>
      vP (gdW (gB v38 false) (faV 0 v4)) fun v40 =>
      vP (gdW (gB v38 false) (faV 0 v5)) fun v42 =>
      vP (gdW (gB v38 false) (ld1 v40 h8)) fun v41 =>
      vP (gdW (gB v38 false) (ld1 v42 h8)) fun v43 =>
      vP (gdW (gB v38 false) (binV .sub v41 v43)) fun v44 =>
      vP (gdW (gB v38 false) (ldN 3 v5 h8)) fun v45 =>
      vE (gB v38 false) (CallH Try.prog 61 #[v45]) (fun v46 h9 =>
      gdW (gB v38 false) (ld1 v42 h9) = some v43 ∧ (gdW (gB v38 false) (ld1 v40 h9) = some v41 ∧ (vP (gdW (gB v38 false) (binV .lss v44 v46)) fun v47 =>
      vP (pickV v38 (Value.bool true) v47) fun v48 =>
      vB v48 (K (Value.bool false) h9)
      (J2 [] h9)))) h8) h7) h6))) h5) h4) h2)
    (K (Value.bool true) h2)) h
theorem D52_eq (a0 : Value) (K : Value → Hp → Prop) (h : Hp) : fnVC Try.prog Try.f52 x52 [a0] K h = D52 a0 K h := by kernel_rfl
theorem D52_ok : fnOk Try.prog Try.f52 x52 1 = true := by kernel_rfl
theorem C52 {a0 : Value} {K : Value → Hp → Prop} {h : Hp} (hh : D52 a0 K h) : CallH Try.prog 52 #[a0] K h :=
  callH_of mixed Try.func52 x52 [a0] D52_ok (D52_eq a0 K h ▸ hh)

/- 53: treadmill/treadmillref29.twice; slots: 0 v, 1 v, 3 i, 4 k -/
def x53 : Ann := (.seq (.reg [] [(0, []), (1, [])]) (.seq (.seq (.reg [] [(0, [])]) (.blk (.loop [3] [5, 6, 7, 8, 9, 4, 12, 13, 14, 17, 18, 19, 20, 21, 22, 23, 24, 25, 26, 27, 28, 29, 30, 31, 32, 33, 34, 35, 36, 37, 38, 39, 40, 41, 42, 43, 44, 45, 46, 47, 2, 15, 16, 10, 11, 3] (.seq (.seq (.reg [] [(0, []), (1, []), (2, []), (3, []), (4, [])]) (.cond .leaf .leaf)) (.seq (.blk (.seq (.reg [] [(0, [])]) (.blk (.loop [4] [12, 13, 14, 17, 18, 19, 20, 21, 22, 23, 24, 25, 26, 27, 28, 29, 30, 31, 32, 33, 34, 35, 36, 37, 38, 39, 40, 41, 42, 43, 44, 45, 46, 47, 2, 15, 16, 4] (.seq (.seq (.reg [] [(0, []), (1, []), (2, [])]) (.cond .leaf .leaf)) (.seq (.blk (.seq (.reg [0, 1, 0, 7, 15, 31, 63, 127, 255, 511, 255, 2047, 4095, 8191, 16383, 32767, 65535, 131071, 262143, 131071, 1048575, 2097151, 4194303, 131071, 8519679, 131071, 58851327, 125960191, 260177919, 536870911, 1073741823] [(0, []), (2, []), (1, []), (3, []), (4, []), (5, []), (6, []), (7, []), (8, []), (10, []), (9, []), (11, []), (12, []), (13, []), (14, []), (15, []), (16, []), (17, []), (19, []), (23, []), (25, []), (18, []), (20, []), (21, []), (22, []), (24, []), (26, []), (27, []), (28, []), (29, []), (30, [])]) (.cond (.seq (.reg [] [(0, [])]) .leaf) .leaf))) (.reg [] [(0, []), (1, []), (2, [])]))))))) (.reg [] [(0, []), (1, []), (2, [])])))))) (.seq (.reg [] [(0, [])]) .leaf)))
def D53 (a0 : Value) (K : Value → Hp → Prop) (h : Hp) : Prop :=
  vA (some (Obj.cells (Value.cells a0) 26 (0, 0), ptrV)) (fun v1 h1 =>
  ∃ I1 : Nat → List Value → Hp → Prop, (∃ n, I1 n [(Value.int .i64 0)] h1) ∧
  ∀ n1 : Nat, ∀ v3 : Value, ∀ h2 : Hp, I1 n1 [v3] h2 → ∀ g1 : St,
    vP (faV 4 v1) fun v6 =>
    vP (ld1 v6 h2) fun v7 =>
    vP (lenV v7) fun v8 =>
    vP (binV .lss v3 v8) fun v9 =>
    vB v9 (∃ I2 : Nat → List Value → Hp → Prop, (∃ n, I2 n [(Value.int .i64 0)] h2) ∧
      ∀ n2 : Nat, ∀ v4 : Value, ∀ h3 : Hp, I2 n2 [v4] h3 → ∀ g2 : St,
        vP (binV .lss v4 v3) fun v14 =>
        vB v14 (vP (faV 4 v1) fun v17 =>
          vP (ld1 v17 h3) fun v18 =>
          vP (iaS 3 v18 v3) fun v20 =>
          vP (faV 0 v20) fun v21 =>
          vP (ld1 v21 h3) fun v22 =>
          vP (eqV 1 false v22 (Value.int .i64 2)) fun v23 =>
          vP (gdW (gB v23 true) (faV 4 v1)) fun v25 =>
          vP (gdW (gB v23 true) (some v4)) fun v27 =>
          vP (gdW (gB v23 true) (ld1 v25 h3)) fun v26 =>
          vP (gdW (gB v23 true) (iaS 3 v26 v27)) fun v28 =>
          vP (gdW (gB v23 true) (faV 0 v28)) fun v29 =>
          vP (gdW (gB v23 true) (ld1 v29 h3)) fun v30 =>
          vP (gdW (gB v23 true) (eqV 1 false v30 (Value.int .i64 2))) fun v31 =>
          vP (pickV v23 v31 (Value.bool false)) fun v32 =>
          vP (gdW (gB v32 true) (faV 4 v1)) fun v34 =>
          vP (gdW (gB v32 true) (some v3)) fun v36 =>
          vP (gdW (gB v32 true) (faV 4 v1)) fun v40 =>
          vP (gdW (gB v32 true) (some v4)) fun v42 =>
          vP (gdW (gB v32 true) (ld1 v34 h3)) fun v35 =>
          vP (gdW (gB v32 true) (iaS 3 v35 v36)) fun v37 =>
          vP (gdW (gB v32 true) (faV 1 v37)) fun v38 =>
          vP (gdW (gB v32 true) (ld1 v38 h3)) fun v39 =>
          vP (gdW (gB v32 true) (ld1 v40 h3)) fun v41 =>
          vP (gdW (gB v32 true) (iaS 3 v41 v42)) fun v43 =>
          vP (gdW (gB v32 true) (faV 1 v43)) fun v44 =>
          vP (gdW (gB v32 true) (ld1 v44 h3)) fun v45 =>
          vP (gdW (gB v32 true) (eqV 1 false v39 v45)) fun v46 =>
          vP (pickV v32 v46 (Value.bool false)) fun v47 =>
          vB v47 (K (Value.bool true) h3)
          (vP (binV .add v4 (Value.int .i64 1)) fun v16 =>
          ∃ m2, m2 < n2 ∧ I2 m2 [v16] h3))
        (vP (binV .add v3 (Value.int .i64 1)) fun v11 =>
        ∃ m1, m1 < n1 ∧ I1 m1 [v11] h3))
    (K (Value.bool false) h2)) h
theorem D53_eq (a0 : Value) (K : Value → Hp → Prop) (h : Hp) : fnVC Try.prog Try.f53 x53 [a0] K h = D53 a0 K h := by kernel_rfl
theorem D53_ok : fnOk Try.prog Try.f53 x53 1 = true := by kernel_rfl
theorem C53 {a0 : Value} {K : Value → Hp → Prop} {h : Hp} (hh : D53 a0 K h) : CallH Try.prog 53 #[a0] K h :=
  callH_of mixed Try.func53 x53 [a0] D53_ok (D53_eq a0 K h ▸ hh)

/- 54: treadmill/treadmillref29.placed; slots: 0 v, 1 ps, 2 v, 3 ps, 5 i, 6 p -/
def x54 : Ann := (.seq (.reg [] [(0, []), (1, [])]) (.seq (.seq (.reg [] [(0, [])]) (.blk (.loop [5] [7, 8, 9, 10, 11, 14, 15, 16, 17, 18, 19, 6, 20, 21, 22, 23, 24, 25, 29, 28, 30, 31, 32, 33, 34, 35, 36, 4, 38, 37, 39, 40, 41, 42, 43, 44, 45, 26, 27, 12, 13, 5] (.seq (.seq (.reg [] [(0, []), (1, []), (2, []), (3, []), (4, [])]) (.cond .leaf .leaf)) (.join [] [14, 15, 16, 17, 18, 19, 6, 20, 21, 22, 23, 24, 25, 29, 28, 30, 31, 32, 33, 34, 35, 36, 4, 38, 37, 39, 40, 41, 42, 43, 44, 45, 26, 27] (.blk (.seq (.reg [] [(0, []), (1, []), (2, []), (3, []), (4, []), (5, []), (6, [])]) (.seq (.reg [] [(0, []), (1, []), (2, []), (3, []), (4, []), (5, [])]) (.blk (.seq (.reg [] [(0, []), (1, [])]) (.cond (.seq (.reg [] [(0, []), (1, []), (2, []), (3, []), (4, []), (5, []), (6, [])]) (.cond (.seq (.reg [] [(0, [])]) .leaf) .leaf)) (.seq (.reg [] [(0, []), (1, [])]) (.cond (.seq (.reg [] [(0, []), (1, []), (2, []), (3, []), (4, []), (5, []), (6, [])]) (.cond (.seq (.reg [] [(0, [])]) .leaf) .leaf)) (.seq (.reg [] [(0, []), (1, [])]) (.cond (.seq (.reg [] [(0, [])]) .leaf) .leaf)))))))))) (.reg [] [(0, []), (1, []), (2, [])])))))) (.seq (.reg [] [(0, [])]) .leaf)))
def D54 (a0 a1 : Value) (K : Value → Hp → Prop) (h : Hp) : Prop :=
  vA (some (Obj.cells (Value.cells a0) 26 (0, 0), ptrV)) (fun v2 h1 =>
  ∃ I1 : Nat → List Value → Hp → Prop, (∃ n, I1 n [(Value.int .i64 0)] h1) ∧
  ∀ n1 : Nat, ∀ v5 : Value, ∀ h2 : Hp, I1 n1 [v5] h2 → ∀ g1 : St,
    vP (faV 4 v2) fun v8 =>
    vP (ld1 v8 h2) fun v9 =>
    vP (lenV v9) fun v10 =>
    vP (binV .lss v5 v10) fun v11 =>
    vB v11 (∀ J2 : List Value → Hp → Prop, (∀ h3 : Hp, (∀ g2 : St,
        vP (binV .add v5 (Value.int .i64 1)) fun v13 =>
        ∃ m1, m1 < n1 ∧ I1 m1 [v13] h3) → J2 [] h3) →
      vP (faV 4 v2) fun v14 =>
      vP (ld1 v14 h2) fun v15 =>
      vP (iaS 3 v15 v5) fun v17 =>
      vP (faV 1 v17) fun v18 =>
      vP (ld1 v18 h2) fun v19 =>
      vP (faV 4 v2) fun v20 =>
      vP (ld1 v20 h2) fun v21 =>
      vP (iaS 3 v21 v5) fun v23 =>
      vP (faV 0 v23) fun v24 =>
      vP (ld1 v24 h2) fun v25 =>
      vP (eqV 1 false v25 (Value.int .i64 2)) fun v29 =>
      vB v29 (vP (binV .lss v19 (Value.int .i64 0)) fun v31 =>
        vP (gdW (gB v31 false) (some v19)) fun v33 =>
        vP (gdW (gB v31 false) (some a1)) fun v34 =>
        vP (gdW (gB v31 false) (binV .geq v33 v34)) fun v35 =>
        vP (pickV v31 (Value.bool true) v35) fun v36 =>
        vB v36 (K (Value.bool false) h2)
        (J2 [] h2))
      (vP (eqV 1 false v25 (Value.int .i64 1)) fun v38 =>
      vB v38 (vP (binV .lss v19 (Value.int .i64 (-1))) fun v40 =>
        vP (gdW (gB v40 false) (some v19)) fun v42 =>
        vP (gdW (gB v40 false) (some a1)) fun v43 =>
        vP (gdW (gB v40 false) (binV .geq v42 v43)) fun v44 =>
        vP (pickV v40 (Value.bool true) v44) fun v45 =>
        vB v45 (K (Value.bool false) h2)
        (J2 [] h2))
      (vP (eqV 1 true v19 (Value.int .i64 (-1))) fun v27 =>
      vB v27 (K (Value.bool false) h2)
      (J2 [] h2))))
    (K (Value.bool true) h2)) h
theorem D54_eq (a0 a1 : Value) (K : Value → Hp → Prop) (h : Hp) : fnVC Try.prog Try.f54 x54 [a0, a1] K h = D54 a0 a1 K h := by kernel_rfl
theorem D54_ok : fnOk Try.prog Try.f54 x54 2 = true := by kernel_rfl
theorem C54 {a0 a1 : Value} {K : Value → Hp → Prop} {h : Hp} (hh : D54 a0 a1 K h) : CallH Try.prog 54 #[a0, a1] K h :=
  callH_of mixed Try.func54 x54 [a0, a1] D54_ok (D54_eq a0 a1 K h ▸ hh)

/- 55: treadmill/treadmillref29.numbers; slots: 0 v, 1 v, 3 i -/
def x55 : Ann := (.seq (.reg [] [(0, []), (1, [])]) (.seq (.seq (.reg [] [(0, [])]) (.blk (.loop [3] [4, 5, 6, 7, 8, 11, 12, 13, 14, 15, 16, 17, 18, 2, 9, 10, 3] (.seq (.seq (.reg [] [(0, []), (1, []), (2, []), (3, []), (4, [])]) (.cond .leaf .leaf)) (.seq (.blk (.seq (.reg [] [(0, []), (1, []), (2, []), (3, []), (4, []), (5, []), (6, []), (7, [])]) (.cond (.seq (.reg [] [(0, [])]) .leaf) .leaf))) (.reg [] [(0, []), (1, []), (2, [])])))))) (.seq (.reg [] [(0, []), (1, []), (2, []), (3, []), (4, []), (5, []), (6, []), (7, []), (8, []), (9, []), (10, []), (11, []), (12, []), (13, []), (14, []), (15, []), (16, []), (17, []), (18, [])]) .leaf)))
def D55 (a0 : Value) (K : Value → Hp → Prop) (h : Hp) : Prop :=
  vA (some (Obj.cells (Value.cells a0) 26 (0, 0), ptrV)) (fun v1 h1 =>
  ∃ I1 : Nat → List Value → Hp → Prop, (∃ n, I1 n [(Value.int .i64 0)] h1) ∧
  ∀ n1 : Nat, ∀ v3 : Value, ∀ h2 : Hp, I1 n1 [v3] h2 → ∀ g1 : St,
    vP (faV 4 v1) fun v5 =>
    vP (ld1 v5 h2) fun v6 =>
    vP (lenV v6) fun v7 =>
    vP (binV .lss v3 v7) fun v8 =>
    vB v8 (vP (faV 4 v1) fun v11 =>
      vP (ld1 v11 h2) fun v12 =>
      vP (iaS 3 v12 v3) fun v14 =>
      vP (faV 2 v14) fun v15 =>
      vP (ld1 v15 h2) fun v16 =>
      vP (lenV v16) fun v17 =>
      vP (eqV 1 true v17 (Value.int .i64 16)) fun v18 =>
      vB v18 (K (Value.bool false) h2)
      (vP (binV .add v3 (Value.int .i64 1)) fun v10 =>
      ∃ m1, m1 < n1 ∧ I1 m1 [v10] h2))
    (vP (faV 0 v1) fun v19 =>
    vP (ld1 v19 h2) fun v20 =>
    vP (binV .geq v20 (Value.int .i64 0)) fun v21 =>
    vP (gdW (gB v21 true) (faV 0 v1)) fun v23 =>
    vP (gdW (gB v21 true) (ld1 v23 h2)) fun v24 =>
    vP (gdW (gB v21 true) (binV .leq v24 (Value.int .i64 3))) fun v25 =>
    vP (pickV v21 v25 (Value.bool false)) fun v26 =>
    vP (gdW (gB v26 true) (faV 1 v1)) fun v28 =>
    vP (gdW (gB v26 true) (ld1 v28 h2)) fun v29 =>
    vP (gdW (gB v26 true) (binV .geq v29 (Value.int .i64 0))) fun v30 =>
    vP (pickV v26 v30 (Value.bool false)) fun v31 =>
    vP (gdW (gB v31 true) (faV 2 v1)) fun v33 =>
    vP (gdW (gB v31 true) (ld1 v33 h2)) fun v34 =>
    vP (gdW (gB v31 true) (binV .geq v34 (Value.int .i64 0))) fun v35 =>
    vP (pickV v31 v35 (Value.bool false)) fun v36 =>
    K v36 h2)) h
theorem D55_eq (a0 : Value) (K : Value → Hp → Prop) (h : Hp) : fnVC Try.prog Try.f55 x55 [a0] K h = D55 a0 K h := by kernel_rfl
theorem D55_ok : fnOk Try.prog Try.f55 x55 1 = true := by kernel_rfl
theorem C55 {a0 : Value} {K : Value → Hp → Prop} {h : Hp} (hh : D55 a0 K h) : CallH Try.prog 55 #[a0] K h :=
  callH_of mixed Try.func55 x55 [a0] D55_ok (D55_eq a0 K h ▸ hh)

/- 56: treadmill/treadmillref29.clean; slots: 0 v, 1 v, 3 i -/
def x56 : Ann := (.seq (.reg [] [(0, []), (1, [])]) (.seq (.seq (.reg [] [(0, [])]) (.blk (.loop [3] [4, 5, 6, 7, 8, 11, 12, 13, 14, 15, 16, 17, 18, 19, 20, 21, 2, 9, 10, 3] (.seq (.seq (.reg [] [(0, []), (1, []), (2, []), (3, []), (4, [])]) (.cond .leaf .leaf)) (.seq (.blk (.seq (.reg [] [(0, []), (1, []), (2, []), (3, []), (4, []), (5, []), (6, []), (7, []), (8, []), (9, []), (10, [])]) (.cond (.seq (.reg [] [(0, [])]) .leaf) .leaf))) (.reg [] [(0, []), (1, []), (2, [])])))))) (.seq (.reg [] [(0, [])]) .leaf)))
def D56 (a0 : Value) (K : Value → Hp → Prop) (h : Hp) : Prop :=
  vA (some (Obj.cells (Value.cells a0) 26 (0, 0), ptrV)) (fun v1 h1 =>
  ∃ I1 : Nat → List Value → Hp → Prop, (∃ n, I1 n [(Value.int .i64 0)] h1) ∧
  ∀ n1 : Nat, ∀ v3 : Value, ∀ h2 : Hp, I1 n1 [v3] h2 → ∀ g1 : St,
    vP (faV 5 v1) fun v5 =>
    vP (ld1 v5 h2) fun v6 =>
    vP (lenV v6) fun v7 =>
    vP (binV .lss v3 v7) fun v8 =>
    vB v8 (vP (faV 0 v1) fun v11 =>
      vP (ld1 v11 h2) fun v12 =>
      vP (eqV 1 false v12 (Value.int .i64 0)) fun v13 =>
      vP (gdW (gB v13 true) (faV 5 v1)) fun v15 =>
      vP (gdW (gB v13 true) (ld1 v15 h2)) fun v16 =>
      vP (gdW (gB v13 true) (some v3)) fun v17 =>
      vP (gdW (gB v13 true) (iaS 3 v16 v17)) fun v18 =>
      vP (gdW (gB v13 true) (faV 2 v18)) fun v19 =>
      vP (gdW (gB v13 true) (ld1 v19 h2)) fun v20 =>
      vP (pickV v13 v20 (Value.bool false)) fun v21 =>
      vB v21 (K (Value.bool false) h2)
      (vP (binV .add v3 (Value.int .i64 1)) fun v10 =>
      ∃ m1, m1 < n1 ∧ I1 m1 [v10] h2))
    (K (Value.bool true) h2)) h
theorem D56_eq (a0 : Value) (K : Value → Hp → Prop) (h : Hp) : fnVC Try.prog Try.f56 x56 [a0] K h = D56 a0 K h := by kernel_rfl
theorem D56_ok : fnOk Try.prog Try.f56 x56 1 = true := by kernel_rfl
theorem C56 {a0 : Value} {K : Value → Hp → Prop} {h : Hp} (hh : D56 a0 K h) : CallH Try.prog 56 #[a0] K h :=
  callH_of mixed Try.func56 x56 [a0] D56_ok (D56_eq a0 K h ▸ hh)

/- 27: treadmill/treadmillref29.All; slots: 0 v, 1 ps, 2 v, 3 ps, 5 work, 6 bad, 7 out, 8 i -/
def x27 : Ann := (.seq (.reg [] [(0, []), (1, [])]) (.seq (.reg [] [(0, []), (1, []), (2, []), (3, []), (4, []), (5, []), (6, []), (7, []), (8, []), (9, []), (10, []), (11, []), (12, []), (13, []), (14, []), (15, []), (16, []), (17, []), (18, []), (19, []), (20, []), (21, []), (22, []), (23, []), (24, []), (25, []), (26, []), (27, []), (28, []), (29, []), (30, []), (31, []), (32, []), (33, [])]) (.seq (.reg [0, 1, 3, 7, 0, 19, 51, 0, 179, 0, 0, 1971, 4019, 0, 0, 16384, 49152, 118707, 249779, 511923, 1036211, 2084787, 4181939, 0, 9424819, 26202035, 0, 93310899, 227528627, 536870911, 1073741823] [(10, []), (13, []), (14, []), (0, []), (4, []), (7, []), (9, []), (15, []), (16, []), (23, []), (26, []), (1, [26, 23, 15, 9, 7, 4]), (2, []), (3, []), (5, [26, 23, 15, 9, 7]), (6, []), (8, [26, 23, 15, 9]), (11, [26, 23, 15]), (12, []), (17, []), (18, []), (19, [26, 23]), (20, []), (21, []), (22, []), (24, [26]), (25, []), (27, []), (28, []), (29, []), (30, [])]) (.seq (.reg [] [(0, [])]) (.seq (.seq (.reg [] [(0, [])]) (.blk (.loop [8, 7] [72, 73, 74, 75, 78, 79, 80, 81, 82, 83, 84, 85, 86, 7, 76, 77, 8] (.seq (.seq (.reg [] [(0, []), (1, []), (2, []), (3, [])]) (.cond .leaf .leaf)) (.join [7] [78, 79, 80, 81, 82, 83, 84, 85, 86, 7] (.blk (.seq (.reg [] [(0, []), (1, []), (2, []), (3, [])]) (.cond (.reg [] [(0, []), (1, []), (2, []), (3, []), (4, []), (5, [])]) .leaf))) (.reg [] [(0, []), (1, []), (2, [])])))))) (.seq (.reg [] [(0, []), (1, [])]) .leaf))))))
def D27 (a0 a1 : Value) (K : Value → Hp → Prop) (h : Hp) : Prop :=
  vA (some (Obj.cells (Value.cells a0) 26 (0, 0), ptrV)) (fun v2 h1 =>
  vP (faV 6 v2) fun v9 =>
  vP (ld1 v9 h1) fun v10 =>
  vP (binV .lss v10 (Value.int .i64 0)) fun v11 =>
  vP (gdW (gB v11 false) (faV 7 v2)) fun v13 =>
  vP (gdW (gB v11 false) (ld1 v13 h1)) fun v14 =>
  vP (gdW (gB v11 false) (binV .lss v14 (Value.int .i64 0))) fun v15 =>
  vP (pickV v11 (Value.bool true) v15) fun v16 =>
  vP (gdW (gB v16 false) (faV 8 v2)) fun v18 =>
  vP (gdW (gB v16 false) (ld1 v18 h1)) fun v19 =>
  vP (gdW (gB v16 false) (binV .lss v19 (Value.int .i64 0))) fun v20 =>
  vP (pickV v16 (Value.bool true) v20) fun v21 =>
  vP (gdW (gB v21 false) (faV 0 v2)) fun v23 =>
  vP (gdW (gB v21 false) (ld1 v23 h1)) fun v24 =>
  vP (gdW (gB v21 false) (eqV 1 true v24 (Value.int .i64 1))) fun v25 =>
  vP (gdW (gB v21 false) (some v25)) fun v26 =>
  vP (gdW (gB v26 true) (faV 6 v2)) fun v27 =>
  vP (gdW (gB v26 true) (ld1 v27 h1)) fun v28 =>
  vP (gdW (gB v26 true) (eqV 1 true v28 (Value.int .i64 0))) fun v29 =>
  vP (gdW (gB v26 true) (some v29)) fun v30 =>
  vP (gdW (gB v30 false) (faV 7 v2)) fun v31 =>
  vP (gdW (gB v30 false) (ld1 v31 h1)) fun v32 =>
  vP (gdW (gB v30 false) (eqV 1 true v32 (Value.int .i64 0))) fun v33 =>
  vP (gdW (gB v26 true) (pickV v30 (Value.bool true) v33)) fun v34 =>
  vP (gdW (gB v26 true) (some v34)) fun v35 =>
  vP (gdW (gB v35 false) (faV 8 v2)) fun v36 =>
  vP (gdW (gB v35 false) (ld1 v36 h1)) fun v37 =>
  vP (gdW (gB v35 false) (eqV 1 true v37 (Value.int .i64 0))) fun v38 =>
  vP (gdW (gB v26 true) (pickV v35 (Value.bool true) v38)) fun v39 =>
  vP (gdW (gB v21 false) (pickV v26 v39 (Value.bool false))) fun v40 =>
  vP (pickV v21 (Value.bool true) v40) fun v41 =>
  vP (faV 0 v2) fun v56 =>
  vP (ldN 9 v2 h1) fun v42 =>
  vP (ldN 9 v2 h1) fun v46 =>
  vP (ldN 9 v2 h1) fun v49 =>
  vP (ldN 9 v2 h1) fun v51 =>
  vP (ld1 v56 h1) fun v57 =>
  vP (eqV 1 false v57 (Value.int .i64 2)) fun v58 =>
  vP (ldN 9 v2 h1) fun v65 =>
  vP (ldN 9 v2 h1) fun v68 =>
  CallH Try.prog 37 #[v42] (fun v43 h2 =>
  (ldN 9 v2 h2) = some v68 ∧ ((ldN 9 v2 h2) = some v65 ∧ ((ld1 v56 h2) = some v57 ∧ ((ldN 9 v2 h2) = some v51 ∧ ((ldN 9 v2 h2) = some v49 ∧ ((ldN 9 v2 h2) = some v46 ∧ (vP (lenV v43) fun v44 =>
  vP (binV .gtr v44 (Value.int .i64 0)) fun v45 =>
  CallH Try.prog 52 #[v46] (fun v47 h3 =>
  (ldN 9 v2 h3) = some v68 ∧ ((ldN 9 v2 h3) = some v65 ∧ ((ld1 v56 h3) = some v57 ∧ ((ldN 9 v2 h3) = some v51 ∧ ((ldN 9 v2 h3) = some v49 ∧ (vP (unV .not v47) fun v48 =>
  CallH Try.prog 53 #[v49] (fun v50 h4 =>
  (ldN 9 v2 h4) = some v68 ∧ ((ldN 9 v2 h4) = some v65 ∧ ((ld1 v56 h4) = some v57 ∧ ((ldN 9 v2 h4) = some v51 ∧ (CallH Try.prog 54 #[v51, a1] (fun v53 h5 =>
  (ldN 9 v2 h5) = some v68 ∧ ((ldN 9 v2 h5) = some v65 ∧ ((ld1 v56 h5) = some v57 ∧ (vP (unV .not v53) fun v54 =>
  vP (gdW (gB v58 true) (ldN 9 v2 h5)) fun v60 =>
  vE (gB v58 true) (CallH Try.prog 36 #[v60]) (fun v61 h6 =>
  (ldN 9 v2 h6) = some v68 ∧ ((ldN 9 v2 h6) = some v65 ∧ (vP (gdW (gB v58 true) (lenV v61)) fun v62 =>
  vP (gdW (gB v58 true) (binV .gtr v62 (Value.int .i64 0))) fun v63 =>
  vP (pickV v58 v63 (Value.bool false)) fun v64 =>
  CallH Try.prog 55 #[v65] (fun v66 h7 =>
  (ldN 9 v2 h7) = some v68 ∧ (vP (unV .not v66) fun v67 =>
  CallH Try.prog 56 #[v68] (fun v69 h8 =>
  vP (unV .not v69) fun v70 =>
  vA ((bldV #[(Value.bool false), (Value.bool false), (Value.bool false), (Value.bool false), (Value.bool false), (Value.bool false), (Value.bool false), (Value.bool false)] [(0, 1, v45), (1, 1, v48), (2, 1, v50), (3, 1, v54), (4, 1, v41), (5, 1, v64), (6, 1, v67), (7, 1, v70)]).map fun c => (Obj.cells c 4 (0, 0), fun r => Value.slice (some ⟨r, 0, none⟩) 8 8)) (fun v71 h9 =>
  ∃ I1 : Nat → List Value → Hp → Prop, (∃ n, I1 n [(Value.int .i64 0), (Value.slice none 0 0)] h9) ∧
  ∀ n1 : Nat, ∀ v8 v7 : Value, ∀ h10 : Hp, I1 n1 [v8, v7] h10 → ∀ g1 : St,
    vP (lenV v71) fun v74 =>
    vP (binV .lss v8 v74) fun v75 =>
    vB v75 (∀ J2 : List Value → Hp → Prop, (∀ v7_1 : Value, ∀ h11 : Hp, (∀ g2 : St,
        vP (binV .add v8 (Value.int .i64 1)) fun v77 =>
        ∃ m1, m1 < n1 ∧ I1 m1 [v77, v7_1] h11) → J2 [v7_1] h11) →
      vP (iaS 1 v71 v8) fun v80 =>
      vP (ld1 v80 h10) fun v81 =>
      vB v81 (vP (binV .add v8 (Value.int .i64 1)) fun v84 =>
        vA ((bldV #[(Value.int .i64 0)] [(0, 1, v84)]).map fun c => (Obj.cells c 3 (0, 0), fun r => Value.slice (some ⟨r, 0, none⟩) 1 1)) (fun v85 h12 =>
        apW Try.prog #[22, 22] 22 v7 v85 (fun v86 h13 =>
        J2 [v86] h13) h12) h10)
      (J2 [v7] h10))
    (K v7 h10)) h8) h7)) h6))) h5)))) h4))))) h3)))))) h2))))))) h1) h
theorem D27_eq (a0 a1 : Value) (K : Value → Hp → Prop) (h : Hp) : fnVC Try.prog Try.f27 x27 [a0, a1] K h = D27 a0 a1 K h := by kernel_rfl
theorem D27_ok : fnOk Try.prog Try.f27 x27 2 = true := by kernel_rfl
theorem C27 {a0 a1 : Value} {K : Value → Hp → Prop} {h : Hp} (hh : D27 a0 a1 K h) : CallH Try.prog 27 #[a0, a1] K h :=
  callH_of mixed Try.func27 x27 [a0, a1] D27_ok (D27_eq a0 a1 K h ▸ hh)

/- 31: treadmill/treadmillref29.Text; slots: 0 code, 1 code, 3 l -/
def x31 : Ann := (.seq (.reg [] [(0, [])]) (.seq (.reg [] [(0, []), (1, [])]) (.seq (.seq (.reg [] [(0, []), (1, []), (2, []), (3, []), (4, []), (5, []), (6, []), (7, [])]) (.cond (.seq (.reg [] [(0, [])]) .leaf) .leaf)) (.seq (.reg [] [(0, []), (1, []), (2, []), (3, []), (4, [])]) .leaf))))
def D31 (a0 : Value) (K : Value → Hp → Prop) (h : Hp) : Prop :=
  vA ((bldV #[(Value.string ⟨#[]⟩), (Value.string ⟨#[]⟩), (Value.string ⟨#[]⟩), (Value.string ⟨#[]⟩), (Value.string ⟨#[]⟩), (Value.string ⟨#[]⟩), (Value.string ⟨#[]⟩), (Value.string ⟨#[]⟩), (Value.string ⟨#[]⟩)] [(0, 1, (Value.string ⟨#[]⟩)), (1, 1, (Value.string ⟨#[108, 111, 115, 116]⟩)), (2, 1, (Value.string ⟨#[111, 98, 106, 101, 99, 116, 115]⟩)), (3, 1, (Value.string ⟨#[116, 119, 105, 99, 101]⟩)), (4, 1, (Value.string ⟨#[112, 108, 97, 99, 101, 115]⟩)), (5, 1, (Value.string ⟨#[119, 111, 114, 107]⟩)), (6, 1, (Value.string ⟨#[119, 104, 105, 116, 101]⟩)), (7, 1, (Value.string ⟨#[110, 117, 109, 98, 101, 114, 115]⟩)), (8, 1, (Value.string ⟨#[109, 97, 114, 107, 101, 100]⟩))]).map fun c => (Obj.cells c 9 (0, 0), fun r => Value.slice (some ⟨r, 0, none⟩) 9 9)) (fun v4 h1 =>
  vP (binV .lss a0 (Value.int .i64 0)) fun v6 =>
  vP (gdW (gB v6 false) (some a0)) fun v8 =>
  vP (gdW (gB v6 false) (some v4)) fun v9 =>
  vP (gdW (gB v6 false) (lenV v9)) fun v10 =>
  vP (gdW (gB v6 false) (binV .geq v8 v10)) fun v11 =>
  vP (pickV v6 (Value.bool true) v11) fun v12 =>
  vB v12 (K (Value.string ⟨#[]⟩) h1)
  (vP (iaS 1 v4 a0) fun v15 =>
  vP (ld1 v15 h1) fun v16 =>
  K v16 h1)) h
theorem D31_eq (a0 : Value) (K : Value → Hp → Prop) (h : Hp) : fnVC Try.prog Try.f31 x31 [a0] K h = D31 a0 K h := by kernel_rfl
theorem D31_ok : fnOk Try.prog Try.f31 x31 1 = true := by kernel_rfl
theorem C31 {a0 : Value} {K : Value → Hp → Prop} {h : Hp} (hh : D31 a0 K h) : CallH Try.prog 31 #[a0] K h :=
  callH_of mixed Try.func31 x31 [a0] D31_ok (D31_eq a0 K h ▸ hh)

end Go.Proofs

/-
  The conditions of some functions, as the printer wrote them out of the dump; the kernel checks that each is the function's own.
-/
set_option maxRecDepth 100000
namespace Go.Proofs
open Go.Sl
/- 57: treadmill/audit.rules; slots:  -/
def x57 : Ann := (.seq (.reg [] [(0, [])]) (.seq (.reg [] [(0, []), (1, []), (2, []), (3, []), (4, []), (5, []), (6, []), (7, []), (8, []), (9, [])]) .leaf))
def D57 (K : Value → Hp → Prop) (h : Hp) : Prop :=
  vP ((bldV #[(Value.string ⟨#[]⟩), Value.nilFunc] [(0, 1, (Value.string ⟨#[108, 111, 115, 116]⟩)), (1, 1, (Value.func (.func 73) #[] #[]))]).map Value.agg) fun v1 =>
  vP ((bldV #[(Value.string ⟨#[]⟩), Value.nilFunc] [(0, 1, (Value.string ⟨#[111, 98, 106, 101, 99, 116, 115]⟩)), (1, 1, (Value.func (.func 74) #[] #[]))]).map Value.agg) fun v2 =>
  vP ((bldV #[(Value.string ⟨#[]⟩), Value.nilFunc] [(0, 1, (Value.string ⟨#[116, 119, 105, 99, 101]⟩)), (1, 1, (Value.func (.func 75) #[] #[]))]).map Value.agg) fun v3 =>
  vP ((bldV #[(Value.string ⟨#[]⟩), Value.nilFunc] [(0, 1, (Value.string ⟨#[112, 108, 97, 99, 101, 115]⟩)), (1, 1, (Value.func (.func 76) #[] #[]))]).map Value.agg) fun v4 =>
  vP ((bldV #[(Value.string ⟨#[]⟩), Value.nilFunc] [(0, 1, (Value.string ⟨#[119, 111, 114, 107]⟩)), (1, 1, (Value.func (.func 77) #[] #[]))]).map Value.agg) fun v5 =>
  vP ((bldV #[(Value.string ⟨#[]⟩), Value.nilFunc] [(0, 1, (Value.string ⟨#[119, 104, 105, 116, 101]⟩)), (1, 1, (Value.func (.func 78) #[] #[]))]).map Value.agg) fun v6 =>
  vP ((bldV #[(Value.string ⟨#[]⟩), Value.nilFunc] [(0, 1, (Value.string ⟨#[110, 117, 109, 98, 101, 114, 115]⟩)), (1, 1, (Value.func (.func 79) #[] #[]))]).map Value.agg) fun v7 =>
  vP ((bldV #[(Value.string ⟨#[]⟩), Value.nilFunc] [(0, 1, (Value.string ⟨#[109, 97, 114, 107, 101, 100]⟩)), (1, 1, (Value.func (.func 80) #[] #[]))]).map Value.agg) fun v8 =>
  vA ((bldV #[(Value.string ⟨#[]⟩), Value.nilFunc, (Value.string ⟨#[]⟩), Value.nilFunc, (Value.string ⟨#[]⟩), Value.nilFunc, (Value.string ⟨#[]⟩), Value.nilFunc, (Value.string ⟨#[]⟩), Value.nilFunc, (Value.string ⟨#[]⟩), Value.nilFunc, (Value.string ⟨#[]⟩), Value.nilFunc, (Value.string ⟨#[]⟩), Value.nilFunc] [(0, 2, v1), (2, 2, v2), (4, 2, v3), (6, 2, v4), (8, 2, v5), (10, 2, v6), (12, 2, v7), (14, 2, v8)]).map fun c => (Obj.cells c 69 (0, 0), fun r => Value.slice (some ⟨r, 0, none⟩) 8 8)) (fun v9 h1 =>
  K v9 h1) h
theorem D57_eq (K : Value → Hp → Prop) (h : Hp) : fnVC Try.prog Try.f57 x57 [] K h = D57  K h := by kernel_rfl
theorem D57_ok : fnOk Try.prog Try.f57 x57 0 = true := by kernel_rfl
theorem C57 {K : Value → Hp → Prop} {h : Hp} (hh : D57  K h) : CallH Try.prog 57 #[] K h :=
  callH_of mixed Try.func57 x57 [] D57_ok (D57_eq  K h ▸ hh)

/- 73: treadmill/audit.lost; slots: 0 v, 1 ps, 2 v, 3 ps -/
def x73 : Ann := (.seq (.reg [] [(0, []), (1, [])]) (.seq (.reg [] [(0, []), (1, []), (2, []), (3, []), (4, [])]) .leaf))
def D73 (a0 a1 : Value) (K : Value → Hp → Prop) (h : Hp) : Prop :=
  vA (some (Obj.cells (Value.cells a0) 26 (0, 0), ptrV)) (fun v2 h1 =>
  vP (ldN 9 v2 h1) fun v5 =>
  CallH Try.prog 18 #[v5] (fun v6 h2 =>
  vP (lenV v6) fun v7 =>
  vP (binV .gtr v7 (Value.int .i64 0)) fun v8 =>
  K v8 h2) h1) h
theorem D73_eq (a0 a1 : Value) (K : Value → Hp → Prop) (h : Hp) : fnVC Try.prog Try.f73 x73 [a0, a1] K h = D73 a0 a1 K h := by kernel_rfl
theorem D73_ok : fnOk Try.prog Try.f73 x73 2 = true := by kernel_rfl
theorem C73 {a0 a1 : Value} {K : Value → Hp → Prop} {h : Hp} (hh : D73 a0 a1 K h) : CallH Try.prog 73 #[a0, a1] K h :=
  callH_of mixed Try.func73 x73 [a0, a1] D73_ok (D73_eq a0 a1 K h ▸ hh)

/- 74: treadmill/audit.objects; slots: 0 v, 1 ps, 2 v, 3 ps, 5 i, 6 o -/
def x74 : Ann := (.seq (.reg [] [(0, []), (1, [])]) (.seq (.seq (.reg [] [(0, []), (1, []), (2, []), (3, [])]) (.blk (.loop [10] [11, 12, 13, 14, 6, 5, 15, 16, 17, 18, 19, 20, 21, 22, 4, 23, 24, 25, 26, 27, 28, 29, 30, 31, 32, 33, 34, 35, 36, 37, 38, 39, 40, 41, 42, 43, 44, 45, 46, 47, 48, 49, 50, 51, 52, 53, 54, 55, 56, 57, 10] (.seq (.reg [] [(0, [])]) (.seq (.cond .leaf .leaf) (.seq (.blk (.seq (.reg [] [(0, []), (1, []), (2, []), (3, []), (4, []), (5, [])]) (.seq (.seq (.reg [] [(0, []), (1, []), (2, []), (3, []), (4, []), (5, []), (6, []), (7, [])]) (.cond (.seq (.reg [] [(0, [])]) .leaf) .leaf)) (.seq (.reg [0, 1, 3, 7, 15, 7, 39, 127, 255, 511, 7, 1031, 4095, 8191, 16383, 32767, 16383, 81919, 16383, 278527, 999423, 2047999, 4145151, 8388607, 16383, 16793599, 16383, 67125247, 251674623, 520110079, 1056980991, 2147483647, 4294967295, 8589934591] [(0, []), (1, []), (2, []), (3, []), (5, []), (6, []), (10, []), (4, []), (7, []), (8, []), (9, []), (11, []), (12, []), (13, []), (14, []), (16, []), (18, []), (19, []), (24, []), (26, []), (27, []), (15, []), (17, []), (20, []), (21, []), (22, []), (23, []), (25, []), (28, []), (29, []), (30, [22, 17, 15]), (31, []), (32, []), (33, [])]) (.cond (.seq (.reg [] [(0, [])]) .leaf) .leaf))))) (.reg [] [(0, []), (1, [])]))))))) (.seq (.reg [] [(0, [])]) .leaf)))
def D74 (a0 a1 : Value) (K : Value → Hp → Prop) (h : Hp) : Prop :=
  vA (some (Obj.cells (Value.cells a0) 26 (0, 0), ptrV)) (fun v2 h1 =>
  vP (faV 5 v2) fun v7 =>
  vP (ld1 v7 h1) fun v8 =>
  vP (lenV v8) fun v9 =>
  ∃ I1 : Nat → List Value → Hp → Prop, (∃ n, I1 n [(Value.int .i64 0)] h1) ∧
  ∀ n1 : Nat, ∀ v10 : Value, ∀ h2 : Hp, I1 n1 [v10] h2 → ∀ g1 : St,
    vP (binV .lss v10 v9) fun v11 =>
    vB v11 (vP (iaS 3 v8 v10) fun v13 =>
      vP (ldN 3 v13 h2) fun v14 =>
      vA (some (Obj.cells #[(Value.int .i64 0), (Value.slice none 0 0), (Value.bool false)] 30 (0, 0), ptrV)) (fun v6 h3 =>
      stN 3 v6 v14 (fun _ h4 =>
      vP (faV 0 v6) fun v15 =>
      vP (ld1 v15 h4) fun v16 =>
      vP (binV .lss v16 (Value.int .i64 64)) fun v17 =>
      vP (gdW (gB v17 false) (ldN 3 v6 h4)) fun v19 =>
      vE (gB v17 false) (CallH Try.prog 86 #[v19]) (fun v20 h5 =>
      vP (gdW (gB v17 false) (eqV 1 false v20 (Value.int .i64 0))) fun v21 =>
      vP (pickV v17 (Value.bool true) v21) fun v22 =>
      vB v22 (K (Value.bool true) h5)
      (vP (binV .gtr v10 (Value.int .i64 0)) fun v24 =>
      vP (gdW (gB v24 true) (faV 5 v2)) fun v26 =>
      vP (gdW (gB v24 true) (some v10)) fun v28 =>
      vP (gdW (gB v24 true) (binV .sub v28 (Value.int .i64 1))) fun v29 =>
      vP (gdW (gB v24 true) (faV 0 v6)) fun v33 =>
      vP (gdW (gB v24 true) (ld1 v26 h5)) fun v27 =>
      vP (gdW (gB v24 true) (iaS 3 v27 v29)) fun v30 =>
      vP (gdW (gB v24 true) (faV 0 v30)) fun v31 =>
      vP (gdW (gB v24 true) (ld1 v31 h5)) fun v32 =>
      vP (gdW (gB v24 true) (ld1 v33 h5)) fun v34 =>
      vP (gdW (gB v24 true) (binV .geq v32 v34)) fun v35 =>
      vP (gdW (gB v24 true) (some v35)) fun v36 =>
      vP (gdW (gB v36 false) (faV 0 v6)) fun v37 =>
      vP (gdW (gB v36 false) (faV 5 v2)) fun v39 =>
      vP (gdW (gB v36 false) (some v10)) fun v41 =>
      vP (gdW (gB v36 false) (binV .sub v41 (Value.int .i64 1))) fun v42 =>
      vP (gdW (gB v36 false) (faV 5 v2)) fun v47 =>
      vP (gdW (gB v36 false) (some v10)) fun v49 =>
      vP (gdW (gB v36 false) (binV .sub v49 (Value.int .i64 1))) fun v50 =>
      vP (gdW (gB v36 false) (ld1 v37 h5)) fun v38 =>
      vP (gdW (gB v36 false) (ld1 v39 h5)) fun v40 =>
      vP (gdW (gB v36 false) (iaS 3 v40 v42)) fun v43 =>
      vP (gdW (gB v36 false) (faV 0 v43)) fun v44 =>
      vP (gdW (gB v36 false) (ld1 v44 h5)) fun v45 =>
      vP (gdW (gB v36 false) (binV .sub v38 v45)) fun v46 =>
      vP (gdW (gB v36 false) (ld1 v47 h5)) fun v48 =>
      vP (gdW (gB v36 false) (iaS 3 v48 v50)) fun v51 =>
      vP (gdW (gB v36 false) (ldN 3 v51 h5)) fun v52 =>
      vE (gB v36 false) (CallH Try.prog 86 #[v52]) (fun v53 h6 =>
      gdW (gB v36 false) (ld1 v44 h6) = some v45 ∧ (gdW (gB v36 false) (ld1 v39 h6) = some v40 ∧ (gdW (gB v36 false) (ld1 v37 h6) = some v38 ∧ (vP (gdW (gB v36 false) (binV .lss v46 v53)) fun v54 =>
      vP (gdW (gB v24 true) (pickV v36 (Value.bool true) v54)) fun v55 =>
      vP (pickV v24 v55 (Value.bool false)) fun v56 =>
      vB v56 (K (Value.bool true) h6)
      (vP (binV .add v10 (Value.int .i64 1)) fun v57 =>
      ∃ m1, m1 < n1 ∧ I1 m1 [v57] h6))))) h5)) h4) h3) h2)
    (K (Value.bool false) h2)) h
theorem D74_eq (a0 a1 : Value) (K : Value → Hp → Prop) (h : Hp) : fnVC Try.prog Try.f74 x74 [a0, a1] K h = D74 a0 a1 K h := by kernel_rfl
theorem D74_ok : fnOk Try.prog Try.f74 x74 2 = true := by kernel_rfl
theorem C74 {a0 a1 : Value} {K : Value → Hp → Prop} {h : Hp} (hh : D74 a0 a1 K h) : CallH Try.prog 74 #[a0, a1] K h :=
  callH_of mixed Try.func74 x74 [a0, a1] D74_ok (D74_eq a0 a1 K h ▸ hh)

/- 75: treadmill/audit.twice; slots: 0 v, 1 ps, 2 v, 3 ps, 5 l, 6 _, 7 g -/
def x75 : Ann := (.seq (.reg [] [(0, []), (1, [])]) (.seq (.reg [] [(0, [])]) (.seq (.seq (.reg [] [(0, []), (1, []), (2, []), (3, [])]) (.blk (.loop [11, 5] [12, 13, 14, 7, 15, 16, 17, 18, 19, 20, 21, 4, 22, 23, 24, 25, 26, 5, 27, 11] (.seq (.reg [] [(0, [])]) (.seq (.cond .leaf .leaf) (.join [5] [13, 14, 7, 15, 16, 17, 18, 19, 20, 21, 4, 22, 23, 24, 25, 26, 5] (.blk (.seq (.reg [] [(0, []), (1, []), (2, []), (3, [])]) (.seq (.seq (.reg [] [(0, []), (1, []), (2, [])]) (.cond .leaf .leaf)) (.seq (.seq (.reg [] [(0, []), (1, []), (2, []), (3, [])]) (.cond (.seq (.reg [] [(0, [])]) .leaf) .leaf)) (.reg [] [(0, []), (1, []), (2, []), (3, []), (4, []), (5, [])]))))) (.reg [] [(0, []), (1, [])]))))))) (.seq (.reg [] [(0, [])]) .leaf))))
def D75 (a0 a1 : Value) (K : Value → Hp → Prop) (h : Hp) : Prop :=
  vA (some (Obj.cells (Value.cells a0) 26 (0, 0), ptrV)) (fun v2 h1 =>
  vP (faV 4 v2) fun v8 =>
  vP (ld1 v8 h1) fun v9 =>
  vP (lenV v9) fun v10 =>
  ∃ I1 : Nat → List Value → Hp → Prop, (∃ n, I1 n [(Value.int .i64 0), (Value.slice none 0 0)] h1) ∧
  ∀ n1 : Nat, ∀ v11 v5 : Value, ∀ h2 : Hp, I1 n1 [v11, v5] h2 → ∀ g1 : St,
    vP (binV .lss v11 v10) fun v12 =>
    vB v12 (∀ J2 : List Value → Hp → Prop, (∀ v5_1 : Value, ∀ h3 : Hp, (∀ g2 : St,
        vP (binV .add v11 (Value.int .i64 1)) fun v27 =>
        ∃ m1, m1 < n1 ∧ I1 m1 [v27, v5_1] h3) → J2 [v5_1] h3) →
      vP (iaS 3 v9 v11) fun v13 =>
      vP (ldN 3 v13 h2) fun v14 =>
      vA (some (Obj.cells #[(Value.int .i64 0), (Value.int .i64 0), (Value.slice none 0 0)] 41 (0, 0), ptrV)) (fun v7 h4 =>
      stN 3 v7 v14 (fun _ h5 =>
      vP (faV 0 v7) fun v15 =>
      vP (ld1 v15 h5) fun v16 =>
      vP (eqV 1 true v16 (Value.int .i64 2)) fun v17 =>
      vB v17 (J2 [v5] h5)
      (vP (faV 1 v7) fun v19 =>
      vP (ld1 v19 h5) fun v20 =>
      CallH Try.prog 44 #[v5, v20] (fun v21 h6 =>
      vB v21 (K (Value.bool true) h6)
      (vP (faV 1 v7) fun v23 =>
      vP (ld1 v23 h6) fun v24 =>
      vA ((bldV #[(Value.int .i64 0)] [(0, 1, v24)]).map fun c => (Obj.cells c 3 (0, 0), fun r => Value.slice (some ⟨r, 0, none⟩) 1 1)) (fun v25 h7 =>
      apW Try.prog #[22, 22] 22 v5 v25 (fun v26 h8 =>
      J2 [v26] h8) h7) h6)) h5)) h4) h2)
    (K (Value.bool false) h2)) h
theorem D75_eq (a0 a1 : Value) (K : Value → Hp → Prop) (h : Hp) : fnVC Try.prog Try.f75 x75 [a0, a1] K h = D75 a0 a1 K h := by kernel_rfl
theorem D75_ok : fnOk Try.prog Try.f75 x75 2 = true := by kernel_rfl
theorem C75 {a0 a1 : Value} {K : Value → Hp → Prop} {h : Hp} (hh : D75 a0 a1 K h) : CallH Try.prog 75 #[a0, a1] K h :=
  callH_of mixed Try.func75 x75 [a0, a1] D75_ok (D75_eq a0 a1 K h ▸ hh)

/- 76: treadmill/audit.places; slots: 0 v, 1 ps, 2 v, 3 ps, 5 _, 6 g, 7 ok -/
def x76 : Ann := (.seq (.reg [] [(0, []), (1, [])]) (.seq (.seq (.reg [] [(0, []), (1, []), (2, []), (3, [])]) (.blk (.loop [11] [12, 13, 14, 6, 15, 16, 17, 7, 18, 19, 21, 20, 22, 23, 24, 25, 26, 27, 28, 29, 30, 32, 31, 33, 34, 35, 36, 37, 38, 39, 40, 41, 42, 43, 4, 44, 11] (.seq (.reg [] [(0, [])]) (.seq (.cond .leaf .leaf) (.seq (.blk (.seq (.reg [] [(0, []), (1, []), (2, []), (3, [])]) (.seq (.reg [] [(0, []), (1, []), (2, []), (3, [])]) (.join [7] [18, 19, 21, 20, 22, 23, 24, 25, 26, 27, 28, 29, 30, 7, 32, 31, 33, 34, 35, 36, 37, 38, 39, 40, 41] (.seq (.reg [] [(0, []), (1, [])]) (.blk (.seq (.reg [] [(0, []), (1, [])]) (.cond (.reg [] [(0, []), (1, []), (2, []), (3, []), (4, []), (5, []), (6, []), (7, []), (8, []), (9, [])]) (.seq (.reg [] [(0, []), (1, [])]) (.cond (.reg [] [(0, []), (1, []), (2, []), (3, []), (4, []), (5, []), (6, []), (7, []), (8, []), (9, [])]) .leaf)))))) (.seq (.reg [] [(0, []), (1, [])]) (.cond (.seq (.reg [] [(0, [])]) .leaf) .leaf)))))) (.reg [] [(0, []), (1, [])]))))))) (.seq (.reg [] [(0, [])]) .leaf)))
def D76 (a0 a1 : Value) (K : Value → Hp → Prop) (h : Hp) : Prop :=
  vA (some (Obj.cells (Value.cells a0) 26 (0, 0), ptrV)) (fun v2 h1 =>
  vP (faV 4 v2) fun v8 =>
  vP (ld1 v8 h1) fun v9 =>
  vP (lenV v9) fun v10 =>
  ∃ I1 : Nat → List Value → Hp → Prop, (∃ n, I1 n [(Value.int .i64 0)] h1) ∧
  ∀ n1 : Nat, ∀ v11 : Value, ∀ h2 : Hp, I1 n1 [v11] h2 → ∀ g1 : St,
    vP (binV .lss v11 v10) fun v12 =>
    vB v12 (vP (iaS 3 v9 v11) fun v13 =>
      vP (ldN 3 v13 h2) fun v14 =>
      vA (some (Obj.cells #[(Value.int .i64 0), (Value.int .i64 0), (Value.slice none 0 0)] 41 (0, 0), ptrV)) (fun v6 h3 =>
      stN 3 v6 v14 (fun _ h4 =>
      vP (faV 1 v6) fun v15 =>
      vP (ld1 v15 h4) fun v16 =>
      vP (eqV 1 false v16 (Value.int .i64 (-1))) fun v17 =>
      ∀ J2 : List Value → Hp → Prop, (∀ v7 : Value, ∀ h5 : Hp, (∀ g2 : St,
        vP (unV .not v7) fun v43 =>
        vB v43 (K (Value.bool true) h5)
        (vP (binV .add v11 (Value.int .i64 1)) fun v44 =>
        ∃ m1, m1 < n1 ∧ I1 m1 [v44] h5)) → J2 [v7] h5) →
      vP (faV 0 v6) fun v18 =>
      vP (ld1 v18 h4) fun v19 =>
      vP (eqV 1 false v19 (Value.int .i64 2)) fun v21 =>
      vB v21 (vP (faV 1 v6) fun v22 =>
        vP (ld1 v22 h4) fun v23 =>
        vP (binV .geq v23 (Value.int .i64 0)) fun v24 =>
        vP (gdW (gB v24 true) (faV 1 v6)) fun v26 =>
        vP (gdW (gB v24 true) (ld1 v26 h4)) fun v27 =>
        vP (gdW (gB v24 true) (some a1)) fun v28 =>
        vP (gdW (gB v24 true) (binV .lss v27 v28)) fun v29 =>
        vP (pickV v24 v29 (Value.bool false)) fun v30 =>
        J2 [v30] h4)
      (vP (eqV 1 false v19 (Value.int .i64 1)) fun v32 =>
      vB v32 (vP (faV 1 v6) fun v33 =>
        vP (ld1 v33 h4) fun v34 =>
        vP (binV .geq v34 (Value.int .i64 (-1))) fun v35 =>
        vP (gdW (gB v35 true) (faV 1 v6)) fun v37 =>
        vP (gdW (gB v35 true) (ld1 v37 h4)) fun v38 =>
        vP (gdW (gB v35 true) (some a1)) fun v39 =>
        vP (gdW (gB v35 true) (binV .lss v38 v39)) fun v40 =>
        vP (pickV v35 v40 (Value.bool false)) fun v41 =>
        J2 [v41] h4)
      (J2 [v17] h4))) h3) h2)
    (K (Value.bool false) h2)) h
theorem D76_eq (a0 a1 : Value) (K : Value → Hp → Prop) (h : Hp) : fnVC Try.prog Try.f76 x76 [a0, a1] K h = D76 a0 a1 K h := by kernel_rfl
theorem D76_ok : fnOk Try.prog Try.f76 x76 2 = true := by kernel_rfl
theorem C76 {a0 a1 : Value} {K : Value → Hp → Prop} {h : Hp} (hh : D76 a0 a1 K h) : CallH Try.prog 76 #[a0, a1] K h :=
  callH_of mixed Try.func76 x76 [a0, a1] D76_ok (D76_eq a0 a1 K h ▸ hh)

/- 77: treadmill/audit.work; slots: 0 v, 1 ps, 2 v, 3 ps, 5 some -/
def x77 : Ann := (.seq (.reg [] [(0, []), (1, [])]) (.seq (.reg [] [(0, []), (1, []), (2, []), (3, []), (4, []), (5, []), (6, []), (7, []), (8, []), (9, []), (10, []), (11, []), (12, []), (13, [])]) (.seq (.reg [] [(0, []), (1, []), (2, []), (3, []), (4, []), (5, []), (6, []), (7, []), (8, []), (9, []), (10, []), (11, []), (12, []), (13, []), (14, []), (15, []), (16, []), (17, []), (18, []), (19, []), (20, []), (21, [])]) .leaf)))
def D77 (a0 a1 : Value) (K : Value → Hp → Prop) (h : Hp) : Prop :=
  vA (some (Obj.cells (Value.cells a0) 26 (0, 0), ptrV)) (fun v2 h1 =>
  vP (faV 6 v2) fun v6 =>
  vP (ld1 v6 h1) fun v7 =>
  vP (eqV 1 true v7 (Value.int .i64 0)) fun v8 =>
  vP (gdW (gB v8 false) (faV 7 v2)) fun v10 =>
  vP (gdW (gB v8 false) (ld1 v10 h1)) fun v11 =>
  vP (gdW (gB v8 false) (eqV 1 true v11 (Value.int .i64 0))) fun v12 =>
  vP (pickV v8 (Value.bool true) v12) fun v13 =>
  vP (gdW (gB v13 false) (faV 8 v2)) fun v15 =>
  vP (gdW (gB v13 false) (ld1 v15 h1)) fun v16 =>
  vP (gdW (gB v13 false) (eqV 1 true v16 (Value.int .i64 0))) fun v17 =>
  vP (pickV v13 (Value.bool true) v17) fun v18 =>
  vP (faV 0 v2) fun v19 =>
  vP (ld1 v19 h1) fun v20 =>
  vP (eqV 1 true v20 (Value.int .i64 1)) fun v21 =>
  vP (gdW (gB v21 true) (some v18)) fun v23 =>
  vP (pickV v21 v23 (Value.bool false)) fun v24 =>
  vP (gdW (gB v24 false) (faV 6 v2)) fun v26 =>
  vP (gdW (gB v24 false) (ld1 v26 h1)) fun v27 =>
  vP (gdW (gB v24 false) (binV .lss v27 (Value.int .i64 0))) fun v28 =>
  vP (pickV v24 (Value.bool true) v28) fun v29 =>
  vP (gdW (gB v29 false) (faV 7 v2)) fun v31 =>
  vP (gdW (gB v29 false) (ld1 v31 h1)) fun v32 =>
  vP (gdW (gB v29 false) (binV .lss v32 (Value.int .i64 0))) fun v33 =>
  vP (pickV v29 (Value.bool true) v33) fun v34 =>
  vP (gdW (gB v34 false) (faV 8 v2)) fun v36 =>
  vP (gdW (gB v34 false) (ld1 v36 h1)) fun v37 =>
  vP (gdW (gB v34 false) (binV .lss v37 (Value.int .i64 0))) fun v38 =>
  vP (pickV v34 (Value.bool true) v38) fun v39 =>
  K v39 h1) h
theorem D77_eq (a0 a1 : Value) (K : Value → Hp → Prop) (h : Hp) : fnVC Try.prog Try.f77 x77 [a0, a1] K h = D77 a0 a1 K h := by kernel_rfl
theorem D77_ok : fnOk Try.prog Try.f77 x77 2 = true := by kernel_rfl
theorem C77 {a0 a1 : Value} {K : Value → Hp → Prop} {h : Hp} (hh : D77 a0 a1 K h) : CallH Try.prog 77 #[a0, a1] K h :=
  callH_of mixed Try.func77 x77 [a0, a1] D77_ok (D77_eq a0 a1 K h ▸ hh)

/- 78: treadmill/audit.white; slots: 0 v, 1 ps, 2 v, 3 ps -/
def x78 : Ann := (.seq (.reg [] [(0, []), (1, [])]) (.seq (.reg [] [(0, []), (1, []), (2, []), (3, []), (4, []), (5, []), (6, []), (7, []), (8, []), (9, [])]) .leaf))
def D78 (a0 a1 : Value) (K : Value → Hp → Prop) (h : Hp) : Prop :=
  vA (some (Obj.cells (Value.cells a0) 26 (0, 0), ptrV)) (fun v2 h1 =>
  vP (faV 0 v2) fun v5 =>
  vP (ld1 v5 h1) fun v6 =>
  vP (eqV 1 false v6 (Value.int .i64 2)) fun v7 =>
  vP (gdW (gB v7 true) (ldN 9 v2 h1)) fun v9 =>
  vE (gB v7 true) (CallH Try.prog 23 #[v9]) (fun v10 h2 =>
  vP (gdW (gB v7 true) (lenV v10)) fun v11 =>
  vP (gdW (gB v7 true) (binV .gtr v11 (Value.int .i64 0))) fun v12 =>
  vP (pickV v7 v12 (Value.bool false)) fun v13 =>
  K v13 h2) h1) h
theorem D78_eq (a0 a1 : Value) (K : Value → Hp → Prop) (h : Hp) : fnVC Try.prog Try.f78 x78 [a0, a1] K h = D78 a0 a1 K h := by kernel_rfl
theorem D78_ok : fnOk Try.prog Try.f78 x78 2 = true := by kernel_rfl
theorem C78 {a0 a1 : Value} {K : Value → Hp → Prop} {h : Hp} (hh : D78 a0 a1 K h) : CallH Try.prog 78 #[a0, a1] K h :=
  callH_of mixed Try.func78 x78 [a0, a1] D78_ok (D78_eq a0 a1 K h ▸ hh)

/- 79: treadmill/audit.numbers; slots: 0 v, 1 ps, 2 v, 3 ps, 5 _, 6 g -/
def x79 : Ann := (.seq (.reg [] [(0, []), (1, [])]) (.seq (.seq (.reg [] [(0, []), (1, []), (2, []), (3, [])]) (.blk (.loop [10] [11, 12, 13, 6, 14, 15, 16, 17, 4, 18, 10] (.seq (.reg [] [(0, [])]) (.seq (.cond .leaf .leaf) (.seq (.blk (.seq (.reg [] [(0, []), (1, []), (2, []), (3, [])]) (.seq (.reg [] [(0, []), (1, []), (2, []), (3, [])]) (.cond (.seq (.reg [] [(0, [])]) .leaf) .leaf)))) (.reg [] [(0, []), (1, [])]))))))) (.seq (.reg [] [(0, []), (1, []), (2, []), (3, []), (4, []), (5, []), (6, []), (7, []), (8, []), (9, []), (10, []), (11, []), (12, []), (13, []), (14, []), (15, []), (16, []), (17, []), (18, [])]) .leaf)))
def D79 (a0 a1 : Value) (K : Value → Hp → Prop) (h : Hp) : Prop :=
  vA (some (Obj.cells (Value.cells a0) 26 (0, 0), ptrV)) (fun v2 h1 =>
  vP (faV 4 v2) fun v7 =>
  vP (ld1 v7 h1) fun v8 =>
  vP (lenV v8) fun v9 =>
  ∃ I1 : Nat → List Value → Hp → Prop, (∃ n, I1 n [(Value.int .i64 0)] h1) ∧
  ∀ n1 : Nat, ∀ v10 : Value, ∀ h2 : Hp, I1 n1 [v10] h2 → ∀ g1 : St,
    vP (binV .lss v10 v9) fun v11 =>
    vB v11 (vP (iaS 3 v8 v10) fun v12 =>
      vP (ldN 3 v12 h2) fun v13 =>
      vA (some (Obj.cells #[(Value.int .i64 0), (Value.int .i64 0), (Value.slice none 0 0)] 41 (0, 0), ptrV)) (fun v6 h3 =>
      stN 3 v6 v13 (fun _ h4 =>
      vP (faV 2 v6) fun v14 =>
      vP (ld1 v14 h4) fun v15 =>
      vP (lenV v15) fun v16 =>
      vP (eqV 1 true v16 (Value.int .i64 16)) fun v17 =>
      vB v17 (K (Value.bool true) h4)
      (vP (binV .add v10 (Value.int .i64 1)) fun v18 =>
      ∃ m1, m1 < n1 ∧ I1 m1 [v18] h4)) h3) h2)
    (vP (faV 0 v2) fun v19 =>
    vP (ld1 v19 h2) fun v20 =>
    vP (binV .lss v20 (Value.int .i64 0)) fun v21 =>
    vP (gdW (gB v21 false) (faV 0 v2)) fun v23 =>
    vP (gdW (gB v21 false) (ld1 v23 h2)) fun v24 =>
    vP (gdW (gB v21 false) (binV .gtr v24 (Value.int .i64 3))) fun v25 =>
    vP (pickV v21 (Value.bool true) v25) fun v26 =>
    vP (gdW (gB v26 false) (faV 1 v2)) fun v28 =>
    vP (gdW (gB v26 false) (ld1 v28 h2)) fun v29 =>
    vP (gdW (gB v26 false) (binV .lss v29 (Value.int .i64 0))) fun v30 =>
    vP (pickV v26 (Value.bool true) v30) fun v31 =>
    vP (gdW (gB v31 false) (faV 2 v2)) fun v33 =>
    vP (gdW (gB v31 false) (ld1 v33 h2)) fun v34 =>
    vP (gdW (gB v31 false) (binV .lss v34 (Value.int .i64 0))) fun v35 =>
    vP (pickV v31 (Value.bool true) v35) fun v36 =>
    K v36 h2)) h
theorem D79_eq (a0 a1 : Value) (K : Value → Hp → Prop) (h : Hp) : fnVC Try.prog Try.f79 x79 [a0, a1] K h = D79 a0 a1 K h := by kernel_rfl
theorem D79_ok : fnOk Try.prog Try.f79 x79 2 = true := by kernel_rfl
theorem C79 {a0 a1 : Value} {K : Value → Hp → Prop} {h : Hp} (hh : D79 a0 a1 K h) : CallH Try.prog 79 #[a0, a1] K h :=
  callH_of mixed Try.func79 x79 [a0, a1] D79_ok (D79_eq a0 a1 K h ▸ hh)

/- 80: treadmill/audit.marked; slots: 0 v, 1 ps, 2 v, 3 ps -/
def x80 : Ann := (.seq (.reg [] [(0, []), (1, [])]) (.seq (.reg [] [(0, []), (1, []), (2, []), (3, []), (4, []), (5, []), (6, []), (7, []), (8, [])]) .leaf))
def D80 (a0 a1 : Value) (K : Value → Hp → Prop) (h : Hp) : Prop :=
  vA (some (Obj.cells (Value.cells a0) 26 (0, 0), ptrV)) (fun v2 h1 =>
  vP (faV 0 v2) fun v5 =>
  vP (ld1 v5 h1) fun v6 =>
  vP (eqV 1 false v6 (Value.int .i64 0)) fun v7 =>
  vP (gdW (gB v7 true) (faV 5 v2)) fun v9 =>
  vP (gdW (gB v7 true) (ld1 v9 h1)) fun v10 =>
  vE (gB v7 true) (CallH Try.prog 87 #[v10, (Value.func (.func 88) #[] #[])]) (fun v11 h2 =>
  vP (pickV v7 v11 (Value.bool false)) fun v12 =>
  K v12 h2) h1) h
theorem D80_eq (a0 a1 : Value) (K : Value → Hp → Prop) (h : Hp) : fnVC Try.prog Try.f80 x80 [a0, a1] K h = D80 a0 a1 K h := by kernel_rfl
theorem D80_ok : fnOk Try.prog Try.f80 x80 2 = true := by kernel_rfl
theorem C80 {a0 a1 : Value} {K : Value → Hp → Prop} {h : Hp} (hh : D80 a0 a1 K h) : CallH Try.prog 80 #[a0, a1] K h :=
  callH_of mixed Try.func80 x80 [a0, a1] D80_ok (D80_eq a0 a1 K h ▸ hh)

/- 87: slices.ContainsFunc[[]treadmill/api.Object,treadmill/api.Object]; slots: 0 s, 1 f, 2 s, 3 f -/
def x87 : Ann := (.seq (.reg [] [(0, [])]) (.seq (.reg [] [(0, []), (1, []), (2, []), (3, []), (4, [])]) .leaf))
def D87 (a0 a1 : Value) (K : Value → Hp → Prop) (h : Hp) : Prop :=
  CallH Try.prog 48 #[a0, a1] (fun v7 h1 =>
  vP (binV .geq v7 (Value.int .i64 0)) fun v8 =>
  K v8 h1) h
theorem D87_eq (a0 a1 : Value) (K : Value → Hp → Prop) (h : Hp) : fnVC Try.prog Try.f87 x87 [a0, a1] K h = D87 a0 a1 K h := by kernel_rfl
theorem D87_ok : fnOk Try.prog Try.f87 x87 2 = true := by kernel_rfl
theorem C87 {a0 a1 : Value} {K : Value → Hp → Prop} {h : Hp} (hh : D87 a0 a1 K h) : CallH Try.prog 87 #[a0, a1] K h :=
  callH_of mixed Try.func87 x87 [a0, a1] D87_ok (D87_eq a0 a1 K h ▸ hh)

/- 88: treadmill/audit.marked$1; slots: 0 o, 1 o -/
def x88 : Ann := (.seq (.reg [] [(0, []), (1, [])]) (.seq (.reg [] [(0, []), (1, []), (2, [])]) .leaf))
def D88 (a0 : Value) (K : Value → Hp → Prop) (h : Hp) : Prop :=
  vA (some (Obj.cells (Value.cells a0) 30 (0, 0), ptrV)) (fun v1 h1 =>
  vP (faV 2 v1) fun v3 =>
  vP (ld1 v3 h1) fun v4 =>
  K v4 h1) h
theorem D88_eq (a0 : Value) (K : Value → Hp → Prop) (h : Hp) : fnVC Try.prog Try.f88 x88 [a0] K h = D88 a0 K h := by kernel_rfl
theorem D88_ok : fnOk Try.prog Try.f88 x88 1 = true := by kernel_rfl
theorem C88 {a0 : Value} {K : Value → Hp → Prop} {h : Hp} (hh : D88 a0 K h) : CallH Try.prog 88 #[a0] K h :=
  callH_of mixed Try.func88 x88 [a0] D88_ok (D88_eq a0 K h ▸ hh)

/- 28: treadmill/audit.All; slots: 0 v, 1 ps, 2 v, 3 ps, 5 out, 6 i, 7 r -/
def x28 : Ann := (.seq (.reg [] [(0, []), (1, [])]) (.seq (.reg [] [(0, [])]) (.seq (.seq (.reg [] [(0, []), (1, []), (2, [])]) (.blk (.loop [10, 5] [11, 12, 13, 14, 7, 6, 15, 16, 17, 18, 19, 20, 21, 22, 23, 24, 5, 25, 10] (.seq (.reg [] [(0, [])]) (.seq (.cond .leaf .leaf) (.join [5] [12, 13, 14, 7, 6, 15, 16, 17, 18, 19, 20, 21, 22, 23, 24, 5] (.blk (.seq (.reg [] [(0, []), (1, []), (2, []), (3, []), (4, []), (5, [])]) (.seq (.reg [] [(0, []), (1, []), (2, []), (3, []), (4, [])]) (.cond (.reg [] [(0, []), (1, []), (2, []), (3, []), (4, []), (5, [])]) .leaf)))) (.reg [] [(0, []), (1, [])]))))))) (.seq (.reg [] [(0, []), (1, [])]) .leaf))))
def D28 (a0 a1 : Value) (K : Value → Hp → Prop) (h : Hp) : Prop :=
  vA (some (Obj.cells (Value.cells a0) 26 (0, 0), ptrV)) (fun v2 h1 =>
  CallH Try.prog 57 #[] (fun v8 h2 =>
  vP (lenV v8) fun v9 =>
  ∃ I1 : Nat → List Value → Hp → Prop, (∃ n, I1 n [(Value.int .i64 0), (Value.slice none 0 0)] h2) ∧
  ∀ n1 : Nat, ∀ v10 v5 : Value, ∀ h3 : Hp, I1 n1 [v10, v5] h3 → ∀ g1 : St,
    vP (binV .lss v10 v9) fun v11 =>
    vB v11 (∀ J2 : List Value → Hp → Prop, (∀ v5_1 : Value, ∀ h4 : Hp, (∀ g2 : St,
        vP (binV .add v10 (Value.int .i64 1)) fun v25 =>
        ∃ m1, m1 < n1 ∧ I1 m1 [v25, v5_1] h4) → J2 [v5_1] h4) →
      vP (iaS 2 v8 v10) fun v13 =>
      vP (ldN 2 v13 h3) fun v14 =>
      vA (some (Obj.cells #[(Value.string ⟨#[]⟩), Value.nilFunc] 69 (0, 0), ptrV)) (fun v7 h5 =>
      stN 2 v7 v14 (fun _ h6 =>
      vP (faV 1 v7) fun v15 =>
      vP (ld1 v15 h6) fun v16 =>
      vP (ldN 9 v2 h6) fun v17 =>
      cvW Try.prog v16 #[v17, a1] (fun v19 h7 =>
      vB v19 (vP (binV .add v10 (Value.int .i64 1)) fun v22 =>
        vA ((bldV #[(Value.int .i64 0)] [(0, 1, v22)]).map fun c => (Obj.cells c 3 (0, 0), fun r => Value.slice (some ⟨r, 0, none⟩) 1 1)) (fun v23 h8 =>
        apW Try.prog #[22, 22] 22 v5 v23 (fun v24 h9 =>
        J2 [v24] h9) h8) h7)
      (J2 [v5] h7)) h6) h5) h3)
    (K v5 h3)) h1) h
theorem D28_eq (a0 a1 : Value) (K : Value → Hp → Prop) (h : Hp) : fnVC Try.prog Try.f28 x28 [a0, a1] K h = D28 a0 a1 K h := by kernel_rfl
theorem D28_ok : fnOk Try.prog Try.f28 x28 2 = true := by kernel_rfl
theorem C28 {a0 a1 : Value} {K : Value → Hp → Prop} {h : Hp} (hh : D28 a0 a1 K h) : CallH Try.prog 28 #[a0, a1] K h :=
  callH_of mixed Try.func28 x28 [a0, a1] D28_ok (D28_eq a0 a1 K h ▸ hh)

/- 29: treadmill/audit.Check; slots: 0 v, 1 ps, 2 v, 3 ps, 5 l -/
def x29 : Ann := (.seq (.reg [] [(0, []), (1, [])]) (.seq (.seq (.reg [] [(0, []), (1, []), (2, []), (3, [])]) (.seq (.reg [] [(0, []), (1, []), (2, [])]) (.cond (.seq (.reg [] [(0, []), (1, []), (2, []), (3, [])]) .leaf) .leaf))) (.seq (.reg [] [(0, [])]) .leaf)))
def D29 (a0 a1 : Value) (K : Value → Hp → Prop) (h : Hp) : Prop :=
  vA (some (Obj.cells (Value.cells a0) 26 (0, 0), ptrV)) (fun v2 h1 =>
  vP (ldN 9 v2 h1) fun v6 =>
  CallH Try.prog 28 #[v6, a1] (fun v8 h2 =>
  vP (lenV v8) fun v10 =>
  vP (binV .gtr v10 (Value.int .i64 0)) fun v11 =>
  vB v11 (vP (iaS 1 v8 (Value.int .i64 0)) fun v13 =>
    vP (ld1 v13 h2) fun v14 =>
    K v14 h2)
  (K (Value.int .i64 0) h2)) h1) h
theorem D29_eq (a0 a1 : Value) (K : Value → Hp → Prop) (h : Hp) : fnVC Try.prog Try.f29 x29 [a0, a1] K h = D29 a0 a1 K h := by kernel_rfl
theorem D29_ok : fnOk Try.prog Try.f29 x29 2 = true := by kernel_rfl
theorem C29 {a0 a1 : Value} {K : Value → Hp → Prop} {h : Hp} (hh : D29 a0 a1 K h) : CallH Try.prog 29 #[a0, a1] K h :=
  callH_of mixed Try.func29 x29 [a0, a1] D29_ok (D29_eq a0 a1 K h ▸ hh)

/- 30: treadmill/audit.Text; slots: 0 code, 1 code, 3 l -/
def x30 : Ann := (.seq (.reg [] [(0, [])]) (.seq (.seq (.reg [] [(0, []), (1, [])]) (.seq (.reg [] [(0, []), (1, []), (2, []), (3, []), (4, []), (5, []), (6, []), (7, [])]) (.cond (.seq (.reg [] [(0, []), (1, []), (2, []), (3, []), (4, []), (5, []), (6, [])]) .leaf) .leaf))) (.seq (.reg [] [(0, [])]) .leaf)))
def D30 (a0 : Value) (K : Value → Hp → Prop) (h : Hp) : Prop :=
  CallH Try.prog 57 #[] (fun v4 h1 =>
  vP (binV .geq a0 (Value.int .i64 1)) fun v6 =>
  vP (gdW (gB v6 true) (some a0)) fun v8 =>
  vP (gdW (gB v6 true) (some v4)) fun v9 =>
  vP (gdW (gB v6 true) (lenV v9)) fun v10 =>
  vP (gdW (gB v6 true) (binV .leq v8 v10)) fun v11 =>
  vP (pickV v6 v11 (Value.bool false)) fun v12 =>
  vB v12 (vP (binV .sub a0 (Value.int .i64 1)) fun v15 =>
    vP (iaS 2 v4 v15) fun v16 =>
    vP (faV 0 v16) fun v17 =>
    vP (ld1 v17 h1) fun v18 =>
    K v18 h1)
  (K (Value.string ⟨#[]⟩) h1)) h
theorem D30_eq (a0 : Value) (K : Value → Hp → Prop) (h : Hp) : fnVC Try.prog Try.f30 x30 [a0] K h = D30 a0 K h := by kernel_rfl
theorem D30_ok : fnOk Try.prog Try.f30 x30 1 = true := by kernel_rfl
theorem C30 {a0 : Value} {K : Value → Hp → Prop} {h : Hp} (hh : D30 a0 K h) : CallH Try.prog 30 #[a0] K h :=
  callH_of mixed Try.func30 x30 [a0] D30_ok (D30_eq a0 K h ▸ hh)

/- 44: slices.Contains[[]int,int]; slots: 0 s, 1 v, 2 s, 3 v -/
def x44 : Ann := (.seq (.reg [] [(0, [])]) (.seq (.reg [] [(0, []), (1, []), (2, []), (3, []), (4, [])]) .leaf))
def D44 (a0 a1 : Value) (K : Value → Hp → Prop) (h : Hp) : Prop :=
  CallH Try.prog 70 #[a0, a1] (fun v7 h1 =>
  vP (binV .geq v7 (Value.int .i64 0)) fun v8 =>
  K v8 h1) h
theorem D44_eq (a0 a1 : Value) (K : Value → Hp → Prop) (h : Hp) : fnVC Try.prog Try.f44 x44 [a0, a1] K h = D44 a0 a1 K h := by kernel_rfl
theorem D44_ok : fnOk Try.prog Try.f44 x44 2 = true := by kernel_rfl
theorem C44 {a0 a1 : Value} {K : Value → Hp → Prop} {h : Hp} (hh : D44 a0 a1 K h) : CallH Try.prog 44 #[a0, a1] K h :=
  callH_of mixed Try.func44 x44 [a0, a1] D44_ok (D44_eq a0 a1 K h ▸ hh)

/- 70: slices.Index[[]int,int]; slots: 0 s, 1 v, 2 s, 3 v, 5 i -/
def x70 : Ann := (.seq (.reg [] [(0, [])]) (.seq (.seq (.reg [] [(0, []), (1, []), (2, [])]) (.blk (.loop [8] [9, 10, 5, 11, 12, 13, 14, 15, 16, 17, 4, 18, 8] (.seq (.reg [] [(0, [])]) (.seq (.cond .leaf .leaf) (.seq (.blk (.seq (.reg [] [(0, []), (1, [])]) (.seq (.reg [] [(0, []), (1, []), (2, []), (3, []), (4, []), (5, [])]) (.cond (.seq (.reg [] [(0, []), (1, [])]) .leaf) .leaf)))) (.reg [] [(0, []), (1, [])]))))))) (.seq (.reg [] [(0, [])]) .leaf)))
def D70 (a0 a1 : Value) (K : Value → Hp → Prop) (h : Hp) : Prop :=
  vP (lenV a0) fun v7 =>
  ∃ I1 : Nat → List Value → Hp → Prop, (∃ n, I1 n [(Value.int .i64 0)] h) ∧
  ∀ n1 : Nat, ∀ v8 : Value, ∀ h1 : Hp, I1 n1 [v8] h1 → ∀ g1 : St,
    vP (binV .lss v8 v7) fun v9 =>
    vB v9 (vP (iaS 1 a0 v8) fun v14 =>
      vP (ld1 v14 h1) fun v15 =>
      vP (eqV 1 false a1 v15) fun v16 =>
      vB v16 (K v8 h1)
      (vP (binV .add v8 (Value.int .i64 1)) fun v18 =>
      ∃ m1, m1 < n1 ∧ I1 m1 [v18] h1))
    (K (Value.int .i64 (-1)) h1)
theorem D70_eq (a0 a1 : Value) (K : Value → Hp → Prop) (h : Hp) : fnVC Try.prog Try.f70 x70 [a0, a1] K h = D70 a0 a1 K h := by kernel_rfl
theorem D70_ok : fnOk Try.prog Try.f70 x70 2 = true := by kernel_rfl
theorem C70 {a0 a1 : Value} {K : Value → Hp → Prop} {h : Hp} (hh : D70 a0 a1 K h) : CallH Try.prog 70 #[a0, a1] K h :=
  callH_of mixed Try.func70 x70 [a0, a1] D70_ok (D70_eq a0 a1 K h ▸ hh)

/- 26: treadmill/treadmilllaw30.told; slots:  -/
def x26 : Ann := (.seq (.reg [] [(0, [])]) (.seq (.reg [] [(0, []), (1, []), (2, []), (3, []), (4, []), (5, []), (6, []), (7, []), (8, []), (9, []), (10, []), (11, []), (12, []), (13, []), (14, []), (15, []), (16, []), (17, []), (18, []), (19, []), (20, []), (21, []), (22, []), (23, []), (24, []), (25, []), (26, [])]) .leaf))
def D26 (K : Value → Hp → Prop) (h : Hp) : Prop :=
  vP ((bldV #[(Value.int .i64 0), (Value.int .i64 0), (Value.int .i64 0), (Value.slice none 0 0), (Value.slice none 0 0), (Value.slice none 0 0), (Value.int .i64 0), (Value.int .i64 0), (Value.int .i64 0)] []).map Value.agg) fun v1 =>
  CallH Try.prog 29 #[v1, (Value.int .i64 4)] (fun v2 h1 =>
  vP (eqV 1 false v2 (Value.int .i64 0)) fun v3 =>
  vE (gB v3 true) (vA ((bldV #[(Value.int .i64 0)] [(0, 1, (Value.int .i64 64))]).map fun c => (Obj.cells c 3 (0, 0), fun r => Value.slice (some ⟨r, 0, none⟩) 1 1))) (fun v5 h2 =>
  vP (gdW (gB v3 true) ((bldV #[(Value.int .i64 0), (Value.int .i64 0), (Value.int .i64 0), (Value.slice none 0 0), (Value.slice none 0 0), (Value.slice none 0 0), (Value.int .i64 0), (Value.int .i64 0), (Value.int .i64 0)] [(3, 1, v5)]).map Value.agg)) fun v6 =>
  vE (gB v3 true) (CallH Try.prog 29 #[v6, (Value.int .i64 4)]) (fun v7 h3 =>
  vP (gdW (gB v3 true) (eqV 1 false v7 (Value.int .i64 1))) fun v8 =>
  vP (pickV v3 v8 (Value.bool false)) fun v9 =>
  vP (gdW (gB v9 true) ((bldV #[(Value.int .i64 0), (Value.int .i64 0), (Value.int .i64 0), (Value.slice none 0 0), (Value.slice none 0 0), (Value.slice none 0 0), (Value.int .i64 0), (Value.int .i64 0), (Value.int .i64 0)] [(0, 1, (Value.int .i64 9))]).map Value.agg)) fun v11 =>
  vE (gB v9 true) (CallH Try.prog 29 #[v11, (Value.int .i64 4)]) (fun v12 h4 =>
  vP (gdW (gB v9 true) (eqV 1 false v12 (Value.int .i64 7))) fun v13 =>
  vP (pickV v9 v13 (Value.bool false)) fun v14 =>
  vE (gB v14 true) (CallH Try.prog 30 #[(Value.int .i64 1)]) (fun v16 h5 =>
  vP (gdW (gB v14 true) (eqV 3 false v16 (Value.string ⟨#[108, 111, 115, 116]⟩))) fun v17 =>
  vP (pickV v14 v17 (Value.bool false)) fun v18 =>
  vE (gB v18 true) (CallH Try.prog 30 #[(Value.int .i64 8)]) (fun v20 h6 =>
  vP (gdW (gB v18 true) (eqV 3 false v20 (Value.string ⟨#[109, 97, 114, 107, 101, 100]⟩))) fun v21 =>
  vP (pickV v18 v21 (Value.bool false)) fun v22 =>
  vE (gB v22 true) (CallH Try.prog 30 #[(Value.int .i64 9)]) (fun v24 h7 =>
  vP (gdW (gB v22 true) (eqV 3 false v24 (Value.string ⟨#[]⟩))) fun v25 =>
  vP (pickV v22 v25 (Value.bool false)) fun v26 =>
  K v26 h7) h6) h5) h4) h3) h2) h1) h
theorem D26_eq (K : Value → Hp → Prop) (h : Hp) : fnVC Try.prog Try.f26 x26 [] K h = D26  K h := by kernel_rfl
theorem D26_ok : fnOk Try.prog Try.f26 x26 0 = true := by kernel_rfl
theorem C26 {K : Value → Hp → Prop} {h : Hp} (hh : D26  K h) : CallH Try.prog 26 #[] K h :=
  callH_of mixed Try.func26 x26 [] D26_ok (D26_eq  K h ▸ hh)

/- 8: treadmill/treadmilllaw30.AuditRules; slots: 0 v, 1 ps, 2 code, 3 v, 4 ps, 5 code, 7 want, 8 first -/
def x8 : Ann := (.seq (.reg [] [(0, []), (1, [])]) (.seq (.seq (.reg [] [(0, []), (1, []), (2, [])]) (.cond (.seq (.reg [] [(0, []), (1, [])]) .leaf) .leaf)) (.seq (.reg [] [(0, []), (1, []), (2, []), (3, [])]) (.seq (.reg [] [(0, [])]) (.join [8] [16, 17, 18, 19, 20, 21, 8] (.seq (.reg [] [(0, []), (1, []), (2, [])]) (.cond (.reg [] [(0, []), (1, []), (2, []), (3, [])]) .leaf)) (.seq (.reg [] [(0, []), (1, []), (2, []), (3, []), (4, []), (5, []), (6, []), (7, []), (8, []), (9, []), (10, []), (11, []), (12, []), (13, []), (14, []), (15, []), (16, []), (17, []), (18, []), (19, []), (20, []), (21, []), (22, []), (23, []), (24, []), (25, []), (26, []), (27, []), (28, []), (29, []), (30, []), (31, [])]) .leaf))))))
def D8 (a0 a1 a2 : Value) (K : Value → Hp → Prop) (h : Hp) : Prop :=
  vA (some (Obj.cells (Value.cells a0) 26 (0, 0), ptrV)) (fun v3 h1 =>
  vP (ldN 9 v3 h1) fun v9 =>
  CallH Try.prog 11 #[v9] (fun v10 h2 =>
  vP (unV .not v10) fun v11 =>
  vB v11 (CallH Try.prog 26 #[] (fun v12 h3 =>
    K v12 h3) h2)
  (vP (ldN 9 v3 h2) fun v13 =>
  CallH Try.prog 27 #[v13, a1] (fun v15 h4 =>
  ∀ J1 : List Value → Hp → Prop, (∀ v8 : Value, ∀ h5 : Hp, (∀ g1 : St,
    CallH Try.prog 26 #[] (fun v22 h6 =>
    vP (gdW (gB v22 true) (ldN 9 v3 h6)) fun v24 =>
    vP (gdW (gB v22 true) (some a1)) fun v25 =>
    vE (gB v22 true) (CallH Try.prog 28 #[v24, v25]) (fun v26 h7 =>
    vP (gdW (gB v22 true) (some v15)) fun v27 =>
    vE (gB v22 true) (CallH Try.prog 14 #[v26, v27]) (fun v28 h8 =>
    vP (pickV v22 v28 (Value.bool false)) fun v29 =>
    vP (gdW (gB v29 true) (ldN 9 v3 h8)) fun v31 =>
    vP (gdW (gB v29 true) (some a1)) fun v32 =>
    vE (gB v29 true) (CallH Try.prog 29 #[v31, v32]) (fun v33 h9 =>
    vP (gdW (gB v29 true) (some v8)) fun v34 =>
    vP (gdW (gB v29 true) (eqV 1 false v33 v34)) fun v35 =>
    vP (pickV v29 v35 (Value.bool false)) fun v36 =>
    vP (gdW (gB v36 true) (some a2)) fun v38 =>
    vE (gB v36 true) (CallH Try.prog 30 #[v38]) (fun v39 h10 =>
    vP (gdW (gB v36 true) (some a2)) fun v40 =>
    vE (gB v36 true) (CallH Try.prog 31 #[v40]) (fun v41 h11 =>
    vP (gdW (gB v36 true) (eqV 3 false v39 v41)) fun v42 =>
    vP (pickV v36 v42 (Value.bool false)) fun v43 =>
    vP (gdW (gB v43 true) (some a2)) fun v45 =>
    vP (gdW (gB v43 true) (binV .rem v45 (Value.int .i64 10))) fun v46 =>
    vE (gB v43 true) (CallH Try.prog 30 #[v46]) (fun v47 h12 =>
    vP (gdW (gB v43 true) (some a2)) fun v48 =>
    vP (gdW (gB v43 true) (binV .rem v48 (Value.int .i64 10))) fun v49 =>
    vE (gB v43 true) (CallH Try.prog 31 #[v49]) (fun v50 h13 =>
    vP (gdW (gB v43 true) (eqV 3 false v47 v50)) fun v51 =>
    vP (pickV v43 v51 (Value.bool false)) fun v52 =>
    K v52 h13) h12) h11) h10) h9) h8) h7) h6) h5) → J1 [v8] h5) →
  vP (lenV v15) fun v17 =>
  vP (binV .gtr v17 (Value.int .i64 0)) fun v18 =>
  vB v18 (vP (iaS 1 v15 (Value.int .i64 0)) fun v20 =>
    vP (ld1 v20 h4) fun v21 =>
    J1 [v21] h4)
  (J1 [(Value.int .i64 0)] h4)) h2)) h1) h
theorem D8_eq (a0 a1 a2 : Value) (K : Value → Hp → Prop) (h : Hp) : fnVC Try.prog Try.f8 x8 [a0, a1, a2] K h = D8 a0 a1 a2 K h := by kernel_rfl
theorem D8_ok : fnOk Try.prog Try.f8 x8 3 = true := by kernel_rfl
theorem C8 {a0 a1 a2 : Value} {K : Value → Hp → Prop} {h : Hp} (hh : D8 a0 a1 a2 K h) : CallH Try.prog 8 #[a0, a1, a2] K h :=
  callH_of mixed Try.func8 x8 [a0, a1, a2] D8_ok (D8_eq a0 a1 a2 K h ▸ hh)

/- 9: treadmill/treadmilllaw30.AuditEach; slots: 0 rule, 1 ps, 2 rule, 3 ps, 5 k, 6 n, 7 stack, 8 v, 9 l, 10 word -/
def x9 : Ann := (.seq (.reg [] [(0, [])]) (.seq (.reg [] [(0, []), (1, []), (2, []), (3, []), (4, []), (5, []), (6, []), (7, []), (8, []), (9, []), (10, []), (11, [])]) (.seq (.reg [] [(0, [])]) (.seq (.reg [] [(0, []), (1, []), (2, []), (3, []), (4, []), (5, []), (6, []), (7, []), (8, []), (9, []), (10, []), (11, []), (12, []), (13, []), (14, []), (15, [])]) (.seq (.seq (.reg [] [(0, []), (1, []), (2, []), (3, []), (4, []), (5, []), (6, []), (7, []), (8, []), (9, []), (10, [])]) (.cond (.seq (.reg [] [(0, [])]) .leaf) .leaf)) (.join [] [46, 52, 51, 53, 54, 55, 57, 56, 58, 59, 60, 61, 62, 63, 64, 65, 66, 67, 69, 68, 70, 71, 72, 73, 74, 75, 77, 76, 78, 79, 80, 81, 83, 82, 84, 86, 85, 87, 88, 89, 90, 91, 93, 92, 94, 95, 96, 97, 98, 99, 100, 101, 102, 103, 47, 48, 49, 50] (.seq (.reg [] [(0, [])]) (.blk (.seq (.reg [] [(0, []), (1, [])]) (.cond (.reg [] [(0, []), (1, []), (2, []), (3, [])]) (.seq (.reg [] [(0, []), (1, [])]) (.cond (.seq (.reg [] [(0, []), (1, []), (2, []), (3, []), (4, [])]) (.reg [] [(0, []), (1, []), (2, []), (3, []), (4, []), (5, []), (6, [])])) (.seq (.reg [] [(0, []), (1, [])]) (.cond (.reg [0, 1, 0, 4, 12, 31, 63] [(0, []), (2, []), (1, []), (3, [1]), (4, []), (5, []), (6, [])]) (.seq (.reg [] [(0, []), (1, [])]) (.cond (.reg [] [(0, []), (1, []), (2, []), (3, []), (4, [])]) (.seq (.reg [] [(0, []), (1, [])]) (.cond (.reg [] [(0, []), (1, [])]) (.seq (.reg [] [(0, []), (1, [])]) (.cond (.seq (.reg [] [(0, []), (1, [])]) (.reg [] [(0, []), (1, []), (2, []), (3, []), (4, [])])) (.seq (.reg [] [(0, []), (1, [])]) (.cond (.reg [0, 1, 0, 4, 12, 28, 60, 124, 255, 511, 1023] [(0, []), (2, []), (1, []), (3, []), (4, []), (5, []), (6, []), (7, []), (8, []), (9, []), (10, [])]) (.reg [] [(0, []), (1, []), (2, []), (3, []), (4, [])]))))))))))))))))) (.seq (.reg [] [(0, []), (1, []), (2, []), (3, [])]) (.seq (.reg [] [(0, []), (1, []), (2, []), (3, []), (4, []), (5, [])]) (.seq (.reg [] [(0, []), (1, []), (2, []), (3, []), (4, []), (5, []), (6, []), (7, []), (8, []), (9, []), (10, []), (11, []), (12, []), (13, []), (14, []), (15, []), (16, []), (17, []), (18, []), (19, []), (20, []), (21, []), (22, []), (23, []), (24, []), (25, []), (26, [])]) .leaf)))))))))
def D9 (a0 a1 : Value) (K : Value → Hp → Prop) (h : Hp) : Prop :=
  vP (convV .u64 a0) fun v12 =>
  vP (binV .rem v12 (Value.int .u64 8)) fun v13 =>
  vP (convV .i64 v13) fun v14 =>
  vP (binV .add (Value.int .i64 1) v14) fun v15 =>
  vP (convV .u64 a1) fun v17 =>
  vP (binV .rem v17 (Value.int .u64 64)) fun v18 =>
  vP (convV .i64 v18) fun v19 =>
  vP (binV .add (Value.int .i64 1) v19) fun v20 =>
  vA ((bldV #[(Value.int .i64 0), (Value.int .i64 0)] [(0, 1, (Value.int .i64 64)), (1, 1, (Value.int .i64 0))]).map fun c => (Obj.cells c 3 (0, 0), fun r => Value.slice (some ⟨r, 0, none⟩) 2 2)) (fun v21 h1 =>
  cvW Try.prog (Value.func (.func 32) #[] #[]) #[] (fun v23 h2 =>
  vP ((bldV #[(Value.int .i64 0), (Value.int .i64 0), (Value.slice none 0 0)] [(0, 1, (Value.int .i64 2)), (1, 1, (Value.int .i64 0)), (2, 1, v23)]).map Value.agg) fun v24 =>
  cvW Try.prog (Value.func (.func 32) #[] #[]) #[] (fun v26 h3 =>
  vP ((bldV #[(Value.int .i64 0), (Value.int .i64 0), (Value.slice none 0 0)] [(0, 1, (Value.int .i64 3)), (1, 1, (Value.int .i64 (-1))), (2, 1, v26)]).map Value.agg) fun v27 =>
  vA ((bldV #[(Value.int .i64 0), (Value.int .i64 0), (Value.slice none 0 0), (Value.int .i64 0), (Value.int .i64 0), (Value.slice none 0 0)] [(0, 3, v24), (3, 3, v27)]).map fun c => (Obj.cells c 41 (0, 0), fun r => Value.slice (some ⟨r, 0, none⟩) 2 2)) (fun v28 h4 =>
  vA ((bldV #[(Value.int .i64 0)] [(0, 1, (Value.int .i64 68))]).map fun c => (Obj.cells c 3 (0, 0), fun r => Value.slice (some ⟨r, 0, none⟩) 1 1)) (fun v29 h5 =>
  vP ((bldV #[(Value.int .i64 0), (Value.slice none 0 0), (Value.bool false)] [(0, 1, (Value.int .i64 64)), (1, 1, v29)]).map Value.agg) fun v30 =>
  vA ((bldV #[(Value.int .i64 0), (Value.int .i64 0)] [(0, 1, (Value.int .i64 0)), (1, 1, (Value.int .i64 64))]).map fun c => (Obj.cells c 3 (0, 0), fun r => Value.slice (some ⟨r, 0, none⟩) 2 2)) (fun v31 h6 =>
  vP ((bldV #[(Value.int .i64 0), (Value.slice none 0 0), (Value.bool false)] [(0, 1, (Value.int .i64 68)), (1, 1, v31)]).map Value.agg) fun v32 =>
  vA ((bldV #[(Value.int .i64 0), (Value.slice none 0 0), (Value.bool false), (Value.int .i64 0), (Value.slice none 0 0), (Value.bool false)] [(0, 3, v30), (3, 3, v32)]).map fun c => (Obj.cells c 30 (0, 0), fun r => Value.slice (some ⟨r, 0, none⟩) 2 2)) (fun v33 h7 =>
  vP ((bldV #[(Value.int .i64 0), (Value.int .i64 0), (Value.int .i64 0), (Value.slice none 0 0), (Value.slice none 0 0), (Value.slice none 0 0), (Value.int .i64 0), (Value.int .i64 0), (Value.int .i64 0)] [(0, 1, (Value.int .i64 0)), (3, 1, v21), (4, 1, v28), (5, 1, v33)]).map Value.agg) fun v34 =>
  vA (some (Obj.cells #[(Value.int .i64 0), (Value.int .i64 0), (Value.int .i64 0), (Value.slice none 0 0), (Value.slice none 0 0), (Value.slice none 0 0), (Value.int .i64 0), (Value.int .i64 0), (Value.int .i64 0)] 26 (0, 0), ptrV)) (fun v8 h8 =>
  stN 9 v8 v34 (fun _ h9 =>
  vP (ldN 9 v8 h9) fun v35 =>
  CallH Try.prog 29 #[v35, v20] (fun v37 h10 =>
  vP (eqV 1 true v37 (Value.int .i64 0)) fun v38 =>
  vP (gdW (gB v38 false) (ldN 9 v8 h10)) fun v40 =>
  vP (gdW (gB v38 false) (some v20)) fun v41 =>
  vE (gB v38 false) (CallH Try.prog 28 #[v40, v41]) (fun v42 h11 =>
  vP (gdW (gB v38 false) (lenV v42)) fun v43 =>
  vP (gdW (gB v38 false) (eqV 1 true v43 (Value.int .i64 0))) fun v44 =>
  vP (pickV v38 (Value.bool true) v44) fun v45 =>
  vB v45 (K (Value.bool false) h11)
  (∀ J1 : List Value → Hp → Prop, (∀ h12 : Hp, (∀ g1 : St,
    vP (ldN 9 v8 h12) fun v104 =>
    CallH Try.prog 28 #[v104, v20] (fun v106 h13 =>
    vA ((bldV #[(Value.string ⟨#[]⟩), (Value.string ⟨#[]⟩), (Value.string ⟨#[]⟩), (Value.string ⟨#[]⟩), (Value.string ⟨#[]⟩), (Value.string ⟨#[]⟩), (Value.string ⟨#[]⟩), (Value.string ⟨#[]⟩)] [(0, 1, (Value.string ⟨#[108, 111, 115, 116]⟩)), (1, 1, (Value.string ⟨#[111, 98, 106, 101, 99, 116, 115]⟩)), (2, 1, (Value.string ⟨#[116, 119, 105, 99, 101]⟩)), (3, 1, (Value.string ⟨#[112, 108, 97, 99, 101, 115]⟩)), (4, 1, (Value.string ⟨#[119, 111, 114, 107]⟩)), (5, 1, (Value.string ⟨#[119, 104, 105, 116, 101]⟩)), (6, 1, (Value.string ⟨#[110, 117, 109, 98, 101, 114, 115]⟩)), (7, 1, (Value.string ⟨#[109, 97, 114, 107, 101, 100]⟩))]).map fun c => (Obj.cells c 9 (0, 0), fun r => Value.slice (some ⟨r, 0, none⟩) 8 8)) (fun v107 h14 =>
    vP (binV .sub v15 (Value.int .i64 1)) fun v109 =>
    vP (iaS 1 v107 v109) fun v110 =>
    vP (ld1 v110 h14) fun v111 =>
    CallH Try.prog 26 #[] (fun v112 h15 =>
    vP (gdW (gB v112 true) (some v106)) fun v114 =>
    vP (gdW (gB v112 true) (lenV v114)) fun v115 =>
    vP (gdW (gB v112 true) (eqV 1 false v115 (Value.int .i64 1))) fun v116 =>
    vP (pickV v112 v116 (Value.bool false)) fun v117 =>
    vP (gdW (gB v117 true) (some v106)) fun v119 =>
    vP (gdW (gB v117 true) (iaS 1 v119 (Value.int .i64 0))) fun v120 =>
    vP (gdW (gB v117 true) (ld1 v120 h15)) fun v121 =>
    vP (gdW (gB v117 true) (some v15)) fun v122 =>
    vP (gdW (gB v117 true) (eqV 1 false v121 v122)) fun v123 =>
    vP (pickV v117 v123 (Value.bool false)) fun v124 =>
    vP (gdW (gB v124 true) (ldN 9 v8 h15)) fun v126 =>
    vP (gdW (gB v124 true) (some v20)) fun v127 =>
    vE (gB v124 true) (CallH Try.prog 29 #[v126, v127]) (fun v128 h16 =>
    vP (gdW (gB v124 true) (some v15)) fun v129 =>
    vP (gdW (gB v124 true) (eqV 1 false v128 v129)) fun v130 =>
    vP (pickV v124 v130 (Value.bool false)) fun v131 =>
    vP (gdW (gB v131 true) (some v15)) fun v133 =>
    vE (gB v131 true) (CallH Try.prog 30 #[v133]) (fun v134 h17 =>
    vP (gdW (gB v131 true) (some v111)) fun v135 =>
    vP (gdW (gB v131 true) (eqV 3 false v134 v135)) fun v136 =>
    vP (pickV v131 v136 (Value.bool false)) fun v137 =>
    K v137 h17) h16) h15) h14) h13) h12) → J1 [] h12) →
  vP (eqV 1 false v15 (Value.int .i64 1)) fun v52 =>
  vB v52 (vP (faV 3 v8) fun v53 =>
    vP (ld1 v53 h11) fun v54 =>
    vP (iaS 1 v54 (Value.int .i64 1)) fun v55 =>
    st1 v55 (Value.int .i64 69) (fun _ h18 =>
    J1 [] h18) h11)
  (vP (eqV 1 false v15 (Value.int .i64 2)) fun v57 =>
  vB v57 (vP (faV 5 v8) fun v58 =>
    vP (ld1 v58 h11) fun v59 =>
    vP (iaS 3 v59 (Value.int .i64 1)) fun v60 =>
    vP (faV 0 v60) fun v61 =>
    st1 v61 (Value.int .i64 64) (fun _ h19 =>
    vP (faV 5 v8) fun v62 =>
    vP (ld1 v62 h19) fun v63 =>
    vP (iaS 3 v63 (Value.int .i64 0)) fun v64 =>
    vP (faV 1 v64) fun v65 =>
    vP (ld1 v65 h19) fun v66 =>
    vP (iaS 1 v66 (Value.int .i64 0)) fun v67 =>
    st1 v67 (Value.int .i64 0) (fun _ h20 =>
    J1 [] h20) h19) h11)
  (vP (eqV 1 false v15 (Value.int .i64 3)) fun v69 =>
  vB v69 (vP (faV 4 v8) fun v70 =>
    vP (ld1 v70 h11) fun v71 =>
    cvW Try.prog (Value.func (.func 32) #[] #[]) #[] (fun v73 h21 =>
    (ld1 v70 h21) = some v71 ∧ (vP ((bldV #[(Value.int .i64 0), (Value.int .i64 0), (Value.slice none 0 0)] [(0, 1, (Value.int .i64 2)), (1, 1, (Value.int .i64 0)), (2, 1, v73)]).map Value.agg) fun v74 =>
    vP (iaS 3 v71 (Value.int .i64 1)) fun v75 =>
    stN 3 v75 v74 (fun _ h22 =>
    J1 [] h22) h21)) h11)
  (vP (eqV 1 false v15 (Value.int .i64 4)) fun v77 =>
  vB v77 (vP (faV 4 v8) fun v78 =>
    vP (ld1 v78 h11) fun v79 =>
    vP (iaS 3 v79 (Value.int .i64 1)) fun v80 =>
    vP (faV 1 v80) fun v81 =>
    st1 v81 (Value.int .i64 0) (fun _ h23 =>
    J1 [] h23) h11)
  (vP (eqV 1 false v15 (Value.int .i64 5)) fun v83 =>
  vB v83 (vP (faV 7 v8) fun v84 =>
    st1 v84 (Value.int .i64 1) (fun _ h24 =>
    J1 [] h24) h11)
  (vP (eqV 1 false v15 (Value.int .i64 6)) fun v86 =>
  vB v86 (vP (faV 0 v8) fun v87 =>
    st1 v87 (Value.int .i64 2) (fun _ h25 =>
    vP (faV 5 v8) fun v88 =>
    vP (ld1 v88 h25) fun v89 =>
    vP (iaS 3 v89 (Value.int .i64 0)) fun v90 =>
    vP (faV 2 v90) fun v91 =>
    st1 v91 (Value.bool true) (fun _ h26 =>
    J1 [] h26) h25) h11)
  (vP (eqV 1 false v15 (Value.int .i64 7)) fun v93 =>
  vB v93 (vP (faV 4 v8) fun v94 =>
    vP (faV 4 v8) fun v96 =>
    vP (ld1 v94 h11) fun v95 =>
    vP (ld1 v96 h11) fun v97 =>
    vP (iaS 3 v97 (Value.int .i64 0)) fun v98 =>
    vP (faV 2 v98) fun v99 =>
    vP (ld1 v99 h11) fun v100 =>
    vP (slV 1 v100 none (some (Value.int .i64 15)) none) fun v101 =>
    vP (iaS 3 v95 (Value.int .i64 0)) fun v102 =>
    vP (faV 2 v102) fun v103 =>
    st1 v103 v101 (fun _ h27 =>
    J1 [] h27) h11)
  (vP (faV 5 v8) fun v47 =>
  vP (ld1 v47 h11) fun v48 =>
  vP (iaS 3 v48 (Value.int .i64 1)) fun v49 =>
  vP (faV 2 v49) fun v50 =>
  st1 v50 (Value.bool true) (fun _ h28 =>
  J1 [] h28) h11))))))))) h10) h9) h8) h7) h6) h5) h4) h3) h2) h1) h
theorem D9_eq (a0 a1 : Value) (K : Value → Hp → Prop) (h : Hp) : fnVC Try.prog Try.f9 x9 [a0, a1] K h = D9 a0 a1 K h := by kernel_rfl
theorem D9_ok : fnOk Try.prog Try.f9 x9 2 = true := by kernel_rfl
theorem C9 {a0 a1 : Value} {K : Value → Hp → Prop} {h : Hp} (hh : D9 a0 a1 K h) : CallH Try.prog 9 #[a0, a1] K h :=
  callH_of mixed Try.func9 x9 [a0, a1] D9_ok (D9_eq a0 a1 K h ▸ hh)

/- 32: treadmill/treadmilllaw30.AuditEach$1; slots:  -/
def x32 : Ann := (.seq (.reg [] [(0, [])]) (.seq (.reg [] [(0, []), (1, [])]) .leaf))
def D32 (K : Value → Hp → Prop) (h : Hp) : Prop :=
  vA (msV 8 1 3 #[(Value.int .i64 0)] (Value.int .i64 16) (Value.int .i64 16)) (fun v1 h1 =>
  K v1 h1) h
theorem D32_eq (K : Value → Hp → Prop) (h : Hp) : fnVC Try.prog Try.f32 x32 [] K h = D32  K h := by kernel_rfl
theorem D32_ok : fnOk Try.prog Try.f32 x32 0 = true := by kernel_rfl
theorem C32 {K : Value → Hp → Prop} {h : Hp} (hh : D32  K h) : CallH Try.prog 32 #[] K h :=
  callH_of mixed Try.func32 x32 [] D32_ok (D32_eq  K h ▸ hh)

/- 11: treadmill/treadmilllaw29.Few; slots: 0 v, 1 v, 3 i, 4 i -/
def x11 : Ann := (.seq (.reg [] [(0, []), (1, [])]) (.seq (.seq (.reg [] [(0, [])]) (.blk (.loop [3] [5, 6, 7, 8, 9, 12, 13, 14, 15, 16, 17, 18, 19, 2, 10, 11, 3] (.seq (.seq (.reg [] [(0, []), (1, []), (2, []), (3, []), (4, [])]) (.cond .leaf .leaf)) (.seq (.blk (.seq (.reg [] [(0, []), (1, []), (2, []), (3, []), (4, []), (5, []), (6, []), (7, [])]) (.cond (.seq (.reg [] [(0, [])]) .leaf) .leaf))) (.reg [] [(0, []), (1, []), (2, [])])))))) (.seq (.seq (.reg [] [(0, [])]) (.blk (.loop [4] [20, 21, 22, 23, 24, 27, 28, 29, 30, 31, 32, 33, 34, 2, 25, 26, 4] (.seq (.seq (.reg [] [(0, []), (1, []), (2, []), (3, []), (4, [])]) (.cond .leaf .leaf)) (.seq (.blk (.seq (.reg [] [(0, []), (1, []), (2, []), (3, []), (4, []), (5, []), (6, []), (7, [])]) (.cond (.seq (.reg [] [(0, [])]) .leaf) .leaf))) (.reg [] [(0, []), (1, []), (2, [])])))))) (.seq (.reg [] [(0, []), (1, []), (2, []), (3, []), (4, []), (5, []), (6, []), (7, []), (8, []), (9, []), (10, []), (11, []), (12, []), (13, []), (14, []), (15, []), (16, [])]) .leaf))))
def D11 (a0 : Value) (K : Value → Hp → Prop) (h : Hp) : Prop :=
  vA (some (Obj.cells (Value.cells a0) 26 (0, 0), ptrV)) (fun v1 h1 =>
  ∃ I1 : Nat → List Value → Hp → Prop, (∃ n, I1 n [(Value.int .i64 0)] h1) ∧
  ∀ n1 : Nat, ∀ v3 : Value, ∀ h2 : Hp, I1 n1 [v3] h2 → ∀ g1 : St,
    vP (faV 5 v1) fun v6 =>
    vP (ld1 v6 h2) fun v7 =>
    vP (lenV v7) fun v8 =>
    vP (binV .lss v3 v8) fun v9 =>
    vB v9 (vP (faV 5 v1) fun v12 =>
      vP (ld1 v12 h2) fun v13 =>
      vP (iaS 3 v13 v3) fun v15 =>
      vP (faV 1 v15) fun v16 =>
      vP (ld1 v16 h2) fun v17 =>
      vP (lenV v17) fun v18 =>
      vP (binV .gtr v18 (Value.int .i64 300)) fun v19 =>
      vB v19 (K (Value.bool false) h2)
      (vP (binV .add v3 (Value.int .i64 1)) fun v11 =>
      ∃ m1, m1 < n1 ∧ I1 m1 [v11] h2))
    (∃ I2 : Nat → List Value → Hp → Prop, (∃ n, I2 n [(Value.int .i64 0)] h2) ∧
    ∀ n2 : Nat, ∀ v4 : Value, ∀ h3 : Hp, I2 n2 [v4] h3 → ∀ g2 : St,
      vP (faV 4 v1) fun v21 =>
      vP (ld1 v21 h3) fun v22 =>
      vP (lenV v22) fun v23 =>
      vP (binV .lss v4 v23) fun v24 =>
      vB v24 (vP (faV 4 v1) fun v27 =>
        vP (ld1 v27 h3) fun v28 =>
        vP (iaS 3 v28 v4) fun v30 =>
        vP (faV 2 v30) fun v31 =>
        vP (ld1 v31 h3) fun v32 =>
        vP (lenV v32) fun v33 =>
        vP (binV .gtr v33 (Value.int .i64 40)) fun v34 =>
        vB v34 (K (Value.bool false) h3)
        (vP (binV .add v4 (Value.int .i64 1)) fun v26 =>
        ∃ m2, m2 < n2 ∧ I2 m2 [v26] h3))
      (vP (faV 5 v1) fun v35 =>
      vP (ld1 v35 h3) fun v36 =>
      vP (lenV v36) fun v37 =>
      vP (binV .leq v37 (Value.int .i64 40)) fun v38 =>
      vP (gdW (gB v38 true) (faV 4 v1)) fun v40 =>
      vP (gdW (gB v38 true) (ld1 v40 h3)) fun v41 =>
      vP (gdW (gB v38 true) (lenV v41)) fun v42 =>
      vP (gdW (gB v38 true) (binV .leq v42 (Value.int .i64 40))) fun v43 =>
      vP (pickV v38 v43 (Value.bool false)) fun v44 =>
      vP (gdW (gB v44 true) (faV 3 v1)) fun v46 =>
      vP (gdW (gB v44 true) (ld1 v46 h3)) fun v47 =>
      vP (gdW (gB v44 true) (lenV v47)) fun v48 =>
      vP (gdW (gB v44 true) (binV .leq v48 (Value.int .i64 40))) fun v49 =>
      vP (pickV v44 v49 (Value.bool false)) fun v50 =>
      K v50 h3))) h
theorem D11_eq (a0 : Value) (K : Value → Hp → Prop) (h : Hp) : fnVC Try.prog Try.f11 x11 [a0] K h = D11 a0 K h := by kernel_rfl
theorem D11_ok : fnOk Try.prog Try.f11 x11 1 = true := by kernel_rfl
theorem C11 {a0 : Value} {K : Value → Hp → Prop} {h : Hp} (hh : D11 a0 K h) : CallH Try.prog 11 #[a0] K h :=
  callH_of mixed Try.func11 x11 [a0] D11_ok (D11_eq a0 K h ▸ hh)

end Go.Proofs

/-
  The conditions of some functions, as the printer wrote them out of the dump; the kernel checks that each is the function's own.
-/
set_option maxRecDepth 100000
namespace Go.Proofs
open Go.Sl
/- 43: slices.Values[[]int,int]; slots: 0 s, 1 s -/
def x43 : Ann := (.seq (.reg [] [(0, []), (1, [])]) (.seq (.reg [] [(0, []), (1, [])]) .leaf))
def D43 (a0 : Value) (K : Value → Hp → Prop) (h : Hp) : Prop :=
  vA (some (Obj.cells (Value.cells a0) 22 (0, 0), ptrV)) (fun v1 h1 =>
  vP (some (Value.func (.func 69) #[] #[v1])) fun v3 =>
  K v3 h1) h
theorem D43_eq (a0 : Value) (K : Value → Hp → Prop) (h : Hp) : fnVC Try.prog Try.f43 x43 [a0] K h = D43 a0 K h := by kernel_rfl
theorem D43_ok : fnOk Try.prog Try.f43 x43 1 = true := by kernel_rfl
theorem C43 {a0 : Value} {K : Value → Hp → Prop} {h : Hp} (hh : D43 a0 K h) : CallH Try.prog 43 #[a0] K h :=
  callH_of mixed Try.func43 x43 [a0] D43_ok (D43_eq a0 K h ▸ hh)

/- 67: slices.Collect[int]; slots: 0 seq, 1 seq -/
def x67 : Ann := (.seq (.reg [] [(0, [])]) (.seq (.reg [] [(0, []), (1, []), (2, [])]) .leaf))
def D67 (a0 : Value) (K : Value → Hp → Prop) (h : Hp) : Prop :=
  CallH Try.prog 83 #[(Value.slice none 0 0), a0] (fun v4 h1 =>
  K v4 h1) h
theorem D67_eq (a0 : Value) (K : Value → Hp → Prop) (h : Hp) : fnVC Try.prog Try.f67 x67 [a0] K h = D67 a0 K h := by kernel_rfl
theorem D67_ok : fnOk Try.prog Try.f67 x67 1 = true := by kernel_rfl
theorem C67 {a0 : Value} {K : Value → Hp → Prop} {h : Hp} (hh : D67 a0 K h) : CallH Try.prog 67 #[a0] K h :=
  callH_of mixed Try.func67 x67 [a0] D67_ok (D67_eq a0 K h ▸ hh)

/- 42: slices.Sorted[int]; slots: 0 seq, 1 seq, 3 s -/
def x42 : Ann := (.seq (.reg [] [(0, [])]) (.seq (.reg [] [(0, []), (1, []), (2, [])]) (.seq (.reg [] [(0, []), (1, [])]) (.seq (.reg [] [(0, []), (1, [])]) .leaf))))
def D42 (a0 : Value) (K : Value → Hp → Prop) (h : Hp) : Prop :=
  CallH Try.prog 67 #[a0] (fun v5 h1 =>
  CallH Try.prog 68 #[v5] (fun v7 h2 =>
  K v5 h2) h1) h
theorem D42_eq (a0 : Value) (K : Value → Hp → Prop) (h : Hp) : fnVC Try.prog Try.f42 x42 [a0] K h = D42 a0 K h := by kernel_rfl
theorem D42_ok : fnOk Try.prog Try.f42 x42 1 = true := by kernel_rfl
theorem C42 {a0 : Value} {K : Value → Hp → Prop} {h : Hp} (hh : D42 a0 K h) : CallH Try.prog 42 #[a0] K h :=
  callH_of mixed Try.func42 x42 [a0] D42_ok (D42_eq a0 K h ▸ hh)

/- 15: treadmill/view.Path; slots: 0 v, 1 addr, 2 v, 3 addr, 5 at, 6 from, 7 level, 8 there, 9 _, 10 a, 11 _, 12 ok, 13 next, 14 _, 15 a, 16 _, 17 b, 18 _, 19 old, 20 _, 21 ok, 22 out, 23 a, 24 ok -/
def x15 : Ann := (.seq (.reg [] [(0, []), (1, [])]) (.blk (.seq (.reg [] [(0, []), (1, []), (2, [])]) (.seq (.reg [] [(0, []), (1, [])]) (.seq (.reg [] [(0, []), (1, []), (2, []), (3, []), (4, [])]) (.seq .leaf (.join [7] [32, 33, 34, 8, 35, 36, 37, 38, 39, 40, 10, 42, 43, 44, 41, 45, 46, 11, 12, 47, 48, 49, 50, 51, 52, 53, 54, 55, 13, 56, 57, 58, 59, 60, 61, 15, 62, 63, 64, 65, 66, 67, 68, 69, 70, 71, 72, 73, 74, 75, 76, 17, 78, 79, 80, 77, 81, 82, 18, 19, 83, 84, 85, 86, 87, 88, 89, 90, 91, 92, 93, 94, 95, 96, 97, 98, 99, 100, 101, 102, 103, 104, 105, 7] (.blk (.loop [7] [32, 33, 34, 8, 35, 36, 37, 38, 39, 40, 10, 42, 43, 44, 41, 45, 46, 11, 12, 47, 48, 49, 50, 51, 52, 53, 54, 55, 13, 56, 57, 58, 59, 60, 61, 15, 62, 63, 64, 65, 66, 67, 68, 69, 70, 71, 72, 73, 74, 75, 76, 17, 78, 79, 80, 77, 81, 82, 18, 19, 83, 84, 85, 86, 87, 88, 89, 90, 91, 92, 93, 94, 95, 96, 97, 98, 99, 100, 101, 102, 103, 104, 105, 7] (.seq (.seq (.reg [] [(0, []), (1, []), (2, [])]) (.cond .leaf .leaf)) (.blk (.seq (.reg [] [(0, [])]) (.seq (.seq (.reg [] [(0, []), (1, []), (2, [])]) (.blk (.loop [37, 8] [38, 39, 40, 10, 42, 43, 44, 41, 45, 46, 11, 12, 47, 48, 49, 50, 51, 8, 52, 53, 54, 55, 37] (.seq (.reg [] [(0, [])]) (.seq (.cond .leaf .leaf) (.seq (.blk (.seq (.reg [] [(0, []), (1, []), (2, [])]) (.join [8] [42, 43, 44, 41, 45, 46, 11, 12, 47, 48, 49, 50, 51, 8] (.seq (.reg [] [(0, []), (1, []), (2, []), (3, []), (4, []), (5, []), (6, []), (7, [])]) (.seq (.reg [] [(0, [])]) (.cond (.reg [] [(0, []), (1, []), (2, []), (3, []), (4, [])]) .leaf))) (.seq (.reg [] [(0, []), (1, []), (2, [])]) (.cond .leaf .leaf))))) (.reg [] [(0, []), (1, [])]))))))) (.seq (.reg [] [(0, [])]) (.seq (.seq (.reg [] [(0, []), (1, []), (2, [])]) (.blk (.loop [13, 58] [59, 60, 61, 15, 62, 63, 64, 65, 66, 67, 68, 69, 70, 71, 72, 73, 74, 75, 76, 17, 78, 79, 80, 77, 81, 82, 18, 19, 83, 84, 85, 86, 87, 88, 89, 90, 91, 92, 93, 94, 95, 96, 97, 98, 99, 100, 101, 102, 13, 103, 104, 58] (.seq (.reg [] [(0, [])]) (.seq (.cond .leaf .leaf) (.seq (.blk (.seq (.reg [] [(0, []), (1, []), (2, [])]) (.seq (.reg [] [(0, []), (1, []), (2, []), (3, []), (4, []), (5, []), (6, []), (7, []), (8, []), (9, []), (10, []), (11, [])]) (.blk (.loop [73, 13] [74, 75, 76, 17, 78, 79, 80, 77, 81, 82, 18, 19, 83, 84, 85, 86, 87, 88, 89, 90, 91, 92, 93, 94, 95, 96, 97, 98, 99, 100, 101, 102, 13, 103, 73] (.seq (.reg [] [(0, [])]) (.seq (.cond .leaf .leaf) (.join [13] [75, 76, 17, 78, 79, 80, 77, 81, 82, 18, 19, 83, 84, 85, 86, 87, 88, 89, 90, 91, 92, 93, 94, 95, 96, 97, 98, 99, 100, 101, 102, 13] (.blk (.seq (.reg [] [(0, []), (1, []), (2, [])]) (.seq (.reg [] [(0, []), (1, []), (2, []), (3, []), (4, []), (5, []), (6, []), (7, [])]) (.seq (.reg [] [(0, []), (1, []), (2, []), (3, []), (4, []), (5, []), (6, []), (7, []), (8, []), (9, []), (10, []), (11, []), (12, [])]) (.cond (.seq (.reg [] [(0, []), (1, []), (2, []), (3, [])]) (.reg [] [(0, []), (1, []), (2, []), (3, []), (4, [])])) .leaf))))) (.reg [] [(0, []), (1, [])]))))))))) (.reg [] [(0, []), (1, [])]))))))) (.reg [] [(0, []), (1, [])]))))))))) (.seq (.seq (.reg [] [(0, []), (1, []), (2, []), (3, []), (4, []), (5, []), (6, []), (7, [])]) (.seq (.reg [] [(0, []), (1, []), (2, []), (3, []), (4, []), (5, []), (6, [])]) (.cond (.seq (.reg [] [(0, [])]) .leaf) .leaf))) (.seq (.reg [] [(0, []), (1, []), (2, [])]) (.seq (.seq (.reg [] [(0, []), (1, []), (2, []), (3, []), (4, []), (5, []), (6, []), (7, [])]) (.blk (.loop [23, 22, 24] [127, 134, 135, 136, 137, 22, 129, 130, 131, 128, 132, 133, 23, 24] (.seq (.seq (.reg [] [(0, [])]) (.cond .leaf .leaf)) (.seq (.blk (.reg [] [(0, []), (1, []), (2, []), (3, []), (4, [])])) (.reg [] [(0, []), (1, []), (2, []), (3, []), (4, []), (5, []), (6, []), (7, [])])))))) (.seq (.reg [] [(0, []), (1, [])]) .leaf)))))))))))
def D15 (a0 a1 : Value) (K : Value → Hp → Prop) (h : Hp) : Prop :=
  vA (some (Obj.cells (Value.cells a0) 26 (0, 0), ptrV)) (fun v2 h1 =>
  vP (ldN 9 v2 h1) fun v25 =>
  CallH Try.prog 41 #[v25] (fun v26 h2 =>
  vA (some (Obj.map #[] 0, fun r => Value.map (some r))) (fun v27 h3 =>
  vP (ldN 9 v2 h3) fun v28 =>
  CallH Try.prog 19 #[v28] (fun v29 h4 =>
  CallH Try.prog 43 #[v29] (fun v30 h5 =>
  CallH Try.prog 42 #[v30] (fun v31 h6 =>
  ∀ J1 : List Value → Hp → Prop, (∀ v7 : Value, ∀ h7 : Hp, (∀ g1 : St,
    vP (lkV Try.prog 51 v26 a1 true h7) fun v109 =>
    vP (exV v109 0) fun v110 =>
    vP (exV v109 1) fun v111 =>
    vP (unV .not v111) fun v113 =>
    vP (gdW (gB v113 false) (some v7)) fun v115 =>
    vP (gdW (gB v113 false) (lenV v115)) fun v116 =>
    vP (gdW (gB v113 false) (eqV 1 false v116 (Value.int .i64 0))) fun v117 =>
    vP (pickV v113 (Value.bool true) v117) fun v118 =>
    vB v118 (K (Value.slice none 0 0) h7)
    (vA ((bldV #[(Value.int .i64 0)] [(0, 1, a1)]).map fun c => (Obj.cells c 3 (0, 0), fun r => Value.slice (some ⟨r, 0, none⟩) 1 1)) (fun v120 h8 =>
    vP (lkV Try.prog 51 v27 a1 true h8) fun v124 =>
    vP (exV v124 0) fun v125 =>
    vP (exV v124 1) fun v126 =>
    ∃ I2 : Nat → List Value → Hp → Prop, (∃ n, I2 n [v125, v120, v126] h8) ∧
    ∀ n2 : Nat, ∀ v23 v22 v24 : Value, ∀ h9 : Hp, I2 n2 [v23, v22, v24] h9 → ∀ g2 : St,
      vB v24 (vA ((bldV #[(Value.int .i64 0)] [(0, 1, v23)]).map fun c => (Obj.cells c 3 (0, 0), fun r => Value.slice (some ⟨r, 0, none⟩) 1 1)) (fun v135 h10 =>
        apW Try.prog #[22, 22] 22 v135 v22 (fun v137 h11 =>
        vP (lkV Try.prog 51 v27 v23 true h11) fun v131 =>
        vP (exV v131 0) fun v132 =>
        vP (exV v131 1) fun v133 =>
        ∃ m2, m2 < n2 ∧ I2 m2 [v132, v137, v133] h11) h10) h9)
      (K v22 h9)) h7)) → J1 [v7] h7) →
  ∃ I3 : Nat → List Value → Hp → Prop, (∃ n, I3 n [v31] h6) ∧
  ∀ n3 : Nat, ∀ v7_1 : Value, ∀ h12 : Hp, I3 n3 [v7_1] h12 → ∀ g3 : St,
    vP (lenV v7_1) fun v33 =>
    vP (binV .gtr v33 (Value.int .i64 0)) fun v34 =>
    vB v34 (vP (lenV v7_1) fun v36 =>
      ∃ I4 : Nat → List Value → Hp → Prop, (∃ n, I4 n [(Value.int .i64 0), (Value.slice none 0 0)] h12) ∧
      ∀ n4 : Nat, ∀ v37 v8 : Value, ∀ h13 : Hp, I4 n4 [v37, v8] h13 → ∀ g4 : St,
        vP (binV .lss v37 v36) fun v38 =>
        vB v38 (vP (iaS 1 v7_1 v37) fun v39 =>
          vP (ld1 v39 h13) fun v40 =>
          ∀ J5 : List Value → Hp → Prop, (∀ v8_1 : Value, ∀ h14 : Hp, (∀ g5 : St,
            vP (eqV 1 false v40 a1) fun v54 =>
            vB v54 (J1 [v7_1] h14)
            (vP (binV .add v37 (Value.int .i64 1)) fun v55 =>
            ∃ m4, m4 < n4 ∧ I4 m4 [v55, v8_1] h14)) → J5 [v8_1] h14) →
          vP (lkV Try.prog 51 v26 v40 true h13) fun v44 =>
          vP (exV v44 0) fun v45 =>
          vP (exV v44 1) fun v46 =>
          vB v46 (vA ((bldV #[(Value.int .i64 0)] [(0, 1, v40)]).map fun c => (Obj.cells c 3 (0, 0), fun r => Value.slice (some ⟨r, 0, none⟩) 1 1)) (fun v50 h15 =>
            apW Try.prog #[22, 22] 22 v8 v50 (fun v51 h16 =>
            J5 [v51] h16) h15) h13)
          (J5 [v8] h13))
        (vP (lenV v8) fun v57 =>
        ∃ I6 : Nat → List Value → Hp → Prop, (∃ n, I6 n [(Value.slice none 0 0), (Value.int .i64 0)] h13) ∧
        ∀ n6 : Nat, ∀ v13 v58 : Value, ∀ h17 : Hp, I6 n6 [v13, v58] h17 → ∀ g6 : St,
          vP (binV .lss v58 v57) fun v59 =>
          vB v59 (vP (iaS 1 v8 v58) fun v60 =>
            vP (ld1 v60 h17) fun v61 =>
            vP (faV 5 v2) fun v62 =>
            vP (ld1 v62 h17) fun v63 =>
            vP (lkV Try.prog 51 v26 v61 false h17) fun v66 =>
            vP (iaS 3 v63 v66) fun v67 =>
            vP (faV 1 v67) fun v68 =>
            vP (ld1 v68 h17) fun v69 =>
            CallH Try.prog 43 #[v69] (fun v70 h18 =>
            CallH Try.prog 42 #[v70] (fun v71 h19 =>
            vP (lenV v71) fun v72 =>
            ∃ I7 : Nat → List Value → Hp → Prop, (∃ n, I7 n [(Value.int .i64 0), v13] h19) ∧
            ∀ n7 : Nat, ∀ v73 v13_1 : Value, ∀ h20 : Hp, I7 n7 [v73, v13_1] h20 → ∀ g7 : St,
              vP (binV .lss v73 v72) fun v74 =>
              vB v74 (∀ J8 : List Value → Hp → Prop, (∀ v13_2 : Value, ∀ h21 : Hp, (∀ g8 : St,
                  vP (binV .add v73 (Value.int .i64 1)) fun v103 =>
                  ∃ m7, m7 < n7 ∧ I7 m7 [v103, v13_2] h21) → J8 [v13_2] h21) →
                vP (iaS 1 v71 v73) fun v75 =>
                vP (ld1 v75 h20) fun v76 =>
                vP (lkV Try.prog 51 v27 v76 true h20) fun v80 =>
                vP (exV v80 0) fun v81 =>
                vP (exV v80 1) fun v82 =>
                vP (eqV 1 true v76 (Value.int .i64 0)) fun v84 =>
                vP (gdW (gB v84 true) (some v82)) fun v86 =>
                vP (gdW (gB v84 true) (unV .not v86)) fun v87 =>
                vP (pickV v84 v87 (Value.bool false)) fun v88 =>
                vP (gdW (gB v88 true) (ldN 9 v2 h20)) fun v90 =>
                vE (gB v88 true) (CallH Try.prog 19 #[v90]) (fun v91 h22 =>
                vP (gdW (gB v88 true) (some v76)) fun v92 =>
                vE (gB v88 true) (CallH Try.prog 44 #[v91, v92]) (fun v93 h23 =>
                vP (gdW (gB v88 true) (unV .not v93)) fun v94 =>
                vP (pickV v88 v94 (Value.bool false)) fun v95 =>
                vB v95 (muW Try.prog 51 v27 v76 v61 (fun _ h24 =>
                  vA ((bldV #[(Value.int .i64 0)] [(0, 1, v76)]).map fun c => (Obj.cells c 3 (0, 0), fun r => Value.slice (some ⟨r, 0, none⟩) 1 1)) (fun v101 h25 =>
                  apW Try.prog #[22, 22] 22 v13_1 v101 (fun v102 h26 =>
                  J8 [v102] h26) h25) h24) h23)
                (J8 [v13_1] h23)) h22) h20)
              (vP (binV .add v58 (Value.int .i64 1)) fun v104 =>
              ∃ m6, m6 < n6 ∧ I6 m6 [v13_1, v104] h20)) h18) h17)
          (∃ m3, m3 < n3 ∧ I3 m3 [v13] h17)))
    (J1 [v7_1] h12)) h5) h4) h3) h2) h1) h
theorem D15_eq (a0 a1 : Value) (K : Value → Hp → Prop) (h : Hp) : fnVC Try.prog Try.f15 x15 [a0, a1] K h = D15 a0 a1 K h := by kernel_rfl
theorem D15_ok : fnOk Try.prog Try.f15 x15 2 = true := by kernel_rfl
theorem C15 {a0 a1 : Value} {K : Value → Hp → Prop} {h : Hp} (hh : D15 a0 a1 K h) : CallH Try.prog 15 #[a0, a1] K h :=
  callH_of mixed Try.func15 x15 [a0, a1] D15_ok (D15_eq a0 a1 K h ▸ hh)

/- 45: treadmill/treadmillref29.names; slots: 0 l, 1 x, 2 l, 3 x -/
def x45 : Ann := (.seq (.reg [] [(0, [])]) (.seq (.reg [] [(0, []), (1, []), (2, []), (3, [])]) .leaf))
def D45 (a0 a1 : Value) (K : Value → Hp → Prop) (h : Hp) : Prop :=
  CallH Try.prog 21 #[a0, a1] (fun v7 h1 =>
  K v7 h1) h
theorem D45_eq (a0 a1 : Value) (K : Value → Hp → Prop) (h : Hp) : fnVC Try.prog Try.f45 x45 [a0, a1] K h = D45 a0 a1 K h := by kernel_rfl
theorem D45_ok : fnOk Try.prog Try.f45 x45 2 = true := by kernel_rfl
theorem C45 {a0 a1 : Value} {K : Value → Hp → Prop} {h : Hp} (hh : D45 a0 a1 K h) : CallH Try.prog 45 #[a0, a1] K h :=
  callH_of mixed Try.func45 x45 [a0, a1] D45_ok (D45_eq a0 a1 K h ▸ hh)

/- 16: treadmill/treadmillref29.Path; slots: 0 v, 1 addr, 2 v, 3 addr, 5 reach, 6 far, 7 d, 8 i, 9 x, 10 s, 11 k, 12 roots, 13 best, 14 i, 15 x, 16 out, 17 s, 18 next, 19 k -/
def x16 : Ann := (.seq (.reg [] [(0, []), (1, [])]) (.seq (.seq (.reg [] [(0, []), (1, []), (2, []), (3, []), (4, []), (5, []), (6, []), (7, []), (8, []), (9, []), (10, []), (11, []), (12, []), (13, []), (14, [])]) (.cond (.seq (.reg [] [(0, [])]) .leaf) .leaf)) (.seq (.reg [] [(0, []), (1, []), (2, [])]) (.seq (.reg [] [(0, []), (1, []), (2, []), (3, []), (4, [])]) (.seq (.seq (.reg [] [(0, [])]) (.blk (.loop [7] [40, 41, 42, 43, 8, 46, 47, 48, 49, 52, 53, 54, 55, 9, 56, 57, 58, 59, 60, 61, 62, 63, 64, 65, 66, 67, 10, 11, 68, 69, 70, 71, 74, 75, 76, 77, 78, 79, 80, 81, 82, 83, 84, 85, 86, 87, 88, 89, 90, 91, 92, 93, 72, 73, 50, 51, 44, 45, 7] (.seq (.seq (.reg [] [(0, []), (1, []), (2, []), (3, [])]) (.cond .leaf .leaf)) (.seq (.blk (.seq (.reg [] [(0, [])]) (.blk (.loop [8] [46, 47, 48, 49, 52, 53, 54, 55, 9, 56, 57, 58, 59, 60, 61, 62, 63, 64, 65, 66, 67, 10, 11, 68, 69, 70, 71, 74, 75, 76, 77, 78, 79, 80, 81, 82, 83, 84, 85, 86, 87, 88, 89, 90, 91, 92, 93, 72, 73, 50, 51, 8] (.seq (.seq (.reg [] [(0, []), (1, []), (2, []), (3, [])]) (.cond .leaf .leaf)) (.join [] [52, 53, 54, 55, 9, 56, 57, 58, 59, 60, 61, 62, 63, 64, 65, 66, 67, 10, 11, 68, 69, 70, 71, 74, 75, 76, 77, 78, 79, 80, 81, 82, 83, 84, 85, 86, 87, 88, 89, 90, 91, 92, 93, 72, 73] (.blk (.seq (.reg [] [(0, []), (1, []), (2, []), (3, []), (4, [])]) (.seq (.seq (.reg [] [(0, []), (1, []), (2, []), (3, [])]) (.cond .leaf .leaf)) (.seq (.reg [0, 1, 0, 0, 12, 31, 63, 127, 255] [(0, []), (3, []), (1, []), (2, []), (4, [1]), (5, []), (6, []), (7, []), (8, [])]) (.seq (.reg [] [(0, [])]) (.blk (.loop [11] [68, 69, 70, 71, 74, 75, 76, 77, 78, 79, 80, 81, 82, 83, 84, 85, 86, 87, 88, 89, 90, 91, 92, 93, 72, 73, 11] (.seq (.seq (.reg [] [(0, []), (1, []), (2, []), (3, [])]) (.cond .leaf .leaf)) (.join [] [74, 75, 76, 77, 78, 79, 80, 81, 82, 83, 84, 85, 86, 87, 88, 89, 90, 91, 92, 93] (.blk (.seq (.reg [] [(0, []), (1, []), (2, []), (3, []), (4, []), (5, []), (6, []), (7, []), (8, []), (9, []), (10, []), (11, []), (12, []), (13, []), (14, []), (15, [])]) (.cond (.reg [] [(0, []), (1, []), (2, []), (3, []), (4, [])]) .leaf))) (.reg [] [(0, []), (1, []), (2, [])])))))))))) (.reg [] [(0, []), (1, []), (2, [])]))))))) (.reg [] [(0, []), (1, []), (2, [])])))))) (.seq (.reg [] [(0, []), (1, []), (2, [])]) (.seq (.reg [] [(0, [])]) (.seq (.seq (.reg [] [(0, [])]) (.blk (.loop [14, 13] [96, 97, 98, 99, 102, 103, 104, 105, 15, 106, 107, 108, 109, 110, 111, 112, 113, 114, 115, 116, 117, 118, 119, 120, 121, 122, 123, 124, 125, 126, 127, 128, 13, 100, 101, 14] (.seq (.seq (.reg [] [(0, []), (1, []), (2, []), (3, [])]) (.cond .leaf .leaf)) (.join [13] [102, 103, 104, 105, 15, 106, 107, 108, 109, 110, 111, 112, 113, 114, 115, 116, 117, 118, 119, 120, 121, 122, 123, 124, 125, 126, 127, 128, 13] (.blk (.seq (.reg [] [(0, []), (1, []), (2, []), (3, []), (4, [])]) (.seq (.reg [] [(0, []), (1, []), (2, []), (3, []), (4, []), (5, []), (6, []), (7, []), (8, []), (9, []), (10, []), (11, []), (12, []), (13, []), (14, []), (15, []), (16, []), (17, []), (18, []), (19, []), (20, []), (21, [])]) (.cond (.reg [] [(0, []), (1, [])]) .leaf)))) (.reg [] [(0, []), (1, []), (2, [])])))))) (.seq (.reg [] [(0, []), (1, []), (2, [])]) (.seq (.blk (.loop [13, 16] [131, 132, 133, 134, 135, 136, 137, 138, 139, 140, 141, 17, 18, 19, 142, 143, 144, 145, 148, 149, 150, 151, 152, 153, 154, 155, 156, 157, 158, 159, 160, 161, 162, 163, 164, 165, 166, 167, 168, 169, 170, 171, 172, 173, 174, 175, 176, 177, 178, 179, 180, 181, 146, 147, 182, 183, 184, 185, 16, 186, 13] (.seq (.seq (.reg [] [(0, []), (1, []), (2, [])]) (.cond .leaf .leaf)) (.blk (.seq (.reg [0, 1, 0, 0, 12, 31, 63, 127, 255] [(0, []), (3, []), (1, []), (2, []), (4, [1]), (5, []), (6, []), (7, []), (8, [])]) (.seq (.reg [] [(0, [])]) (.seq (.seq (.reg [] [(0, [])]) (.blk (.loop [19, 18] [142, 143, 144, 145, 148, 149, 150, 151, 152, 153, 154, 155, 156, 157, 158, 159, 160, 161, 162, 163, 164, 165, 166, 167, 168, 169, 170, 171, 172, 173, 174, 175, 176, 177, 178, 179, 180, 181, 18, 146, 147, 19] (.seq (.seq (.reg [] [(0, []), (1, []), (2, []), (3, [])]) (.cond .leaf .leaf)) (.join [18] [148, 149, 150, 151, 152, 153, 154, 155, 156, 157, 158, 159, 160, 161, 162, 163, 164, 165, 166, 167, 168, 169, 170, 171, 172, 173, 174, 175, 176, 177, 178, 179, 180, 181, 18] (.blk (.seq (.reg [0, 0, 3, 7, 15, 31, 63, 63, 63, 447, 959, 2047, 63, 63, 12351, 28735, 65535, 131071, 262143, 524287, 1048575, 2097151, 4194303, 4194303, 16777215, 33554431, 4194303, 134217727, 268435455, 536870911] [(0, []), (1, []), (2, []), (3, []), (4, []), (5, []), (6, []), (7, []), (8, []), (9, []), (12, []), (13, []), (10, []), (11, []), (14, []), (15, []), (16, []), (17, []), (18, []), (19, []), (20, []), (21, []), (22, []), (23, []), (24, []), (26, []), (25, []), (27, []), (28, []), (29, [])]) (.cond (.reg [] [(0, []), (1, []), (2, []), (3, []), (4, [])]) .leaf))) (.reg [] [(0, []), (1, []), (2, [])])))))) (.seq (.reg [] [(0, []), (1, []), (2, []), (3, []), (4, [])]) (.reg [] [(0, []), (1, [])]))))))))) (.seq (.reg [] [(0, []), (1, [])]) .leaf)))))))))))
def D16 (a0 a1 : Value) (K : Value → Hp → Prop) (h : Hp) : Prop :=
  vA (some (Obj.cells (Value.cells a0) 26 (0, 0), ptrV)) (fun v2 h1 =>
  vP (eqV 1 false a1 (Value.int .i64 0)) fun v21 =>
  vP (gdW (gB v21 false) (ldN 9 v2 h1)) fun v23 =>
  vP (gdW (gB v21 false) (some a1)) fun v24 =>
  vE (gB v21 false) (CallH Try.prog 33 #[v23, v24]) (fun v25 h2 =>
  vP (gdW (gB v21 false) (binV .lss v25 (Value.int .i64 0))) fun v26 =>
  vP (pickV v21 (Value.bool true) v26) fun v27 =>
  vP (gdW (gB v27 false) (ldN 9 v2 h2)) fun v29 =>
  vE (gB v27 false) (CallH Try.prog 35 #[v29]) (fun v30 h3 =>
  vP (gdW (gB v27 false) (some a1)) fun v31 =>
  vE (gB v27 false) (CallH Try.prog 21 #[v30, v31]) (fun v32 h4 =>
  vP (gdW (gB v27 false) (unV .not v32)) fun v33 =>
  vP (pickV v27 (Value.bool true) v33) fun v34 =>
  vB v34 (K (Value.slice none 0 0) h4)
  (vP (ldN 9 v2 h4) fun v35 =>
  CallH Try.prog 35 #[v35] (fun v36 h5 =>
  vA (some (Obj.map #[] 0, fun r => Value.map (some r))) (fun v37 h6 =>
  muW Try.prog 51 v37 a1 (Value.int .i64 1) (fun _ h7 =>
  ∃ I1 : Nat → List Value → Hp → Prop, (∃ n, I1 n [(Value.int .i64 1)] h7) ∧
  ∀ n1 : Nat, ∀ v7 : Value, ∀ h8 : Hp, I1 n1 [v7] h8 → ∀ g1 : St,
    vP (lenV v36) fun v42 =>
    vP (binV .leq v7 v42) fun v43 =>
    vB v43 (∃ I2 : Nat → List Value → Hp → Prop, (∃ n, I2 n [(Value.int .i64 0)] h8) ∧
      ∀ n2 : Nat, ∀ v8 : Value, ∀ h9 : Hp, I2 n2 [v8] h9 → ∀ g2 : St,
        vP (lenV v36) fun v48 =>
        vP (binV .lss v8 v48) fun v49 =>
        vB v49 (∀ J3 : List Value → Hp → Prop, (∀ h10 : Hp, (∀ g3 : St,
            vP (binV .add v8 (Value.int .i64 1)) fun v51 =>
            ∃ m2, m2 < n2 ∧ I2 m2 [v51] h10) → J3 [] h10) →
          vP (iaS 1 v36 v8) fun v54 =>
          vP (ld1 v54 h9) fun v55 =>
          vP (lkV Try.prog 51 v37 v55 false h9) fun v58 =>
          vP (eqV 1 true v58 (Value.int .i64 0)) fun v59 =>
          vB v59 (J3 [] h9)
          (vP (faV 5 v2) fun v60 =>
          vP (ld1 v60 h9) fun v61 =>
          vP (ldN 9 v2 h9) fun v62 =>
          CallH Try.prog 33 #[v62, v55] (fun v64 h11 =>
          (ld1 v60 h11) = some v61 ∧ (vP (iaS 3 v61 v64) fun v65 =>
          vP (faV 1 v65) fun v66 =>
          vP (ld1 v66 h11) fun v67 =>
          ∃ I4 : Nat → List Value → Hp → Prop, (∃ n, I4 n [(Value.int .i64 0)] h11) ∧
          ∀ n4 : Nat, ∀ v11 : Value, ∀ h12 : Hp, I4 n4 [v11] h12 → ∀ g4 : St,
            vP (lenV v67) fun v70 =>
            vP (binV .lss v11 v70) fun v71 =>
            vB v71 (∀ J5 : List Value → Hp → Prop, (∀ h13 : Hp, (∀ g5 : St,
                vP (binV .add v11 (Value.int .i64 1)) fun v73 =>
                ∃ m4, m4 < n4 ∧ I4 m4 [v73] h13) → J5 [] h13) →
              vP (iaS 1 v67 v11) fun v77 =>
              vP (ld1 v77 h12) fun v78 =>
              vP (lkV Try.prog 51 v37 v78 false h12) fun v79 =>
              vP (eqV 1 false v79 v7) fun v81 =>
              vP (gdW (gB v81 true) (some v36)) fun v83 =>
              vP (gdW (gB v81 true) (some v67)) fun v84 =>
              vP (gdW (gB v81 true) (some v11)) fun v85 =>
              vP (gdW (gB v81 true) (iaS 1 v84 v85)) fun v86 =>
              vP (gdW (gB v81 true) (ld1 v86 h12)) fun v87 =>
              vE (gB v81 true) (CallH Try.prog 21 #[v83, v87]) (fun v88 h14 =>
              vP (pickV v81 v88 (Value.bool false)) fun v89 =>
              vB v89 (vP (binV .add v7 (Value.int .i64 1)) fun v93 =>
                muW Try.prog 51 v37 v55 v93 (fun _ h15 =>
                J5 [] h15) h14)
              (J5 [] h14)) h12)
            (J3 [] h12))) h9))
        (vP (binV .add v7 (Value.int .i64 1)) fun v45 =>
        ∃ m1, m1 < n1 ∧ I1 m1 [v45] h9))
    (vP (ldN 9 v2 h8) fun v94 =>
    CallH Try.prog 34 #[v94] (fun v95 h16 =>
    ∃ I6 : Nat → List Value → Hp → Prop, (∃ n, I6 n [(Value.int .i64 0), (Value.int .i64 0)] h16) ∧
    ∀ n6 : Nat, ∀ v14 v13 : Value, ∀ h17 : Hp, I6 n6 [v14, v13] h17 → ∀ g6 : St,
      vP (lenV v36) fun v98 =>
      vP (binV .lss v14 v98) fun v99 =>
      vB v99 (∀ J7 : List Value → Hp → Prop, (∀ v13_1 : Value, ∀ h18 : Hp, (∀ g7 : St,
          vP (binV .add v14 (Value.int .i64 1)) fun v101 =>
          ∃ m6, m6 < n6 ∧ I6 m6 [v101, v13_1] h18) → J7 [v13_1] h18) →
        vP (iaS 1 v36 v14) fun v104 =>
        vP (ld1 v104 h17) fun v105 =>
        CallH Try.prog 45 #[v95, v105] (fun v108 h19 =>
        vP (gdW (gB v108 true) (some v37)) fun v110 =>
        vP (gdW (gB v108 true) (some v105)) fun v111 =>
        vP (gdW (gB v108 true) (lkV Try.prog 51 v110 v111 false h19)) fun v112 =>
        vP (gdW (gB v108 true) (eqV 1 true v112 (Value.int .i64 0))) fun v113 =>
        vP (pickV v108 v113 (Value.bool false)) fun v114 =>
        vP (gdW (gB v114 true) (some v13)) fun v116 =>
        vP (gdW (gB v114 true) (eqV 1 false v116 (Value.int .i64 0))) fun v117 =>
        vP (gdW (gB v114 true) (some v117)) fun v118 =>
        vP (gdW (gB v118 false) (some v37)) fun v119 =>
        vP (gdW (gB v118 false) (some v105)) fun v120 =>
        vP (gdW (gB v118 false) (lkV Try.prog 51 v119 v120 false h19)) fun v121 =>
        vP (gdW (gB v118 false) (some v37)) fun v122 =>
        vP (gdW (gB v118 false) (some v13)) fun v123 =>
        vP (gdW (gB v118 false) (lkV Try.prog 51 v122 v123 false h19)) fun v124 =>
        vP (gdW (gB v118 false) (binV .lss v121 v124)) fun v125 =>
        vP (gdW (gB v114 true) (pickV v118 (Value.bool true) v125)) fun v126 =>
        vP (pickV v114 v126 (Value.bool false)) fun v127 =>
        vB v127 (J7 [v105] h19)
        (J7 [v13] h19)) h17)
      (vA ((bldV #[(Value.int .i64 0)] [(0, 1, v13)]).map fun c => (Obj.cells c 3 (0, 0), fun r => Value.slice (some ⟨r, 0, none⟩) 1 1)) (fun v130 h20 =>
      ∃ I8 : Nat → List Value → Hp → Prop, (∃ n, I8 n [v13, v130] h20) ∧
      ∀ n8 : Nat, ∀ v13_2 v16 : Value, ∀ h21 : Hp, I8 n8 [v13_2, v16] h21 → ∀ g8 : St,
        vP (eqV 1 true v13_2 a1) fun v133 =>
        vB v133 (vP (faV 5 v2) fun v134 =>
          vP (ld1 v134 h21) fun v135 =>
          vP (ldN 9 v2 h21) fun v136 =>
          CallH Try.prog 33 #[v136, v13_2] (fun v138 h22 =>
          (ld1 v134 h22) = some v135 ∧ (vP (iaS 3 v135 v138) fun v139 =>
          vP (faV 1 v139) fun v140 =>
          vP (ld1 v140 h22) fun v141 =>
          ∃ I9 : Nat → List Value → Hp → Prop, (∃ n, I9 n [(Value.int .i64 0), (Value.int .i64 0)] h22) ∧
          ∀ n9 : Nat, ∀ v19 v18 : Value, ∀ h23 : Hp, I9 n9 [v19, v18] h23 → ∀ g9 : St,
            vP (lenV v141) fun v144 =>
            vP (binV .lss v19 v144) fun v145 =>
            vB v145 (∀ J10 : List Value → Hp → Prop, (∀ v18_1 : Value, ∀ h24 : Hp, (∀ g10 : St,
                vP (binV .add v19 (Value.int .i64 1)) fun v147 =>
                ∃ m9, m9 < n9 ∧ I9 m9 [v147, v18_1] h24) → J10 [v18_1] h24) →
              vP (iaS 1 v141 v19) fun v150 =>
              vP (ld1 v150 h23) fun v151 =>
              vP (eqV 1 true v151 (Value.int .i64 0)) fun v152 =>
              vP (gdW (gB v152 true) (some v37)) fun v154 =>
              vP (gdW (gB v152 true) (some v141)) fun v155 =>
              vP (gdW (gB v152 true) (some v19)) fun v156 =>
              vP (gdW (gB v152 true) (iaS 1 v155 v156)) fun v157 =>
              vP (gdW (gB v152 true) (some v37)) fun v160 =>
              vP (gdW (gB v152 true) (some v13_2)) fun v161 =>
              vP (gdW (gB v152 true) (ld1 v157 h23)) fun v158 =>
              vP (gdW (gB v152 true) (lkV Try.prog 51 v154 v158 false h23)) fun v159 =>
              vP (gdW (gB v152 true) (lkV Try.prog 51 v160 v161 false h23)) fun v162 =>
              vP (gdW (gB v152 true) (binV .sub v162 (Value.int .i64 1))) fun v163 =>
              vP (gdW (gB v152 true) (eqV 1 false v159 v163)) fun v164 =>
              vP (pickV v152 v164 (Value.bool false)) fun v165 =>
              vP (gdW (gB v165 true) (some v18)) fun v167 =>
              vP (gdW (gB v165 true) (eqV 1 false v167 (Value.int .i64 0))) fun v168 =>
              vP (gdW (gB v165 true) (some v168)) fun v169 =>
              vP (gdW (gB v169 false) (some v141)) fun v170 =>
              vP (gdW (gB v169 false) (some v19)) fun v171 =>
              vP (gdW (gB v169 false) (iaS 1 v170 v171)) fun v172 =>
              vP (gdW (gB v169 false) (some v18)) fun v174 =>
              vP (gdW (gB v169 false) (ld1 v172 h23)) fun v173 =>
              vP (gdW (gB v169 false) (binV .lss v173 v174)) fun v175 =>
              vP (gdW (gB v165 true) (pickV v169 (Value.bool true) v175)) fun v176 =>
              vP (pickV v165 v176 (Value.bool false)) fun v177 =>
              vB v177 (vP (iaS 1 v141 v19) fun v180 =>
                vP (ld1 v180 h23) fun v181 =>
                J10 [v181] h23)
              (J10 [v18] h23))
            (vA ((bldV #[(Value.int .i64 0)] [(0, 1, v18)]).map fun c => (Obj.cells c 3 (0, 0), fun r => Value.slice (some ⟨r, 0, none⟩) 1 1)) (fun v184 h25 =>
            apW Try.prog #[22, 22] 22 v16 v184 (fun v185 h26 =>
            ∃ m8, m8 < n8 ∧ I8 m8 [v18, v185] h26) h25) h23))) h21)
        (K v16 h21)) h17)) h8)) h6) h5) h4)) h3) h2) h1) h
theorem D16_eq (a0 a1 : Value) (K : Value → Hp → Prop) (h : Hp) : fnVC Try.prog Try.f16 x16 [a0, a1] K h = D16 a0 a1 K h := by kernel_rfl
theorem D16_ok : fnOk Try.prog Try.f16 x16 2 = true := by kernel_rfl
theorem C16 {a0 a1 : Value} {K : Value → Hp → Prop} {h : Hp} (hh : D16 a0 a1 K h) : CallH Try.prog 16 #[a0, a1] K h :=
  callH_of mixed Try.func16 x16 [a0, a1] D16_ok (D16_eq a0 a1 K h ▸ hh)

/- 12: treadmill/treadmilllaw29.own; slots: 0 v, 1 v, 3 i -/
def x12 : Ann := (.seq (.reg [] [(0, []), (1, [])]) (.seq (.seq (.reg [] [(0, [])]) (.blk (.loop [3] [4, 5, 6, 7, 8, 11, 12, 13, 14, 15, 16, 17, 18, 19, 20, 21, 22, 23, 24, 25, 26, 27, 28, 29, 2, 9, 10, 3] (.seq (.seq (.reg [] [(0, []), (1, []), (2, []), (3, []), (4, [])]) (.cond .leaf .leaf)) (.seq (.blk (.seq (.reg [0, 1, 0, 7, 15, 31, 63, 127, 255, 255, 767, 255, 3839, 7935, 16127, 32767, 255, 131071, 262143] [(0, []), (2, []), (1, []), (3, []), (4, []), (5, []), (6, []), (7, []), (9, []), (11, []), (16, []), (8, []), (10, []), (12, []), (13, []), (14, []), (15, []), (17, []), (18, [])]) (.cond (.seq (.reg [] [(0, [])]) .leaf) .leaf))) (.reg [] [(0, []), (1, []), (2, [])])))))) (.seq (.reg [] [(0, [])]) .leaf)))
def D12 (a0 : Value) (K : Value → Hp → Prop) (h : Hp) : Prop :=
  vA (some (Obj.cells (Value.cells a0) 26 (0, 0), ptrV)) (fun v1 h1 =>
  ∃ I1 : Nat → List Value → Hp → Prop, (∃ n, I1 n [(Value.int .i64 0)] h1) ∧
  ∀ n1 : Nat, ∀ v3 : Value, ∀ h2 : Hp, I1 n1 [v3] h2 → ∀ g1 : St,
    vP (faV 5 v1) fun v5 =>
    vP (ld1 v5 h2) fun v6 =>
    vP (lenV v6) fun v7 =>
    vP (binV .lss v3 v7) fun v8 =>
    vB v8 (vP (faV 5 v1) fun v11 =>
      vP (ld1 v11 h2) fun v12 =>
      vP (iaS 3 v12 v3) fun v14 =>
      vP (faV 0 v14) fun v15 =>
      vP (ld1 v15 h2) fun v16 =>
      vP (eqV 1 false v16 (Value.int .i64 0)) fun v17 =>
      vP (gdW (gB v17 false) (faV 5 v1)) fun v20 =>
      vP (gdW (gB v17 false) (some v3)) fun v22 =>
      vP (gdW (gB v17 false) (some v3)) fun v27 =>
      vP (gdW (gB v17 false) (ldN 9 v1 h2)) fun v19 =>
      vP (gdW (gB v17 false) (ld1 v20 h2)) fun v21 =>
      vP (gdW (gB v17 false) (iaS 3 v21 v22)) fun v23 =>
      vP (gdW (gB v17 false) (faV 0 v23)) fun v24 =>
      vP (gdW (gB v17 false) (ld1 v24 h2)) fun v25 =>
      vE (gB v17 false) (CallH Try.prog 33 #[v19, v25]) (fun v26 h3 =>
      vP (gdW (gB v17 false) (eqV 1 true v26 v27)) fun v28 =>
      vP (pickV v17 (Value.bool true) v28) fun v29 =>
      vB v29 (K (Value.bool false) h3)
      (vP (binV .add v3 (Value.int .i64 1)) fun v10 =>
      ∃ m1, m1 < n1 ∧ I1 m1 [v10] h3)) h2)
    (K (Value.bool true) h2)) h
theorem D12_eq (a0 : Value) (K : Value → Hp → Prop) (h : Hp) : fnVC Try.prog Try.f12 x12 [a0] K h = D12 a0 K h := by kernel_rfl
theorem D12_ok : fnOk Try.prog Try.f12 x12 1 = true := by kernel_rfl
theorem C12 {a0 : Value} {K : Value → Hp → Prop} {h : Hp} (hh : D12 a0 K h) : CallH Try.prog 12 #[a0] K h :=
  callH_of mixed Try.func12 x12 [a0] D12_ok (D12_eq a0 K h ▸ hh)

/- 13: treadmill/treadmilllaw29.told; slots: 1 v -/
def x13 : Ann := (.seq (.reg [] [(0, [])]) (.seq (.reg [] [(0, []), (1, []), (2, []), (3, []), (4, []), (5, []), (6, []), (7, []), (8, []), (9, []), (10, [])]) (.seq (.reg [] [(0, []), (1, []), (2, []), (3, []), (4, []), (5, []), (6, []), (7, []), (8, []), (9, []), (10, []), (11, []), (12, []), (13, []), (14, []), (15, []), (16, []), (17, []), (18, []), (19, []), (20, []), (21, []), (22, []), (23, []), (24, []), (25, []), (26, []), (27, []), (28, []), (29, []), (30, []), (31, []), (32, [])]) .leaf)))
def D13 (K : Value → Hp → Prop) (h : Hp) : Prop :=
  vA ((bldV #[(Value.int .i64 0)] [(0, 1, (Value.int .i64 64))]).map fun c => (Obj.cells c 3 (0, 0), fun r => Value.slice (some ⟨r, 0, none⟩) 1 1)) (fun v2 h1 =>
  vA ((bldV #[(Value.int .i64 0), (Value.int .i64 0)] [(0, 1, (Value.int .i64 128)), (1, 1, (Value.int .i64 0))]).map fun c => (Obj.cells c 3 (0, 0), fun r => Value.slice (some ⟨r, 0, none⟩) 2 2)) (fun v3 h2 =>
  vP ((bldV #[(Value.int .i64 0), (Value.slice none 0 0), (Value.bool false)] [(0, 1, (Value.int .i64 64)), (1, 1, v3)]).map Value.agg) fun v4 =>
  vA ((bldV #[(Value.int .i64 0)] [(0, 1, (Value.int .i64 256))]).map fun c => (Obj.cells c 3 (0, 0), fun r => Value.slice (some ⟨r, 0, none⟩) 1 1)) (fun v5 h3 =>
  vP ((bldV #[(Value.int .i64 0), (Value.slice none 0 0), (Value.bool false)] [(0, 1, (Value.int .i64 128)), (1, 1, v5), (2, 1, (Value.bool true))]).map Value.agg) fun v6 =>
  vA ((bldV #[(Value.int .i64 0)] [(0, 1, (Value.int .i64 0))]).map fun c => (Obj.cells c 3 (0, 0), fun r => Value.slice (some ⟨r, 0, none⟩) 1 1)) (fun v7 h4 =>
  vP ((bldV #[(Value.int .i64 0), (Value.slice none 0 0), (Value.bool false)] [(0, 1, (Value.int .i64 192)), (1, 1, v7)]).map Value.agg) fun v8 =>
  vA ((bldV #[(Value.int .i64 0), (Value.slice none 0 0), (Value.bool false), (Value.int .i64 0), (Value.slice none 0 0), (Value.bool false), (Value.int .i64 0), (Value.slice none 0 0), (Value.bool false)] [(0, 3, v4), (3, 3, v6), (6, 3, v8)]).map fun c => (Obj.cells c 30 (0, 0), fun r => Value.slice (some ⟨r, 0, none⟩) 3 3)) (fun v9 h5 =>
  vP ((bldV #[(Value.int .i64 0), (Value.int .i64 0), (Value.int .i64 0), (Value.slice none 0 0), (Value.slice none 0 0), (Value.slice none 0 0), (Value.int .i64 0), (Value.int .i64 0), (Value.int .i64 0)] [(3, 1, v2), (5, 1, v9)]).map Value.agg) fun v10 =>
  vA (some (Obj.cells #[(Value.int .i64 0), (Value.int .i64 0), (Value.int .i64 0), (Value.slice none 0 0), (Value.slice none 0 0), (Value.slice none 0 0), (Value.int .i64 0), (Value.int .i64 0), (Value.int .i64 0)] 26 (0, 0), ptrV)) (fun v1 h6 =>
  stN 9 v1 v10 (fun _ h7 =>
  vP (ldN 9 v1 h7) fun v11 =>
  CallH Try.prog 17 #[v11] (fun v12 h8 =>
  vA ((bldV #[(Value.int .i64 0), (Value.int .i64 0)] [(0, 1, (Value.int .i64 64)), (1, 1, (Value.int .i64 128))]).map fun c => (Obj.cells c 3 (0, 0), fun r => Value.slice (some ⟨r, 0, none⟩) 2 2)) (fun v13 h9 =>
  CallH Try.prog 14 #[v12, v13] (fun v14 h10 =>
  vP (gdW (gB v14 true) (ldN 9 v1 h10)) fun v16 =>
  vE (gB v14 true) (CallH Try.prog 23 #[v16]) (fun v17 h11 =>
  vE (gB v14 true) (vA ((bldV #[(Value.int .i64 0)] [(0, 1, (Value.int .i64 64))]).map fun c => (Obj.cells c 3 (0, 0), fun r => Value.slice (some ⟨r, 0, none⟩) 1 1))) (fun v18 h12 =>
  vE (gB v14 true) (CallH Try.prog 14 #[v17, v18]) (fun v19 h13 =>
  vP (pickV v14 v19 (Value.bool false)) fun v20 =>
  vP (gdW (gB v20 true) (ldN 9 v1 h13)) fun v22 =>
  vE (gB v20 true) (CallH Try.prog 18 #[v22]) (fun v23 h14 =>
  vE (gB v20 true) (vA ((bldV #[(Value.int .i64 0)] [(0, 1, (Value.int .i64 256))]).map fun c => (Obj.cells c 3 (0, 0), fun r => Value.slice (some ⟨r, 0, none⟩) 1 1))) (fun v24 h15 =>
  vE (gB v20 true) (CallH Try.prog 14 #[v23, v24]) (fun v25 h16 =>
  vP (pickV v20 v25 (Value.bool false)) fun v26 =>
  vP (gdW (gB v26 true) (ldN 9 v1 h16)) fun v28 =>
  vE (gB v26 true) (CallH Try.prog 22 #[v28, (Value.int .i64 192)]) (fun v29 h17 =>
  vP (gdW (gB v26 true) (eqV 1 false v29 (Value.int .i64 2))) fun v30 =>
  vP (pickV v26 v30 (Value.bool false)) fun v31 =>
  vP (gdW (gB v31 true) (ldN 9 v1 h17)) fun v33 =>
  vE (gB v31 true) (CallH Try.prog 25 #[v33]) (fun v34 h18 =>
  vP (gdW (gB v31 true) (eqV 1 false v34 (Value.int .i64 4))) fun v35 =>
  vP (pickV v31 v35 (Value.bool false)) fun v36 =>
  vP (gdW (gB v36 true) (ldN 9 v1 h18)) fun v38 =>
  vE (gB v36 true) (CallH Try.prog 15 #[v38, (Value.int .i64 128)]) (fun v39 h19 =>
  vE (gB v36 true) (vA ((bldV #[(Value.int .i64 0), (Value.int .i64 0)] [(0, 1, (Value.int .i64 64)), (1, 1, (Value.int .i64 128))]).map fun c => (Obj.cells c 3 (0, 0), fun r => Value.slice (some ⟨r, 0, none⟩) 2 2))) (fun v40 h20 =>
  vE (gB v36 true) (CallH Try.prog 14 #[v39, v40]) (fun v41 h21 =>
  vP (pickV v36 v41 (Value.bool false)) fun v42 =>
  K v42 h21) h20) h19) h18) h17) h16) h15) h14) h13) h12) h11) h10) h9) h8) h7) h6) h5) h4) h3) h2) h1) h
theorem D13_eq (K : Value → Hp → Prop) (h : Hp) : fnVC Try.prog Try.f13 x13 [] K h = D13  K h := by kernel_rfl
theorem D13_ok : fnOk Try.prog Try.f13 x13 0 = true := by kernel_rfl
theorem C13 {K : Value → Hp → Prop} {h : Hp} (hh : D13  K h) : CallH Try.prog 13 #[] K h :=
  callH_of mixed Try.func13 x13 [] D13_ok (D13_eq  K h ▸ hh)

/- 3: treadmill/treadmilllaw29.ViewPaths; slots: 0 v, 1 addr, 2 which, 3 v, 4 addr, 5 which, 7 n -/
def x3 : Ann := (.seq (.reg [] [(0, []), (1, [])]) (.seq (.seq (.reg [] [(0, []), (1, []), (2, []), (3, []), (4, []), (5, []), (6, []), (7, [])]) (.cond (.seq (.reg [] [(0, []), (1, [])]) .leaf) .leaf)) (.join [1] [17, 18, 19, 7, 20, 21, 22, 23, 24, 25, 26, 27, 28, 29, 30, 31, 32, 33, 34, 35, 36, 37, 1] (.seq (.reg [] [(0, []), (1, []), (2, []), (3, [])]) (.seq (.reg [] [(0, []), (1, []), (2, []), (3, []), (4, []), (5, []), (6, [])]) (.cond (.reg [0, 1, 0, 4, 0, 16, 60, 124, 255, 511, 1023, 2047] [(0, []), (2, []), (3, []), (4, []), (5, []), (6, []), (7, []), (1, []), (8, []), (9, []), (10, []), (11, [])]) .leaf))) (.seq (.reg [0, 1, 3, 3, 15, 3, 3, 127, 255, 511, 1023] [(0, []), (1, []), (3, []), (6, []), (2, []), (5, []), (4, [5]), (7, []), (8, []), (9, []), (10, [])]) .leaf))))
def D3 (a0 a1 a2 : Value) (K : Value → Hp → Prop) (h : Hp) : Prop :=
  vA (some (Obj.cells (Value.cells a0) 26 (0, 0), ptrV)) (fun v3 h1 =>
  vP (ldN 9 v3 h1) fun v8 =>
  CallH Try.prog 11 #[v8] (fun v9 h2 =>
  vP (unV .not v9) fun v10 =>
  vP (gdW (gB v10 false) (ldN 9 v3 h2)) fun v12 =>
  vE (gB v10 false) (CallH Try.prog 12 #[v12]) (fun v13 h3 =>
  vP (gdW (gB v10 false) (unV .not v13)) fun v14 =>
  vP (pickV v10 (Value.bool true) v14) fun v15 =>
  vB v15 (CallH Try.prog 13 #[] (fun v16 h4 =>
    K v16 h4) h3)
  (∀ J1 : List Value → Hp → Prop, (∀ v1 : Value, ∀ h5 : Hp, (∀ g1 : St,
    CallH Try.prog 13 #[] (fun v38 h6 =>
    vP (gdW (gB v38 true) (some v1)) fun v41 =>
    vP (gdW (gB v38 true) (some v1)) fun v44 =>
    vP (gdW (gB v38 true) (ldN 9 v3 h6)) fun v40 =>
    vP (gdW (gB v38 true) (ldN 9 v3 h6)) fun v43 =>
    vE (gB v38 true) (CallH Try.prog 15 #[v40, v41]) (fun v42 h7 =>
    gdW (gB v38 true) (ldN 9 v3 h7) = some v43 ∧ (vE (gB v38 true) (CallH Try.prog 16 #[v43, v44]) (fun v45 h8 =>
    vE (gB v38 true) (CallH Try.prog 14 #[v42, v45]) (fun v46 h9 =>
    vP (pickV v38 v46 (Value.bool false)) fun v47 =>
    K v47 h9) h8) h7)) h6) h5) → J1 [v1] h5) →
  vP (faV 5 v3) fun v17 =>
  vP (ld1 v17 h3) fun v18 =>
  vP (lenV v18) fun v19 =>
  vP (binV .gtr v19 (Value.int .i64 0)) fun v21 =>
  vP (gdW (gB v21 true) (some a2)) fun v23 =>
  vP (gdW (gB v21 true) (binV .and v23 (Value.int .i64 1))) fun v24 =>
  vP (gdW (gB v21 true) (eqV 1 false v24 (Value.int .i64 1))) fun v25 =>
  vP (pickV v21 v25 (Value.bool false)) fun v26 =>
  vB v26 (vP (faV 5 v3) fun v27 =>
    vP (convV .u64 a2) fun v30 =>
    vP (convV .u64 v19) fun v32 =>
    vP (binV .rem v30 v32) fun v33 =>
    vP (convV .i64 v33) fun v34 =>
    vP (ld1 v27 h3) fun v28 =>
    vP (iaS 3 v28 v34) fun v35 =>
    vP (faV 0 v35) fun v36 =>
    vP (ld1 v36 h3) fun v37 =>
    J1 [v37] h3)
  (J1 [a1] h3))) h2) h1) h
theorem D3_eq (a0 a1 a2 : Value) (K : Value → Hp → Prop) (h : Hp) : fnVC Try.prog Try.f3 x3 [a0, a1, a2] K h = D3 a0 a1 a2 K h := by kernel_rfl
theorem D3_ok : fnOk Try.prog Try.f3 x3 3 = true := by kernel_rfl
theorem C3 {a0 a1 a2 : Value} {K : Value → Hp → Prop} {h : Hp} (hh : D3 a0 a1 a2 K h) : CallH Try.prog 3 #[a0, a1, a2] K h :=
  callH_of mixed Try.func3 x3 [a0, a1, a2] D3_ok (D3_eq a0 a1 a2 K h ▸ hh)

/- 4: treadmill/treadmilllaw29.ViewClosed; slots: 0 v, 1 v, 3 reach, 4 lost, 5 roots, 6 ok, 7 i, 8 i, 9 k, 10 j, 11 p, 12 j, 13 at, 14 i -/
def x4 : Ann := (.seq (.reg [] [(0, []), (1, [])]) (.seq (.seq (.reg [] [(0, []), (1, []), (2, []), (3, []), (4, []), (5, []), (6, []), (7, [])]) (.cond (.seq (.reg [] [(0, []), (1, [])]) .leaf) .leaf)) (.seq (.reg [0, 1, 0, 7, 0, 31, 0, 0, 255, 511, 1023] [(0, []), (2, []), (4, []), (1, [4, 2]), (3, [4]), (5, []), (6, []), (7, []), (8, []), (9, []), (10, [])]) (.seq (.reg [] [(0, []), (1, [])]) (.seq (.seq (.reg [] [(0, [])]) (.blk (.loop [7] [31, 32, 33, 34, 37, 38, 39, 40, 41, 42, 43, 44, 45, 46, 47, 48, 49, 50, 2, 35, 36, 7] (.seq (.seq (.reg [] [(0, []), (1, []), (2, []), (3, [])]) (.cond .leaf .leaf)) (.seq (.blk (.seq (.reg [] [(0, []), (1, []), (2, []), (3, []), (4, []), (5, []), (6, []), (7, []), (8, []), (9, []), (10, []), (11, []), (12, []), (13, [])]) (.cond (.seq (.reg [] [(0, [])]) .leaf) .leaf))) (.reg [] [(0, []), (1, []), (2, [])])))))) (.seq (.seq (.reg [] [(0, [])]) (.blk (.loop [8] [51, 52, 53, 54, 57, 58, 59, 60, 61, 62, 9, 63, 64, 65, 66, 67, 68, 69, 70, 71, 72, 73, 74, 75, 76, 77, 78, 79, 80, 81, 82, 83, 84, 2, 10, 85, 86, 87, 88, 89, 90, 91, 92, 93, 96, 97, 98, 99, 100, 101, 102, 103, 104, 105, 106, 107, 94, 95, 108, 109, 110, 111, 112, 113, 11, 114, 115, 116, 117, 118, 119, 120, 121, 122, 123, 124, 125, 126, 127, 128, 129, 130, 131, 132, 133, 134, 135, 136, 137, 138, 139, 140, 141, 142, 143, 144, 12, 145, 146, 147, 148, 151, 152, 153, 154, 155, 156, 157, 13, 158, 159, 160, 161, 162, 163, 164, 165, 166, 167, 168, 169, 170, 171, 172, 173, 174, 175, 176, 177, 178, 179, 180, 149, 150, 55, 56, 8] (.seq (.seq (.reg [] [(0, []), (1, []), (2, []), (3, [])]) (.cond .leaf .leaf)) (.seq (.blk (.seq (.reg [0, 0, 0, 6, 14, 31, 63] [(2, []), (0, []), (1, []), (3, []), (4, []), (5, []), (6, [])]) (.seq (.seq (.reg [0, 1, 3, 7, 7, 23, 55, 127, 255, 511, 1023, 2047, 1023, 8191, 16383, 32767, 1023, 1023, 197631, 459775, 1048575, 2097151] [(0, []), (1, []), (2, []), (3, []), (4, []), (5, []), (6, []), (7, []), (8, []), (9, []), (10, []), (12, []), (17, []), (11, []), (13, []), (14, []), (15, []), (16, []), (18, []), (19, []), (20, []), (21, [])]) (.cond (.seq (.reg [] [(0, [])]) .leaf) .leaf)) (.seq (.seq (.reg [] [(0, [])]) (.blk (.loop [10] [85, 86, 87, 88, 89, 90, 91, 92, 93, 96, 97, 98, 99, 100, 101, 102, 103, 104, 105, 106, 107, 2, 94, 95, 10] (.seq (.seq (.reg [] [(0, []), (1, []), (2, []), (3, []), (4, []), (5, []), (6, []), (7, []), (8, [])]) (.cond .leaf .leaf)) (.seq (.blk (.seq (.reg [] [(0, []), (1, []), (2, []), (3, []), (4, []), (5, []), (6, []), (7, []), (8, []), (9, []), (10, []), (11, [])]) (.cond (.seq (.reg [] [(0, [])]) .leaf) .leaf))) (.reg [] [(0, []), (1, []), (2, [])])))))) (.seq (.reg [0, 0, 0, 6, 14, 31, 63] [(2, []), (0, []), (1, []), (3, []), (4, []), (5, []), (6, [])]) (.seq (.seq (.reg [0, 1, 3, 7, 15, 31, 15, 79, 255, 511, 1023, 2047, 2047, 6143, 14335, 32767, 65535, 2047, 2047, 395263, 919551, 2097151, 4194303, 8388607, 16777215, 16777215, 50331647, 117440511, 268435455, 536870911, 1073741823] [(0, []), (1, []), (2, []), (3, []), (4, []), (5, []), (6, []), (7, []), (8, []), (9, []), (10, []), (11, []), (12, []), (13, []), (14, []), (15, []), (18, []), (16, []), (17, []), (19, []), (20, []), (21, []), (22, []), (23, []), (24, []), (25, []), (26, []), (27, []), (28, []), (29, []), (30, [])]) (.cond (.seq (.reg [] [(0, [])]) .leaf) .leaf)) (.seq (.reg [] [(0, [])]) (.blk (.loop [12] [145, 146, 147, 148, 151, 152, 153, 154, 155, 156, 157, 13, 158, 159, 160, 161, 162, 163, 164, 165, 166, 167, 168, 169, 170, 171, 172, 173, 174, 175, 176, 177, 178, 179, 180, 2, 149, 150, 12] (.seq (.seq (.reg [] [(0, []), (1, []), (2, []), (3, [])]) (.cond .leaf .leaf)) (.seq (.blk (.seq (.reg [0, 0, 0, 4, 14, 30, 63, 127] [(1, []), (2, []), (3, []), (4, []), (0, []), (5, []), (6, []), (7, [])]) (.seq (.reg [0, 1, 3, 7, 7, 23, 55, 127, 255, 511, 1023, 2047, 1023, 8191, 16383, 32767, 1023, 1023, 197631, 459775, 1048575, 2097151, 4194303] [(0, []), (1, []), (2, []), (3, []), (4, []), (5, []), (6, []), (7, []), (8, []), (9, []), (10, []), (12, []), (16, []), (17, []), (18, []), (11, []), (13, []), (14, []), (15, []), (19, []), (20, []), (21, []), (22, [])]) (.cond (.seq (.reg [] [(0, [])]) .leaf) .leaf)))) (.reg [] [(0, []), (1, []), (2, [])])))))))))))) (.reg [] [(0, []), (1, []), (2, [])])))))) (.seq (.seq (.reg [] [(0, [])]) (.blk (.loop [14] [181, 182, 183, 184, 187, 188, 189, 190, 191, 192, 193, 194, 195, 196, 197, 198, 199, 200, 201, 202, 203, 2, 185, 186, 14] (.seq (.seq (.reg [] [(0, []), (1, []), (2, []), (3, [])]) (.cond .leaf .leaf)) (.seq (.blk (.seq (.reg [0, 0, 0, 6, 14, 31, 63, 127, 255, 255, 255, 1791, 3839, 8191, 16383, 32767, 65535] [(2, []), (0, []), (1, []), (3, []), (4, []), (5, []), (6, []), (7, []), (10, []), (8, []), (9, []), (11, []), (12, []), (13, []), (14, []), (15, []), (16, [])]) (.cond (.seq (.reg [] [(0, [])]) .leaf) .leaf))) (.reg [] [(0, []), (1, []), (2, [])])))))) (.seq (.reg [] [(0, []), (1, [])]) .leaf))))))))
def D4 (a0 : Value) (K : Value → Hp → Prop) (h : Hp) : Prop :=
  vA (some (Obj.cells (Value.cells a0) 26 (0, 0), ptrV)) (fun v1 h1 =>
  vP (ldN 9 v1 h1) fun v15 =>
  CallH Try.prog 11 #[v15] (fun v16 h2 =>
  vP (unV .not v16) fun v17 =>
  vP (gdW (gB v17 false) (ldN 9 v1 h2)) fun v19 =>
  vE (gB v17 false) (CallH Try.prog 12 #[v19]) (fun v20 h3 =>
  vP (gdW (gB v17 false) (unV .not v20)) fun v21 =>
  vP (pickV v17 (Value.bool true) v21) fun v22 =>
  vB v22 (CallH Try.prog 13 #[] (fun v23 h4 =>
    K v23 h4) h3)
  (vP (ldN 9 v1 h3) fun v24 =>
  vP (ldN 9 v1 h3) fun v26 =>
  vP (ldN 9 v1 h3) fun v28 =>
  CallH Try.prog 17 #[v24] (fun v25 h5 =>
  (ldN 9 v1 h5) = some v28 ∧ ((ldN 9 v1 h5) = some v26 ∧ (CallH Try.prog 18 #[v26] (fun v27 h6 =>
  (ldN 9 v1 h6) = some v28 ∧ (CallH Try.prog 19 #[v28] (fun v29 h7 =>
  vA (some (Obj.cells #[(Value.slice none 0 0)] 22 (0, 0), ptrV)) (fun v3 h8 =>
  vA (some (Obj.cells #[(Value.slice none 0 0)] 22 (0, 0), ptrV)) (fun v4 h9 =>
  st1 v3 v25 (fun _ h10 =>
  st1 v4 v27 (fun _ h11 =>
  vP (some (Value.func (.func 20) #[] #[v3, v4])) fun v30 =>
  ∃ I1 : Nat → List Value → Hp → Prop, (∃ n, I1 n [(Value.int .i64 0)] h11) ∧
  ∀ n1 : Nat, ∀ v7 : Value, ∀ h12 : Hp, I1 n1 [v7] h12 → ∀ g1 : St,
    vP (lenV v29) fun v33 =>
    vP (binV .lss v7 v33) fun v34 =>
    vB v34 (vP (iaS 1 v29 v7) fun v39 =>
      vP (ld1 v39 h12) fun v40 =>
      vP (eqV 1 false v40 (Value.int .i64 0)) fun v41 =>
      vP (gdW (gB v41 false) (some v30)) fun v43 =>
      vP (gdW (gB v41 false) (some v29)) fun v44 =>
      vP (gdW (gB v41 false) (some v7)) fun v45 =>
      vP (gdW (gB v41 false) (iaS 1 v44 v45)) fun v46 =>
      vP (gdW (gB v41 false) (ld1 v46 h12)) fun v47 =>
      vE (gB v41 false) (cvW Try.prog v43 #[v47]) (fun v48 h13 =>
      vP (gdW (gB v41 false) (unV .not v48)) fun v49 =>
      vP (pickV v41 (Value.bool true) v49) fun v50 =>
      vB v50 (K (Value.bool false) h13)
      (vP (binV .add v7 (Value.int .i64 1)) fun v36 =>
      ∃ m1, m1 < n1 ∧ I1 m1 [v36] h13)) h12)
    (∃ I2 : Nat → List Value → Hp → Prop, (∃ n, I2 n [(Value.int .i64 0)] h12) ∧
    ∀ n2 : Nat, ∀ v8 : Value, ∀ h14 : Hp, I2 n2 [v8] h14 → ∀ g2 : St,
      vP (ld1 v3 h14) fun v52 =>
      vP (lenV v52) fun v53 =>
      vP (binV .lss v8 v53) fun v54 =>
      vB v54 (vP (ldN 9 v1 h14) fun v57 =>
        vP (ld1 v3 h14) fun v58 =>
        vP (iaS 1 v58 v8) fun v60 =>
        vP (ld1 v60 h14) fun v61 =>
        CallH Try.prog 22 #[v57, v61] (fun v62 h15 =>
        vP (binV .lss v62 (Value.int .i64 0)) fun v64 =>
        vP (gdW (gB v64 false) (some v62)) fun v66 =>
        vP (gdW (gB v64 false) (faV 5 v1)) fun v67 =>
        vP (gdW (gB v64 false) (ld1 v67 h15)) fun v68 =>
        vP (gdW (gB v64 false) (lenV v68)) fun v69 =>
        vP (gdW (gB v64 false) (binV .geq v66 v69)) fun v70 =>
        vP (pickV v64 (Value.bool true) v70) fun v71 =>
        vP (gdW (gB v71 false) (faV 5 v1)) fun v73 =>
        vP (gdW (gB v71 false) (some v62)) fun v75 =>
        vP (gdW (gB v71 false) (some v8)) fun v80 =>
        vP (gdW (gB v71 false) (ld1 v73 h15)) fun v74 =>
        vP (gdW (gB v71 false) (iaS 3 v74 v75)) fun v76 =>
        vP (gdW (gB v71 false) (faV 0 v76)) fun v77 =>
        vP (gdW (gB v71 false) (ld1 v77 h15)) fun v78 =>
        vP (gdW (gB v71 false) (ld1 v3 h15)) fun v79 =>
        vP (gdW (gB v71 false) (iaS 1 v79 v80)) fun v81 =>
        vP (gdW (gB v71 false) (ld1 v81 h15)) fun v82 =>
        vP (gdW (gB v71 false) (eqV 1 true v78 v82)) fun v83 =>
        vP (pickV v71 (Value.bool true) v83) fun v84 =>
        vB v84 (K (Value.bool false) h15)
        (∃ I3 : Nat → List Value → Hp → Prop, (∃ n, I3 n [(Value.int .i64 0)] h15) ∧
        ∀ n3 : Nat, ∀ v10 : Value, ∀ h16 : Hp, I3 n3 [v10] h16 → ∀ g3 : St,
          vP (faV 5 v1) fun v86 =>
          vP (ld1 v86 h16) fun v87 =>
          vP (iaS 3 v87 v62) fun v89 =>
          vP (faV 1 v89) fun v90 =>
          vP (ld1 v90 h16) fun v91 =>
          vP (lenV v91) fun v92 =>
          vP (binV .lss v10 v92) fun v93 =>
          vB v93 (vP (faV 5 v1) fun v97 =>
            vP (ld1 v97 h16) fun v98 =>
            vP (iaS 3 v98 v62) fun v100 =>
            vP (faV 1 v100) fun v101 =>
            vP (ld1 v101 h16) fun v102 =>
            vP (iaS 1 v102 v10) fun v104 =>
            vP (ld1 v104 h16) fun v105 =>
            cvW Try.prog v30 #[v105] (fun v106 h17 =>
            vP (unV .not v106) fun v107 =>
            vB v107 (K (Value.bool false) h17)
            (vP (binV .add v10 (Value.int .i64 1)) fun v95 =>
            ∃ m3, m3 < n3 ∧ I3 m3 [v95] h17)) h16)
          (vP (ldN 9 v1 h16) fun v108 =>
          vP (ld1 v3 h16) fun v109 =>
          vP (iaS 1 v109 v8) fun v111 =>
          vP (ld1 v111 h16) fun v112 =>
          CallH Try.prog 15 #[v108, v112] (fun v113 h18 =>
          vP (lenV v113) fun v115 =>
          vP (eqV 1 false v115 (Value.int .i64 0)) fun v116 =>
          vP (gdW (gB v116 false) (some v113)) fun v118 =>
          vP (gdW (gB v116 false) (lenV v118)) fun v119 =>
          vP (gdW (gB v116 false) (ld1 v3 h18)) fun v120 =>
          vP (gdW (gB v116 false) (lenV v120)) fun v121 =>
          vP (gdW (gB v116 false) (binV .gtr v119 v121)) fun v122 =>
          vP (pickV v116 (Value.bool true) v122) fun v123 =>
          vP (gdW (gB v123 false) (some v113)) fun v125 =>
          vP (gdW (gB v123 false) (some v113)) fun v126 =>
          vP (gdW (gB v123 false) (lenV v126)) fun v127 =>
          vP (gdW (gB v123 false) (binV .sub v127 (Value.int .i64 1))) fun v128 =>
          vP (gdW (gB v123 false) (iaS 1 v125 v128)) fun v129 =>
          vP (gdW (gB v123 false) (some v8)) fun v132 =>
          vP (gdW (gB v123 false) (ld1 v129 h18)) fun v130 =>
          vP (gdW (gB v123 false) (ld1 v3 h18)) fun v131 =>
          vP (gdW (gB v123 false) (iaS 1 v131 v132)) fun v133 =>
          vP (gdW (gB v123 false) (ld1 v133 h18)) fun v134 =>
          vP (gdW (gB v123 false) (eqV 1 true v130 v134)) fun v135 =>
          vP (pickV v123 (Value.bool true) v135) fun v136 =>
          vP (gdW (gB v136 false) (some v29)) fun v138 =>
          vP (gdW (gB v136 false) (some v113)) fun v139 =>
          vP (gdW (gB v136 false) (iaS 1 v139 (Value.int .i64 0))) fun v140 =>
          vP (gdW (gB v136 false) (ld1 v140 h18)) fun v141 =>
          vE (gB v136 false) (CallH Try.prog 21 #[v138, v141]) (fun v142 h19 =>
          vP (gdW (gB v136 false) (unV .not v142)) fun v143 =>
          vP (pickV v136 (Value.bool true) v143) fun v144 =>
          vB v144 (K (Value.bool false) h19)
          (∃ I4 : Nat → List Value → Hp → Prop, (∃ n, I4 n [(Value.int .i64 1)] h19) ∧
          ∀ n4 : Nat, ∀ v12 : Value, ∀ h20 : Hp, I4 n4 [v12] h20 → ∀ g4 : St,
            vP (lenV v113) fun v147 =>
            vP (binV .lss v12 v147) fun v148 =>
            vB v148 (vP (binV .sub v12 (Value.int .i64 1)) fun v154 =>
              vP (iaS 1 v113 v154) fun v155 =>
              vP (ldN 9 v1 h20) fun v151 =>
              vP (ld1 v155 h20) fun v156 =>
              CallH Try.prog 22 #[v151, v156] (fun v157 h21 =>
              vP (binV .lss v157 (Value.int .i64 0)) fun v159 =>
              vP (gdW (gB v159 false) (some v157)) fun v161 =>
              vP (gdW (gB v159 false) (faV 5 v1)) fun v162 =>
              vP (gdW (gB v159 false) (ld1 v162 h21)) fun v163 =>
              vP (gdW (gB v159 false) (lenV v163)) fun v164 =>
              vP (gdW (gB v159 false) (binV .geq v161 v164)) fun v165 =>
              vP (pickV v159 (Value.bool true) v165) fun v166 =>
              vP (gdW (gB v166 false) (faV 5 v1)) fun v168 =>
              vP (gdW (gB v166 false) (some v157)) fun v170 =>
              vP (gdW (gB v166 false) (some v113)) fun v174 =>
              vP (gdW (gB v166 false) (some v12)) fun v175 =>
              vP (gdW (gB v166 false) (iaS 1 v174 v175)) fun v176 =>
              vP (gdW (gB v166 false) (ld1 v168 h21)) fun v169 =>
              vP (gdW (gB v166 false) (iaS 3 v169 v170)) fun v171 =>
              vP (gdW (gB v166 false) (faV 1 v171)) fun v172 =>
              vP (gdW (gB v166 false) (ld1 v172 h21)) fun v173 =>
              vP (gdW (gB v166 false) (ld1 v176 h21)) fun v177 =>
              vE (gB v166 false) (CallH Try.prog 21 #[v173, v177]) (fun v178 h22 =>
              vP (gdW (gB v166 false) (unV .not v178)) fun v179 =>
              vP (pickV v166 (Value.bool true) v179) fun v180 =>
              vB v180 (K (Value.bool false) h22)
              (vP (binV .add v12 (Value.int .i64 1)) fun v150 =>
              ∃ m4, m4 < n4 ∧ I4 m4 [v150] h22)) h21) h20)
            (vP (binV .add v8 (Value.int .i64 1)) fun v56 =>
            ∃ m2, m2 < n2 ∧ I2 m2 [v56] h20))) h18) h16))) h14)
      (∃ I5 : Nat → List Value → Hp → Prop, (∃ n, I5 n [(Value.int .i64 0)] h14) ∧
      ∀ n5 : Nat, ∀ v14 : Value, ∀ h23 : Hp, I5 n5 [v14] h23 → ∀ g5 : St,
        vP (ld1 v4 h23) fun v182 =>
        vP (lenV v182) fun v183 =>
        vP (binV .lss v14 v183) fun v184 =>
        vB v184 (vP (ldN 9 v1 h23) fun v187 =>
          vP (ld1 v4 h23) fun v188 =>
          vP (iaS 1 v188 v14) fun v190 =>
          vP (ld1 v190 h23) fun v191 =>
          CallH Try.prog 22 #[v187, v191] (fun v192 h24 =>
          vP (binV .geq v192 (Value.int .i64 0)) fun v193 =>
          vP (gdW (gB v193 false) (some v14)) fun v197 =>
          vP (gdW (gB v193 false) (ldN 9 v1 h24)) fun v195 =>
          vP (gdW (gB v193 false) (ld1 v4 h24)) fun v196 =>
          vP (gdW (gB v193 false) (iaS 1 v196 v197)) fun v198 =>
          vP (gdW (gB v193 false) (ld1 v198 h24)) fun v199 =>
          vE (gB v193 false) (CallH Try.prog 15 #[v195, v199]) (fun v200 h25 =>
          vP (gdW (gB v193 false) (lenV v200)) fun v201 =>
          vP (gdW (gB v193 false) (eqV 1 true v201 (Value.int .i64 0))) fun v202 =>
          vP (pickV v193 (Value.bool true) v202) fun v203 =>
          vB v203 (K (Value.bool false) h25)
          (vP (binV .add v14 (Value.int .i64 1)) fun v186 =>
          ∃ m5, m5 < n5 ∧ I5 m5 [v186] h25)) h24) h23)
        (CallH Try.prog 13 #[] (fun v204 h26 =>
        K v204 h26) h23)))) h10) h9) h8) h7) h6)) h5))) h3)) h2) h1) h
theorem D4_eq (a0 : Value) (K : Value → Hp → Prop) (h : Hp) : fnVC Try.prog Try.f4 x4 [a0] K h = D4 a0 K h := by kernel_rfl
theorem D4_ok : fnOk Try.prog Try.f4 x4 1 = true := by kernel_rfl
theorem C4 {a0 : Value} {K : Value → Hp → Prop} {h : Hp} (hh : D4 a0 K h) : CallH Try.prog 4 #[a0] K h :=
  callH_of mixed Try.func4 x4 [a0] D4_ok (D4_eq a0 K h ▸ hh)

/- 20: treadmill/treadmilllaw29.ViewClosed$1; slots: 0 x, 3 x -/
def x20 : Ann := (.seq (.reg [] [(0, [])]) (.seq (.reg [0, 1, 3, 7, 7, 31, 7, 7, 255, 511, 1023, 2047] [(0, []), (1, []), (2, []), (4, []), (7, []), (3, []), (6, []), (5, [6]), (8, []), (9, []), (10, []), (11, [])]) .leaf))
def D20 (a0 a1 a2 : Value) (K : Value → Hp → Prop) (h : Hp) : Prop :=
  vP (eqV 1 false a0 (Value.int .i64 0)) fun v6 =>
  vP (gdW (gB v6 false) (some a0)) fun v9 =>
  vP (gdW (gB v6 false) (some a0)) fun v12 =>
  vP (gdW (gB v6 false) (ld1 a1 h)) fun v8 =>
  vP (gdW (gB v6 false) (ld1 a2 h)) fun v11 =>
  vE (gB v6 false) (CallH Try.prog 21 #[v8, v9]) (fun v10 h1 =>
  gdW (gB v6 false) (ld1 a2 h1) = some v11 ∧ (vE (gB v6 false) (CallH Try.prog 21 #[v11, v12]) (fun v13 h2 =>
  vP (gdW (gB v6 false) (eqV 2 true v10 v13)) fun v14 =>
  vP (pickV v6 (Value.bool true) v14) fun v15 =>
  K v15 h2) h1)) h
theorem D20_eq (a0 a1 a2 : Value) (K : Value → Hp → Prop) (h : Hp) : fnVC Try.prog Try.f20 x20 [a0, a1, a2] K h = D20 a0 a1 a2 K h := by kernel_rfl
theorem D20_ok : fnOk Try.prog Try.f20 x20 3 = true := by kernel_rfl
theorem C20 {a0 a1 a2 : Value} {K : Value → Hp → Prop} {h : Hp} (hh : D20 a0 a1 a2 K h) : CallH Try.prog 20 #[a0, a1, a2] K h :=
  callH_of mixed Try.func20 x20 [a0, a1, a2] D20_ok (D20_eq a0 a1 a2 K h ▸ hh)

/- 5: treadmill/treadmilllaw29.ViewLess; slots: 0 v, 1 which, 2 slot, 3 v, 4 which, 5 slot, 7 was, 8 w, 9 k, 10 i, 11 o, 12 now, 13 i -/
def x5 : Ann := (.seq (.reg [] [(0, []), (1, [])]) (.seq (.seq (.reg [] [(0, []), (1, []), (2, [])]) (.cond (.seq (.reg [] [(0, []), (1, [])]) .leaf) .leaf)) (.seq (.reg [] [(0, []), (1, []), (2, [])]) (.seq (.reg [] [(0, []), (1, []), (2, [])]) (.seq (.reg [] [(0, []), (1, [])]) (.seq (.reg [] [(0, [])]) (.join [9] [22, 23, 24, 25, 26, 27, 28, 29, 30, 31, 32, 33, 9] (.seq (.reg [] [(0, []), (1, []), (2, []), (3, [])]) (.cond (.reg [] [(0, []), (1, []), (2, []), (3, []), (4, []), (5, []), (6, []), (7, []), (8, [])]) .leaf)) (.seq (.seq (.reg [] [(0, [])]) (.blk (.loop [10] [34, 35, 36, 37, 38, 41, 42, 43, 44, 45, 11, 46, 47, 48, 49, 50, 51, 52, 53, 54, 55, 56, 57, 58, 59, 60, 61, 62, 63, 64, 65, 66, 67, 68, 69, 70, 71, 72, 73, 74, 75, 76, 77, 39, 40, 10] (.seq (.seq (.reg [] [(0, []), (1, []), (2, []), (3, []), (4, [])]) (.cond .leaf .leaf)) (.seq (.blk (.seq (.reg [] [(0, []), (1, []), (2, []), (3, []), (4, []), (5, []), (6, [])]) (.seq (.reg [] [(0, []), (1, [])]) (.seq (.reg [] [(0, []), (1, []), (2, []), (3, []), (4, []), (5, [])]) (.join [] [52, 53, 54, 55, 56, 57, 58, 59, 60, 61, 62, 63, 64, 65, 66, 67, 68, 69, 70, 71] (.seq (.reg [] [(0, []), (1, []), (2, []), (3, []), (4, []), (5, []), (6, []), (7, []), (8, [])]) (.cond (.reg [0, 1, 0, 4, 0, 16, 48, 112, 252, 508, 1023, 2047] [(0, []), (2, []), (3, []), (4, []), (1, []), (5, []), (6, []), (7, []), (8, []), (9, []), (10, []), (11, [])]) .leaf)) (.reg [] [(0, []), (1, []), (2, []), (3, []), (4, []), (5, []), (6, [])])))))) (.reg [] [(0, []), (1, []), (2, [])])))))) (.join [] [78, 79, 80, 81, 82, 83, 84, 85, 86, 87, 88, 89, 90, 91, 92, 93, 94, 95, 96, 97, 98, 99, 100, 101, 102] (.seq (.reg [] [(0, []), (1, []), (2, []), (3, []), (4, []), (5, []), (6, []), (7, []), (8, [])]) (.cond (.seq (.reg [] [(0, []), (1, []), (2, []), (3, []), (4, []), (5, [])]) (.reg [0, 1, 0, 4, 0, 16, 48, 112, 252, 508, 1023, 2047] [(0, []), (2, []), (3, []), (4, []), (1, []), (5, []), (6, []), (7, []), (8, []), (9, []), (10, []), (11, [])])) .leaf)) (.seq (.reg [] [(0, []), (1, []), (2, [])]) (.seq (.seq (.reg [] [(0, [])]) (.blk (.loop [13] [105, 106, 107, 108, 111, 112, 113, 114, 115, 116, 117, 6, 109, 110, 13] (.seq (.seq (.reg [] [(0, []), (1, []), (2, []), (3, [])]) (.cond .leaf .leaf)) (.seq (.blk (.seq (.reg [] [(0, []), (1, []), (2, []), (3, []), (4, []), (5, []), (6, [])]) (.cond (.seq (.reg [] [(0, [])]) .leaf) .leaf))) (.reg [] [(0, []), (1, []), (2, [])])))))) (.seq (.reg [] [(0, []), (1, []), (2, []), (3, []), (4, []), (5, []), (6, []), (7, []), (8, []), (9, []), (10, []), (11, []), (12, []), (13, []), (14, [])]) .leaf))))))))))))
def D5 (a0 a1 a2 : Value) (K : Value → Hp → Prop) (h : Hp) : Prop :=
  vA (some (Obj.cells (Value.cells a0) 26 (0, 0), ptrV)) (fun v3 h1 =>
  vP (ldN 9 v3 h1) fun v14 =>
  CallH Try.prog 11 #[v14] (fun v15 h2 =>
  vP (unV .not v15) fun v16 =>
  vB v16 (CallH Try.prog 13 #[] (fun v17 h3 =>
    K v17 h3) h2)
  (vP (ldN 9 v3 h2) fun v18 =>
  CallH Try.prog 17 #[v18] (fun v19 h4 =>
  vP (ldN 9 v3 h4) fun v20 =>
  vA (some (Obj.cells #[(Value.int .i64 0), (Value.int .i64 0), (Value.int .i64 0), (Value.slice none 0 0), (Value.slice none 0 0), (Value.slice none 0 0), (Value.int .i64 0), (Value.int .i64 0), (Value.int .i64 0)] 26 (0, 0), ptrV)) (fun v8 h5 =>
  stN 9 v8 v20 (fun _ h6 =>
  vP (faV 5 v8) fun v21 =>
  st1 v21 (Value.slice none 0 0) (fun _ h7 =>
  ∀ J1 : List Value → Hp → Prop, (∀ v9 : Value, ∀ h8 : Hp, (∀ g1 : St,
    ∃ I2 : Nat → List Value → Hp → Prop, (∃ n, I2 n [(Value.int .i64 0)] h8) ∧
    ∀ n2 : Nat, ∀ v10 : Value, ∀ h9 : Hp, I2 n2 [v10] h9 → ∀ g2 : St,
      vP (faV 5 v3) fun v35 =>
      vP (ld1 v35 h9) fun v36 =>
      vP (lenV v36) fun v37 =>
      vP (binV .lss v10 v37) fun v38 =>
      vB v38 (vP (faV 5 v3) fun v41 =>
        vP (ld1 v41 h9) fun v42 =>
        vP (iaS 3 v42 v10) fun v44 =>
        vP (ldN 3 v44 h9) fun v45 =>
        vA (some (Obj.cells #[(Value.int .i64 0), (Value.slice none 0 0), (Value.bool false)] 30 (0, 0), ptrV)) (fun v11 h10 =>
        stN 3 v11 v45 (fun _ h11 =>
        vP (faV 2 v11) fun v46 =>
        st1 v46 (Value.bool true) (fun _ h12 =>
        vA ((bldV #[] []).map fun c => (Obj.cells c 3 (0, 0), fun r => Value.slice (some ⟨r, 0, none⟩) 0 0)) (fun v47 h13 =>
        vP (faV 1 v11) fun v48 =>
        vP (ld1 v48 h13) fun v49 =>
        apW Try.prog #[22, 22] 22 v47 v49 (fun v50 h14 =>
        vP (faV 1 v11) fun v51 =>
        st1 v51 v50 (fun _ h15 =>
        ∀ J3 : List Value → Hp → Prop, (∀ h16 : Hp, (∀ g3 : St,
          vP (faV 5 v8) fun v72 =>
          vP (ld1 v72 h16) fun v73 =>
          vP (ldN 3 v11 h16) fun v74 =>
          vA ((bldV #[(Value.int .i64 0), (Value.slice none 0 0), (Value.bool false)] [(0, 3, v74)]).map fun c => (Obj.cells c 30 (0, 0), fun r => Value.slice (some ⟨r, 0, none⟩) 1 1)) (fun v75 h17 =>
          apW Try.prog #[24, 24] 24 v73 v75 (fun v76 h18 =>
          vP (faV 5 v8) fun v77 =>
          st1 v77 v76 (fun _ h19 =>
          vP (binV .add v10 (Value.int .i64 1)) fun v40 =>
          ∃ m2, m2 < n2 ∧ I2 m2 [v40] h19) h18) h17) h16) → J3 [] h16) →
        vP (eqV 1 false v10 v9) fun v54 =>
        vP (gdW (gB v54 true) (faV 1 v11)) fun v56 =>
        vP (gdW (gB v54 true) (ld1 v56 h15)) fun v57 =>
        vP (gdW (gB v54 true) (lenV v57)) fun v58 =>
        vP (gdW (gB v54 true) (binV .gtr v58 (Value.int .i64 0))) fun v59 =>
        vP (pickV v54 v59 (Value.bool false)) fun v60 =>
        vB v60 (vP (faV 1 v11) fun v61 =>
          vP (convV .u64 a2) fun v64 =>
          vP (faV 1 v11) fun v65 =>
          vP (ld1 v61 h15) fun v62 =>
          vP (ld1 v65 h15) fun v66 =>
          vP (lenV v66) fun v67 =>
          vP (convV .u64 v67) fun v68 =>
          vP (binV .rem v64 v68) fun v69 =>
          vP (convV .i64 v69) fun v70 =>
          vP (iaS 1 v62 v70) fun v71 =>
          st1 v71 (Value.int .i64 0) (fun _ h20 =>
          J3 [] h20) h15)
        (J3 [] h15)) h14) h13) h12) h11) h10) h9)
      (∀ J4 : List Value → Hp → Prop, (∀ h21 : Hp, (∀ g4 : St,
        vP (ldN 9 v8 h21) fun v103 =>
        CallH Try.prog 17 #[v103] (fun v104 h22 =>
        ∃ I5 : Nat → List Value → Hp → Prop, (∃ n, I5 n [(Value.int .i64 0)] h22) ∧
        ∀ n5 : Nat, ∀ v13 : Value, ∀ h23 : Hp, I5 n5 [v13] h23 → ∀ g5 : St,
          vP (lenV v104) fun v107 =>
          vP (binV .lss v13 v107) fun v108 =>
          vB v108 (vP (iaS 1 v104 v13) fun v114 =>
            vP (ld1 v114 h23) fun v115 =>
            CallH Try.prog 21 #[v19, v115] (fun v116 h24 =>
            vP (unV .not v116) fun v117 =>
            vB v117 (K (Value.bool false) h24)
            (vP (binV .add v13 (Value.int .i64 1)) fun v110 =>
            ∃ m5, m5 < n5 ∧ I5 m5 [v110] h24)) h23)
          (CallH Try.prog 13 #[] (fun v118 h25 =>
          vP (gdW (gB v118 true) (ldN 9 v8 h25)) fun v120 =>
          vE (gB v118 true) (CallH Try.prog 23 #[v120]) (fun v121 h26 =>
          vP (gdW (gB v118 true) (lenV v121)) fun v122 =>
          vP (gdW (gB v118 true) (eqV 1 false v122 (Value.int .i64 0))) fun v123 =>
          vP (pickV v118 v123 (Value.bool false)) fun v124 =>
          vP (gdW (gB v124 true) (some v104)) fun v126 =>
          vP (gdW (gB v124 true) (lenV v126)) fun v127 =>
          vP (gdW (gB v124 true) (some v19)) fun v128 =>
          vP (gdW (gB v124 true) (lenV v128)) fun v129 =>
          vP (gdW (gB v124 true) (binV .leq v127 v129)) fun v130 =>
          vP (pickV v124 v130 (Value.bool false)) fun v131 =>
          K v131 h26) h25) h23)) h21) → J4 [] h21) →
      vP (faV 3 v3) fun v78 =>
      vP (ld1 v78 h9) fun v79 =>
      vP (lenV v79) fun v80 =>
      vP (binV .gtr v80 (Value.int .i64 0)) fun v81 =>
      vP (gdW (gB v81 true) (some a1)) fun v83 =>
      vP (gdW (gB v81 true) (binV .and v83 (Value.int .i64 1))) fun v84 =>
      vP (gdW (gB v81 true) (eqV 1 false v84 (Value.int .i64 1))) fun v85 =>
      vP (pickV v81 v85 (Value.bool false)) fun v86 =>
      vB v86 (vA ((bldV #[] []).map fun c => (Obj.cells c 3 (0, 0), fun r => Value.slice (some ⟨r, 0, none⟩) 0 0)) (fun v87 h27 =>
        vP (faV 3 v3) fun v88 =>
        vP (ld1 v88 h27) fun v89 =>
        apW Try.prog #[22, 22] 22 v87 v89 (fun v90 h28 =>
        vP (faV 3 v8) fun v91 =>
        st1 v91 v90 (fun _ h29 =>
        vP (faV 3 v8) fun v92 =>
        vP (convV .u64 a2) fun v95 =>
        vP (faV 3 v8) fun v96 =>
        vP (ld1 v92 h29) fun v93 =>
        vP (ld1 v96 h29) fun v97 =>
        vP (lenV v97) fun v98 =>
        vP (convV .u64 v98) fun v99 =>
        vP (binV .rem v95 v99) fun v100 =>
        vP (convV .i64 v100) fun v101 =>
        vP (iaS 1 v93 v101) fun v102 =>
        st1 v102 (Value.int .i64 0) (fun _ h30 =>
        J4 [] h30) h29) h28) h27) h9)
      (J4 [] h9))) → J1 [v9] h8) →
  vP (faV 5 v3) fun v22 =>
  vP (ld1 v22 h7) fun v23 =>
  vP (lenV v23) fun v24 =>
  vP (binV .gtr v24 (Value.int .i64 0)) fun v25 =>
  vB v25 (vP (convV .u64 a1) fun v27 =>
    vP (faV 5 v3) fun v28 =>
    vP (ld1 v28 h7) fun v29 =>
    vP (lenV v29) fun v30 =>
    vP (convV .u64 v30) fun v31 =>
    vP (binV .rem v27 v31) fun v32 =>
    vP (convV .i64 v32) fun v33 =>
    J1 [v33] h7)
  (J1 [(Value.int .i64 0)] h7)) h6) h5) h4) h2)) h1) h
theorem D5_eq (a0 a1 a2 : Value) (K : Value → Hp → Prop) (h : Hp) : fnVC Try.prog Try.f5 x5 [a0, a1, a2] K h = D5 a0 a1 a2 K h := by kernel_rfl
theorem D5_ok : fnOk Try.prog Try.f5 x5 3 = true := by kernel_rfl
theorem C5 {a0 a1 a2 : Value} {K : Value → Hp → Prop} {h : Hp} (hh : D5 a0 a1 a2 K h) : CallH Try.prog 5 #[a0, a1, a2] K h :=
  callH_of mixed Try.func5 x5 [a0, a1, a2] D5_ok (D5_eq a0 a1 a2 K h ▸ hh)

/- 6: treadmill/treadmilllaw29.ViewRoots; slots: 0 globals, 1 stacks, 2 dead, 3 globals, 4 stacks, 5 dead, 7 v, 8 want, 9 add, 10 i, 11 x, 12 i, 13 x -/
def x6 : Ann := (.seq (.reg [] [(0, [])]) (.seq (.seq (.reg [] [(0, []), (1, []), (2, []), (3, []), (4, []), (5, []), (6, []), (7, [])]) (.cond (.seq (.reg [] [(0, []), (1, [])]) .leaf) .leaf)) (.seq (.reg [] [(0, [])]) (.seq (.reg [] [(0, [])]) (.seq (.reg [] [(0, []), (1, [])]) (.seq (.seq (.reg [] [(0, [])]) (.blk (.loop [10] [24, 25, 26, 27, 30, 31, 32, 33, 34, 35, 36, 11, 37, 38, 39, 40, 41, 42, 43, 44, 45, 28, 29, 10] (.seq (.seq (.reg [] [(0, []), (1, []), (2, []), (3, [])]) (.cond .leaf .leaf)) (.seq (.blk (.seq (.reg [] [(0, []), (1, []), (2, []), (3, []), (4, []), (5, []), (6, []), (7, [])]) (.seq (.reg [] [(0, []), (1, []), (2, []), (3, []), (4, []), (5, []), (6, [])]) (.reg [] [(0, []), (1, []), (2, [])])))) (.reg [] [(0, []), (1, []), (2, [])])))))) (.seq (.seq (.reg [] [(0, [])]) (.blk (.loop [12] [46, 47, 48, 49, 52, 53, 54, 55, 56, 57, 58, 59, 60, 61, 62, 63, 64, 65, 66, 67, 68, 69, 70, 71, 72, 73, 74, 75, 76, 77, 78, 79, 80, 13, 81, 82, 83, 84, 85, 86, 87, 88, 89, 90, 91, 92, 93, 94, 95, 96, 97, 98, 99, 100, 101, 102, 103, 104, 105, 106, 107, 50, 51, 12] (.seq (.seq (.reg [] [(0, []), (1, []), (2, []), (3, [])]) (.cond .leaf .leaf)) (.join [] [52, 53, 54, 55, 56, 57, 58, 59, 60, 61, 62, 63, 64, 65, 66, 67, 68, 69, 70, 71, 72, 73, 74, 75, 76, 77, 78, 79, 80, 13, 81, 82, 83, 84, 85, 86, 87, 88, 89, 90, 91, 92, 93, 94, 95, 96, 97, 98, 99, 100, 101, 102, 103, 104, 105, 106, 107] (.blk (.join [] [52, 53, 54, 55, 56, 57, 58, 59, 60, 61, 62, 63, 64, 65, 66, 67, 68, 69, 70, 71, 72, 73] (.seq (.reg [] [(0, []), (1, []), (2, [])]) (.cond (.seq (.reg [] [(0, []), (1, []), (2, []), (3, []), (4, []), (5, []), (6, [])]) (.seq (.reg [] [(0, []), (1, []), (2, []), (3, []), (4, []), (5, []), (6, [])]) (.cond (.reg [] [(0, []), (1, []), (2, []), (3, []), (4, []), (5, []), (6, [])]) .leaf))) .leaf)) (.seq (.reg [] [(0, []), (1, []), (2, []), (3, []), (4, []), (5, []), (6, []), (7, [])]) (.seq (.reg [0, 1, 0, 4, 0, 16, 0, 64, 240, 496, 1008, 0, 2048, 8176, 16383, 32767, 65535] [(0, []), (2, []), (3, []), (4, []), (6, []), (7, []), (11, []), (1, []), (5, []), (8, []), (9, []), (10, []), (12, []), (13, [1]), (14, []), (15, []), (16, [])]) (.seq (.reg [] [(0, []), (1, []), (2, []), (3, []), (4, []), (5, []), (6, []), (7, [])]) (.cond (.reg [] [(0, []), (1, []), (2, [])]) .leaf)))))) (.reg [] [(0, []), (1, []), (2, [])])))))) (.seq (.reg [0, 1, 3, 7, 3, 31, 63, 127, 255, 511, 1023, 2047, 4095, 8191, 16383, 32767, 65535, 16383, 147455, 524287, 1048575, 2097151] [(0, []), (1, []), (2, []), (4, []), (3, [4]), (5, []), (6, []), (7, []), (8, []), (9, []), (10, []), (11, []), (12, []), (13, []), (14, []), (17, []), (18, []), (15, [17]), (16, []), (19, []), (20, []), (21, [])]) .leaf))))))))
def D6 (a0 a1 a2 : Value) (K : Value → Hp → Prop) (h : Hp) : Prop :=
  vP (lenV a0) fun v15 =>
  vP (binV .gtr v15 (Value.int .i64 10)) fun v16 =>
  vP (gdW (gB v16 false) (some a1)) fun v18 =>
  vP (gdW (gB v16 false) (lenV v18)) fun v19 =>
  vP (gdW (gB v16 false) (binV .gtr v19 (Value.int .i64 80))) fun v20 =>
  vP (pickV v16 (Value.bool true) v20) fun v21 =>
  vB v21 (CallH Try.prog 13 #[] (fun v22 h1 =>
    K v22 h1) h)
  (vA (some (Obj.cells #[(Value.int .i64 0), (Value.int .i64 0), (Value.int .i64 0), (Value.slice none 0 0), (Value.slice none 0 0), (Value.slice none 0 0), (Value.int .i64 0), (Value.int .i64 0), (Value.int .i64 0)] 26 (0, 0), ptrV)) (fun v7 h2 =>
  vA (some (Obj.cells #[(Value.slice none 0 0)] 22 (0, 0), ptrV)) (fun v8 h3 =>
  vP (some (Value.func (.func 24) #[] #[v8])) fun v23 =>
  ∃ I1 : Nat → List Value → Hp → Prop, (∃ n, I1 n [(Value.int .i64 0)] h3) ∧
  ∀ n1 : Nat, ∀ v10 : Value, ∀ h4 : Hp, I1 n1 [v10] h4 → ∀ g1 : St,
    vP (lenV a0) fun v26 =>
    vP (binV .lss v10 v26) fun v27 =>
    vB v27 (vP (iaS 1 a0 v10) fun v32 =>
      vP (ld1 v32 h4) fun v33 =>
      vP (convV .u64 v33) fun v34 =>
      vP (binV .rem v34 (Value.int .u64 10)) fun v35 =>
      vP (convV .i64 v35) fun v36 =>
      vP (faV 3 v7) fun v37 =>
      vP (ld1 v37 h4) fun v38 =>
      vA ((bldV #[(Value.int .i64 0)] [(0, 1, v36)]).map fun c => (Obj.cells c 3 (0, 0), fun r => Value.slice (some ⟨r, 0, none⟩) 1 1)) (fun v40 h5 =>
      apW Try.prog #[22, 22] 22 v38 v40 (fun v41 h6 =>
      vP (faV 3 v7) fun v42 =>
      st1 v42 v41 (fun _ h7 =>
      cvW Try.prog v23 #[v36] (fun v45 h8 =>
      vP (binV .add v10 (Value.int .i64 1)) fun v29 =>
      ∃ m1, m1 < n1 ∧ I1 m1 [v29] h8) h7) h6) h5) h4)
    (∃ I2 : Nat → List Value → Hp → Prop, (∃ n, I2 n [(Value.int .i64 0)] h4) ∧
    ∀ n2 : Nat, ∀ v12 : Value, ∀ h9 : Hp, I2 n2 [v12] h9 → ∀ g2 : St,
      vP (lenV a1) fun v48 =>
      vP (binV .lss v12 v48) fun v49 =>
      vB v49 (∀ J3 : List Value → Hp → Prop, (∀ h10 : Hp, (∀ g3 : St,
          vP (binV .add v12 (Value.int .i64 1)) fun v51 =>
          ∃ m2, m2 < n2 ∧ I2 m2 [v51] h10) → J3 [] h10) →
        ∀ J4 : List Value → Hp → Prop, (∀ h11 : Hp, (∀ g4 : St,
          vP (iaS 1 a1 v12) fun v76 =>
          vP (ld1 v76 h11) fun v77 =>
          vP (convV .u64 v77) fun v78 =>
          vP (binV .rem v78 (Value.int .u64 10)) fun v79 =>
          vP (convV .i64 v79) fun v80 =>
          vP (faV 4 v7) fun v81 =>
          vP (binV .quo v12 (Value.int .i64 16)) fun v84 =>
          vP (faV 4 v7) fun v85 =>
          vP (binV .quo v12 (Value.int .i64 16)) fun v88 =>
          vP (ld1 v81 h11) fun v82 =>
          vP (ld1 v85 h11) fun v86 =>
          vP (iaS 3 v86 v88) fun v89 =>
          vP (faV 2 v89) fun v90 =>
          vP (ld1 v90 h11) fun v91 =>
          vA ((bldV #[(Value.int .i64 0)] [(0, 1, v80)]).map fun c => (Obj.cells c 3 (0, 0), fun r => Value.slice (some ⟨r, 0, none⟩) 1 1)) (fun v93 h12 =>
          apW Try.prog #[22, 22] 22 v91 v93 (fun v94 h13 =>
          (ld1 v81 h13) = some v82 ∧ (vP (iaS 3 v82 v84) fun v95 =>
          vP (faV 2 v95) fun v96 =>
          st1 v96 v94 (fun _ h14 =>
          vP (faV 4 v7) fun v97 =>
          vP (ld1 v97 h14) fun v98 =>
          vP (binV .quo v12 (Value.int .i64 16)) fun v100 =>
          vP (iaS 3 v98 v100) fun v101 =>
          vP (faV 0 v101) fun v102 =>
          vP (ld1 v102 h14) fun v103 =>
          vP (eqV 1 true v103 (Value.int .i64 5)) fun v104 =>
          vB v104 (cvW Try.prog v23 #[v80] (fun v107 h15 =>
            J3 [] h15) h14)
          (J3 [] h14)) h13)) h12) h11) → J4 [] h11) →
        vP (binV .rem v12 (Value.int .i64 16)) fun v53 =>
        vP (eqV 1 false v53 (Value.int .i64 0)) fun v54 =>
        vB v54 (vP (faV 4 v7) fun v55 =>
          vP (ld1 v55 h9) fun v56 =>
          vP ((bldV #[(Value.int .i64 0), (Value.int .i64 0), (Value.slice none 0 0)] [(0, 1, (Value.int .i64 1)), (1, 1, (Value.int .i64 (-1)))]).map Value.agg) fun v57 =>
          vA ((bldV #[(Value.int .i64 0), (Value.int .i64 0), (Value.slice none 0 0)] [(0, 3, v57)]).map fun c => (Obj.cells c 41 (0, 0), fun r => Value.slice (some ⟨r, 0, none⟩) 1 1)) (fun v58 h16 =>
          apW Try.prog #[23, 23] 23 v56 v58 (fun v59 h17 =>
          vP (faV 4 v7) fun v60 =>
          st1 v60 v59 (fun _ h18 =>
          vP (binV .quo v12 (Value.int .i64 16)) fun v63 =>
          vP (convV .u64 v63) fun v64 =>
          vP (binV .shr a2 v64) fun v65 =>
          vP (binV .and v65 (Value.int .i64 1)) fun v66 =>
          vP (eqV 1 false v66 (Value.int .i64 1)) fun v67 =>
          vB v67 (vP (faV 4 v7) fun v68 =>
            vP (ld1 v68 h18) fun v69 =>
            vP (binV .quo v12 (Value.int .i64 16)) fun v71 =>
            vP (iaS 3 v69 v71) fun v72 =>
            vP (faV 0 v72) fun v73 =>
            st1 v73 (Value.int .i64 5) (fun _ h19 =>
            J4 [] h19) h18)
          (J4 [] h18)) h17) h16) h9)
        (J4 [] h9))
      (CallH Try.prog 13 #[] (fun v108 h20 =>
      vP (gdW (gB v108 true) (ldN 9 v7 h20)) fun v110 =>
      vP (gdW (gB v108 true) (ld1 v8 h20)) fun v112 =>
      vE (gB v108 true) (CallH Try.prog 19 #[v110]) (fun v111 h21 =>
      gdW (gB v108 true) (ld1 v8 h21) = some v112 ∧ (vE (gB v108 true) (CallH Try.prog 14 #[v111, v112]) (fun v113 h22 =>
      vP (pickV v108 v113 (Value.bool false)) fun v114 =>
      vP (gdW (gB v114 true) (ldN 9 v7 h22)) fun v116 =>
      vE (gB v114 true) (CallH Try.prog 17 #[v116]) (fun v117 h23 =>
      vP (gdW (gB v114 true) (lenV v117)) fun v118 =>
      vP (gdW (gB v114 true) (eqV 1 false v118 (Value.int .i64 0))) fun v119 =>
      vP (pickV v114 v119 (Value.bool false)) fun v120 =>
      vP (gdW (gB v120 true) (ldN 9 v7 h23)) fun v122 =>
      vP (gdW (gB v120 true) (ld1 v8 h23)) fun v125 =>
      vP (gdW (gB v120 true) (lenV v125)) fun v126 =>
      vE (gB v120 true) (CallH Try.prog 18 #[v122]) (fun v123 h24 =>
      gdW (gB v120 true) (ld1 v8 h24) = some v125 ∧ (vP (gdW (gB v120 true) (lenV v123)) fun v124 =>
      vP (gdW (gB v120 true) (eqV 1 false v124 v126)) fun v127 =>
      vP (pickV v120 v127 (Value.bool false)) fun v128 =>
      K v128 h24)) h23) h22) h21)) h20) h9))) h2) h)
theorem D6_eq (a0 a1 a2 : Value) (K : Value → Hp → Prop) (h : Hp) : fnVC Try.prog Try.f6 x6 [a0, a1, a2] K h = D6 a0 a1 a2 K h := by kernel_rfl
theorem D6_ok : fnOk Try.prog Try.f6 x6 3 = true := by kernel_rfl
theorem C6 {a0 a1 a2 : Value} {K : Value → Hp → Prop} {h : Hp} (hh : D6 a0 a1 a2 K h) : CallH Try.prog 6 #[a0, a1, a2] K h :=
  callH_of mixed Try.func6 x6 [a0, a1, a2] D6_ok (D6_eq a0 a1 a2 K h ▸ hh)

/- 24: treadmill/treadmilllaw29.ViewRoots$1; slots: 0 x, 2 x -/
def x24 : Ann := (.seq (.reg [] [(0, []), (1, []), (2, []), (3, []), (4, []), (5, []), (6, []), (7, [])]) (.cond (.reg [] [(0, []), (1, []), (2, []), (3, []), (4, [])]) .leaf))
def D24 (a0 a1 : Value) (K : Value → Hp → Prop) (h : Hp) : Prop :=
  vP (eqV 1 true a0 (Value.int .i64 0)) fun v4 =>
  vP (gdW (gB v4 true) (ld1 a1 h)) fun v6 =>
  vP (gdW (gB v4 true) (some a0)) fun v7 =>
  vE (gB v4 true) (CallH Try.prog 21 #[v6, v7]) (fun v8 h1 =>
  vP (gdW (gB v4 true) (unV .not v8)) fun v9 =>
  vP (pickV v4 v9 (Value.bool false)) fun v10 =>
  vB v10 (vP (ld1 a1 h1) fun v11 =>
    vA ((bldV #[(Value.int .i64 0)] [(0, 1, a0)]).map fun c => (Obj.cells c 3 (0, 0), fun r => Value.slice (some ⟨r, 0, none⟩) 1 1)) (fun v13 h2 =>
    apW Try.prog #[22, 22] 22 v11 v13 (fun v14 h3 =>
    st1 a1 v14 (fun _ h4 =>
    K (Value.tuple #[]) h4) h3) h2) h1)
  (K (Value.tuple #[]) h1)) h
theorem D24_eq (a0 a1 : Value) (K : Value → Hp → Prop) (h : Hp) : fnVC Try.prog Try.f24 x24 [a0, a1] K h = D24 a0 a1 K h := by kernel_rfl
theorem D24_ok : fnOk Try.prog Try.f24 x24 2 = true := by kernel_rfl
theorem C24 {a0 a1 : Value} {K : Value → Hp → Prop} {h : Hp} (hh : D24 a0 a1 K h) : CallH Try.prog 24 #[a0, a1] K h :=
  callH_of mixed Try.func24 x24 [a0, a1] D24_ok (D24_eq a0 a1 K h ▸ hh)

/- 7: treadmill/treadmilllaw29.ViewChains; slots: 0 n, 1 cut, 2 both, 3 n, 4 cut, 5 both, 7 k, 8 c, 9 v, 10 i, 11 o, 12 end, 13 r, 14 want, 15 i, 16 p, 17 size -/
def x7 : Ann := (.seq (.reg [] [(0, [])]) (.seq (.reg [] [(0, []), (1, []), (2, []), (3, []), (4, []), (5, [])]) (.seq (.reg [] [(0, []), (1, []), (2, []), (3, []), (4, []), (5, []), (6, []), (7, []), (8, [])]) (.seq (.reg [] [(0, []), (1, []), (2, []), (3, [])]) (.seq (.seq (.reg [] [(0, [])]) (.blk (.loop [10] [33, 34, 35, 38, 39, 40, 41, 11, 42, 43, 44, 45, 46, 47, 48, 49, 50, 51, 52, 53, 54, 55, 56, 57, 58, 59, 60, 61, 62, 36, 37, 10] (.seq (.seq (.reg [] [(0, []), (1, []), (2, [])]) (.cond .leaf .leaf)) (.seq (.blk (.seq (.reg [] [(0, []), (1, []), (2, []), (3, []), (4, []), (5, [])]) (.join [] [42, 43, 44, 45, 46, 47, 48, 49, 50, 51, 52, 53, 54, 55, 56] (.seq (.reg [] [(0, []), (1, []), (2, []), (3, []), (4, []), (5, []), (6, []), (7, []), (8, []), (9, [])]) (.cond (.reg [] [(0, []), (1, []), (2, []), (3, []), (4, []), (5, [])]) .leaf)) (.reg [] [(0, []), (1, []), (2, []), (3, []), (4, []), (5, []), (6, [])])))) (.reg [] [(0, []), (1, []), (2, [])])))))) (.join [] [63, 64, 65, 66, 67, 68, 69, 70, 71] (.seq (.reg [] [(0, [])]) (.cond (.reg [] [(0, []), (1, []), (2, []), (3, []), (4, []), (5, []), (6, []), (7, []), (8, [])]) .leaf)) (.seq (.reg [] [(0, []), (1, []), (2, []), (3, [])]) (.seq (.reg [] [(0, []), (1, []), (2, [])]) (.seq (.reg [] [(0, []), (1, [])]) (.join [14] [78, 79, 80, 81, 82, 83, 84, 85, 14] (.seq (.reg [] [(0, []), (1, []), (2, []), (3, []), (4, []), (5, [])]) (.cond (.reg [] [(0, []), (1, []), (2, [])]) .leaf)) (.seq (.seq (.reg [] [(0, []), (1, []), (2, []), (3, [])]) (.cond (.seq (.reg [] [(0, [])]) .leaf) .leaf)) (.seq (.seq (.reg [] [(0, [])]) (.blk (.loop [15] [90, 91, 92, 95, 96, 97, 98, 16, 17, 99, 100, 101, 102, 103, 104, 105, 106, 107, 108, 109, 110, 111, 112, 113, 114, 115, 116, 117, 118, 119, 120, 121, 122, 123, 124, 125, 126, 127, 128, 6, 93, 94, 15] (.seq (.seq (.reg [] [(0, []), (1, []), (2, [])]) (.cond .leaf .leaf)) (.seq (.blk (.seq (.reg [] [(0, []), (1, []), (2, []), (3, []), (4, [])]) (.seq (.reg [] [(0, [])]) (.join [17] [99, 100, 101, 102, 103, 17] (.seq (.reg [] [(0, []), (1, []), (2, [])]) (.cond (.reg [] [(0, []), (1, []), (2, [])]) .leaf)) (.join [17] [104, 105, 106, 107, 108, 109, 110, 17] (.seq (.reg [] [(0, []), (1, []), (2, []), (3, []), (4, []), (5, []), (6, [])]) (.cond (.reg [] [(0, [])]) .leaf)) (.seq (.reg [] [(0, []), (1, []), (2, []), (3, []), (4, []), (5, []), (6, []), (7, []), (8, []), (9, []), (10, []), (11, []), (12, []), (13, []), (14, []), (15, []), (16, []), (17, [])]) (.cond (.seq (.reg [] [(0, [])]) .leaf) .leaf))))))) (.reg [] [(0, []), (1, []), (2, [])])))))) (.seq (.reg [] [(0, []), (1, []), (2, []), (3, []), (4, []), (5, []), (6, []), (7, []), (8, []), (9, []), (10, []), (11, []), (12, []), (13, []), (14, [])]) .leaf)))))))))))))
def D7 (a0 a1 a2 : Value) (K : Value → Hp → Prop) (h : Hp) : Prop :=
  vP (convV .u64 a0) fun v19 =>
  vP (binV .rem v19 (Value.int .u64 39)) fun v20 =>
  vP (convV .i64 v20) fun v21 =>
  vP (binV .add (Value.int .i64 2) v21) fun v22 =>
  vP (convV .u64 a1) fun v24 =>
  vP (binV .add v22 (Value.int .i64 5)) fun v26 =>
  vP (convV .u64 v26) fun v27 =>
  vP (binV .rem v24 v27) fun v28 =>
  vP (convV .i64 v28) fun v29 =>
  vP (binV .add (Value.int .i64 1) v29) fun v30 =>
  vA ((bldV #[(Value.int .i64 0)] [(0, 1, (Value.int .i64 64))]).map fun c => (Obj.cells c 3 (0, 0), fun r => Value.slice (some ⟨r, 0, none⟩) 1 1)) (fun v31 h1 =>
  vP ((bldV #[(Value.int .i64 0), (Value.int .i64 0), (Value.int .i64 0), (Value.slice none 0 0), (Value.slice none 0 0), (Value.slice none 0 0), (Value.int .i64 0), (Value.int .i64 0), (Value.int .i64 0)] [(3, 1, v31)]).map Value.agg) fun v32 =>
  vA (some (Obj.cells #[(Value.int .i64 0), (Value.int .i64 0), (Value.int .i64 0), (Value.slice none 0 0), (Value.slice none 0 0), (Value.slice none 0 0), (Value.int .i64 0), (Value.int .i64 0), (Value.int .i64 0)] 26 (0, 0), ptrV)) (fun v9 h2 =>
  stN 9 v9 v32 (fun _ h3 =>
  ∃ I1 : Nat → List Value → Hp → Prop, (∃ n, I1 n [(Value.int .i64 0)] h3) ∧
  ∀ n1 : Nat, ∀ v10 : Value, ∀ h4 : Hp, I1 n1 [v10] h4 → ∀ g1 : St,
    vP (binV .lss v10 v22) fun v35 =>
    vB v35 (vP (binV .add (Value.int .i64 64) v10) fun v39 =>
      vA ((bldV #[(Value.int .i64 0)] [(0, 1, (Value.int .i64 0))]).map fun c => (Obj.cells c 3 (0, 0), fun r => Value.slice (some ⟨r, 0, none⟩) 1 1)) (fun v40 h5 =>
      vP ((bldV #[(Value.int .i64 0), (Value.slice none 0 0), (Value.bool false)] [(0, 1, v39), (1, 1, v40)]).map Value.agg) fun v41 =>
      vA (some (Obj.cells #[(Value.int .i64 0), (Value.slice none 0 0), (Value.bool false)] 30 (0, 0), ptrV)) (fun v11 h6 =>
      stN 3 v11 v41 (fun _ h7 =>
      ∀ J2 : List Value → Hp → Prop, (∀ h8 : Hp, (∀ g2 : St,
        vP (faV 5 v9) fun v57 =>
        vP (ld1 v57 h8) fun v58 =>
        vP (ldN 3 v11 h8) fun v59 =>
        vA ((bldV #[(Value.int .i64 0), (Value.slice none 0 0), (Value.bool false)] [(0, 3, v59)]).map fun c => (Obj.cells c 30 (0, 0), fun r => Value.slice (some ⟨r, 0, none⟩) 1 1)) (fun v60 h9 =>
        apW Try.prog #[24, 24] 24 v58 v60 (fun v61 h10 =>
        vP (faV 5 v9) fun v62 =>
        st1 v62 v61 (fun _ h11 =>
        vP (binV .add v10 (Value.int .i64 1)) fun v37 =>
        ∃ m1, m1 < n1 ∧ I1 m1 [v37] h11) h10) h9) h8) → J2 [] h8) →
      vP (binV .add v10 (Value.int .i64 1)) fun v43 =>
      vP (binV .lss v43 v22) fun v45 =>
      vP (gdW (gB v45 true) (some v10)) fun v47 =>
      vP (gdW (gB v45 true) (binV .add v47 (Value.int .i64 1))) fun v48 =>
      vP (gdW (gB v45 true) (some v30)) fun v49 =>
      vP (gdW (gB v45 true) (eqV 1 true v48 v49)) fun v50 =>
      vP (pickV v45 v50 (Value.bool false)) fun v51 =>
      vB v51 (vP (faV 1 v11) fun v52 =>
        vP (ld1 v52 h7) fun v53 =>
        vP (binV .add (Value.int .i64 65) v10) fun v55 =>
        vP (iaS 1 v53 (Value.int .i64 0)) fun v56 =>
        st1 v56 v55 (fun _ h12 =>
        J2 [] h12) h7)
      (J2 [] h7)) h6) h5) h4)
    (∀ J3 : List Value → Hp → Prop, (∀ h13 : Hp, (∀ g3 : St,
      vP (min2V v30 v22) fun v74 =>
      vP (ldN 9 v9 h13) fun v75 =>
      CallH Try.prog 17 #[v75] (fun v76 h14 =>
      ∀ J4 : List Value → Hp → Prop, (∀ v14 : Value, ∀ h15 : Hp, (∀ g4 : St,
        vP (lenV v76) fun v87 =>
        vP (eqV 1 true v87 v14) fun v89 =>
        vB v89 (K (Value.bool false) h15)
        (∃ I5 : Nat → List Value → Hp → Prop, (∃ n, I5 n [(Value.int .i64 0)] h15) ∧
        ∀ n5 : Nat, ∀ v15 : Value, ∀ h16 : Hp, I5 n5 [v15] h16 → ∀ g5 : St,
          vP (binV .lss v15 v22) fun v92 =>
          vB v92 (vP (ldN 9 v9 h16) fun v95 =>
            vP (binV .add (Value.int .i64 64) v15) fun v97 =>
            CallH Try.prog 15 #[v95, v97] (fun v98 h17 =>
            ∀ J6 : List Value → Hp → Prop, (∀ v17 : Value, ∀ h18 : Hp, (∀ g6 : St,
              ∀ J7 : List Value → Hp → Prop, (∀ v17_1 : Value, ∀ h19 : Hp, (∀ g7 : St,
                vP (lenV v98) fun v112 =>
                vP (eqV 1 true v112 v17_1) fun v114 =>
                vP (gdW (gB v114 false) (some v17_1)) fun v116 =>
                vP (gdW (gB v114 false) (binV .gtr v116 (Value.int .i64 0))) fun v117 =>
                vP (gdW (gB v114 false) (some v117)) fun v118 =>
                vP (gdW (gB v118 true) (some v98)) fun v119 =>
                vP (gdW (gB v118 true) (some v17_1)) fun v120 =>
                vP (gdW (gB v118 true) (binV .sub v120 (Value.int .i64 1))) fun v121 =>
                vP (gdW (gB v118 true) (iaS 1 v119 v121)) fun v122 =>
                vP (gdW (gB v118 true) (ld1 v122 h19)) fun v123 =>
                vP (gdW (gB v118 true) (some v15)) fun v124 =>
                vP (gdW (gB v118 true) (binV .add (Value.int .i64 64) v124)) fun v125 =>
                vP (gdW (gB v118 true) (eqV 1 true v123 v125)) fun v126 =>
                vP (gdW (gB v114 false) (pickV v118 v126 (Value.bool false))) fun v127 =>
                vP (pickV v114 (Value.bool true) v127) fun v128 =>
                vB v128 (K (Value.bool false) h19)
                (vP (binV .add v15 (Value.int .i64 1)) fun v94 =>
                ∃ m5, m5 < n5 ∧ I5 m5 [v94] h19)) → J7 [v17_1] h19) →
              vP (gdW (gB a2 true) (some v15)) fun v106 =>
              vP (gdW (gB a2 true) (some v22)) fun v107 =>
              vP (gdW (gB a2 true) (binV .sub v107 (Value.int .i64 1))) fun v108 =>
              vP (gdW (gB a2 true) (eqV 1 false v106 v108)) fun v109 =>
              vP (pickV a2 v109 (Value.bool false)) fun v110 =>
              vB v110 (J7 [(Value.int .i64 1)] h18)
              (J7 [v17] h18)) → J6 [v17] h18) →
            vP (binV .lss v15 v74) fun v101 =>
            vB v101 (vP (binV .add v15 (Value.int .i64 1)) fun v103 =>
              J6 [v103] h17)
            (J6 [(Value.int .i64 0)] h17)) h16)
          (CallH Try.prog 13 #[] (fun v129 h20 =>
          vP (gdW (gB v129 true) (ldN 9 v9 h20)) fun v131 =>
          vE (gB v129 true) (CallH Try.prog 23 #[v131]) (fun v132 h21 =>
          vP (gdW (gB v129 true) (lenV v132)) fun v133 =>
          vP (gdW (gB v129 true) (some v14)) fun v134 =>
          vP (gdW (gB v129 true) (eqV 1 false v133 v134)) fun v135 =>
          vP (pickV v129 v135 (Value.bool false)) fun v136 =>
          vP (gdW (gB v136 true) (ldN 9 v9 h21)) fun v138 =>
          vE (gB v136 true) (CallH Try.prog 25 #[v138]) (fun v139 h22 =>
          vP (gdW (gB v136 true) (some v22)) fun v140 =>
          vP (gdW (gB v136 true) (eqV 1 false v139 v140)) fun v141 =>
          vP (pickV v136 v141 (Value.bool false)) fun v142 =>
          K v142 h22) h21) h20) h16))) → J4 [v14] h15) →
      vP (gdW (gB a2 true) (some v74)) fun v80 =>
      vP (gdW (gB a2 true) (some v22)) fun v81 =>
      vP (gdW (gB a2 true) (binV .lss v80 v81)) fun v82 =>
      vP (pickV a2 v82 (Value.bool false)) fun v83 =>
      vB v83 (vP (binV .add v74 (Value.int .i64 1)) fun v85 =>
        J4 [v85] h14)
      (J4 [v74] h14)) h13) → J3 [] h13) →
    vB a2 (vP (faV 3 v9) fun v64 =>
      vP (ld1 v64 h4) fun v65 =>
      vP (binV .add (Value.int .i64 64) v22) fun v67 =>
      vP (binV .sub v67 (Value.int .i64 1)) fun v68 =>
      vA ((bldV #[(Value.int .i64 0)] [(0, 1, v68)]).map fun c => (Obj.cells c 3 (0, 0), fun r => Value.slice (some ⟨r, 0, none⟩) 1 1)) (fun v69 h23 =>
      apW Try.prog #[22, 22] 22 v65 v69 (fun v70 h24 =>
      vP (faV 3 v9) fun v71 =>
      st1 v71 v70 (fun _ h25 =>
      J3 [] h25) h24) h23) h4)
    (J3 [] h4))) h2) h1) h
theorem D7_eq (a0 a1 a2 : Value) (K : Value → Hp → Prop) (h : Hp) : fnVC Try.prog Try.f7 x7 [a0, a1, a2] K h = D7 a0 a1 a2 K h := by kernel_rfl
theorem D7_ok : fnOk Try.prog Try.f7 x7 3 = true := by kernel_rfl
theorem C7 {a0 a1 a2 : Value} {K : Value → Hp → Prop} {h : Hp} (hh : D7 a0 a1 a2 K h) : CallH Try.prog 7 #[a0, a1, a2] K h :=
  callH_of mixed Try.func7 x7 [a0, a1, a2] D7_ok (D7_eq a0 a1 a2 K h ▸ hh)

end Go.Proofs
