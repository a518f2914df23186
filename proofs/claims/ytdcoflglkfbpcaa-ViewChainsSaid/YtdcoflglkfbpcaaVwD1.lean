/-
  The conditions of some functions, as the printer wrote them out of the dump; the kernel checks that each is the function's own.
-/
import Derived.Test.YtdcoflglkfbpcaaV7
import Derived.Test.YtdcoflglkfbpcaaProg
set_option linter.unusedVariables false
set_option linter.unusedSimpArgs false
set_option maxRecDepth 100000
namespace Go.Proofs
open Go.Sl
theorem mixed : Try.prog.follows .mixedOrders = true := by kernel_rfl
/- 14: treadmill/treadmillref1.Ints; slots: 0 a, 1 b, 2 a, 3 b, 5 i -/
def x14 : Ann := (.seq (.reg [] [(0, [])]) (.seq (.seq (.reg [] [(0, []), (1, []), (2, []), (3, []), (4, [])]) (.cond (.seq (.reg [] [(0, [])]) .leaf) .leaf)) (.seq (.seq (.reg [] [(0, [])]) (.blk (.loop [5] [11, 12, 13, 14, 17, 18, 19, 20, 21, 22, 23, 24, 25, 4, 15, 16, 5] (.seq (.seq (.reg [] [(0, []), (1, []), (2, []), (3, [])]) (.cond .leaf .leaf)) (.seq (.blk (.seq (.reg [0, 0, 3, 7, 0, 0, 48, 112, 255] [(0, []), (1, []), (2, []), (4, []), (5, []), (6, []), (3, []), (7, []), (8, [])]) (.cond (.seq (.reg [] [(0, [])]) .leaf) .leaf))) (.reg [] [(0, []), (1, []), (2, [])])))))) (.seq (.reg [] [(0, [])]) .leaf))))
def D14 (a0 a1 : Value) (K : Value → Hp → Prop) (h : Hp) : Prop :=
  vP (lenV a0) fun v7 =>
  vP (lenV a1) fun v9 =>
  vP (eqV 1 true v7 v9) fun v10 =>
  vB v10 (K (Value.bool false) h)
  (∃ I1 : Nat → List Value → Hp → Prop, (∃ n, I1 n [(Value.int .i64 0)] h) ∧
  ∀ n1 : Nat, ∀ v5 : Value, ∀ h1 : Hp, I1 n1 [v5] h1 → ∀ g1 : St,
    vP (lenV a0) fun v13 =>
    vP (binV .lss v5 v13) fun v14 =>
    vB v14 (vP (iaS 1 a0 v5) fun v19 =>
      vP (iaS 1 a1 v5) fun v23 =>
      vP (ld1 v19 h1) fun v20 =>
      vP (ld1 v23 h1) fun v24 =>
      vP (eqV 1 true v20 v24) fun v25 =>
      vB v25 (K (Value.bool false) h1)
      (vP (binV .add v5 (Value.int .i64 1)) fun v16 =>
      ∃ m1, m1 < n1 ∧ I1 m1 [v16] h1))
    (K (Value.bool true) h1))
theorem D14_eq (a0 a1 : Value) (K : Value → Hp → Prop) (h : Hp) : fnVC Try.prog Try.f14 x14 [a0, a1] K h = D14 a0 a1 K h := by kernel_rfl
theorem D14_ok : fnOk Try.prog Try.f14 x14 2 = true := by kernel_rfl
theorem C14 {a0 a1 : Value} {K : Value → Hp → Prop} {h : Hp} (hh : D14 a0 a1 K h) : CallH Try.prog 14 #[a0, a1] K h :=
  callH_of mixed Try.func14 x14 [a0, a1] D14_ok (D14_eq a0 a1 K h ▸ hh)

/- 21: treadmill/treadmillref1.Has; slots: 0 l, 1 x, 2 l, 3 x, 5 i -/
def x21 : Ann := (.seq (.reg [] [(0, [])]) (.seq (.seq (.reg [] [(0, [])]) (.blk (.loop [5] [6, 7, 8, 9, 12, 13, 14, 15, 16, 17, 4, 10, 11, 5] (.seq (.seq (.reg [] [(0, []), (1, []), (2, []), (3, [])]) (.cond .leaf .leaf)) (.seq (.blk (.seq (.reg [] [(0, []), (1, []), (2, []), (3, []), (4, []), (5, [])]) (.cond (.seq (.reg [] [(0, [])]) .leaf) .leaf))) (.reg [] [(0, []), (1, []), (2, [])])))))) (.seq (.reg [] [(0, [])]) .leaf)))
def D21 (a0 a1 : Value) (K : Value → Hp → Prop) (h : Hp) : Prop :=
  ∃ I1 : Nat → List Value → Hp → Prop, (∃ n, I1 n [(Value.int .i64 0)] h) ∧
  ∀ n1 : Nat, ∀ v5 : Value, ∀ h1 : Hp, I1 n1 [v5] h1 → ∀ g1 : St,
    vP (lenV a0) fun v8 =>
    vP (binV .lss v5 v8) fun v9 =>
    vB v9 (vP (iaS 1 a0 v5) fun v14 =>
      vP (ld1 v14 h1) fun v15 =>
      vP (eqV 1 false v15 a1) fun v17 =>
      vB v17 (K (Value.bool true) h1)
      (vP (binV .add v5 (Value.int .i64 1)) fun v11 =>
      ∃ m1, m1 < n1 ∧ I1 m1 [v11] h1))
    (K (Value.bool false) h1)
theorem D21_eq (a0 a1 : Value) (K : Value → Hp → Prop) (h : Hp) : fnVC Try.prog Try.f21 x21 [a0, a1] K h = D21 a0 a1 K h := by kernel_rfl
theorem D21_ok : fnOk Try.prog Try.f21 x21 2 = true := by kernel_rfl
theorem C21 {a0 a1 : Value} {K : Value → Hp → Prop} {h : Hp} (hh : D21 a0 a1 K h) : CallH Try.prog 21 #[a0, a1] K h :=
  callH_of mixed Try.func21 x21 [a0, a1] D21_ok (D21_eq a0 a1 K h ▸ hh)

/- 60: treadmill/treadmillref1.Put; slots: 0 l, 1 x, 2 l, 3 x, 5 i -/
def x60 : Ann := (.seq (.reg [] [(0, [])]) (.seq (.reg [] [(0, [])]) (.seq (.blk (.loop [5] [6, 7, 8, 9, 10, 11, 12, 13, 14, 15, 16, 17, 18, 19, 5] (.seq (.seq (.reg [] [(0, []), (1, []), (2, []), (3, []), (4, []), (5, []), (6, []), (7, []), (8, []), (9, []), (10, []), (11, [])]) (.cond .leaf .leaf)) (.blk (.reg [] [(0, []), (1, []), (2, [])]))))) (.seq (.seq (.reg [] [(0, []), (1, []), (2, []), (3, []), (4, []), (5, []), (6, []), (7, []), (8, []), (9, []), (10, []), (11, [])]) (.cond (.seq (.reg [] [(0, []), (1, [])]) .leaf) .leaf)) (.seq (.reg [0, 0, 0, 6, 15, 0, 32, 127, 0, 0, 768, 2047, 4095] [(1, []), (2, []), (3, []), (5, []), (8, []), (9, []), (10, []), (0, []), (4, []), (6, []), (7, []), (11, []), (12, [])]) .leaf)))))
def D60 (a0 a1 : Value) (K : Value → Hp → Prop) (h : Hp) : Prop :=
  ∃ I1 : Nat → List Value → Hp → Prop, (∃ n, I1 n [(Value.int .i64 0)] h) ∧
  ∀ n1 : Nat, ∀ v5 : Value, ∀ h1 : Hp, I1 n1 [v5] h1 → ∀ g1 : St,
    vP (lenV a0) fun v8 =>
    vP (binV .lss v5 v8) fun v9 =>
    vP (gdW (gB v9 true) (some a0)) fun v11 =>
    vP (gdW (gB v9 true) (some v5)) fun v12 =>
    vP (gdW (gB v9 true) (iaS 1 v11 v12)) fun v13 =>
    vP (gdW (gB v9 true) (ld1 v13 h1)) fun v14 =>
    vP (gdW (gB v9 true) (some a1)) fun v15 =>
    vP (gdW (gB v9 true) (binV .lss v14 v15)) fun v16 =>
    vP (pickV v9 v16 (Value.bool false)) fun v17 =>
    vB v17 (vP (binV .add v5 (Value.int .i64 1)) fun v19 =>
      ∃ m1, m1 < n1 ∧ I1 m1 [v19] h1)
    (vP (lenV a0) fun v22 =>
    vP (binV .lss v5 v22) fun v23 =>
    vP (gdW (gB v23 true) (some a0)) fun v25 =>
    vP (gdW (gB v23 true) (some v5)) fun v26 =>
    vP (gdW (gB v23 true) (iaS 1 v25 v26)) fun v27 =>
    vP (gdW (gB v23 true) (ld1 v27 h1)) fun v28 =>
    vP (gdW (gB v23 true) (some a1)) fun v29 =>
    vP (gdW (gB v23 true) (eqV 1 false v28 v29)) fun v30 =>
    vP (pickV v23 v30 (Value.bool false)) fun v31 =>
    vB v31 (K a0 h1)
    (vP (slV 1 a0 none (some v5) none) fun v36 =>
    vP (slV 1 a0 (some v5) none none) fun v43 =>
    vA ((bldV #[] []).map fun c => (Obj.cells c 3 (0, 0), fun r => Value.slice (some ⟨r, 0, none⟩) 0 0)) (fun v33 h2 =>
    apW Try.prog #[22, 22] 22 v33 v36 (fun v37 h3 =>
    vA ((bldV #[(Value.int .i64 0)] [(0, 1, a1)]).map fun c => (Obj.cells c 3 (0, 0), fun r => Value.slice (some ⟨r, 0, none⟩) 1 1)) (fun v39 h4 =>
    apW Try.prog #[22, 22] 22 v37 v39 (fun v40 h5 =>
    apW Try.prog #[22, 22] 22 v40 v43 (fun v44 h6 =>
    K v44 h6) h5) h4) h3) h2) h1))
theorem D60_eq (a0 a1 : Value) (K : Value → Hp → Prop) (h : Hp) : fnVC Try.prog Try.f60 x60 [a0, a1] K h = D60 a0 a1 K h := by kernel_rfl
theorem D60_ok : fnOk Try.prog Try.f60 x60 2 = true := by kernel_rfl
theorem C60 {a0 a1 : Value} {K : Value → Hp → Prop} {h : Hp} (hh : D60 a0 a1 K h) : CallH Try.prog 60 #[a0, a1] K h :=
  callH_of mixed Try.func60 x60 [a0, a1] D60_ok (D60_eq a0 a1 K h ▸ hh)

/- 81: treadmill/treadmillref1.Size; slots: 0 k, 1 k -/
def x81 : Ann := (.seq (.reg [] [(0, [])]) (.seq (.seq (.reg [] [(0, []), (1, []), (2, []), (3, []), (4, []), (5, [])]) (.cond (.seq (.reg [] [(0, [])]) .leaf) .leaf)) (.seq (.reg [] [(0, []), (1, []), (2, []), (3, []), (4, [])]) .leaf)))
def D81 (a0 : Value) (K : Value → Hp → Prop) (h : Hp) : Prop :=
  vP (binV .lss a0 (Value.int .i64 0)) fun v4 =>
  vP (gdW (gB v4 false) (some a0)) fun v6 =>
  vP (gdW (gB v4 false) (binV .gtr v6 (Value.int .i64 15))) fun v7 =>
  vP (pickV v4 (Value.bool true) v7) fun v8 =>
  vB v8 (K (Value.int .i64 0) h)
  (CallH Try.prog 89 #[] (fun v9 h1 =>
  vP (iaS 1 v9 a0) fun v11 =>
  vP (ld1 v11 h1) fun v12 =>
  K v12 h1) h)
theorem D81_eq (a0 : Value) (K : Value → Hp → Prop) (h : Hp) : fnVC Try.prog Try.f81 x81 [a0] K h = D81 a0 K h := by kernel_rfl
theorem D81_ok : fnOk Try.prog Try.f81 x81 1 = true := by kernel_rfl
theorem C81 {a0 : Value} {K : Value → Hp → Prop} {h : Hp} (hh : D81 a0 K h) : CallH Try.prog 81 #[a0] K h :=
  callH_of mixed Try.func81 x81 [a0] D81_ok (D81_eq a0 K h ▸ hh)

/- 82: treadmill/treadmillref1.Of; slots: 0 n, 1 n, 3 k -/
def x82 : Ann := (.seq (.reg [] [(0, [])]) (.seq (.seq (.reg [] [(0, []), (1, []), (2, []), (3, []), (4, []), (5, [])]) (.cond (.seq (.reg [] [(0, [])]) .leaf) .leaf)) (.seq (.reg [] [(0, [])]) (.seq (.blk (.loop [3] [10, 11, 12, 13, 14, 15, 3] (.seq (.seq (.reg [] [(0, []), (1, []), (2, []), (3, [])]) (.cond .leaf .leaf)) (.blk (.reg [] [(0, []), (1, []), (2, [])]))))) (.seq (.reg [] [(0, []), (1, [])]) .leaf)))))
def D82 (a0 : Value) (K : Value → Hp → Prop) (h : Hp) : Prop :=
  vP (binV .lss a0 (Value.int .i64 1)) fun v5 =>
  vP (gdW (gB v5 false) (some a0)) fun v7 =>
  vP (gdW (gB v5 false) (binV .gtr v7 (Value.int .i64 256))) fun v8 =>
  vP (pickV v5 (Value.bool true) v8) fun v9 =>
  vB v9 (K (Value.int .i64 (-1)) h)
  (∃ I1 : Nat → List Value → Hp → Prop, (∃ n, I1 n [(Value.int .i64 0)] h) ∧
  ∀ n1 : Nat, ∀ v3 : Value, ∀ h1 : Hp, I1 n1 [v3] h1 → ∀ g1 : St,
    CallH Try.prog 81 #[v3] (fun v11 h2 =>
    vP (binV .lss v11 a0) fun v13 =>
    vB v13 (vP (binV .add v3 (Value.int .i64 1)) fun v15 =>
      ∃ m1, m1 < n1 ∧ I1 m1 [v15] h2)
    (K v3 h2)) h1)
theorem D82_eq (a0 : Value) (K : Value → Hp → Prop) (h : Hp) : fnVC Try.prog Try.f82 x82 [a0] K h = D82 a0 K h := by kernel_rfl
theorem D82_ok : fnOk Try.prog Try.f82 x82 1 = true := by kernel_rfl
theorem C82 {a0 : Value} {K : Value → Hp → Prop} {h : Hp} (hh : D82 a0 K h) : CallH Try.prog 82 #[a0] K h :=
  callH_of mixed Try.func82 x82 [a0] D82_ok (D82_eq a0 K h ▸ hh)

/- 89: treadmill/treadmillref1.Sizes; slots:  -/
def x89 : Ann := (.seq (.reg [] [(0, [])]) (.seq (.reg [] [(0, []), (1, [])]) .leaf))
def D89 (K : Value → Hp → Prop) (h : Hp) : Prop :=
  vA ((bldV #[(Value.int .i64 0), (Value.int .i64 0), (Value.int .i64 0), (Value.int .i64 0), (Value.int .i64 0), (Value.int .i64 0), (Value.int .i64 0), (Value.int .i64 0), (Value.int .i64 0), (Value.int .i64 0), (Value.int .i64 0), (Value.int .i64 0), (Value.int .i64 0), (Value.int .i64 0), (Value.int .i64 0), (Value.int .i64 0)] [(0, 1, (Value.int .i64 1)), (1, 1, (Value.int .i64 2)), (2, 1, (Value.int .i64 3)), (3, 1, (Value.int .i64 4)), (4, 1, (Value.int .i64 6)), (5, 1, (Value.int .i64 8)), (6, 1, (Value.int .i64 12)), (7, 1, (Value.int .i64 16)), (8, 1, (Value.int .i64 24)), (9, 1, (Value.int .i64 32)), (10, 1, (Value.int .i64 48)), (11, 1, (Value.int .i64 64)), (12, 1, (Value.int .i64 96)), (13, 1, (Value.int .i64 128)), (14, 1, (Value.int .i64 192)), (15, 1, (Value.int .i64 256))]).map fun c => (Obj.cells c 3 (0, 0), fun r => Value.slice (some ⟨r, 0, none⟩) 16 16)) (fun v1 h1 =>
  K v1 h1) h
theorem D89_eq (K : Value → Hp → Prop) (h : Hp) : fnVC Try.prog Try.f89 x89 [] K h = D89  K h := by kernel_rfl
theorem D89_ok : fnOk Try.prog Try.f89 x89 0 = true := by kernel_rfl
theorem C89 {K : Value → Hp → Prop} {h : Hp} (hh : D89  K h) : CallH Try.prog 89 #[] K h :=
  callH_of mixed Try.func89 x89 [] D89_ok (D89_eq  K h ▸ hh)

/- 50: treadmill/class.Of; slots: 0 n, 1 n, 3 k, 4 s -/
def x50 : Ann := (.seq (.reg [] [(0, [])]) (.seq (.seq (.reg [] [(0, []), (1, [])]) (.blk (.loop [6] [7, 8, 9, 3, 4, 10, 11, 12, 13, 14, 15, 16, 17, 2, 18, 6] (.seq (.reg [] [(0, [])]) (.seq (.cond .leaf .leaf) (.seq (.blk (.seq (.reg [] [(0, []), (1, []), (2, []), (3, [])]) (.seq (.reg [] [(0, []), (1, []), (2, []), (3, []), (4, []), (5, []), (6, [])]) (.cond (.seq (.reg [] [(0, []), (1, [])]) .leaf) .leaf)))) (.reg [] [(0, []), (1, [])]))))))) (.seq (.reg [] [(0, [])]) .leaf)))
def D50 (a0 : Value) (K : Value → Hp → Prop) (h : Hp) : Prop :=
  CallH Try.prog 71 #[] (fun v5 h1 =>
  ∃ I1 : Nat → List Value → Hp → Prop, (∃ n, I1 n [(Value.int .i64 0)] h1) ∧
  ∀ n1 : Nat, ∀ v6 : Value, ∀ h2 : Hp, I1 n1 [v6] h2 → ∀ g1 : St,
    vP (binV .lss v6 (Value.int .i64 16)) fun v7 =>
    vB v7 (vP (ixA false 16 1 v5 v6) fun v9 =>
      vP (binV .geq a0 (Value.int .i64 1)) fun v11 =>
      vP (gdW (gB v11 true) (some a0)) fun v13 =>
      vP (gdW (gB v11 true) (some v9)) fun v14 =>
      vP (gdW (gB v11 true) (binV .leq v13 v14)) fun v15 =>
      vP (pickV v11 v15 (Value.bool false)) fun v16 =>
      vB v16 (K v6 h2)
      (vP (binV .add v6 (Value.int .i64 1)) fun v18 =>
      ∃ m1, m1 < n1 ∧ I1 m1 [v18] h2))
    (K (Value.int .i64 (-1)) h2)) h
theorem D50_eq (a0 : Value) (K : Value → Hp → Prop) (h : Hp) : fnVC Try.prog Try.f50 x50 [a0] K h = D50 a0 K h := by kernel_rfl
theorem D50_ok : fnOk Try.prog Try.f50 x50 1 = true := by kernel_rfl
theorem C50 {a0 : Value} {K : Value → Hp → Prop} {h : Hp} (hh : D50 a0 K h) : CallH Try.prog 50 #[a0] K h :=
  callH_of mixed Try.func50 x50 [a0] D50_ok (D50_eq a0 K h ▸ hh)

/- 51: treadmill/class.Size; slots: 0 k, 1 k -/
def x51 : Ann := (.seq (.reg [] [(0, [])]) (.seq (.seq (.reg [] [(0, []), (1, []), (2, []), (3, []), (4, []), (5, []), (6, [])]) (.cond (.seq (.reg [] [(0, [])]) .leaf) .leaf)) (.seq (.reg [] [(0, []), (1, []), (2, []), (3, [])]) .leaf)))
def D51 (a0 : Value) (K : Value → Hp → Prop) (h : Hp) : Prop :=
  vP (binV .lss a0 (Value.int .i64 0)) fun v4 =>
  vP (gdW (gB v4 false) (some a0)) fun v6 =>
  vE (gB v4 false) (CallH Try.prog 72 #[]) (fun v7 h1 =>
  vP (gdW (gB v4 false) (binV .geq v6 v7)) fun v8 =>
  vP (pickV v4 (Value.bool true) v8) fun v9 =>
  vB v9 (K (Value.int .i64 0) h1)
  (CallH Try.prog 71 #[] (fun v10 h2 =>
  vP (ixA false 16 1 v10 a0) fun v12 =>
  K v12 h2) h1)) h
theorem D51_eq (a0 : Value) (K : Value → Hp → Prop) (h : Hp) : fnVC Try.prog Try.f51 x51 [a0] K h = D51 a0 K h := by kernel_rfl
theorem D51_ok : fnOk Try.prog Try.f51 x51 1 = true := by kernel_rfl
theorem C51 {a0 : Value} {K : Value → Hp → Prop} {h : Hp} (hh : D51 a0 K h) : CallH Try.prog 51 #[a0] K h :=
  callH_of mixed Try.func51 x51 [a0] D51_ok (D51_eq a0 K h ▸ hh)

/- 71: treadmill/class.table; slots:  -/
def x71 : Ann := (.seq (.reg [] [(0, [])]) (.seq (.reg [] [(0, []), (1, [])]) .leaf))
def D71 (K : Value → Hp → Prop) (h : Hp) : Prop :=
  vA (some (Obj.cells #[(Value.int .i64 0), (Value.int .i64 0), (Value.int .i64 0), (Value.int .i64 0), (Value.int .i64 0), (Value.int .i64 0), (Value.int .i64 0), (Value.int .i64 0), (Value.int .i64 0), (Value.int .i64 0), (Value.int .i64 0), (Value.int .i64 0), (Value.int .i64 0), (Value.int .i64 0), (Value.int .i64 0), (Value.int .i64 0)] 78 (0, 0), ptrV)) (fun v0 h1 =>
  vP ((bldV #[(Value.int .i64 0), (Value.int .i64 0), (Value.int .i64 0), (Value.int .i64 0), (Value.int .i64 0), (Value.int .i64 0), (Value.int .i64 0), (Value.int .i64 0), (Value.int .i64 0), (Value.int .i64 0), (Value.int .i64 0), (Value.int .i64 0), (Value.int .i64 0), (Value.int .i64 0), (Value.int .i64 0), (Value.int .i64 0)] [(0, 1, (Value.int .i64 1)), (1, 1, (Value.int .i64 2)), (2, 1, (Value.int .i64 3)), (3, 1, (Value.int .i64 4)), (4, 1, (Value.int .i64 6)), (5, 1, (Value.int .i64 8)), (6, 1, (Value.int .i64 12)), (7, 1, (Value.int .i64 16)), (8, 1, (Value.int .i64 24)), (9, 1, (Value.int .i64 32)), (10, 1, (Value.int .i64 48)), (11, 1, (Value.int .i64 64)), (12, 1, (Value.int .i64 96)), (13, 1, (Value.int .i64 128)), (14, 1, (Value.int .i64 192)), (15, 1, (Value.int .i64 256))]).map Value.agg) fun v1 =>
  stN 16 v0 v1 (fun _ h2 =>
  vP (ldN 16 v0 h2) fun r0 => K r0 h2) h1) h
theorem D71_eq (K : Value → Hp → Prop) (h : Hp) : fnVC Try.prog Try.f71 x71 [] K h = D71  K h := by kernel_rfl
theorem D71_ok : fnOk Try.prog Try.f71 x71 0 = true := by kernel_rfl
theorem C71 {K : Value → Hp → Prop} {h : Hp} (hh : D71  K h) : CallH Try.prog 71 #[] K h :=
  callH_of mixed Try.func71 x71 [] D71_ok (D71_eq  K h ▸ hh)

/- 72: treadmill/class.Count; slots:  -/
def x72 : Ann := (.seq (.reg [] [(0, [])]) (.seq (.reg [] [(0, []), (1, []), (2, [])]) .leaf))
def D72 (K : Value → Hp → Prop) (h : Hp) : Prop :=
  CallH Try.prog 71 #[] (fun v1 h1 =>
  K (Value.int .i64 16) h1) h
theorem D72_eq (K : Value → Hp → Prop) (h : Hp) : fnVC Try.prog Try.f72 x72 [] K h = D72  K h := by kernel_rfl
theorem D72_ok : fnOk Try.prog Try.f72 x72 0 = true := by kernel_rfl
theorem C72 {K : Value → Hp → Prop} {h : Hp} (hh : D72  K h) : CallH Try.prog 72 #[] K h :=
  callH_of mixed Try.func72 x72 [] D72_ok (D72_eq  K h ▸ hh)

/- 86: treadmill/audit.size; slots: 0 o, 1 o, 3 k -/
def x86 : Ann := (.seq (.reg [] [(0, []), (1, [])]) (.seq (.seq (.reg [] [(0, []), (1, []), (2, []), (3, []), (4, [])]) (.seq (.reg [] [(0, []), (1, [])]) (.cond (.seq (.reg [] [(0, []), (1, []), (2, [])]) .leaf) .leaf))) (.seq (.reg [] [(0, [])]) .leaf)))
def D86 (a0 : Value) (K : Value → Hp → Prop) (h : Hp) : Prop :=
  vA (some (Obj.cells (Value.cells a0) 30 (0, 0), ptrV)) (fun v1 h1 =>
  vP (faV 1 v1) fun v4 =>
  vP (ld1 v4 h1) fun v5 =>
  vP (lenV v5) fun v6 =>
  CallH Try.prog 50 #[v6] (fun v7 h2 =>
  vP (binV .geq v7 (Value.int .i64 0)) fun v9 =>
  vB v9 (CallH Try.prog 51 #[v7] (fun v11 h3 =>
    K v11 h3) h2)
  (K (Value.int .i64 0) h2)) h1) h
theorem D86_eq (a0 : Value) (K : Value → Hp → Prop) (h : Hp) : fnVC Try.prog Try.f86 x86 [a0] K h = D86 a0 K h := by kernel_rfl
theorem D86_ok : fnOk Try.prog Try.f86 x86 1 = true := by kernel_rfl
theorem C86 {a0 : Value} {K : Value → Hp → Prop} {h : Hp} (hh : D86 a0 K h) : CallH Try.prog 86 #[a0] K h :=
  callH_of mixed Try.func86 x86 [a0] D86_ok (D86_eq a0 K h ▸ hh)

/- 61: treadmill/treadmillref29.size; slots: 0 o, 1 o -/
def x61 : Ann := (.seq (.reg [] [(0, []), (1, [])]) (.seq (.reg [] [(0, []), (1, []), (2, []), (3, []), (4, []), (5, [])]) .leaf))
def D61 (a0 : Value) (K : Value → Hp → Prop) (h : Hp) : Prop :=
  vA (some (Obj.cells (Value.cells a0) 30 (0, 0), ptrV)) (fun v1 h1 =>
  vP (faV 1 v1) fun v3 =>
  vP (ld1 v3 h1) fun v4 =>
  vP (lenV v4) fun v5 =>
  CallH Try.prog 82 #[v5] (fun v6 h2 =>
  CallH Try.prog 81 #[v6] (fun v7 h3 =>
  K v7 h3) h2) h1) h
theorem D61_eq (a0 : Value) (K : Value → Hp → Prop) (h : Hp) : fnVC Try.prog Try.f61 x61 [a0] K h = D61 a0 K h := by kernel_rfl
theorem D61_ok : fnOk Try.prog Try.f61 x61 1 = true := by kernel_rfl
theorem C61 {a0 : Value} {K : Value → Hp → Prop} {h : Hp} (hh : D61 a0 K h) : CallH Try.prog 61 #[a0] K h :=
  callH_of mixed Try.func61 x61 [a0] D61_ok (D61_eq a0 K h ▸ hh)

end Go.Proofs
