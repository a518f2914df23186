/-
  Texts of the proof, in one file: ArD, LwD, R5D.
-/
import Derived.Test.YtampdifeblndfaaGreatDoorB3
import Derived.Test.YtampdifeblndfaaGreatDoorProg
set_option linter.unusedVariables false
set_option linter.unusedSimpArgs false
/-
  The conditions of some functions, as the printer wrote them out of the dump; the kernel checks that each is the function's own.
-/
set_option maxRecDepth 100000
namespace Go.Proofs
open Go.Sl
def x69 : Ann := (.seq (.reg [] [(0, [])]) (.seq (.reg [] [(0, []), (1, [])]) .leaf))
def D69 (K : Value → Hp → Prop) (h : Hp) : Prop :=
  vA (some (Obj.cells #[(Value.int .i64 0), (Value.int .i64 0), (Value.int .i64 0), (Value.int .i64 0), (Value.int .i64 0), (Value.int .i64 0), (Value.int .i64 0), (Value.int .i64 0), (Value.int .i64 0), (Value.int .i64 0), (Value.int .i64 0), (Value.int .i64 0), (Value.int .i64 0), (Value.int .i64 0), (Value.int .i64 0), (Value.int .i64 0)] 92 (0, 0), ptrV)) (fun v0 h1 =>
  vP ((bldV #[(Value.int .i64 0), (Value.int .i64 0), (Value.int .i64 0), (Value.int .i64 0), (Value.int .i64 0), (Value.int .i64 0), (Value.int .i64 0), (Value.int .i64 0), (Value.int .i64 0), (Value.int .i64 0), (Value.int .i64 0), (Value.int .i64 0), (Value.int .i64 0), (Value.int .i64 0), (Value.int .i64 0), (Value.int .i64 0)] [(0, 1, (Value.int .i64 1)), (1, 1, (Value.int .i64 2)), (2, 1, (Value.int .i64 3)), (3, 1, (Value.int .i64 4)), (4, 1, (Value.int .i64 6)), (5, 1, (Value.int .i64 8)), (6, 1, (Value.int .i64 12)), (7, 1, (Value.int .i64 16)), (8, 1, (Value.int .i64 24)), (9, 1, (Value.int .i64 32)), (10, 1, (Value.int .i64 48)), (11, 1, (Value.int .i64 64)), (12, 1, (Value.int .i64 96)), (13, 1, (Value.int .i64 128)), (14, 1, (Value.int .i64 192)), (15, 1, (Value.int .i64 256))]).map Value.agg) fun v1 =>
  stN 16 v0 v1 (fun _ h2 =>
  vP (ldN 16 v0 h2) fun r0 => K r0 h2) h1) h
theorem D69_eq (K : Value → Hp → Prop) (h : Hp) : fnVC Tryz.prog Tryz.f69 x69 [] K h = D69  K h := by kernel_rfl
theorem D69_ok : fnOk Tryz.prog Tryz.f69 x69 0 = true := by kernel_rfl
theorem C69 {K : Value → Hp → Prop} {h : Hp} (hh : D69  K h) : CallH Tryz.prog 69 #[] K h :=
  callH_of mixed Tryz.func69 x69 [] D69_ok (D69_eq  K h ▸ hh)
def x68 : Ann := (.seq (.reg [] [(0, [])]) (.seq (.reg [] [(0, []), (1, []), (2, [])]) .leaf))
def D68 (K : Value → Hp → Prop) (h : Hp) : Prop :=
  CallH Tryz.prog 69 #[] (fun v1 h1 =>
  K (Value.int .i64 16) h1) h
theorem D68_eq (K : Value → Hp → Prop) (h : Hp) : fnVC Tryz.prog Tryz.f68 x68 [] K h = D68  K h := by kernel_rfl
theorem D68_ok : fnOk Tryz.prog Tryz.f68 x68 0 = true := by kernel_rfl
theorem C68 {K : Value → Hp → Prop} {h : Hp} (hh : D68  K h) : CallH Tryz.prog 68 #[] K h :=
  callH_of mixed Tryz.func68 x68 [] D68_ok (D68_eq  K h ▸ hh)
def x31 : Ann := (.seq (.reg [] [(0, [])]) (.seq (.seq (.reg [] [(0, []), (1, []), (2, []), (3, []), (4, []), (5, []), (6, [])]) (.cond (.seq (.reg [] [(0, [])]) .leaf) .leaf)) (.seq (.reg [] [(0, []), (1, []), (2, []), (3, [])]) .leaf)))
def D31 (a0 : Value) (K : Value → Hp → Prop) (h : Hp) : Prop :=
  vP (binV .lss a0 (Value.int .i64 0)) fun v4 =>
  vP (gdW (gB v4 false) (some a0)) fun v6 =>
  vE (gB v4 false) (CallH Tryz.prog 68 #[]) (fun v7 h1 =>
  vP (gdW (gB v4 false) (binV .geq v6 v7)) fun v8 =>
  vP (pickV v4 (Value.bool true) v8) fun v9 =>
  vB v9 (K (Value.int .i64 0) h1)
  (CallH Tryz.prog 69 #[] (fun v10 h2 =>
  vP (ixA false 16 1 v10 a0) fun v12 =>
  K v12 h2) h1)) h
theorem D31_eq (a0 : Value) (K : Value → Hp → Prop) (h : Hp) : fnVC Tryz.prog Tryz.f31 x31 [a0] K h = D31 a0 K h := by kernel_rfl
theorem D31_ok : fnOk Tryz.prog Tryz.f31 x31 1 = true := by kernel_rfl
theorem C31 {a0 : Value} {K : Value → Hp → Prop} {h : Hp} (hh : D31 a0 K h) : CallH Tryz.prog 31 #[a0] K h :=
  callH_of mixed Tryz.func31 x31 [a0] D31_ok (D31_eq a0 K h ▸ hh)
def x33 : Ann := (.seq (.reg [] [(0, [])]) (.seq (.reg [] [(0, []), (1, []), (2, [])]) (.seq (.seq (.reg [] [(0, []), (1, [])]) (.cond (.seq (.reg [] [(0, [])]) .leaf) .leaf)) (.seq (.reg [] [(0, [])]) (.blk (.loop [4] [12, 13, 5, 14, 15, 16, 17, 18, 19, 20, 21, 22, 23, 24, 2, 10, 11, 4] (.seq (.blk (.seq (.reg [] [(0, []), (1, []), (2, [])]) (.seq (.reg [0, 0, 3, 7, 0, 0, 0, 96, 240, 511] [(0, []), (1, []), (2, []), (3, []), (4, []), (5, []), (6, []), (7, []), (8, []), (9, [])]) (.cond (.seq (.reg [] [(0, []), (1, [])]) .leaf) .leaf)))) (.reg [] [(0, []), (1, []), (2, [])]))))))))
def D33 (a0 : Value) (K : Value → Hp → Prop) (h : Hp) : Prop :=
  CallH Tryz.prog 31 #[a0] (fun v7 h1 =>
  vP (eqV 1 false v7 (Value.int .i64 0)) fun v9 =>
  vB v9 (K (Value.int .i64 0) h1)
  (∃ I1 : Nat → List Value → Hp → Prop, (∃ n, I1 n [(Value.int .i64 1)] h1) ∧
  ∀ n1 : Nat, ∀ v4 : Value, ∀ h2 : Hp, I1 n1 [v4] h2 → ∀ g1 : St,
    vP (binV .mul v4 (Value.int .i64 64)) fun v13 =>
    vP (binV .rem v13 v7) fun v16 =>
    vP (binV .mul v16 (Value.int .i64 8)) fun v17 =>
    vP (binV .rem v13 v7) fun v21 =>
    vP (binV .sub v13 v21) fun v22 =>
    vP (binV .leq v17 v22) fun v23 =>
    vB v23 (K v4 h2)
    (vP (binV .add v4 (Value.int .i64 1)) fun v11 =>
    ∃ m1, m1 < n1 ∧ I1 m1 [v11] h2))) h
theorem D33_eq (a0 : Value) (K : Value → Hp → Prop) (h : Hp) : fnVC Tryz.prog Tryz.f33 x33 [a0] K h = D33 a0 K h := by kernel_rfl
theorem D33_ok : fnOk Tryz.prog Tryz.f33 x33 1 = true := by kernel_rfl
theorem C33 {a0 : Value} {K : Value → Hp → Prop} {h : Hp} (hh : D33 a0 K h) : CallH Tryz.prog 33 #[a0] K h :=
  callH_of mixed Tryz.func33 x33 [a0] D33_ok (D33_eq a0 K h ▸ hh)
def x74 : Ann := (.seq (.reg [] [(0, [])]) (.seq (.seq (.reg [] [(0, []), (1, []), (2, [])]) (.seq (.reg [] [(0, []), (1, [])]) (.cond (.seq (.reg [] [(0, []), (1, []), (2, []), (3, []), (4, []), (5, [])]) .leaf) .leaf))) (.seq (.reg [] [(0, [])]) .leaf)))
def D74 (a0 : Value) (K : Value → Hp → Prop) (h : Hp) : Prop :=
  CallH Tryz.prog 31 #[a0] (fun v5 h1 =>
  vP (binV .gtr v5 (Value.int .i64 0)) fun v7 =>
  vB v7 (CallH Tryz.prog 33 #[a0] (fun v9 h2 =>
    vP (binV .mul v9 (Value.int .i64 64)) fun v10 =>
    vP (binV .quo v10 v5) fun v12 =>
    K v12 h2) h1)
  (K (Value.int .i64 0) h1)) h
theorem D74_eq (a0 : Value) (K : Value → Hp → Prop) (h : Hp) : fnVC Tryz.prog Tryz.f74 x74 [a0] K h = D74 a0 K h := by kernel_rfl
theorem D74_ok : fnOk Tryz.prog Tryz.f74 x74 1 = true := by kernel_rfl
theorem C74 {a0 : Value} {K : Value → Hp → Prop} {h : Hp} (hh : D74 a0 K h) : CallH Tryz.prog 74 #[a0] K h :=
  callH_of mixed Tryz.func74 x74 [a0] D74_ok (D74_eq a0 K h ▸ hh)
def x75 : Ann := (.seq (.reg [] [(0, [])]) (.seq (.reg [] [(0, []), (1, []), (2, []), (3, [])]) (.seq (.reg [] [(0, []), (1, []), (2, []), (3, []), (4, []), (5, []), (6, []), (7, [])]) .leaf)))
def D75 (a0 : Value) (K : Value → Hp → Prop) (h : Hp) : Prop :=
  vP (max2V a0 (Value.int .i64 0)) fun v4 =>
  vP (min2V v4 (Value.int .i64 16777216)) fun v5 =>
  vP (binV .add v5 (Value.int .i64 63)) fun v8 =>
  vP (binV .quo v8 (Value.int .i64 64)) fun v9 =>
  vA (msV 8 1 122 #[(Value.int .u64 0)] v9 v9) (fun v10 h1 =>
  vP ((bldV #[(Value.int .i64 0), (Value.slice none 0 0), (Value.int .i64 0)] [(0, 1, v5), (1, 1, v10)]).map Value.agg) fun v11 =>
  vA (some (Obj.cells (Value.cells v11) 121 (0, 0), ptrV)) (fun v12 h2 =>
  K v12 h2) h1) h
theorem D75_eq (a0 : Value) (K : Value → Hp → Prop) (h : Hp) : fnVC Tryz.prog Tryz.f75 x75 [a0] K h = D75 a0 K h := by kernel_rfl
theorem D75_ok : fnOk Tryz.prog Tryz.f75 x75 1 = true := by kernel_rfl
theorem C75 {a0 : Value} {K : Value → Hp → Prop} {h : Hp} (hh : D75 a0 K h) : CallH Tryz.prog 75 #[a0] K h :=
  callH_of mixed Tryz.func75 x75 [a0] D75_ok (D75_eq a0 K h ▸ hh)
def x107 : Ann := (.seq (.reg [] [(0, [])]) (.seq (.seq (.reg [] [(0, []), (1, [])]) (.cond (.seq (.reg [] [(0, [])]) .leaf) .leaf)) (.seq (.reg [] [(0, []), (1, []), (2, []), (3, []), (4, [])]) .leaf)))
def D107 (a0 : Value) (K : Value → Hp → Prop) (h : Hp) : Prop :=
  vP (eqV 4 false a0 (Value.pointer none)) fun v4 =>
  vB v4 (K (Value.int .i64 0) h)
  (vP (nilV a0) fun v6 =>
  vP (faV 0 v6) fun v7 =>
  vP (ld1 v7 h) fun v8 =>
  K v8 h)
theorem D107_eq (a0 : Value) (K : Value → Hp → Prop) (h : Hp) : fnVC Tryz.prog Tryz.f107 x107 [a0] K h = D107 a0 K h := by kernel_rfl
theorem D107_ok : fnOk Tryz.prog Tryz.f107 x107 1 = true := by kernel_rfl
theorem C107 {a0 : Value} {K : Value → Hp → Prop} {h : Hp} (hh : D107 a0 K h) : CallH Tryz.prog 107 #[a0] K h :=
  callH_of mixed Tryz.func107 x107 [a0] D107_ok (D107_eq a0 K h ▸ hh)
def x85 : Ann := (.seq (.reg [] [(0, [])]) (.seq (.reg [] [(0, []), (1, []), (2, []), (3, []), (4, []), (5, []), (6, []), (7, []), (8, []), (9, []), (10, []), (11, []), (12, []), (13, []), (14, []), (15, []), (16, []), (17, []), (18, []), (19, []), (20, []), (21, []), (22, []), (23, []), (24, []), (25, []), (26, []), (27, []), (28, []), (29, []), (30, [])]) .leaf))
def D85 (a0 a1 : Value) (K : Value → Hp → Prop) (h : Hp) : Prop :=
  vP (eqV 4 true a0 (Value.pointer none)) fun v6 =>
  vP (gdW (gB v6 true) (some a1)) fun v8 =>
  vP (gdW (gB v6 true) (binV .geq v8 (Value.int .i64 0))) fun v9 =>
  vP (pickV v6 v9 (Value.bool false)) fun v10 =>
  vP (gdW (gB v10 true) (some a1)) fun v12 =>
  vP (gdW (gB v10 true) (some a0)) fun v13 =>
  vP (gdW (gB v10 true) (nilV v13)) fun v14 =>
  vP (gdW (gB v10 true) (faV 0 v14)) fun v15 =>
  vP (gdW (gB v10 true) (ld1 v15 h)) fun v16 =>
  vP (gdW (gB v10 true) (binV .lss v12 v16)) fun v17 =>
  vP (pickV v10 v17 (Value.bool false)) fun v18 =>
  vP (gdW (gB v18 true) (some a0)) fun v20 =>
  vP (gdW (gB v18 true) (nilV v20)) fun v21 =>
  vP (gdW (gB v18 true) (faV 1 v21)) fun v22 =>
  vP (gdW (gB v18 true) (ld1 v22 h)) fun v23 =>
  vP (gdW (gB v18 true) (some a1)) fun v24 =>
  vP (gdW (gB v18 true) (binV .quo v24 (Value.int .i64 64))) fun v25 =>
  vP (gdW (gB v18 true) (iaS 1 v23 v25)) fun v26 =>
  vP (gdW (gB v18 true) (ld1 v26 h)) fun v27 =>
  vP (gdW (gB v18 true) (some a1)) fun v28 =>
  vP (gdW (gB v18 true) (binV .rem v28 (Value.int .i64 64))) fun v29 =>
  vP (gdW (gB v18 true) (convV .u64 v29)) fun v30 =>
  vP (gdW (gB v18 true) (binV .shr v27 v30)) fun v31 =>
  vP (gdW (gB v18 true) (binV .and v31 (Value.int .u64 1))) fun v32 =>
  vP (gdW (gB v18 true) (eqV 1 false v32 (Value.int .u64 1))) fun v33 =>
  vP (pickV v18 v33 (Value.bool false)) fun v34 =>
  K v34 h
theorem D85_eq (a0 a1 : Value) (K : Value → Hp → Prop) (h : Hp) : fnVC Tryz.prog Tryz.f85 x85 [a0, a1] K h = D85 a0 a1 K h := by kernel_rfl
theorem D85_ok : fnOk Tryz.prog Tryz.f85 x85 2 = true := by kernel_rfl
theorem C85 {a0 a1 : Value} {K : Value → Hp → Prop} {h : Hp} (hh : D85 a0 a1 K h) : CallH Tryz.prog 85 #[a0, a1] K h :=
  callH_of mixed Tryz.func85 x85 [a0, a1] D85_ok (D85_eq a0 a1 K h ▸ hh)
def x106 : Ann := (.seq (.reg [] [(0, []), (1, []), (2, []), (3, []), (4, []), (5, []), (6, []), (7, []), (8, []), (9, []), (10, []), (11, []), (12, []), (13, []), (14, [])]) (.reg [] [(0, []), (1, []), (2, []), (3, []), (4, []), (5, []), (6, []), (7, []), (8, []), (9, [])]))
def D106 (a0 a1 a2 : Value) (K : Value → Hp → Prop) (h : Hp) : Prop :=
  vP (nilV a0) fun v7 =>
  vP (faV 1 v7) fun v8 =>
  vP (ld1 v8 h) fun v9 =>
  vP (binV .quo a1 (Value.int .i64 64)) fun v11 =>
  vP (iaS 1 v9 v11) fun v12 =>
  vP (ld1 v12 h) fun v13 =>
  vP (binV .rem a1 (Value.int .i64 64)) fun v15 =>
  vP (convV .u64 v15) fun v16 =>
  vP (binV .shl (Value.int .u64 1) v16) fun v17 =>
  vP (binV .xor v13 v17) fun v18 =>
  vP (iaS 1 v9 v11) fun v19 =>
  st1 v19 v18 (fun _ h1 =>
  vP (nilV a0) fun v22 =>
  vP (faV 2 v22) fun v23 =>
  vP (ld1 v23 h1) fun v24 =>
  vP (binV .add v24 a2) fun v26 =>
  vP (nilV a0) fun v27 =>
  vP (faV 2 v27) fun v28 =>
  st1 v28 v26 (fun _ h2 =>
  K (Value.tuple #[]) h2) h1) h
theorem D106_eq (a0 a1 a2 : Value) (K : Value → Hp → Prop) (h : Hp) : fnVC Tryz.prog Tryz.f106 x106 [a0, a1, a2] K h = D106 a0 a1 a2 K h := by kernel_rfl
theorem D106_ok : fnOk Tryz.prog Tryz.f106 x106 3 = true := by kernel_rfl
theorem C106 {a0 a1 a2 : Value} {K : Value → Hp → Prop} {h : Hp} (hh : D106 a0 a1 a2 K h) : CallH Tryz.prog 106 #[a0, a1, a2] K h :=
  callH_of mixed Tryz.func106 x106 [a0, a1, a2] D106_ok (D106_eq a0 a1 a2 K h ▸ hh)
def x79 : Ann := (.seq (.reg [] [(0, [])]) (.seq (.seq (.reg [] [(0, []), (1, []), (2, []), (3, []), (4, []), (5, []), (6, []), (7, []), (8, []), (9, []), (10, []), (11, []), (12, []), (13, []), (14, []), (15, []), (16, []), (17, []), (18, [])]) (.cond (.seq (.reg [] [(0, [])]) .leaf) .leaf)) (.seq (.reg [] [(0, []), (1, []), (2, [])]) (.seq (.reg [] [(0, [])]) .leaf))))
def D79 (a0 a1 : Value) (K : Value → Hp → Prop) (h : Hp) : Prop :=
  vP (eqV 4 false a0 (Value.pointer none)) fun v6 =>
  vP (gdW (gB v6 false) (some a1)) fun v8 =>
  vP (gdW (gB v6 false) (binV .lss v8 (Value.int .i64 0))) fun v9 =>
  vP (pickV v6 (Value.bool true) v9) fun v10 =>
  vP (gdW (gB v10 false) (some a1)) fun v12 =>
  vP (gdW (gB v10 false) (some a0)) fun v13 =>
  vP (gdW (gB v10 false) (nilV v13)) fun v14 =>
  vP (gdW (gB v10 false) (faV 0 v14)) fun v15 =>
  vP (gdW (gB v10 false) (ld1 v15 h)) fun v16 =>
  vP (gdW (gB v10 false) (binV .geq v12 v16)) fun v17 =>
  vP (pickV v10 (Value.bool true) v17) fun v18 =>
  vP (gdW (gB v18 false) (some a0)) fun v20 =>
  vP (gdW (gB v18 false) (some a1)) fun v21 =>
  vE (gB v18 false) (CallH Tryz.prog 85 #[v20, v21]) (fun v22 h1 =>
  vP (pickV v18 (Value.bool true) v22) fun v23 =>
  vB v23 (K (Value.bool false) h1)
  (CallH Tryz.prog 106 #[a0, a1, (Value.int .i64 1)] (fun v26 h2 =>
  K (Value.bool true) h2) h1)) h
theorem D79_eq (a0 a1 : Value) (K : Value → Hp → Prop) (h : Hp) : fnVC Tryz.prog Tryz.f79 x79 [a0, a1] K h = D79 a0 a1 K h := by kernel_rfl
theorem D79_ok : fnOk Tryz.prog Tryz.f79 x79 2 = true := by kernel_rfl
theorem C79 {a0 a1 : Value} {K : Value → Hp → Prop} {h : Hp} (hh : D79 a0 a1 K h) : CallH Tryz.prog 79 #[a0, a1] K h :=
  callH_of mixed Tryz.func79 x79 [a0, a1] D79_ok (D79_eq a0 a1 K h ▸ hh)
def x87 : Ann := (.seq (.reg [] [(0, [])]) (.seq (.seq (.reg [] [(0, []), (1, []), (2, []), (3, [])]) (.cond (.seq (.reg [] [(0, [])]) .leaf) .leaf)) (.seq (.reg [] [(0, []), (1, []), (2, [])]) (.seq (.reg [] [(0, [])]) .leaf))))
def D87 (a0 a1 : Value) (K : Value → Hp → Prop) (h : Hp) : Prop :=
  CallH Tryz.prog 85 #[a0, a1] (fun v7 h1 =>
  vP (unV .not v7) fun v8 =>
  vB v8 (K (Value.bool false) h1)
  (CallH Tryz.prog 106 #[a0, a1, (Value.int .i64 (-1))] (fun v11 h2 =>
  K (Value.bool true) h2) h1)) h
theorem D87_eq (a0 a1 : Value) (K : Value → Hp → Prop) (h : Hp) : fnVC Tryz.prog Tryz.f87 x87 [a0, a1] K h = D87 a0 a1 K h := by kernel_rfl
theorem D87_ok : fnOk Tryz.prog Tryz.f87 x87 2 = true := by kernel_rfl
theorem C87 {a0 a1 : Value} {K : Value → Hp → Prop} {h : Hp} (hh : D87 a0 a1 K h) : CallH Tryz.prog 87 #[a0, a1] K h :=
  callH_of mixed Tryz.func87 x87 [a0, a1] D87_ok (D87_eq a0 a1 K h ▸ hh)
def x77 : Ann := (.seq (.reg [] [(0, [])]) (.seq (.seq (.reg [] [(0, []), (1, []), (2, []), (3, []), (4, []), (5, []), (6, []), (7, []), (8, []), (9, [])]) (.cond (.seq (.reg [] [(0, [])]) .leaf) .leaf)) (.seq (.seq (.reg [] [(0, []), (1, []), (2, [])]) (.blk (.loop [1] [20, 21, 22, 23, 24, 25, 30, 31, 32, 33, 34, 35, 36, 37, 7, 38, 39, 40, 41, 42, 43, 44, 45, 46, 47, 48, 49, 50, 51, 52, 1, 53, 54, 55, 56, 57, 58, 59, 6, 26, 27, 28, 29] (.seq (.seq (.reg [] [(0, []), (1, []), (2, []), (3, []), (4, []), (5, [])]) (.cond .leaf .leaf)) (.seq (.blk (.seq (.reg [] [(0, []), (1, []), (2, []), (3, []), (4, []), (5, []), (6, []), (7, []), (8, [])]) (.join [7] [38, 39, 40, 41, 7] (.seq (.reg [] [(0, []), (1, [])]) (.cond (.reg [] [(0, []), (1, []), (2, [])]) .leaf)) (.seq (.reg [] [(0, []), (1, []), (2, []), (3, []), (4, []), (5, [])]) (.seq (.reg [] [(0, []), (1, [])]) (.cond (.seq (.seq (.reg [] [(0, []), (1, []), (2, []), (3, []), (4, [])]) (.seq (.reg [] [(0, []), (1, []), (2, []), (3, []), (4, []), (5, [])]) (.cond (.seq (.reg [] [(0, []), (1, [])]) .leaf) .leaf))) (.seq (.reg [] [(0, [])]) .leaf)) .leaf)))))) (.reg [] [(0, []), (1, []), (2, []), (3, []), (4, [])])))))) (.seq (.reg [] [(0, [])]) .leaf))))
def D77 (a0 a1 a2 : Value) (K : Value → Hp → Prop) (h : Hp) : Prop :=
  vP (eqV 4 false a0 (Value.pointer none)) fun v9 =>
  vP (gdW (gB v9 false) (some a1)) fun v11 =>
  vP (gdW (gB v9 false) (some a0)) fun v12 =>
  vP (gdW (gB v9 false) (nilV v12)) fun v13 =>
  vP (gdW (gB v9 false) (faV 0 v13)) fun v14 =>
  vP (gdW (gB v9 false) (ld1 v14 h)) fun v15 =>
  vP (gdW (gB v9 false) (binV .geq v11 v15)) fun v16 =>
  vP (pickV v9 (Value.bool true) v16) fun v17 =>
  vB v17 (K (Value.int .i64 (-1)) h)
  (vP (max2V a1 (Value.int .i64 0)) fun v19 =>
  ∃ I1 : Nat → List Value → Hp → Prop, (∃ n, I1 n [v19] h) ∧
  ∀ n1 : Nat, ∀ v1 : Value, ∀ h1 : Hp, I1 n1 [v1] h1 → ∀ g1 : St,
    vP (nilV a0) fun v22 =>
    vP (faV 0 v22) fun v23 =>
    vP (ld1 v23 h1) fun v24 =>
    vP (binV .lss v1 v24) fun v25 =>
    vB v25 (vP (nilV a0) fun v31 =>
      vP (faV 1 v31) fun v32 =>
      vP (ld1 v32 h1) fun v33 =>
      vP (binV .quo v1 (Value.int .i64 64)) fun v35 =>
      vP (iaS 1 v33 v35) fun v36 =>
      vP (ld1 v36 h1) fun v37 =>
      ∀ J2 : List Value → Hp → Prop, (∀ v7 : Value, ∀ h2 : Hp, (∀ g2 : St,
        vP (binV .rem v1 (Value.int .i64 64)) fun v44 =>
        vP (convV .u64 v44) fun v45 =>
        vP (binV .shr v7 v45) fun v46 =>
        vP (eqV 1 true v46 (Value.int .u64 0)) fun v48 =>
        vB v48 (CallH Tryz.prog 104 #[v46] (fun v51 h3 =>
          vP (binV .add v1 v51) fun v52 =>
          vP (nilV a0) fun v55 =>
          vP (faV 0 v55) fun v56 =>
          vP (ld1 v56 h3) fun v57 =>
          vP (binV .lss v52 v57) fun v58 =>
          vB v58 (K v52 h3)
          (K (Value.int .i64 (-1)) h3)) h2)
        (vP (binV .quo v1 (Value.int .i64 64)) fun v27 =>
        vP (binV .add v27 (Value.int .i64 1)) fun v28 =>
        vP (binV .mul v28 (Value.int .i64 64)) fun v29 =>
        ∃ m1, m1 < n1 ∧ I1 m1 [v29] h2)) → J2 [v7] h2) →
      vP (unV .not a2) fun v39 =>
      vB v39 (vP (unV .xor v37) fun v41 =>
        J2 [v41] h1)
      (J2 [v37] h1))
    (K (Value.int .i64 (-1)) h1))
theorem D77_eq (a0 a1 a2 : Value) (K : Value → Hp → Prop) (h : Hp) : fnVC Tryz.prog Tryz.f77 x77 [a0, a1, a2] K h = D77 a0 a1 a2 K h := by kernel_rfl
theorem D77_ok : fnOk Tryz.prog Tryz.f77 x77 3 = true := by kernel_rfl
theorem C77 {a0 a1 a2 : Value} {K : Value → Hp → Prop} {h : Hp} (hh : D77 a0 a1 a2 K h) : CallH Tryz.prog 77 #[a0, a1, a2] K h :=
  callH_of mixed Tryz.func77 x77 [a0, a1, a2] D77_ok (D77_eq a0 a1 a2 K h ▸ hh)
def x81 : Ann := (.seq (.reg [] [(0, [])]) (.seq (.seq (.reg [] [(0, []), (1, [])]) (.cond (.seq (.reg [] [(0, [])]) .leaf) .leaf)) (.seq (.reg [] [(0, []), (1, []), (2, []), (3, []), (4, [])]) .leaf)))
def D81 (a0 : Value) (K : Value → Hp → Prop) (h : Hp) : Prop :=
  vP (eqV 4 false a0 (Value.pointer none)) fun v4 =>
  vB v4 (K (Value.int .i64 0) h)
  (vP (nilV a0) fun v6 =>
  vP (faV 2 v6) fun v7 =>
  vP (ld1 v7 h) fun v8 =>
  K v8 h)
theorem D81_eq (a0 : Value) (K : Value → Hp → Prop) (h : Hp) : fnVC Tryz.prog Tryz.f81 x81 [a0] K h = D81 a0 K h := by kernel_rfl
theorem D81_ok : fnOk Tryz.prog Tryz.f81 x81 1 = true := by kernel_rfl
theorem C81 {a0 : Value} {K : Value → Hp → Prop} {h : Hp} (hh : D81 a0 K h) : CallH Tryz.prog 81 #[a0] K h :=
  callH_of mixed Tryz.func81 x81 [a0] D81_ok (D81_eq a0 K h ▸ hh)
def x86 : Ann := (.seq (.reg [] [(0, [])]) (.seq (.reg [] [(0, [])]) (.seq (.seq (.reg [] [(0, []), (1, []), (2, [])]) (.blk (.loop [7, 3] [8, 4, 9, 10, 11, 12, 13, 14, 15, 16, 17, 18, 19, 20, 21, 22, 23, 24, 3, 25, 7] (.seq (.reg [] [(0, [])]) (.seq (.cond .leaf .leaf) (.seq (.blk (.seq (.reg [] [(0, [])]) (.join [4] [9, 10, 11, 12, 13, 14, 15, 16, 17, 18, 4] (.seq (.reg [] [(0, []), (1, []), (2, [])]) (.cond (.reg [] [(0, []), (1, []), (2, []), (3, []), (4, []), (5, []), (6, []), (7, [])]) .leaf)) (.reg [] [(0, []), (1, []), (2, []), (3, []), (4, []), (5, []), (6, [])])))) (.reg [] [(0, []), (1, [])]))))))) (.seq (.reg [] [(0, []), (1, [])]) .leaf))))
def D86 (a0 : Value) (K : Value → Hp → Prop) (h : Hp) : Prop :=
  CallH Tryz.prog 81 #[a0] (fun v6 h1 =>
  ∃ I1 : Nat → List Value → Hp → Prop, (∃ n, I1 n [(Value.int .i64 0), (Value.slice none 0 0)] h1) ∧
  ∀ n1 : Nat, ∀ v7 v3 : Value, ∀ h2 : Hp, I1 n1 [v7, v3] h2 → ∀ g1 : St,
    vP (binV .lss v7 v6) fun v8 =>
    vB v8 (∀ J2 : List Value → Hp → Prop, (∀ v4 : Value, ∀ h3 : Hp, (∀ g2 : St,
        CallH Tryz.prog 77 #[a0, v4, (Value.bool true)] (fun v22 h4 =>
        vA ((bldV #[(Value.int .i64 0)] [(0, 1, v22)]).map fun c => (Obj.cells c 3 (0, 0), fun r => Value.slice (some ⟨r, 0, none⟩) 1 1)) (fun v23 h5 =>
        apW Tryz.prog #[22, 22] 22 v3 v23 (fun v24 h6 =>
        vP (binV .add v7 (Value.int .i64 1)) fun v25 =>
        ∃ m1, m1 < n1 ∧ I1 m1 [v25, v24] h6) h5) h4) h3) → J2 [v4] h3) →
      vP (lenV v3) fun v10 =>
      vP (binV .gtr v10 (Value.int .i64 0)) fun v11 =>
      vB v11 (vP (lenV v3) fun v14 =>
        vP (binV .sub v14 (Value.int .i64 1)) fun v15 =>
        vP (iaS 1 v3 v15) fun v16 =>
        vP (ld1 v16 h2) fun v17 =>
        vP (binV .add v17 (Value.int .i64 1)) fun v18 =>
        J2 [v18] h2)
      (J2 [(Value.int .i64 0)] h2))
    (K v3 h2)) h
theorem D86_eq (a0 : Value) (K : Value → Hp → Prop) (h : Hp) : fnVC Tryz.prog Tryz.f86 x86 [a0] K h = D86 a0 K h := by kernel_rfl
theorem D86_ok : fnOk Tryz.prog Tryz.f86 x86 1 = true := by kernel_rfl
theorem C86 {a0 : Value} {K : Value → Hp → Prop} {h : Hp} (hh : D86 a0 K h) : CallH Tryz.prog 86 #[a0] K h :=
  callH_of mixed Tryz.func86 x86 [a0] D86_ok (D86_eq a0 K h ▸ hh)
def x104 : Ann := (.seq (.reg [] [(0, [])]) (.seq (.seq (.reg [] [(0, []), (1, [])]) (.cond (.seq (.reg [] [(0, [])]) .leaf) .leaf)) (.seq (.reg [] [(0, []), (1, []), (2, []), (3, []), (4, []), (5, []), (6, []), (7, []), (8, []), (9, [])]) .leaf)))
def D104 (a0 : Value) (K : Value → Hp → Prop) (h : Hp) : Prop :=
  vP (eqV 1 false a0 (Value.int .u64 0)) fun v4 =>
  vB v4 (K (Value.int .i64 64) h)
  (vP (unV .neg a0) fun v7 =>
  vP (binV .and a0 v7) fun v8 =>
  vP (binV .mul v8 (Value.int .u64 285870213051353865)) fun v9 =>
  vP (binV .shr v9 (Value.int .u64 58)) fun v10 =>
  vP (iaA 64 1 (Value.pointer (some ⟨0, 0, none⟩)) v10) fun v11 =>
  vP (ld1 v11 h) fun v12 =>
  vP (convV .i64 v12) fun v13 =>
  K v13 h)
theorem D104_eq (a0 : Value) (K : Value → Hp → Prop) (h : Hp) : fnVC Tryz.prog Tryz.f104 x104 [a0] K h = D104 a0 K h := by kernel_rfl
theorem D104_ok : fnOk Tryz.prog Tryz.f104 x104 1 = true := by kernel_rfl
theorem C104 {a0 : Value} {K : Value → Hp → Prop} {h : Hp} (hh : D104 a0 K h) : CallH Tryz.prog 104 #[a0] K h :=
  callH_of mixed Tryz.func104 x104 [a0] D104_ok (D104_eq a0 K h ▸ hh)
def x34 : Ann := (.seq (.reg [] [(0, []), (1, [])]) (.seq (.seq (.reg [] [(0, []), (1, []), (2, []), (3, []), (4, []), (5, []), (6, []), (7, []), (8, []), (9, []), (10, [])]) (.cond (.seq (.reg [] [(0, []), (1, [])]) .leaf) .leaf)) (.seq (.reg [] [(0, []), (1, []), (2, [])]) (.seq (.reg [] [(0, []), (1, []), (2, []), (3, []), (4, []), (5, []), (6, []), (7, []), (8, []), (9, [])]) .leaf))))
def D34 (a0 a1 : Value) (K : Value → Hp → Prop) (h : Hp) : Prop :=
  CallH Tryz.prog 31 #[a1] (fun v8 h1 =>
  vP (eqV 1 false v8 (Value.int .i64 0)) fun v9 =>
  vP (gdW (gB v9 false) (some a0)) fun v11 =>
  vP (gdW (gB v9 false) (binV .lss v11 (Value.int .i64 1))) fun v12 =>
  vP (pickV v9 (Value.bool true) v12) fun v13 =>
  vP (gdW (gB v13 false) (some a0)) fun v15 =>
  vP (gdW (gB v13 false) (binV .gtr v15 (Value.int .i64 262144))) fun v16 =>
  vP (pickV v13 (Value.bool true) v16) fun v17 =>
  vB v17 (K (Value.tuple #[(Value.pointer none), (Value.int .i64 1)]) h1)
  (CallH Tryz.prog 74 #[a1] (fun v19 h2 =>
  CallH Tryz.prog 75 #[v19] (fun v23 h3 =>
  CallH Tryz.prog 75 #[v19] (fun v25 h4 =>
  vP ((bldV #[(Value.int .i64 0), (Value.int .i64 0), (Value.pointer none), (Value.pointer none), (Value.int .i64 0)] [(0, 1, a0), (1, 1, a1), (2, 1, v23), (3, 1, v25)]).map Value.agg) fun v26 =>
  vA (some (Obj.cells (Value.cells v26) 103 (0, 0), ptrV)) (fun v27 h5 =>
  K (Value.tuple #[v27, (Value.int .i64 0)]) h5) h4) h3) h2) h1)) h
theorem D34_eq (a0 a1 : Value) (K : Value → Hp → Prop) (h : Hp) : fnVC Tryz.prog Tryz.f34 x34 [a0, a1] K h = D34 a0 a1 K h := by kernel_rfl
theorem D34_ok : fnOk Tryz.prog Tryz.f34 x34 2 = true := by kernel_rfl
theorem C34 {a0 a1 : Value} {K : Value → Hp → Prop} {h : Hp} (hh : D34 a0 a1 K h) : CallH Tryz.prog 34 #[a0, a1] K h :=
  callH_of mixed Tryz.func34 x34 [a0, a1] D34_ok (D34_eq a0 a1 K h ▸ hh)
def x36 : Ann := (.seq (.reg [] [(0, [])]) (.seq (.seq (.reg [] [(0, []), (1, [])]) (.cond (.seq (.reg [] [(0, [])]) .leaf) .leaf)) (.seq (.reg [] [(0, []), (1, []), (2, []), (3, []), (4, [])]) .leaf)))
def D36 (a0 : Value) (K : Value → Hp → Prop) (h : Hp) : Prop :=
  vP (eqV 4 false a0 (Value.pointer none)) fun v4 =>
  vB v4 (K (Value.int .i64 0) h)
  (vP (nilV a0) fun v6 =>
  vP (faV 1 v6) fun v7 =>
  vP (ld1 v7 h) fun v8 =>
  K v8 h)
theorem D36_eq (a0 : Value) (K : Value → Hp → Prop) (h : Hp) : fnVC Tryz.prog Tryz.f36 x36 [a0] K h = D36 a0 K h := by kernel_rfl
theorem D36_ok : fnOk Tryz.prog Tryz.f36 x36 1 = true := by kernel_rfl
theorem C36 {a0 : Value} {K : Value → Hp → Prop} {h : Hp} (hh : D36 a0 K h) : CallH Tryz.prog 36 #[a0] K h :=
  callH_of mixed Tryz.func36 x36 [a0] D36_ok (D36_eq a0 K h ▸ hh)
def x42 : Ann := (.seq (.reg [] [(0, [])]) (.seq (.seq (.reg [] [(0, []), (1, [])]) (.cond (.seq (.reg [] [(0, [])]) .leaf) .leaf)) (.seq (.reg [] [(0, []), (1, []), (2, []), (3, []), (4, []), (5, [])]) .leaf)))
def D42 (a0 : Value) (K : Value → Hp → Prop) (h : Hp) : Prop :=
  vP (eqV 4 false a0 (Value.pointer none)) fun v4 =>
  vB v4 (K (Value.int .i64 0) h)
  (vP (nilV a0) fun v6 =>
  vP (faV 0 v6) fun v7 =>
  vP (ld1 v7 h) fun v8 =>
  vP (binV .mul v8 (Value.int .i64 64)) fun v9 =>
  K v9 h)
theorem D42_eq (a0 : Value) (K : Value → Hp → Prop) (h : Hp) : fnVC Tryz.prog Tryz.f42 x42 [a0] K h = D42 a0 K h := by kernel_rfl
theorem D42_ok : fnOk Tryz.prog Tryz.f42 x42 1 = true := by kernel_rfl
theorem C42 {a0 : Value} {K : Value → Hp → Prop} {h : Hp} (hh : D42 a0 K h) : CallH Tryz.prog 42 #[a0] K h :=
  callH_of mixed Tryz.func42 x42 [a0] D42_ok (D42_eq a0 K h ▸ hh)
def x80 : Ann := (.seq (.reg [] [(0, [])]) (.seq (.seq (.reg [] [(0, []), (1, [])]) (.cond (.seq (.reg [] [(0, [])]) .leaf) .leaf)) (.seq (.reg [] [(0, []), (1, []), (2, []), (3, []), (4, []), (5, [])]) .leaf)))
def D80 (a0 : Value) (K : Value → Hp → Prop) (h : Hp) : Prop :=
  vP (eqV 4 false a0 (Value.pointer none)) fun v4 =>
  vB v4 (K (Value.int .i64 0) h)
  (vP (nilV a0) fun v6 =>
  vP (faV 2 v6) fun v7 =>
  vP (ld1 v7 h) fun v8 =>
  CallH Tryz.prog 107 #[v8] (fun v9 h1 =>
  K v9 h1) h)
theorem D80_eq (a0 : Value) (K : Value → Hp → Prop) (h : Hp) : fnVC Tryz.prog Tryz.f80 x80 [a0] K h = D80 a0 K h := by kernel_rfl
theorem D80_ok : fnOk Tryz.prog Tryz.f80 x80 1 = true := by kernel_rfl
theorem C80 {a0 : Value} {K : Value → Hp → Prop} {h : Hp} (hh : D80 a0 K h) : CallH Tryz.prog 80 #[a0] K h :=
  callH_of mixed Tryz.func80 x80 [a0] D80_ok (D80_eq a0 K h ▸ hh)
def x40 : Ann := (.seq (.reg [] [(0, [])]) (.seq (.seq (.reg [] [(0, []), (1, []), (2, []), (3, []), (4, []), (5, []), (6, []), (7, []), (8, []), (9, []), (10, []), (11, [])]) (.cond (.seq (.reg [] [(0, [])]) .leaf) .leaf)) (.seq (.reg [0, 1, 0, 0, 8, 24, 56, 123, 255, 511, 1023] [(0, []), (2, []), (3, []), (4, []), (5, []), (6, []), (1, [6]), (7, []), (8, []), (9, []), (10, [])]) .leaf)))
def D40 (a0 a1 : Value) (K : Value → Hp → Prop) (h : Hp) : Prop :=
  vP (eqV 4 false a0 (Value.pointer none)) fun v6 =>
  vP (gdW (gB v6 false) (some a1)) fun v8 =>
  vP (gdW (gB v6 false) (binV .lss v8 (Value.int .i64 0))) fun v9 =>
  vP (pickV v6 (Value.bool true) v9) fun v10 =>
  vP (gdW (gB v10 false) (some a1)) fun v12 =>
  vP (gdW (gB v10 false) (some a0)) fun v13 =>
  vE (gB v10 false) (CallH Tryz.prog 80 #[v13]) (fun v14 h1 =>
  vP (gdW (gB v10 false) (binV .geq v12 v14)) fun v15 =>
  vP (pickV v10 (Value.bool true) v15) fun v16 =>
  vB v16 (K (Value.int .i64 0) h1)
  (vP (nilV a0) fun v21 =>
  vP (faV 1 v21) fun v22 =>
  vP (ld1 v22 h1) fun v23 =>
  CallH Tryz.prog 42 #[a0] (fun v18 h2 =>
  (ld1 v22 h2) = some v23 ∧ (CallH Tryz.prog 31 #[v23] (fun v24 h3 =>
  vP (binV .mul a1 v24) fun v25 =>
  vP (binV .add v18 v25) fun v26 =>
  K v26 h3) h2)) h1)) h
theorem D40_eq (a0 a1 : Value) (K : Value → Hp → Prop) (h : Hp) : fnVC Tryz.prog Tryz.f40 x40 [a0, a1] K h = D40 a0 a1 K h := by kernel_rfl
theorem D40_ok : fnOk Tryz.prog Tryz.f40 x40 2 = true := by kernel_rfl
theorem C40 {a0 a1 : Value} {K : Value → Hp → Prop} {h : Hp} (hh : D40 a0 a1 K h) : CallH Tryz.prog 40 #[a0, a1] K h :=
  callH_of mixed Tryz.func40 x40 [a0, a1] D40_ok (D40_eq a0 a1 K h ▸ hh)
def x45 : Ann := (.seq (.reg [] [(0, []), (1, [])]) (.seq (.seq (.reg [] [(0, []), (1, []), (2, []), (3, []), (4, []), (5, []), (6, []), (7, [])]) (.cond (.seq (.reg [] [(0, []), (1, [])]) .leaf) .leaf)) (.seq (.reg [0, 0, 2, 7, 0, 16, 48, 112, 246, 511, 1023] [(0, []), (1, []), (4, []), (5, []), (6, []), (7, []), (2, [7]), (3, []), (8, []), (9, []), (10, [])]) (.seq (.seq (.reg [0, 0, 3, 7, 15, 31, 31, 127, 31, 287, 1023, 2047] [(0, []), (1, []), (2, []), (3, []), (4, []), (5, []), (6, []), (7, []), (8, []), (9, []), (10, []), (11, [])]) (.cond (.seq (.reg [] [(0, []), (1, [])]) .leaf) .leaf)) (.seq (.reg [] [(0, []), (1, []), (2, []), (3, []), (4, [])]) .leaf)))))
def D45 (a0 a1 : Value) (K : Value → Hp → Prop) (h : Hp) : Prop :=
  vP (eqV 4 false a0 (Value.pointer none)) fun v9 =>
  vP (gdW (gB v9 false) (some a1)) fun v11 =>
  vP (gdW (gB v9 false) (some a0)) fun v12 =>
  vE (gB v9 false) (CallH Tryz.prog 42 #[v12]) (fun v13 h1 =>
  vP (gdW (gB v9 false) (binV .lss v11 v13)) fun v14 =>
  vP (pickV v9 (Value.bool true) v14) fun v15 =>
  vB v15 (K (Value.tuple #[(Value.int .i64 0), (Value.bool false)]) h1)
  (vP (nilV a0) fun v21 =>
  vP (faV 1 v21) fun v22 =>
  vP (ld1 v22 h1) fun v23 =>
  CallH Tryz.prog 42 #[a0] (fun v18 h2 =>
  (ld1 v22 h2) = some v23 ∧ (vP (binV .sub a1 v18) fun v19 =>
  CallH Tryz.prog 31 #[v23] (fun v24 h3 =>
  vP (binV .rem v19 v24) fun v27 =>
  vP (eqV 1 true v27 (Value.int .i64 0)) fun v28 =>
  vP (gdW (gB v28 false) (some v19)) fun v30 =>
  vP (gdW (gB v28 false) (some v24)) fun v31 =>
  vP (gdW (gB v28 false) (binV .quo v30 v31)) fun v32 =>
  vP (gdW (gB v28 false) (some a0)) fun v33 =>
  vE (gB v28 false) (CallH Tryz.prog 80 #[v33]) (fun v34 h4 =>
  vP (gdW (gB v28 false) (binV .geq v32 v34)) fun v35 =>
  vP (pickV v28 (Value.bool true) v35) fun v36 =>
  vB v36 (K (Value.tuple #[(Value.int .i64 0), (Value.bool false)]) h4)
  (vP (binV .quo v19 v24) fun v39 =>
  K (Value.tuple #[v39, (Value.bool true)]) h4)) h3) h2)) h1)) h
theorem D45_eq (a0 a1 : Value) (K : Value → Hp → Prop) (h : Hp) : fnVC Tryz.prog Tryz.f45 x45 [a0, a1] K h = D45 a0 a1 K h := by kernel_rfl
theorem D45_ok : fnOk Tryz.prog Tryz.f45 x45 2 = true := by kernel_rfl
theorem C45 {a0 a1 : Value} {K : Value → Hp → Prop} {h : Hp} (hh : D45 a0 a1 K h) : CallH Tryz.prog 45 #[a0, a1] K h :=
  callH_of mixed Tryz.func45 x45 [a0, a1] D45_ok (D45_eq a0 a1 K h ▸ hh)
def x39 : Ann := (.seq (.reg [] [(0, []), (1, [])]) (.seq (.seq (.reg [] [(0, []), (1, [])]) (.cond (.seq (.reg [] [(0, []), (1, [])]) .leaf) .leaf)) (.seq (.reg [0, 1, 3, 7, 0, 16, 48, 112, 255, 511] [(0, []), (1, []), (2, []), (4, []), (5, []), (6, []), (3, []), (7, []), (8, []), (9, [])]) (.seq (.reg [] [(0, []), (1, []), (2, []), (3, []), (4, []), (5, [])]) (.join [] [24, 25, 26, 27, 28, 29, 30, 31, 32, 33, 34] (.seq (.reg [] [(0, []), (1, []), (2, []), (3, []), (4, [])]) (.seq (.reg [] [(0, [])]) (.cond (.reg [] [(0, []), (1, []), (2, []), (3, []), (4, []), (5, [])]) .leaf))) (.seq (.reg [] [(0, []), (1, []), (2, [])]) .leaf))))))
def D39 (a0 a1 : Value) (K : Value → Hp → Prop) (h : Hp) : Prop :=
  CallH Tryz.prog 37 #[a0] (fun v8 h1 =>
  vB v8 (K (Value.tuple #[(Value.int .i64 0), (Value.bool false)]) h1)
  (vP (nilV a0) fun v10 =>
  vP (faV 2 v10) fun v11 =>
  vP (nilV a0) fun v14 =>
  vP (faV 4 v14) fun v15 =>
  vP (ld1 v11 h1) fun v12 =>
  vP (ld1 v15 h1) fun v16 =>
  CallH Tryz.prog 77 #[v12, v16, (Value.bool false)] (fun v17 h2 =>
  vP (nilV a0) fun v19 =>
  vP (faV 2 v19) fun v20 =>
  vP (ld1 v20 h2) fun v21 =>
  CallH Tryz.prog 79 #[v21, v17] (fun v23 h3 =>
  ∀ J1 : List Value → Hp → Prop, (∀ h4 : Hp, (∀ g1 : St,
    K (Value.tuple #[v17, (Value.bool true)]) h4) → J1 [] h4) →
  vP (nilV a0) fun v26 =>
  vP (faV 4 v26) fun v27 =>
  st1 v27 v17 (fun _ h5 =>
  vB a1 (vP (nilV a0) fun v30 =>
    vP (faV 3 v30) fun v31 =>
    vP (ld1 v31 h5) fun v32 =>
    CallH Tryz.prog 79 #[v32, v17] (fun v34 h6 =>
    J1 [] h6) h5)
  (J1 [] h5)) h3) h2) h1)) h
theorem D39_eq (a0 a1 : Value) (K : Value → Hp → Prop) (h : Hp) : fnVC Tryz.prog Tryz.f39 x39 [a0, a1] K h = D39 a0 a1 K h := by kernel_rfl
theorem D39_ok : fnOk Tryz.prog Tryz.f39 x39 2 = true := by kernel_rfl
theorem C39 {a0 a1 : Value} {K : Value → Hp → Prop} {h : Hp} (hh : D39 a0 a1 K h) : CallH Tryz.prog 39 #[a0, a1] K h :=
  callH_of mixed Tryz.func39 x39 [a0, a1] D39_ok (D39_eq a0 a1 K h ▸ hh)
def x101 : Ann := (.seq (.reg [] [(0, [])]) (.seq (.reg [] [(0, []), (1, []), (2, []), (3, []), (4, []), (5, []), (6, []), (7, []), (8, []), (9, []), (10, [])]) .leaf))
def D101 (a0 a1 : Value) (K : Value → Hp → Prop) (h : Hp) : Prop :=
  vP (eqV 4 true a0 (Value.pointer none)) fun v6 =>
  vP (gdW (gB v6 true) (some a0)) fun v8 =>
  vP (gdW (gB v6 true) (nilV v8)) fun v9 =>
  vP (gdW (gB v6 true) (faV 2 v9)) fun v10 =>
  vP (gdW (gB v6 true) (ld1 v10 h)) fun v11 =>
  vP (gdW (gB v6 true) (some a1)) fun v12 =>
  vE (gB v6 true) (CallH Tryz.prog 85 #[v11, v12]) (fun v13 h1 =>
  vP (pickV v6 v13 (Value.bool false)) fun v14 =>
  K v14 h1) h
theorem D101_eq (a0 a1 : Value) (K : Value → Hp → Prop) (h : Hp) : fnVC Tryz.prog Tryz.f101 x101 [a0, a1] K h = D101 a0 a1 K h := by kernel_rfl
theorem D101_ok : fnOk Tryz.prog Tryz.f101 x101 2 = true := by kernel_rfl
theorem C101 {a0 a1 : Value} {K : Value → Hp → Prop} {h : Hp} (hh : D101 a0 a1 K h) : CallH Tryz.prog 101 #[a0, a1] K h :=
  callH_of mixed Tryz.func101 x101 [a0, a1] D101_ok (D101_eq a0 a1 K h ▸ hh)
def x67 : Ann := (.seq (.reg [] [(0, [])]) (.seq (.reg [] [(0, []), (1, []), (2, []), (3, []), (4, []), (5, []), (6, []), (7, []), (8, []), (9, []), (10, []), (11, [])]) .leaf))
def D67 (a0 a1 : Value) (K : Value → Hp → Prop) (h : Hp) : Prop :=
  CallH Tryz.prog 101 #[a0, a1] (fun v7 h1 =>
  vP (gdW (gB v7 true) (some a0)) fun v9 =>
  vP (gdW (gB v7 true) (nilV v9)) fun v10 =>
  vP (gdW (gB v7 true) (faV 3 v10)) fun v11 =>
  vP (gdW (gB v7 true) (ld1 v11 h1)) fun v12 =>
  vP (gdW (gB v7 true) (some a1)) fun v13 =>
  vE (gB v7 true) (CallH Tryz.prog 79 #[v12, v13]) (fun v14 h2 =>
  vP (pickV v7 v14 (Value.bool false)) fun v15 =>
  K v15 h2) h1) h
theorem D67_eq (a0 a1 : Value) (K : Value → Hp → Prop) (h : Hp) : fnVC Tryz.prog Tryz.f67 x67 [a0, a1] K h = D67 a0 a1 K h := by kernel_rfl
theorem D67_ok : fnOk Tryz.prog Tryz.f67 x67 2 = true := by kernel_rfl
theorem C67 {a0 a1 : Value} {K : Value → Hp → Prop} {h : Hp} (hh : D67 a0 a1 K h) : CallH Tryz.prog 67 #[a0, a1] K h :=
  callH_of mixed Tryz.func67 x67 [a0, a1] D67_ok (D67_eq a0 a1 K h ▸ hh)
def x66 : Ann := (.seq (.reg [] [(0, [])]) (.seq (.reg [] [(0, []), (1, []), (2, []), (3, []), (4, []), (5, []), (6, []), (7, []), (8, []), (9, []), (10, [])]) .leaf))
def D66 (a0 a1 : Value) (K : Value → Hp → Prop) (h : Hp) : Prop :=
  vP (eqV 4 true a0 (Value.pointer none)) fun v6 =>
  vP (gdW (gB v6 true) (some a0)) fun v8 =>
  vP (gdW (gB v6 true) (nilV v8)) fun v9 =>
  vP (gdW (gB v6 true) (faV 3 v9)) fun v10 =>
  vP (gdW (gB v6 true) (ld1 v10 h)) fun v11 =>
  vP (gdW (gB v6 true) (some a1)) fun v12 =>
  vE (gB v6 true) (CallH Tryz.prog 85 #[v11, v12]) (fun v13 h1 =>
  vP (pickV v6 v13 (Value.bool false)) fun v14 =>
  K v14 h1) h
theorem D66_eq (a0 a1 : Value) (K : Value → Hp → Prop) (h : Hp) : fnVC Tryz.prog Tryz.f66 x66 [a0, a1] K h = D66 a0 a1 K h := by kernel_rfl
theorem D66_ok : fnOk Tryz.prog Tryz.f66 x66 2 = true := by kernel_rfl
theorem C66 {a0 a1 : Value} {K : Value → Hp → Prop} {h : Hp} (hh : D66 a0 a1 K h) : CallH Tryz.prog 66 #[a0, a1] K h :=
  callH_of mixed Tryz.func66 x66 [a0, a1] D66_ok (D66_eq a0 a1 K h ▸ hh)
def x41 : Ann := (.seq (.reg [] [(0, [])]) (.seq (.seq (.reg [] [(0, []), (1, [])]) (.cond (.seq (.reg [] [(0, [])]) .leaf) .leaf)) (.seq (.reg [] [(0, []), (1, []), (2, []), (3, []), (4, []), (5, [])]) .leaf)))
def D41 (a0 : Value) (K : Value → Hp → Prop) (h : Hp) : Prop :=
  vP (eqV 4 false a0 (Value.pointer none)) fun v4 =>
  vB v4 (K (Value.int .i64 0) h)
  (vP (nilV a0) fun v6 =>
  vP (faV 2 v6) fun v7 =>
  vP (ld1 v7 h) fun v8 =>
  CallH Tryz.prog 81 #[v8] (fun v9 h1 =>
  K v9 h1) h)
theorem D41_eq (a0 : Value) (K : Value → Hp → Prop) (h : Hp) : fnVC Tryz.prog Tryz.f41 x41 [a0] K h = D41 a0 K h := by kernel_rfl
theorem D41_ok : fnOk Tryz.prog Tryz.f41 x41 1 = true := by kernel_rfl
theorem C41 {a0 : Value} {K : Value → Hp → Prop} {h : Hp} (hh : D41 a0 K h) : CallH Tryz.prog 41 #[a0] K h :=
  callH_of mixed Tryz.func41 x41 [a0] D41_ok (D41_eq a0 K h ▸ hh)
def x37 : Ann := (.seq (.reg [] [(0, [])]) (.seq (.reg [0, 1, 3, 7, 15, 31, 63, 7, 135, 391, 903, 2047, 4095, 8191, 16383] [(0, []), (1, []), (2, []), (3, []), (4, []), (5, []), (7, []), (8, []), (9, []), (6, []), (10, []), (11, []), (12, []), (13, []), (14, [])]) .leaf))
def D37 (a0 : Value) (K : Value → Hp → Prop) (h : Hp) : Prop :=
  vP (eqV 4 false a0 (Value.pointer none)) fun v4 =>
  vP (gdW (gB v4 false) (some a0)) fun v6 =>
  vP (gdW (gB v4 false) (nilV v6)) fun v7 =>
  vP (gdW (gB v4 false) (faV 2 v7)) fun v8 =>
  vP (gdW (gB v4 false) (some a0)) fun v10 =>
  vP (gdW (gB v4 false) (nilV v10)) fun v11 =>
  vP (gdW (gB v4 false) (faV 4 v11)) fun v12 =>
  vP (gdW (gB v4 false) (ld1 v8 h)) fun v9 =>
  vP (gdW (gB v4 false) (ld1 v12 h)) fun v13 =>
  vE (gB v4 false) (CallH Tryz.prog 77 #[v9, v13, (Value.bool false)]) (fun v14 h1 =>
  vP (gdW (gB v4 false) (binV .lss v14 (Value.int .i64 0))) fun v15 =>
  vP (pickV v4 (Value.bool true) v15) fun v16 =>
  K v16 h1) h
theorem D37_eq (a0 : Value) (K : Value → Hp → Prop) (h : Hp) : fnVC Tryz.prog Tryz.f37 x37 [a0] K h = D37 a0 K h := by kernel_rfl
theorem D37_ok : fnOk Tryz.prog Tryz.f37 x37 1 = true := by kernel_rfl
theorem C37 {a0 : Value} {K : Value → Hp → Prop} {h : Hp} (hh : D37 a0 K h) : CallH Tryz.prog 37 #[a0] K h :=
  callH_of mixed Tryz.func37 x37 [a0] D37_ok (D37_eq a0 K h ▸ hh)
def x44 : Ann := (.seq (.reg [] [(0, []), (1, [])]) (.seq (.seq (.reg [] [(0, []), (1, [])]) (.cond (.seq (.reg [] [(0, [])]) .leaf) .leaf)) (.seq (.reg [] [(0, [])]) (.seq (.reg [] [(0, []), (1, [])]) (.seq (.seq (.reg [] [(0, []), (1, []), (2, []), (3, []), (4, []), (5, []), (6, [])]) (.blk (.loop [18, 3] [19, 20, 21, 6, 22, 23, 24, 25, 26, 27, 28, 29, 3, 30, 18] (.seq (.reg [] [(0, [])]) (.seq (.cond .leaf .leaf) (.join [3] [20, 21, 6, 22, 23, 24, 25, 26, 27, 28, 29, 3] (.blk (.seq (.reg [] [(0, []), (1, []), (2, [])]) (.seq (.reg [] [(0, []), (1, []), (2, []), (3, [])]) (.cond (.reg [] [(0, []), (1, []), (2, []), (3, []), (4, [])]) .leaf)))) (.reg [] [(0, []), (1, [])]))))))) (.seq (.reg [0, 0, 0, 0, 8, 24, 56, 0, 128, 384, 896, 2041, 4089, 8185, 16379, 32763, 65531, 131071, 262143, 524287] [(0, []), (1, []), (2, []), (3, []), (4, []), (5, []), (6, []), (7, []), (8, []), (9, []), (10, []), (11, []), (12, []), (13, [2, 1]), (14, []), (15, []), (16, [2]), (17, []), (18, []), (19, [])]) (.seq (.seq (.reg [] [(0, []), (1, []), (2, []), (3, []), (4, []), (5, []), (6, [])]) (.blk (.loop [54] [55, 56, 57, 8, 58, 59, 60, 61, 62, 63, 64, 54] (.seq (.reg [] [(0, [])]) (.seq (.cond .leaf .leaf) (.seq (.blk (.seq (.reg [] [(0, []), (1, []), (2, [])]) (.reg [] [(0, []), (1, []), (2, []), (3, []), (4, []), (5, [])]))) (.reg [] [(0, []), (1, [])]))))))) (.seq (.reg [] [(0, []), (1, [])]) .leaf))))))))
def D44 (a0 : Value) (K : Value → Hp → Prop) (h : Hp) : Prop :=
  vA (some (Obj.cells (Value.cells a0) 64 (0, 0), ptrV)) (fun v1 h1 =>
  vP (ld1 v1 h1) fun v9 =>
  vP (eqV 4 false v9 (Value.pointer none)) fun v10 =>
  vB v10 (K (Value.slice none 0 0) h1)
  (vP (some (Value.func (.func 84) #[] #[v1])) fun v11 =>
  vP (ld1 v1 h1) fun v12 =>
  vP (nilV v12) fun v13 =>
  vP (faV 2 v13) fun v14 =>
  vP (ld1 v14 h1) fun v15 =>
  CallH Tryz.prog 86 #[v15] (fun v16 h2 =>
  vP (lenV v16) fun v17 =>
  ∃ I1 : Nat → List Value → Hp → Prop, (∃ n, I1 n [(Value.int .i64 0), (Value.slice none 0 0)] h2) ∧
  ∀ n1 : Nat, ∀ v18 v3 : Value, ∀ h3 : Hp, I1 n1 [v18, v3] h3 → ∀ g1 : St,
    vP (binV .lss v18 v17) fun v19 =>
    vB v19 (∀ J2 : List Value → Hp → Prop, (∀ v3_1 : Value, ∀ h4 : Hp, (∀ g2 : St,
        vP (binV .add v18 (Value.int .i64 1)) fun v30 =>
        ∃ m1, m1 < n1 ∧ I1 m1 [v30, v3_1] h4) → J2 [v3_1] h4) →
      vP (iaS 1 v16 v18) fun v20 =>
      vP (ld1 v20 h3) fun v21 =>
      cvW Tryz.prog v11 #[v21] (fun v24 h5 =>
      vP (unV .not v24) fun v25 =>
      vB v25 (vA ((bldV #[(Value.int .i64 0)] [(0, 1, v21)]).map fun c => (Obj.cells c 3 (0, 0), fun r => Value.slice (some ⟨r, 0, none⟩) 1 1)) (fun v28 h6 =>
        apW Tryz.prog #[22, 22] 22 v3 v28 (fun v29 h7 =>
        J2 [v29] h7) h6) h5)
      (J2 [v3] h5)) h3)
    (vP (ld1 v1 h3) fun v31 =>
    vP (ld1 v1 h3) fun v32 =>
    vP (ld1 v1 h3) fun v33 =>
    vP (ld1 v1 h3) fun v34 =>
    vP (nilV v34) fun v35 =>
    vP (faV 3 v35) fun v36 =>
    vP (ld1 v36 h3) fun v37 =>
    vP (ld1 v1 h3) fun v38 =>
    vP (nilV v38) fun v39 =>
    vP (faV 2 v39) fun v40 =>
    vP (ld1 v40 h3) fun v41 =>
    vP (nilV v31) fun v42 =>
    vP (faV 2 v42) fun v43 =>
    st1 v43 v37 (fun _ h8 =>
    (ld1 v1 h8) = some v33 ∧ ((ld1 v1 h8) = some v32 ∧ (vP (nilV v32) fun v44 =>
    vP (faV 3 v44) fun v45 =>
    st1 v45 v41 (fun _ h9 =>
    (ld1 v1 h9) = some v33 ∧ (vP (nilV v33) fun v46 =>
    vP (faV 4 v46) fun v47 =>
    st1 v47 (Value.int .i64 0) (fun _ h10 =>
    vP (ld1 v1 h10) fun v48 =>
    vP (nilV v48) fun v49 =>
    vP (faV 3 v49) fun v50 =>
    vP (ld1 v50 h10) fun v51 =>
    CallH Tryz.prog 86 #[v51] (fun v52 h11 =>
    vP (lenV v52) fun v53 =>
    ∃ I3 : Nat → List Value → Hp → Prop, (∃ n, I3 n [(Value.int .i64 0)] h11) ∧
    ∀ n3 : Nat, ∀ v54 : Value, ∀ h12 : Hp, I3 n3 [v54] h12 → ∀ g3 : St,
      vP (binV .lss v54 v53) fun v55 =>
      vB v55 (vP (iaS 1 v52 v54) fun v56 =>
        vP (ld1 v56 h12) fun v57 =>
        vP (ld1 v1 h12) fun v58 =>
        vP (nilV v58) fun v59 =>
        vP (faV 3 v59) fun v60 =>
        vP (ld1 v60 h12) fun v61 =>
        CallH Tryz.prog 87 #[v61, v57] (fun v63 h13 =>
        vP (binV .add v54 (Value.int .i64 1)) fun v64 =>
        ∃ m3, m3 < n3 ∧ I3 m3 [v64] h13) h12)
      (K v3 h12)) h10) h9)) h8))) h3)) h1)) h
theorem D44_eq (a0 : Value) (K : Value → Hp → Prop) (h : Hp) : fnVC Tryz.prog Tryz.f44 x44 [a0] K h = D44 a0 K h := by kernel_rfl
theorem D44_ok : fnOk Tryz.prog Tryz.f44 x44 1 = true := by kernel_rfl
theorem C44 {a0 : Value} {K : Value → Hp → Prop} {h : Hp} (hh : D44 a0 K h) : CallH Tryz.prog 44 #[a0] K h :=
  callH_of mixed Tryz.func44 x44 [a0] D44_ok (D44_eq a0 K h ▸ hh)
def x84 : Ann := (.seq (.reg [] [(0, [])]) (.seq (.reg [] [(0, []), (1, []), (2, []), (3, []), (4, []), (5, []), (6, [])]) .leaf))
def D84 (a0 a1 : Value) (K : Value → Hp → Prop) (h : Hp) : Prop :=
  vP (ld1 a1 h) fun v4 =>
  vP (nilV v4) fun v5 =>
  vP (faV 3 v5) fun v6 =>
  vP (ld1 v6 h) fun v7 =>
  CallH Tryz.prog 85 #[v7, a0] (fun v9 h1 =>
  K v9 h1) h
theorem D84_eq (a0 a1 : Value) (K : Value → Hp → Prop) (h : Hp) : fnVC Tryz.prog Tryz.f84 x84 [a0, a1] K h = D84 a0 a1 K h := by kernel_rfl
theorem D84_ok : fnOk Tryz.prog Tryz.f84 x84 2 = true := by kernel_rfl
theorem C84 {a0 a1 : Value} {K : Value → Hp → Prop} {h : Hp} (hh : D84 a0 a1 K h) : CallH Tryz.prog 84 #[a0, a1] K h :=
  callH_of mixed Tryz.func84 x84 [a0, a1] D84_ok (D84_eq a0 a1 K h ▸ hh)
def x6 : Ann := (.seq (.reg [] [(0, []), (1, [])]) (.seq (.seq (.reg [] [(0, []), (1, []), (2, []), (3, []), (4, []), (5, []), (6, []), (7, []), (8, []), (9, []), (10, [])]) (.cond (.seq (.reg [] [(0, []), (1, [])]) .leaf) .leaf)) (.seq (.reg [] [(0, []), (1, []), (2, []), (3, []), (4, []), (5, []), (6, []), (7, []), (8, []), (9, [])]) .leaf)))
def D6 (a0 : Value) (K : Value → Hp → Prop) (h : Hp) : Prop :=
  vP (binV .lss a0 (Value.int .i64 256)) fun v5 =>
  vP (gdW (gB v5 false) (some a0)) fun v7 =>
  vP (gdW (gB v5 false) (binV .gtr v7 (Value.int .i64 16777216))) fun v8 =>
  vP (pickV v5 (Value.bool true) v8) fun v9 =>
  vP (gdW (gB v9 false) (some a0)) fun v11 =>
  vP (gdW (gB v9 false) (binV .rem v11 (Value.int .i64 64))) fun v12 =>
  vP (gdW (gB v9 false) (eqV 1 true v12 (Value.int .i64 0))) fun v13 =>
  vP (pickV v9 (Value.bool true) v13) fun v14 =>
  vB v14 (K (Value.tuple #[(Value.pointer none), (Value.int .i64 1)]) h)
  (vP (binV .quo a0 (Value.int .i64 64)) fun v16 =>
  CallH Tryz.prog 30 #[v16] (fun v17 h1 =>
  vA (some (Obj.map #[] 0, fun r => Value.map (some r))) (fun v18 h2 =>
  vA (some (Obj.map #[] 0, fun r => Value.map (some r))) (fun v19 h3 =>
  vA (some (Obj.map #[] 0, fun r => Value.map (some r))) (fun v20 h4 =>
  vP ((bldV #[(Value.pointer none), (Value.map none), (Value.map none), (Value.map none), (Value.int .i64 0)] [(0, 1, v17), (1, 1, v18), (2, 1, v19), (3, 1, v20)]).map Value.agg) fun v21 =>
  vA (some (Obj.cells (Value.cells v21) 63 (0, 0), ptrV)) (fun v22 h5 =>
  K (Value.tuple #[v22, (Value.int .i64 0)]) h5) h4) h3) h2) h1) h)
theorem D6_eq (a0 : Value) (K : Value → Hp → Prop) (h : Hp) : fnVC Tryz.prog Tryz.f6 x6 [a0] K h = D6 a0 K h := by kernel_rfl
theorem D6_ok : fnOk Tryz.prog Tryz.f6 x6 1 = true := by kernel_rfl
theorem C6 {a0 : Value} {K : Value → Hp → Prop} {h : Hp} (hh : D6 a0 K h) : CallH Tryz.prog 6 #[a0] K h :=
  callH_of mixed Tryz.func6 x6 [a0] D6_ok (D6_eq a0 K h ▸ hh)
def x7 : Ann := (.seq (.reg [] [(0, []), (1, [])]) (.seq (.seq (.reg [] [(0, []), (1, []), (2, []), (3, []), (4, []), (5, []), (6, [])]) (.cond (.seq (.reg [] [(0, []), (1, [])]) .leaf) .leaf)) (.seq (.reg [0, 1, 3, 7, 0, 16, 63, 127, 255, 255, 511, 2047] [(0, []), (1, []), (2, []), (4, []), (3, []), (5, [3]), (6, []), (7, []), (8, []), (9, []), (10, []), (11, [])]) (.seq (.seq (.reg [] [(0, []), (1, [])]) (.cond (.seq (.reg [] [(0, []), (1, []), (2, [])]) .leaf) .leaf)) (.seq (.reg [] [(0, [])]) (.seq (.blk (.loop [8] [30, 31, 32, 33, 34, 35, 36, 37, 38, 8] (.seq (.seq (.reg [] [(0, []), (1, []), (2, []), (3, []), (4, []), (5, []), (6, [])]) (.cond .leaf .leaf)) (.blk (.reg [] [(0, []), (1, []), (2, [])]))))) (.seq (.reg [0, 1, 3, 7, 0, 0, 0, 96, 224, 480, 480, 1023] [(0, []), (1, []), (2, []), (4, []), (5, []), (6, []), (3, []), (7, [3]), (8, []), (9, []), (10, []), (11, [])]) (.seq (.seq (.reg [] [(0, []), (1, []), (2, [])]) (.blk (.loop [52] [53, 54, 9, 55, 56, 57, 58, 59, 60, 61, 62, 63, 52] (.seq (.reg [] [(0, [])]) (.seq (.cond .leaf .leaf) (.seq (.blk (.seq (.reg [] [(0, []), (1, [])]) (.reg [] [(0, []), (1, []), (2, []), (3, []), (4, []), (5, []), (6, []), (7, []), (8, [])]))) (.reg [] [(0, []), (1, [])]))))))) (.seq (.reg [] [(0, []), (1, []), (2, [])]) .leaf)))))))))
def D7 (a0 a1 : Value) (K : Value → Hp → Prop) (h : Hp) : Prop :=
  vP (eqV 4 false a0 (Value.pointer none)) fun v11 =>
  vP (gdW (gB v11 false) (some a1)) fun v13 =>
  vE (gB v11 false) (CallH Tryz.prog 31 #[v13]) (fun v14 h1 =>
  vP (gdW (gB v11 false) (eqV 1 false v14 (Value.int .i64 0))) fun v15 =>
  vP (pickV v11 (Value.bool true) v15) fun v16 =>
  vB v16 (K (Value.tuple #[(Value.int .i64 0), (Value.int .i64 1)]) h1)
  (vP (nilV a0) fun v19 =>
  vP (faV 0 v19) fun v20 =>
  vP (ld1 v20 h1) fun v21 =>
  CallH Tryz.prog 33 #[a1] (fun v23 h2 =>
  (ld1 v20 h2) = some v21 ∧ (CallH Tryz.prog 32 #[v21, v23] (fun v24 h3 =>
  vP (exV v24 0) fun v25 =>
  vP (exV v24 1) fun v26 =>
  vP (eqV 1 true v26 (Value.int .i64 0)) fun v28 =>
  vB v28 (K (Value.tuple #[(Value.int .i64 0), v26]) h3)
  (∃ I1 : Nat → List Value → Hp → Prop, (∃ n, I1 n [(Value.int .i64 0)] h3) ∧
  ∀ n1 : Nat, ∀ v8 : Value, ∀ h4 : Hp, I1 n1 [v8] h4 → ∀ g1 : St,
    vP (nilV a0) fun v31 =>
    vP (faV 1 v31) fun v32 =>
    vP (ld1 v32 h4) fun v33 =>
    vP (lkV Tryz.prog 60 v33 v8 false h4) fun v35 =>
    vP (eqV 4 true v35 (Value.pointer none)) fun v36 =>
    vB v36 (vP (binV .add v8 (Value.int .i64 1)) fun v38 =>
      ∃ m1, m1 < n1 ∧ I1 m1 [v38] h4)
    (vP (nilV a0) fun v41 =>
    vP (faV 1 v41) fun v42 =>
    vP (ld1 v42 h4) fun v43 =>
    CallH Tryz.prog 34 #[v25, a1] (fun v47 h5 =>
    (ld1 v42 h5) = some v43 ∧ (vP (exV v47 0) fun v48 =>
    vP (exV v47 1) fun v49 =>
    muW Tryz.prog 60 v43 v8 v48 (fun _ h6 =>
    CallH Tryz.prog 33 #[a1] (fun v51 h7 =>
    ∃ I2 : Nat → List Value → Hp → Prop, (∃ n, I2 n [(Value.int .i64 0)] h7) ∧
    ∀ n2 : Nat, ∀ v52 : Value, ∀ h8 : Hp, I2 n2 [v52] h8 → ∀ g2 : St,
      vP (binV .lss v52 v51) fun v53 =>
      vB v53 (vP (nilV a0) fun v56 =>
        vP (faV 2 v56) fun v57 =>
        vP (ld1 v57 h8) fun v58 =>
        vP (binV .add v25 v52) fun v61 =>
        muW Tryz.prog 52 v58 v61 v8 (fun _ h9 =>
        vP (binV .add v52 (Value.int .i64 1)) fun v63 =>
        ∃ m2, m2 < n2 ∧ I2 m2 [v63] h9) h8)
      (K (Value.tuple #[v8, (Value.int .i64 0)]) h8)) h6) h5)) h4))) h2)) h1)) h
theorem D7_eq (a0 a1 : Value) (K : Value → Hp → Prop) (h : Hp) : fnVC Tryz.prog Tryz.f7 x7 [a0, a1] K h = D7 a0 a1 K h := by kernel_rfl
theorem D7_ok : fnOk Tryz.prog Tryz.f7 x7 2 = true := by kernel_rfl
theorem C7 {a0 a1 : Value} {K : Value → Hp → Prop} {h : Hp} (hh : D7 a0 a1 K h) : CallH Tryz.prog 7 #[a0, a1] K h :=
  callH_of mixed Tryz.func7 x7 [a0, a1] D7_ok (D7_eq a0 a1 K h ▸ hh)
def x13 : Ann := (.seq (.reg [] [(0, [])]) (.seq (.blk (.seq (.reg [] [(0, []), (1, []), (2, [])]) (.cond (.seq (.reg [] [(0, [])]) .leaf) (.seq (.reg [] [(0, []), (1, []), (2, []), (3, []), (4, []), (5, []), (6, []), (7, [])]) (.cond (.seq (.reg [] [(0, [])]) .leaf) (.seq (.reg [] [(0, []), (1, []), (2, []), (3, []), (4, []), (5, []), (6, []), (7, []), (8, [])]) (.cond (.seq (.reg [] [(0, [])]) .leaf) .leaf))))))) (.seq (.reg [] [(0, []), (1, []), (2, []), (3, []), (4, []), (5, []), (6, [])]) (.seq (.reg [] [(0, []), (1, []), (2, []), (3, []), (4, []), (5, []), (6, []), (7, [])]) (.seq (.seq (.reg [] [(0, []), (1, [])]) (.blk (.loop [42] [43, 44, 8, 45, 46, 47, 48, 49, 50, 51, 52, 42] (.seq (.reg [] [(0, [])]) (.seq (.cond .leaf .leaf) (.seq (.blk (.seq (.reg [] [(0, []), (1, [])]) (.reg [] [(0, []), (1, []), (2, []), (3, []), (4, []), (5, []), (6, []), (7, [])]))) (.reg [] [(0, []), (1, [])]))))))) (.seq (.reg [] [(0, []), (1, []), (2, []), (3, []), (4, []), (5, [])]) (.seq (.reg [] [(0, []), (1, []), (2, []), (3, []), (4, []), (5, []), (6, []), (7, [])]) .leaf)))))))
def D13 (a0 a1 : Value) (K : Value → Hp → Prop) (h : Hp) : Prop :=
  vP (eqV 4 false a0 (Value.pointer none)) fun v11 =>
  vB v11 (K (Value.int .i64 1) h)
  (vP (nilV a0) fun v14 =>
  vP (faV 1 v14) fun v15 =>
  vP (ld1 v15 h) fun v16 =>
  vP (lkV Tryz.prog 60 v16 a1 false h) fun v18 =>
  vP (eqV 4 false v18 (Value.pointer none)) fun v19 =>
  vB v19 (K (Value.int .i64 4) h)
  (vP (nilV a0) fun v22 =>
  vP (faV 1 v22) fun v23 =>
  vP (ld1 v23 h) fun v24 =>
  vP (lkV Tryz.prog 60 v24 a1 false h) fun v26 =>
  CallH Tryz.prog 41 #[v26] (fun v27 h1 =>
  vP (binV .gtr v27 (Value.int .i64 0)) fun v28 =>
  vB v28 (K (Value.int .i64 5) h1)
  (vP (nilV a0) fun v30 =>
  vP (faV 1 v30) fun v31 =>
  vP (ld1 v31 h1) fun v32 =>
  vP (lkV Tryz.prog 60 v32 a1 false h1) fun v34 =>
  CallH Tryz.prog 42 #[v34] (fun v36 h2 =>
  vP (binV .quo v36 (Value.int .i64 64)) fun v37 =>
  CallH Tryz.prog 36 #[v34] (fun v39 h3 =>
  CallH Tryz.prog 33 #[v39] (fun v40 h4 =>
  ∃ I1 : Nat → List Value → Hp → Prop, (∃ n, I1 n [(Value.int .i64 0)] h4) ∧
  ∀ n1 : Nat, ∀ v42 : Value, ∀ h5 : Hp, I1 n1 [v42] h5 → ∀ g1 : St,
    vP (binV .lss v42 v40) fun v43 =>
    vB v43 (vP (nilV a0) fun v46 =>
      vP (faV 2 v46) fun v47 =>
      vP (ld1 v47 h5) fun v48 =>
      vP (binV .add v37 v42) fun v51 =>
      dlW Tryz.prog #[52, 3] 0 v48 v51 (fun _ h6 =>
      vP (binV .add v42 (Value.int .i64 1)) fun v52 =>
      ∃ m1, m1 < n1 ∧ I1 m1 [v52] h6) h5)
    (vP (nilV a0) fun v54 =>
    vP (faV 1 v54) fun v55 =>
    vP (ld1 v55 h5) fun v56 =>
    dlW Tryz.prog #[60, 3] 0 v56 a1 (fun _ h7 =>
    vP (nilV a0) fun v59 =>
    vP (faV 0 v59) fun v60 =>
    vP (ld1 v60 h7) fun v61 =>
    CallH Tryz.prog 43 #[v61, v37, v40] (fun v64 h8 =>
    K v64 h8) h7) h5)) h3) h2) h1)) h))
theorem D13_eq (a0 a1 : Value) (K : Value → Hp → Prop) (h : Hp) : fnVC Tryz.prog Tryz.f13 x13 [a0, a1] K h = D13 a0 a1 K h := by kernel_rfl
theorem D13_ok : fnOk Tryz.prog Tryz.f13 x13 2 = true := by kernel_rfl
theorem C13 {a0 a1 : Value} {K : Value → Hp → Prop} {h : Hp} (hh : D13 a0 a1 K h) : CallH Tryz.prog 13 #[a0, a1] K h :=
  callH_of mixed Tryz.func13 x13 [a0, a1] D13_ok (D13_eq a0 a1 K h ▸ hh)
def x12 : Ann := (.seq (.reg [] [(0, []), (1, [])]) (.seq (.seq (.reg [] [(0, []), (1, [])]) (.cond (.seq (.reg [] [(0, []), (1, [])]) .leaf) .leaf)) (.seq (.reg [] [(0, []), (1, []), (2, []), (3, []), (4, []), (5, []), (6, [])]) (.seq (.blk (.seq (.reg [] [(0, []), (1, []), (2, [])]) (.cond (.seq (.reg [] [(0, []), (1, [])]) .leaf) (.seq (.reg [] [(0, []), (1, []), (2, []), (3, []), (4, []), (5, []), (6, []), (7, []), (8, []), (9, [])]) (.cond (.seq (.reg [] [(0, []), (1, [])]) .leaf) .leaf))))) (.seq (.reg [] [(0, []), (1, []), (2, []), (3, []), (4, []), (5, []), (6, []), (7, [])]) (.seq (.seq (.reg [] [(0, []), (1, [])]) (.cond (.seq (.reg [] [(0, []), (1, [])]) .leaf) .leaf)) (.seq (.reg [0, 1, 3, 7, 0, 0, 48, 0, 128, 511] [(0, []), (1, []), (2, []), (4, []), (5, []), (7, []), (3, []), (6, [3]), (8, []), (9, [])]) (.seq (.reg [0, 0, 2, 6, 14, 0, 32, 96, 254, 511, 1023, 2047] [(0, []), (1, []), (2, []), (3, []), (5, []), (4, []), (6, [4]), (7, [4]), (8, []), (9, []), (10, []), (11, [])]) (.seq (.reg [] [(0, []), (1, []), (2, []), (3, []), (4, [])]) .leaf)))))))))
def D12 (a0 a1 a2 a3 : Value) (K : Value → Hp → Prop) (h : Hp) : Prop :=
  vP (eqV 4 false a0 (Value.pointer none)) fun v14 =>
  vB v14 (K (Value.tuple #[(Value.int .i64 0), (Value.int .i64 1)]) h)
  (vP (nilV a0) fun v16 =>
  vP (faV 1 v16) fun v17 =>
  vP (ld1 v17 h) fun v18 =>
  vP (lkV Tryz.prog 60 v18 a1 false h) fun v20 =>
  vP (eqV 4 false v20 (Value.pointer none)) fun v23 =>
  vB v23 (K (Value.tuple #[(Value.int .i64 0), (Value.int .i64 4)]) h)
  (vP (binV .lss a2 (Value.int .i64 1)) fun v26 =>
  vP (gdW (gB v26 false) (some a2)) fun v28 =>
  vP (gdW (gB v26 false) (some v20)) fun v29 =>
  vE (gB v26 false) (CallH Tryz.prog 36 #[v29]) (fun v30 h1 =>
  vE (gB v26 false) (CallH Tryz.prog 31 #[v30]) (fun v31 h2 =>
  vP (gdW (gB v26 false) (binV .gtr v28 v31)) fun v32 =>
  vP (pickV v26 (Value.bool true) v32) fun v33 =>
  vB v33 (K (Value.tuple #[(Value.int .i64 0), (Value.int .i64 1)]) h2)
  (CallH Tryz.prog 39 #[v20, a3] (fun v37 h3 =>
  vP (exV v37 0) fun v38 =>
  vP (exV v37 1) fun v39 =>
  vP (unV .not v39) fun v41 =>
  vB v41 (K (Value.tuple #[(Value.int .i64 0), (Value.int .i64 3)]) h3)
  (vP (nilV a0) fun v43 =>
  vP (faV 3 v43) fun v44 =>
  vP (ld1 v44 h3) fun v45 =>
  CallH Tryz.prog 40 #[v20, v38] (fun v48 h4 =>
  (ld1 v44 h4) = some v45 ∧ (vA (msV 8 1 3 #[(Value.int .i64 0)] a2 a2) (fun v50 h5 =>
  muW Tryz.prog 61 v45 v48 v50 (fun _ h6 =>
  vP (nilV a0) fun v53 =>
  vP (faV 4 v53) fun v54 =>
  vP (ld1 v54 h6) fun v55 =>
  CallH Tryz.prog 36 #[v20] (fun v57 h7 =>
  (ld1 v54 h7) = some v55 ∧ (CallH Tryz.prog 31 #[v57] (fun v58 h8 =>
  (ld1 v54 h8) = some v55 ∧ (vP (binV .add v55 v58) fun v59 =>
  vP (nilV a0) fun v60 =>
  vP (faV 4 v60) fun v61 =>
  st1 v61 v59 (fun _ h9 =>
  CallH Tryz.prog 40 #[v20, v38] (fun v64 h10 =>
  K (Value.tuple #[v64, (Value.int .i64 0)]) h10) h9) h8)) h7)) h6) h5) h4)) h3)) h2)) h1) h))
theorem D12_eq (a0 a1 a2 a3 : Value) (K : Value → Hp → Prop) (h : Hp) : fnVC Tryz.prog Tryz.f12 x12 [a0, a1, a2, a3] K h = D12 a0 a1 a2 a3 K h := by kernel_rfl
theorem D12_ok : fnOk Tryz.prog Tryz.f12 x12 4 = true := by kernel_rfl
theorem C12 {a0 a1 a2 a3 : Value} {K : Value → Hp → Prop} {h : Hp} (hh : D12 a0 a1 a2 a3 K h) : CallH Tryz.prog 12 #[a0, a1, a2, a3] K h :=
  callH_of mixed Tryz.func12 x12 [a0, a1, a2, a3] D12_ok (D12_eq a0 a1 a2 a3 K h ▸ hh)
def x10 : Ann := (.seq (.reg [] [(0, [])]) (.seq (.reg [] [(0, []), (1, []), (2, []), (3, []), (4, []), (5, []), (6, []), (7, []), (8, []), (9, []), (10, []), (11, [])]) .leaf))
def D10 (a0 a1 : Value) (K : Value → Hp → Prop) (h : Hp) : Prop :=
  vP (eqV 4 false a0 (Value.pointer none)) fun v6 =>
  vP (gdW (gB v6 false) (some a0)) fun v8 =>
  vP (gdW (gB v6 false) (nilV v8)) fun v9 =>
  vP (gdW (gB v6 false) (faV 1 v9)) fun v10 =>
  vP (gdW (gB v6 false) (ld1 v10 h)) fun v11 =>
  vP (gdW (gB v6 false) (some a1)) fun v12 =>
  vP (gdW (gB v6 false) (lkV Tryz.prog 60 v11 v12 false h)) fun v13 =>
  vE (gB v6 false) (CallH Tryz.prog 37 #[v13]) (fun v14 h1 =>
  vP (pickV v6 (Value.bool true) v14) fun v15 =>
  K v15 h1) h
theorem D10_eq (a0 a1 : Value) (K : Value → Hp → Prop) (h : Hp) : fnVC Tryz.prog Tryz.f10 x10 [a0, a1] K h = D10 a0 a1 K h := by kernel_rfl
theorem D10_ok : fnOk Tryz.prog Tryz.f10 x10 2 = true := by kernel_rfl
theorem C10 {a0 a1 : Value} {K : Value → Hp → Prop} {h : Hp} (hh : D10 a0 a1 K h) : CallH Tryz.prog 10 #[a0, a1] K h :=
  callH_of mixed Tryz.func10 x10 [a0, a1] D10_ok (D10_eq a0 a1 K h ▸ hh)
def x9 : Ann := (.seq (.reg [] [(0, [])]) (.seq (.seq (.reg [] [(0, []), (1, []), (2, []), (3, []), (4, []), (5, []), (6, []), (7, []), (8, []), (9, []), (10, [])]) (.cond (.seq (.reg [] [(0, [])]) .leaf) .leaf)) (.seq (.reg [] [(0, []), (1, []), (2, []), (3, []), (4, []), (5, []), (6, []), (7, [])]) .leaf)))
def D9 (a0 a1 : Value) (K : Value → Hp → Prop) (h : Hp) : Prop :=
  vP (eqV 4 false a0 (Value.pointer none)) fun v6 =>
  vP (gdW (gB v6 false) (some a0)) fun v8 =>
  vP (gdW (gB v6 false) (nilV v8)) fun v9 =>
  vP (gdW (gB v6 false) (faV 1 v9)) fun v10 =>
  vP (gdW (gB v6 false) (ld1 v10 h)) fun v11 =>
  vP (gdW (gB v6 false) (some a1)) fun v12 =>
  vP (gdW (gB v6 false) (lkV Tryz.prog 60 v11 v12 false h)) fun v13 =>
  vP (gdW (gB v6 false) (eqV 4 false v13 (Value.pointer none))) fun v14 =>
  vP (pickV v6 (Value.bool true) v14) fun v15 =>
  vB v15 (K (Value.int .i64 (-1)) h)
  (vP (nilV a0) fun v17 =>
  vP (faV 1 v17) fun v18 =>
  vP (ld1 v18 h) fun v19 =>
  vP (lkV Tryz.prog 60 v19 a1 false h) fun v21 =>
  CallH Tryz.prog 36 #[v21] (fun v22 h1 =>
  K v22 h1) h)
theorem D9_eq (a0 a1 : Value) (K : Value → Hp → Prop) (h : Hp) : fnVC Tryz.prog Tryz.f9 x9 [a0, a1] K h = D9 a0 a1 K h := by kernel_rfl
theorem D9_ok : fnOk Tryz.prog Tryz.f9 x9 2 = true := by kernel_rfl
theorem C9 {a0 a1 : Value} {K : Value → Hp → Prop} {h : Hp} (hh : D9 a0 a1 K h) : CallH Tryz.prog 9 #[a0, a1] K h :=
  callH_of mixed Tryz.func9 x9 [a0, a1] D9_ok (D9_eq a0 a1 K h ▸ hh)
def x16 : Ann := (.seq (.reg [] [(0, []), (1, [])]) (.seq (.seq (.reg [] [(0, []), (1, []), (2, []), (3, []), (4, []), (5, []), (6, []), (7, []), (8, []), (9, []), (10, [])]) (.cond (.seq (.reg [] [(0, []), (1, []), (2, [])]) .leaf) .leaf)) (.seq (.reg [] [(0, []), (1, []), (2, []), (3, []), (4, []), (5, []), (6, []), (7, [])]) (.seq (.reg [] [(0, []), (1, []), (2, []), (3, []), (4, []), (5, []), (6, []), (7, []), (8, []), (9, []), (10, []), (11, []), (12, [])]) (.seq (.reg [] [(0, []), (1, []), (2, []), (3, []), (4, [])]) .leaf)))))
def D16 (a0 a1 : Value) (K : Value → Hp → Prop) (h : Hp) : Prop :=
  vA (some (Obj.cells #[(Value.int .i64 0), (Value.int .i64 0)] 38 (0, 0), ptrV)) (fun v4 h1 =>
  vP (eqV 4 false a0 (Value.pointer none)) fun v10 =>
  vP (gdW (gB v10 false) (some a0)) fun v12 =>
  vP (gdW (gB v10 false) (nilV v12)) fun v13 =>
  vP (gdW (gB v10 false) (faV 3 v13)) fun v14 =>
  vP (gdW (gB v10 false) (ld1 v14 h1)) fun v15 =>
  vP (gdW (gB v10 false) (some a1)) fun v16 =>
  vP (gdW (gB v10 false) (lkV Tryz.prog 61 v15 v16 false h1)) fun v17 =>
  vP (gdW (gB v10 false) (eqV 5 false v17 (Value.slice none 0 0))) fun v18 =>
  vP (pickV v10 (Value.bool true) v18) fun v19 =>
  vB v19 (vP ((bldV #[(Value.int .i64 0), (Value.int .i64 0)] []).map Value.agg) fun v20 =>
    stN 2 v4 v20 (fun _ h2 =>
    vP (ldN 2 v4 h2) fun r0 => K (Value.tuple #[r0, (Value.bool false)]) h2) h1)
  (vP (nilV a0) fun v22 =>
  vP (faV 2 v22) fun v23 =>
  vP (ld1 v23 h1) fun v24 =>
  vP (binV .quo a1 (Value.int .i64 64)) fun v26 =>
  vP (lkV Tryz.prog 52 v24 v26 false h1) fun v27 =>
  vP (nilV a0) fun v30 =>
  vP (faV 1 v30) fun v31 =>
  vP (ld1 v31 h1) fun v32 =>
  vP (lkV Tryz.prog 60 v32 v27 false h1) fun v34 =>
  CallH Tryz.prog 45 #[v34, a1] (fun v36 h3 =>
  vP (exV v36 0) fun v37 =>
  vP (exV v36 1) fun v38 =>
  vP ((bldV #[(Value.int .i64 0), (Value.int .i64 0)] [(0, 1, v27), (1, 1, v37)]).map Value.agg) fun v41 =>
  stN 2 v4 v41 (fun _ h4 =>
  vP (ldN 2 v4 h4) fun r0 => K (Value.tuple #[r0, (Value.bool true)]) h4) h3) h1)) h
theorem D16_eq (a0 a1 : Value) (K : Value → Hp → Prop) (h : Hp) : fnVC Tryz.prog Tryz.f16 x16 [a0, a1] K h = D16 a0 a1 K h := by kernel_rfl
theorem D16_ok : fnOk Tryz.prog Tryz.f16 x16 2 = true := by kernel_rfl
theorem C16 {a0 a1 : Value} {K : Value → Hp → Prop} {h : Hp} (hh : D16 a0 a1 K h) : CallH Tryz.prog 16 #[a0, a1] K h :=
  callH_of mixed Tryz.func16 x16 [a0, a1] D16_ok (D16_eq a0 a1 K h ▸ hh)
def x17 : Ann := (.seq (.reg [] [(0, [])]) (.seq (.seq (.reg [] [(0, []), (1, [])]) (.cond (.seq (.reg [] [(0, [])]) .leaf) .leaf)) (.seq (.reg [] [(0, []), (1, []), (2, []), (3, []), (4, []), (5, []), (6, []), (7, [])]) .leaf)))
def D17 (a0 a1 : Value) (K : Value → Hp → Prop) (h : Hp) : Prop :=
  vP (eqV 4 false a0 (Value.pointer none)) fun v6 =>
  vB v6 (K (Value.int .i64 0) h)
  (vP (nilV a0) fun v8 =>
  vP (faV 3 v8) fun v9 =>
  vP (ld1 v9 h) fun v10 =>
  vP (lkV Tryz.prog 61 v10 a1 false h) fun v12 =>
  vP (lenV v12) fun v13 =>
  K v13 h)
theorem D17_eq (a0 a1 : Value) (K : Value → Hp → Prop) (h : Hp) : fnVC Tryz.prog Tryz.f17 x17 [a0, a1] K h = D17 a0 a1 K h := by kernel_rfl
theorem D17_ok : fnOk Tryz.prog Tryz.f17 x17 2 = true := by kernel_rfl
theorem C17 {a0 a1 : Value} {K : Value → Hp → Prop} {h : Hp} (hh : D17 a0 a1 K h) : CallH Tryz.prog 17 #[a0, a1] K h :=
  callH_of mixed Tryz.func17 x17 [a0, a1] D17_ok (D17_eq a0 a1 K h ▸ hh)
def x65 : Ann := (.seq (.reg [] [(0, []), (1, [])]) (.seq (.blk (.seq (.reg [] [(0, []), (1, []), (2, [])]) (.cond (.seq (.reg [] [(0, []), (1, [])]) .leaf) (.seq (.reg [] [(0, []), (1, []), (2, []), (3, []), (4, []), (5, []), (6, []), (7, [])]) (.cond (.seq (.reg [] [(0, []), (1, [])]) .leaf) (.seq (.reg [] [(0, []), (1, []), (2, []), (3, []), (4, []), (5, []), (6, []), (7, []), (8, []), (9, []), (10, []), (11, []), (12, []), (13, [])]) (.cond (.seq (.reg [] [(0, []), (1, [])]) .leaf) .leaf))))))) (.seq (.reg [] [(0, []), (1, []), (2, []), (3, []), (4, []), (5, []), (6, []), (7, []), (8, []), (9, [])]) .leaf)))
def D65 (a0 a1 a2 : Value) (K : Value → Hp → Prop) (h : Hp) : Prop :=
  vP (eqV 4 false a0 (Value.pointer none)) fun v10 =>
  vB v10 (K (Value.tuple #[(Value.pointer none), (Value.int .i64 1)]) h)
  (vP (nilV a0) fun v13 =>
  vP (faV 3 v13) fun v14 =>
  vP (ld1 v14 h) fun v15 =>
  vP (lkV Tryz.prog 61 v15 a1 false h) fun v17 =>
  vP (eqV 5 false v17 (Value.slice none 0 0)) fun v18 =>
  vB v18 (K (Value.tuple #[(Value.pointer none), (Value.int .i64 4)]) h)
  (vP (binV .lss a2 (Value.int .i64 0)) fun v21 =>
  vP (gdW (gB v21 false) (some a2)) fun v23 =>
  vP (gdW (gB v21 false) (some a0)) fun v24 =>
  vP (gdW (gB v21 false) (nilV v24)) fun v25 =>
  vP (gdW (gB v21 false) (faV 3 v25)) fun v26 =>
  vP (gdW (gB v21 false) (ld1 v26 h)) fun v27 =>
  vP (gdW (gB v21 false) (some a1)) fun v28 =>
  vP (gdW (gB v21 false) (lkV Tryz.prog 61 v27 v28 false h)) fun v29 =>
  vP (gdW (gB v21 false) (lenV v29)) fun v30 =>
  vP (gdW (gB v21 false) (binV .geq v23 v30)) fun v31 =>
  vP (pickV v21 (Value.bool true) v31) fun v32 =>
  vB v32 (K (Value.tuple #[(Value.pointer none), (Value.int .i64 2)]) h)
  (vP (nilV a0) fun v34 =>
  vP (faV 3 v34) fun v35 =>
  vP (ld1 v35 h) fun v36 =>
  vP (lkV Tryz.prog 61 v36 a1 false h) fun v38 =>
  vP (iaS 1 v38 a2) fun v40 =>
  K (Value.tuple #[v40, (Value.int .i64 0)]) h)))
theorem D65_eq (a0 a1 a2 : Value) (K : Value → Hp → Prop) (h : Hp) : fnVC Tryz.prog Tryz.f65 x65 [a0, a1, a2] K h = D65 a0 a1 a2 K h := by kernel_rfl
theorem D65_ok : fnOk Tryz.prog Tryz.f65 x65 3 = true := by kernel_rfl
theorem C65 {a0 a1 a2 : Value} {K : Value → Hp → Prop} {h : Hp} (hh : D65 a0 a1 a2 K h) : CallH Tryz.prog 65 #[a0, a1, a2] K h :=
  callH_of mixed Tryz.func65 x65 [a0, a1, a2] D65_ok (D65_eq a0 a1 a2 K h ▸ hh)
def x27 : Ann := (.seq (.reg [] [(0, []), (1, [])]) (.seq (.reg [] [(0, []), (1, []), (2, []), (3, []), (4, []), (5, []), (6, []), (7, []), (8, [])]) (.seq (.seq (.reg [] [(0, []), (1, [])]) (.cond (.seq (.reg [] [(0, []), (1, []), (2, [])]) .leaf) .leaf)) (.seq (.reg [] [(0, []), (1, []), (2, []), (3, []), (4, [])]) .leaf))))
def D27 (a0 a1 a2 : Value) (K : Value → Hp → Prop) (h : Hp) : Prop :=
  CallH Tryz.prog 65 #[a0, a1, a2] (fun v14 h1 =>
  vP (exV v14 0) fun v15 =>
  vP (exV v14 1) fun v16 =>
  vP (eqV 1 true v16 (Value.int .i64 0)) fun v18 =>
  vB v18 (K (Value.tuple #[(Value.int .i64 0), v16]) h1)
  (vP (nilV v15) fun v21 =>
  vP (ld1 v21 h1) fun v22 =>
  K (Value.tuple #[v22, (Value.int .i64 0)]) h1)) h
theorem D27_eq (a0 a1 a2 : Value) (K : Value → Hp → Prop) (h : Hp) : fnVC Tryz.prog Tryz.f27 x27 [a0, a1, a2] K h = D27 a0 a1 a2 K h := by kernel_rfl
theorem D27_ok : fnOk Tryz.prog Tryz.f27 x27 3 = true := by kernel_rfl
theorem C27 {a0 a1 a2 : Value} {K : Value → Hp → Prop} {h : Hp} (hh : D27 a0 a1 a2 K h) : CallH Tryz.prog 27 #[a0, a1, a2] K h :=
  callH_of mixed Tryz.func27 x27 [a0, a1, a2] D27_ok (D27_eq a0 a1 a2 K h ▸ hh)
def x26 : Ann := (.seq (.reg [] [(0, [])]) (.seq (.reg [] [(0, []), (1, []), (2, []), (3, []), (4, []), (5, []), (6, []), (7, []), (8, [])]) (.join [] [18, 19, 20, 21, 22] (.seq (.reg [] [(0, []), (1, [])]) (.cond (.reg [] [(0, []), (1, []), (2, []), (3, [])]) .leaf)) (.seq (.reg [] [(0, []), (1, [])]) .leaf))))
def D26 (a0 a1 a2 a3 : Value) (K : Value → Hp → Prop) (h : Hp) : Prop :=
  CallH Tryz.prog 65 #[a0, a1, a2] (fun v15 h1 =>
  vP (exV v15 0) fun v16 =>
  vP (exV v15 1) fun v17 =>
  ∀ J1 : List Value → Hp → Prop, (∀ h2 : Hp, (∀ g1 : St,
    K v17 h2) → J1 [] h2) →
  vP (eqV 1 false v17 (Value.int .i64 0)) fun v19 =>
  vB v19 (vP (nilV v16) fun v22 =>
    st1 v22 a3 (fun _ h3 =>
    J1 [] h3) h1)
  (J1 [] h1)) h
theorem D26_eq (a0 a1 a2 a3 : Value) (K : Value → Hp → Prop) (h : Hp) : fnVC Tryz.prog Tryz.f26 x26 [a0, a1, a2, a3] K h = D26 a0 a1 a2 a3 K h := by kernel_rfl
theorem D26_ok : fnOk Tryz.prog Tryz.f26 x26 4 = true := by kernel_rfl
theorem C26 {a0 a1 a2 a3 : Value} {K : Value → Hp → Prop} {h : Hp} (hh : D26 a0 a1 a2 a3 K h) : CallH Tryz.prog 26 #[a0, a1, a2, a3] K h :=
  callH_of mixed Tryz.func26 x26 [a0, a1, a2, a3] D26_ok (D26_eq a0 a1 a2 a3 K h ▸ hh)
def x29 : Ann := (.seq (.reg [] [(0, [])]) (.seq (.reg [] [(0, []), (1, []), (2, []), (3, []), (4, []), (5, []), (6, []), (7, []), (8, [])]) (.seq (.reg [0, 1, 3, 7, 15, 31, 3, 67, 255, 3, 515, 2047, 4095, 8191] [(0, []), (1, []), (2, []), (3, []), (4, []), (6, []), (9, []), (5, []), (7, []), (8, []), (10, []), (11, []), (12, []), (13, [])]) .leaf)))
def D29 (a0 a1 : Value) (K : Value → Hp → Prop) (h : Hp) : Prop :=
  CallH Tryz.prog 16 #[a0, a1] (fun v10 h1 =>
  vP (exV v10 0) fun v11 =>
  vP (exV v10 1) fun v12 =>
  vA (some (Obj.cells #[(Value.int .i64 0), (Value.int .i64 0)] 38 (0, 0), ptrV)) (fun v5 h2 =>
  stN 2 v5 v11 (fun _ h3 =>
  vP (gdW (gB v12 true) (some a0)) fun v15 =>
  vP (gdW (gB v12 true) (nilV v15)) fun v16 =>
  vP (gdW (gB v12 true) (faV 1 v16)) fun v17 =>
  vP (gdW (gB v12 true) (faV 0 v5)) fun v19 =>
  vP (gdW (gB v12 true) (faV 1 v5)) fun v22 =>
  vP (gdW (gB v12 true) (ld1 v17 h3)) fun v18 =>
  vP (gdW (gB v12 true) (ld1 v19 h3)) fun v20 =>
  vP (gdW (gB v12 true) (lkV Tryz.prog 60 v18 v20 false h3)) fun v21 =>
  vP (gdW (gB v12 true) (ld1 v22 h3)) fun v23 =>
  vE (gB v12 true) (CallH Tryz.prog 67 #[v21, v23]) (fun v24 h4 =>
  vP (pickV v12 v24 (Value.bool false)) fun v25 =>
  K v25 h4) h3) h2) h1) h
theorem D29_eq (a0 a1 : Value) (K : Value → Hp → Prop) (h : Hp) : fnVC Tryz.prog Tryz.f29 x29 [a0, a1] K h = D29 a0 a1 K h := by kernel_rfl
theorem D29_ok : fnOk Tryz.prog Tryz.f29 x29 2 = true := by kernel_rfl
theorem C29 {a0 a1 : Value} {K : Value → Hp → Prop} {h : Hp} (hh : D29 a0 a1 K h) : CallH Tryz.prog 29 #[a0, a1] K h :=
  callH_of mixed Tryz.func29 x29 [a0, a1] D29_ok (D29_eq a0 a1 K h ▸ hh)
def x28 : Ann := (.seq (.reg [] [(0, [])]) (.seq (.reg [] [(0, []), (1, []), (2, []), (3, []), (4, []), (5, []), (6, []), (7, []), (8, [])]) (.seq (.reg [0, 1, 3, 7, 15, 31, 3, 67, 255, 3, 515, 2047, 4095, 8191] [(0, []), (1, []), (2, []), (3, []), (4, []), (6, []), (9, []), (5, []), (7, []), (8, []), (10, []), (11, []), (12, []), (13, [])]) .leaf)))
def D28 (a0 a1 : Value) (K : Value → Hp → Prop) (h : Hp) : Prop :=
  CallH Tryz.prog 16 #[a0, a1] (fun v10 h1 =>
  vP (exV v10 0) fun v11 =>
  vP (exV v10 1) fun v12 =>
  vA (some (Obj.cells #[(Value.int .i64 0), (Value.int .i64 0)] 38 (0, 0), ptrV)) (fun v5 h2 =>
  stN 2 v5 v11 (fun _ h3 =>
  vP (gdW (gB v12 true) (some a0)) fun v15 =>
  vP (gdW (gB v12 true) (nilV v15)) fun v16 =>
  vP (gdW (gB v12 true) (faV 1 v16)) fun v17 =>
  vP (gdW (gB v12 true) (faV 0 v5)) fun v19 =>
  vP (gdW (gB v12 true) (faV 1 v5)) fun v22 =>
  vP (gdW (gB v12 true) (ld1 v17 h3)) fun v18 =>
  vP (gdW (gB v12 true) (ld1 v19 h3)) fun v20 =>
  vP (gdW (gB v12 true) (lkV Tryz.prog 60 v18 v20 false h3)) fun v21 =>
  vP (gdW (gB v12 true) (ld1 v22 h3)) fun v23 =>
  vE (gB v12 true) (CallH Tryz.prog 66 #[v21, v23]) (fun v24 h4 =>
  vP (pickV v12 v24 (Value.bool false)) fun v25 =>
  K v25 h4) h3) h2) h1) h
theorem D28_eq (a0 a1 : Value) (K : Value → Hp → Prop) (h : Hp) : fnVC Tryz.prog Tryz.f28 x28 [a0, a1] K h = D28 a0 a1 K h := by kernel_rfl
theorem D28_ok : fnOk Tryz.prog Tryz.f28 x28 2 = true := by kernel_rfl
theorem C28 {a0 a1 : Value} {K : Value → Hp → Prop} {h : Hp} (hh : D28 a0 a1 K h) : CallH Tryz.prog 28 #[a0, a1] K h :=
  callH_of mixed Tryz.func28 x28 [a0, a1] D28_ok (D28_eq a0 a1 K h ▸ hh)
def x14 : Ann := (.seq (.reg [] [(0, []), (1, [])]) (.seq (.blk (.seq (.reg [] [(0, []), (1, []), (2, [])]) (.cond (.seq (.reg [] [(0, []), (1, [])]) .leaf) (.seq (.reg [] [(0, []), (1, []), (2, []), (3, []), (4, []), (5, []), (6, []), (7, [])]) (.cond (.seq (.reg [] [(0, []), (1, [])]) .leaf) .leaf))))) (.seq (.reg [] [(0, []), (1, []), (2, []), (3, []), (4, []), (5, []), (6, [])]) (.seq (.reg [] [(0, [])]) (.seq (.seq (.reg [] [(0, []), (1, []), (2, []), (3, [])]) (.blk (.loop [30, 7] [31, 32, 33, 9, 34, 35, 36, 37, 38, 39, 7, 40, 41, 42, 43, 44, 45, 46, 47, 48, 49, 50, 51, 52, 53, 54, 55, 56, 57, 58, 30] (.seq (.reg [] [(0, [])]) (.seq (.cond .leaf .leaf) (.seq (.blk (.seq (.reg [] [(0, []), (1, []), (2, [])]) (.seq (.reg [] [(0, []), (1, []), (2, []), (3, []), (4, []), (5, []), (6, [])]) (.seq (.reg [0, 1, 3, 7, 0, 0, 48, 127] [(0, []), (1, []), (2, []), (4, []), (5, []), (3, []), (6, [3]), (7, [])]) (.reg [0, 0, 2, 6, 14, 0, 32, 96, 254, 511, 1023, 2047] [(0, []), (1, []), (2, []), (3, []), (5, []), (4, []), (6, [4]), (7, [4]), (8, []), (9, []), (10, []), (11, [])]))))) (.reg [] [(0, []), (1, [])]))))))) (.seq (.reg [] [(0, []), (1, []), (2, [])]) .leaf))))))
def D14 (a0 a1 : Value) (K : Value → Hp → Prop) (h : Hp) : Prop :=
  vP (eqV 4 false a0 (Value.pointer none)) fun v12 =>
  vB v12 (K (Value.tuple #[(Value.slice none 0 0), (Value.int .i64 1)]) h)
  (vP (nilV a0) fun v15 =>
  vP (faV 1 v15) fun v16 =>
  vP (ld1 v16 h) fun v17 =>
  vP (lkV Tryz.prog 60 v17 a1 false h) fun v19 =>
  vP (eqV 4 false v19 (Value.pointer none)) fun v20 =>
  vB v20 (K (Value.tuple #[(Value.slice none 0 0), (Value.int .i64 4)]) h)
  (vP (nilV a0) fun v22 =>
  vP (faV 1 v22) fun v23 =>
  vP (ld1 v23 h) fun v24 =>
  vP (lkV Tryz.prog 60 v24 a1 false h) fun v26 =>
  CallH Tryz.prog 44 #[v26] (fun v28 h1 =>
  vP (lenV v28) fun v29 =>
  ∃ I1 : Nat → List Value → Hp → Prop, (∃ n, I1 n [(Value.int .i64 0), (Value.slice none 0 0)] h1) ∧
  ∀ n1 : Nat, ∀ v30 v7 : Value, ∀ h2 : Hp, I1 n1 [v30, v7] h2 → ∀ g1 : St,
    vP (binV .lss v30 v29) fun v31 =>
    vB v31 (vP (iaS 1 v28 v30) fun v32 =>
      vP (ld1 v32 h2) fun v33 =>
      CallH Tryz.prog 40 #[v26, v33] (fun v37 h3 =>
      vA ((bldV #[(Value.int .i64 0)] [(0, 1, v37)]).map fun c => (Obj.cells c 3 (0, 0), fun r => Value.slice (some ⟨r, 0, none⟩) 1 1)) (fun v38 h4 =>
      apW Tryz.prog #[22, 22] 22 v7 v38 (fun v39 h5 =>
      vP (nilV a0) fun v41 =>
      vP (faV 3 v41) fun v42 =>
      vP (ld1 v42 h5) fun v43 =>
      CallH Tryz.prog 40 #[v26, v33] (fun v46 h6 =>
      (ld1 v42 h6) = some v43 ∧ (dlW Tryz.prog #[61, 3] 0 v43 v46 (fun _ h7 =>
      vP (nilV a0) fun v49 =>
      vP (faV 4 v49) fun v50 =>
      vP (ld1 v50 h7) fun v51 =>
      CallH Tryz.prog 36 #[v26] (fun v53 h8 =>
      (ld1 v50 h8) = some v51 ∧ (CallH Tryz.prog 31 #[v53] (fun v54 h9 =>
      (ld1 v50 h9) = some v51 ∧ (vP (binV .sub v51 v54) fun v55 =>
      vP (nilV a0) fun v56 =>
      vP (faV 4 v56) fun v57 =>
      st1 v57 v55 (fun _ h10 =>
      vP (binV .add v30 (Value.int .i64 1)) fun v58 =>
      ∃ m1, m1 < n1 ∧ I1 m1 [v58, v39] h10) h9)) h8)) h7) h6)) h5) h4) h3) h2)
    (K (Value.tuple #[v7, (Value.int .i64 0)]) h2)) h))
theorem D14_eq (a0 a1 : Value) (K : Value → Hp → Prop) (h : Hp) : fnVC Tryz.prog Tryz.f14 x14 [a0, a1] K h = D14 a0 a1 K h := by kernel_rfl
theorem D14_ok : fnOk Tryz.prog Tryz.f14 x14 2 = true := by kernel_rfl
theorem C14 {a0 a1 : Value} {K : Value → Hp → Prop} {h : Hp} (hh : D14 a0 a1 K h) : CallH Tryz.prog 14 #[a0, a1] K h :=
  callH_of mixed Tryz.func14 x14 [a0, a1] D14_ok (D14_eq a0 a1 K h ▸ hh)
def x22 : Ann := (.seq (.reg [] [(0, [])]) (.seq (.seq (.reg [] [(0, []), (1, [])]) (.cond (.seq (.reg [] [(0, [])]) .leaf) .leaf)) (.seq (.reg [] [(0, []), (1, []), (2, []), (3, []), (4, []), (5, []), (6, [])]) .leaf)))
def D22 (a0 : Value) (K : Value → Hp → Prop) (h : Hp) : Prop :=
  vP (eqV 4 false a0 (Value.pointer none)) fun v4 =>
  vB v4 (K (Value.slice none 0 0) h)
  (vP (nilV a0) fun v6 =>
  vP (faV 3 v6) fun v7 =>
  vP (ld1 v7 h) fun v8 =>
  CallH Tryz.prog 61 #[v8] (fun v9 h1 =>
  CallH Tryz.prog 46 #[v9] (fun v10 h2 =>
  K v10 h2) h1) h)
theorem D22_eq (a0 : Value) (K : Value → Hp → Prop) (h : Hp) : fnVC Tryz.prog Tryz.f22 x22 [a0] K h = D22 a0 K h := by kernel_rfl
theorem D22_ok : fnOk Tryz.prog Tryz.f22 x22 1 = true := by kernel_rfl
theorem C22 {a0 : Value} {K : Value → Hp → Prop} {h : Hp} (hh : D22 a0 K h) : CallH Tryz.prog 22 #[a0] K h :=
  callH_of mixed Tryz.func22 x22 [a0] D22_ok (D22_eq a0 K h ▸ hh)
def x18 : Ann := (.seq (.reg [] [(0, [])]) (.seq (.seq (.reg [] [(0, []), (1, [])]) (.cond (.seq (.reg [] [(0, [])]) .leaf) .leaf)) (.seq (.reg [] [(0, []), (1, []), (2, []), (3, []), (4, []), (5, []), (6, [])]) .leaf)))
def D18 (a0 : Value) (K : Value → Hp → Prop) (h : Hp) : Prop :=
  vP (eqV 4 false a0 (Value.pointer none)) fun v4 =>
  vB v4 (K (Value.slice none 0 0) h)
  (vP (nilV a0) fun v6 =>
  vP (faV 1 v6) fun v7 =>
  vP (ld1 v7 h) fun v8 =>
  CallH Tryz.prog 47 #[v8] (fun v9 h1 =>
  CallH Tryz.prog 46 #[v9] (fun v10 h2 =>
  K v10 h2) h1) h)
theorem D18_eq (a0 : Value) (K : Value → Hp → Prop) (h : Hp) : fnVC Tryz.prog Tryz.f18 x18 [a0] K h = D18 a0 K h := by kernel_rfl
theorem D18_ok : fnOk Tryz.prog Tryz.f18 x18 1 = true := by kernel_rfl
theorem C18 {a0 : Value} {K : Value → Hp → Prop} {h : Hp} (hh : D18 a0 K h) : CallH Tryz.prog 18 #[a0] K h :=
  callH_of mixed Tryz.func18 x18 [a0] D18_ok (D18_eq a0 K h ▸ hh)
def x19 : Ann := (.seq (.reg [] [(0, [])]) (.seq (.seq (.reg [] [(0, []), (1, [])]) (.cond (.seq (.reg [] [(0, [])]) .leaf) .leaf)) (.seq (.reg [] [(0, []), (1, []), (2, []), (3, []), (4, [])]) .leaf)))
def D19 (a0 : Value) (K : Value → Hp → Prop) (h : Hp) : Prop :=
  vP (eqV 4 false a0 (Value.pointer none)) fun v4 =>
  vB v4 (K (Value.int .i64 0) h)
  (vP (nilV a0) fun v6 =>
  vP (faV 4 v6) fun v7 =>
  vP (ld1 v7 h) fun v8 =>
  K v8 h)
theorem D19_eq (a0 : Value) (K : Value → Hp → Prop) (h : Hp) : fnVC Tryz.prog Tryz.f19 x19 [a0] K h = D19 a0 K h := by kernel_rfl
theorem D19_ok : fnOk Tryz.prog Tryz.f19 x19 1 = true := by kernel_rfl
theorem C19 {a0 : Value} {K : Value → Hp → Prop} {h : Hp} (hh : D19 a0 K h) : CallH Tryz.prog 19 #[a0] K h :=
  callH_of mixed Tryz.func19 x19 [a0] D19_ok (D19_eq a0 K h ▸ hh)
def x11 : Ann := (.seq (.reg [] [(0, [])]) (.seq (.seq (.reg [] [(0, []), (1, [])]) (.cond (.seq (.reg [] [(0, [])]) .leaf) .leaf)) (.seq (.reg [] [(0, []), (1, []), (2, []), (3, []), (4, []), (5, [])]) .leaf)))
def D11 (a0 : Value) (K : Value → Hp → Prop) (h : Hp) : Prop :=
  vP (eqV 4 false a0 (Value.pointer none)) fun v4 =>
  vB v4 (K (Value.int .i64 0) h)
  (vP (nilV a0) fun v6 =>
  vP (faV 0 v6) fun v7 =>
  vP (ld1 v7 h) fun v8 =>
  CallH Tryz.prog 38 #[v8] (fun v9 h1 =>
  K v9 h1) h)
theorem D11_eq (a0 : Value) (K : Value → Hp → Prop) (h : Hp) : fnVC Tryz.prog Tryz.f11 x11 [a0] K h = D11 a0 K h := by kernel_rfl
theorem D11_ok : fnOk Tryz.prog Tryz.f11 x11 1 = true := by kernel_rfl
theorem C11 {a0 : Value} {K : Value → Hp → Prop} {h : Hp} (hh : D11 a0 K h) : CallH Tryz.prog 11 #[a0] K h :=
  callH_of mixed Tryz.func11 x11 [a0] D11_ok (D11_eq a0 K h ▸ hh)
def x46 : Ann := (.seq (.reg [] [(0, [])]) (.seq (.reg [] [(0, []), (1, []), (2, [])]) (.seq (.reg [] [(0, []), (1, [])]) (.seq (.reg [] [(0, []), (1, [])]) .leaf))))
def D46 (a0 : Value) (K : Value → Hp → Prop) (h : Hp) : Prop :=
  CallH Tryz.prog 88 #[a0] (fun v5 h1 =>
  CallH Tryz.prog 89 #[v5] (fun v7 h2 =>
  K v5 h2) h1) h
theorem D46_eq (a0 : Value) (K : Value → Hp → Prop) (h : Hp) : fnVC Tryz.prog Tryz.f46 x46 [a0] K h = D46 a0 K h := by kernel_rfl
theorem D46_ok : fnOk Tryz.prog Tryz.f46 x46 1 = true := by kernel_rfl
theorem C46 {a0 : Value} {K : Value → Hp → Prop} {h : Hp} (hh : D46 a0 K h) : CallH Tryz.prog 46 #[a0] K h :=
  callH_of mixed Tryz.func46 x46 [a0] D46_ok (D46_eq a0 K h ▸ hh)
def x61 : Ann := (.seq (.reg [] [(0, []), (1, [])]) (.seq (.reg [] [(0, []), (1, [])]) .leaf))
def D61 (a0 : Value) (K : Value → Hp → Prop) (h : Hp) : Prop :=
  vA (some (Obj.cells (Value.cells a0) 61 (0, 0), ptrV)) (fun v1 h1 =>
  vP (some (Value.func (.func 100) #[] #[v1])) fun v3 =>
  K v3 h1) h
theorem D61_eq (a0 : Value) (K : Value → Hp → Prop) (h : Hp) : fnVC Tryz.prog Tryz.f61 x61 [a0] K h = D61 a0 K h := by kernel_rfl
theorem D61_ok : fnOk Tryz.prog Tryz.f61 x61 1 = true := by kernel_rfl
theorem C61 {a0 : Value} {K : Value → Hp → Prop} {h : Hp} (hh : D61 a0 K h) : CallH Tryz.prog 61 #[a0] K h :=
  callH_of mixed Tryz.func61 x61 [a0] D61_ok (D61_eq a0 K h ▸ hh)
def x47 : Ann := (.seq (.reg [] [(0, []), (1, [])]) (.seq (.reg [] [(0, []), (1, [])]) .leaf))
def D47 (a0 : Value) (K : Value → Hp → Prop) (h : Hp) : Prop :=
  vA (some (Obj.cells (Value.cells a0) 60 (0, 0), ptrV)) (fun v1 h1 =>
  vP (some (Value.func (.func 90) #[] #[v1])) fun v3 =>
  K v3 h1) h
theorem D47_eq (a0 : Value) (K : Value → Hp → Prop) (h : Hp) : fnVC Tryz.prog Tryz.f47 x47 [a0] K h = D47 a0 K h := by kernel_rfl
theorem D47_ok : fnOk Tryz.prog Tryz.f47 x47 1 = true := by kernel_rfl
theorem C47 {a0 : Value} {K : Value → Hp → Prop} {h : Hp} (hh : D47 a0 K h) : CallH Tryz.prog 47 #[a0] K h :=
  callH_of mixed Tryz.func47 x47 [a0] D47_ok (D47_eq a0 K h ▸ hh)
def x88 : Ann := (.seq (.reg [] [(0, [])]) (.seq (.reg [] [(0, []), (1, []), (2, [])]) .leaf))
def D88 (a0 : Value) (K : Value → Hp → Prop) (h : Hp) : Prop :=
  CallH Tryz.prog 110 #[(Value.slice none 0 0), a0] (fun v4 h1 =>
  K v4 h1) h
theorem D88_eq (a0 : Value) (K : Value → Hp → Prop) (h : Hp) : fnVC Tryz.prog Tryz.f88 x88 [a0] K h = D88 a0 K h := by kernel_rfl
theorem D88_ok : fnOk Tryz.prog Tryz.f88 x88 1 = true := by kernel_rfl
theorem C88 {a0 : Value} {K : Value → Hp → Prop} {h : Hp} (hh : D88 a0 K h) : CallH Tryz.prog 88 #[a0] K h :=
  callH_of mixed Tryz.func88 x88 [a0] D88_ok (D88_eq a0 K h ▸ hh)
end Go.Proofs

/-
  The conditions of some functions, as the printer wrote them out of the dump; the kernel checks that each is the function's own.
-/
set_option maxRecDepth 100000
namespace Go.Proofs
open Go.Sl
def x15 : Ann := (.seq (.reg [] [(0, [])]) (.seq (.seq (.reg [] [(0, []), (1, []), (2, []), (3, []), (4, [])]) (.cond (.seq (.reg [] [(0, [])]) .leaf) .leaf)) (.seq (.seq (.reg [] [(0, [])]) (.blk (.loop [5] [11, 12, 13, 14, 17, 18, 19, 20, 21, 22, 23, 24, 25, 4, 15, 16, 5] (.seq (.seq (.reg [] [(0, []), (1, []), (2, []), (3, [])]) (.cond .leaf .leaf)) (.seq (.blk (.seq (.reg [0, 0, 3, 7, 0, 0, 48, 112, 255] [(0, []), (1, []), (2, []), (4, []), (5, []), (6, []), (3, []), (7, []), (8, [])]) (.cond (.seq (.reg [] [(0, [])]) .leaf) .leaf))) (.reg [] [(0, []), (1, []), (2, [])])))))) (.seq (.reg [] [(0, [])]) .leaf))))
def D15 (a0 a1 : Value) (K : Value → Hp → Prop) (h : Hp) : Prop :=
  vP (lenV a0) fun v7 =>
  vP (lenV a1) fun v9 =>
  vP (eqV 1 true v7 v9) fun v10 =>
  vB v10 (K (Value.bool false) h)
  (∃ I1 : Nat → List Value → Hp → Prop, (∃ n, I1 n [(Value.int .i64 0)] h) ∧
  ∀ n1 : Nat, ∀ v5 : Value, ∀ h1 : Hp, I1 n1 [v5] h1 → ∀ g1 : St,
    vP (lenV a0) fun v13 =>
    vP (binV .lss v5 v13) fun v14 =>
    vB v14 (vP (iaS 1 a0 v5) fun v19 =>
      vP (iaS 1 a1 v5) fun v23 =>
      vP (ld1 v19 h1) fun v20 =>
      vP (ld1 v23 h1) fun v24 =>
      vP (eqV 1 true v20 v24) fun v25 =>
      vB v25 (K (Value.bool false) h1)
      (vP (binV .add v5 (Value.int .i64 1)) fun v16 =>
      ∃ m1, m1 < n1 ∧ I1 m1 [v16] h1))
    (K (Value.bool true) h1))
theorem D15_eq (a0 a1 : Value) (K : Value → Hp → Prop) (h : Hp) : fnVC Tryz.prog Tryz.f15 x15 [a0, a1] K h = D15 a0 a1 K h := by kernel_rfl
theorem D15_ok : fnOk Tryz.prog Tryz.f15 x15 2 = true := by kernel_rfl
theorem C15 {a0 a1 : Value} {K : Value → Hp → Prop} {h : Hp} (hh : D15 a0 a1 K h) : CallH Tryz.prog 15 #[a0, a1] K h :=
  callH_of mixed Tryz.func15 x15 [a0, a1] D15_ok (D15_eq a0 a1 K h ▸ hh)
def x62 : Ann := (.seq (.reg [] [(0, [])]) (.seq (.reg [] [(0, [])]) (.seq (.blk (.loop [5] [6, 7, 8, 9, 10, 11, 12, 13, 14, 15, 16, 17, 18, 19, 5] (.seq (.seq (.reg [] [(0, []), (1, []), (2, []), (3, []), (4, []), (5, []), (6, []), (7, []), (8, []), (9, []), (10, []), (11, [])]) (.cond .leaf .leaf)) (.blk (.reg [] [(0, []), (1, []), (2, [])]))))) (.seq (.seq (.reg [] [(0, []), (1, []), (2, []), (3, []), (4, []), (5, []), (6, []), (7, []), (8, []), (9, []), (10, []), (11, [])]) (.cond (.seq (.reg [] [(0, []), (1, [])]) .leaf) .leaf)) (.seq (.reg [0, 0, 0, 6, 15, 0, 32, 127, 0, 0, 768, 2047, 4095] [(1, []), (2, []), (3, []), (5, []), (8, []), (9, []), (10, []), (0, []), (4, []), (6, []), (7, []), (11, []), (12, [])]) .leaf)))))
def D62 (a0 a1 : Value) (K : Value → Hp → Prop) (h : Hp) : Prop :=
  ∃ I1 : Nat → List Value → Hp → Prop, (∃ n, I1 n [(Value.int .i64 0)] h) ∧
  ∀ n1 : Nat, ∀ v5 : Value, ∀ h1 : Hp, I1 n1 [v5] h1 → ∀ g1 : St,
    vP (lenV a0) fun v8 =>
    vP (binV .lss v5 v8) fun v9 =>
    vP (gdW (gB v9 true) (some a0)) fun v11 =>
    vP (gdW (gB v9 true) (some v5)) fun v12 =>
    vP (gdW (gB v9 true) (iaS 1 v11 v12)) fun v13 =>
    vP (gdW (gB v9 true) (ld1 v13 h1)) fun v14 =>
    vP (gdW (gB v9 true) (some a1)) fun v15 =>
    vP (gdW (gB v9 true) (binV .lss v14 v15)) fun v16 =>
    vP (pickV v9 v16 (Value.bool false)) fun v17 =>
    vB v17 (vP (binV .add v5 (Value.int .i64 1)) fun v19 =>
      ∃ m1, m1 < n1 ∧ I1 m1 [v19] h1)
    (vP (lenV a0) fun v22 =>
    vP (binV .lss v5 v22) fun v23 =>
    vP (gdW (gB v23 true) (some a0)) fun v25 =>
    vP (gdW (gB v23 true) (some v5)) fun v26 =>
    vP (gdW (gB v23 true) (iaS 1 v25 v26)) fun v27 =>
    vP (gdW (gB v23 true) (ld1 v27 h1)) fun v28 =>
    vP (gdW (gB v23 true) (some a1)) fun v29 =>
    vP (gdW (gB v23 true) (eqV 1 false v28 v29)) fun v30 =>
    vP (pickV v23 v30 (Value.bool false)) fun v31 =>
    vB v31 (K a0 h1)
    (vP (slV 1 a0 none (some v5) none) fun v36 =>
    vP (slV 1 a0 (some v5) none none) fun v43 =>
    vA ((bldV #[] []).map fun c => (Obj.cells c 3 (0, 0), fun r => Value.slice (some ⟨r, 0, none⟩) 0 0)) (fun v33 h2 =>
    apW Tryz.prog #[22, 22] 22 v33 v36 (fun v37 h3 =>
    vA ((bldV #[(Value.int .i64 0)] [(0, 1, a1)]).map fun c => (Obj.cells c 3 (0, 0), fun r => Value.slice (some ⟨r, 0, none⟩) 1 1)) (fun v39 h4 =>
    apW Tryz.prog #[22, 22] 22 v37 v39 (fun v40 h5 =>
    apW Tryz.prog #[22, 22] 22 v40 v43 (fun v44 h6 =>
    K v44 h6) h5) h4) h3) h2) h1))
theorem D62_eq (a0 a1 : Value) (K : Value → Hp → Prop) (h : Hp) : fnVC Tryz.prog Tryz.f62 x62 [a0, a1] K h = D62 a0 a1 K h := by kernel_rfl
theorem D62_ok : fnOk Tryz.prog Tryz.f62 x62 2 = true := by kernel_rfl
theorem C62 {a0 a1 : Value} {K : Value → Hp → Prop} {h : Hp} (hh : D62 a0 a1 K h) : CallH Tryz.prog 62 #[a0, a1] K h :=
  callH_of mixed Tryz.func62 x62 [a0, a1] D62_ok (D62_eq a0 a1 K h ▸ hh)
def x76 : Ann := (.seq (.reg [] [(0, [])]) (.seq (.reg [] [(0, []), (1, [])]) .leaf))
def D76 (K : Value → Hp → Prop) (h : Hp) : Prop :=
  vA ((bldV #[(Value.int .i64 0), (Value.int .i64 0), (Value.int .i64 0), (Value.int .i64 0), (Value.int .i64 0), (Value.int .i64 0), (Value.int .i64 0), (Value.int .i64 0), (Value.int .i64 0), (Value.int .i64 0), (Value.int .i64 0), (Value.int .i64 0), (Value.int .i64 0), (Value.int .i64 0), (Value.int .i64 0), (Value.int .i64 0)] [(0, 1, (Value.int .i64 1)), (1, 1, (Value.int .i64 2)), (2, 1, (Value.int .i64 3)), (3, 1, (Value.int .i64 4)), (4, 1, (Value.int .i64 6)), (5, 1, (Value.int .i64 8)), (6, 1, (Value.int .i64 12)), (7, 1, (Value.int .i64 16)), (8, 1, (Value.int .i64 24)), (9, 1, (Value.int .i64 32)), (10, 1, (Value.int .i64 48)), (11, 1, (Value.int .i64 64)), (12, 1, (Value.int .i64 96)), (13, 1, (Value.int .i64 128)), (14, 1, (Value.int .i64 192)), (15, 1, (Value.int .i64 256))]).map fun c => (Obj.cells c 3 (0, 0), fun r => Value.slice (some ⟨r, 0, none⟩) 16 16)) (fun v1 h1 =>
  K v1 h1) h
theorem D76_eq (K : Value → Hp → Prop) (h : Hp) : fnVC Tryz.prog Tryz.f76 x76 [] K h = D76  K h := by kernel_rfl
theorem D76_ok : fnOk Tryz.prog Tryz.f76 x76 0 = true := by kernel_rfl
theorem C76 {K : Value → Hp → Prop} {h : Hp} (hh : D76  K h) : CallH Tryz.prog 76 #[] K h :=
  callH_of mixed Tryz.func76 x76 [] D76_ok (D76_eq  K h ▸ hh)
def x35 : Ann := (.seq (.reg [] [(0, [])]) (.seq (.seq (.reg [] [(0, []), (1, []), (2, []), (3, []), (4, []), (5, [])]) (.cond (.seq (.reg [] [(0, [])]) .leaf) .leaf)) (.seq (.reg [] [(0, []), (1, []), (2, []), (3, []), (4, [])]) .leaf)))
def D35 (a0 : Value) (K : Value → Hp → Prop) (h : Hp) : Prop :=
  vP (binV .lss a0 (Value.int .i64 0)) fun v4 =>
  vP (gdW (gB v4 false) (some a0)) fun v6 =>
  vP (gdW (gB v4 false) (binV .gtr v6 (Value.int .i64 15))) fun v7 =>
  vP (pickV v4 (Value.bool true) v7) fun v8 =>
  vB v8 (K (Value.int .i64 0) h)
  (CallH Tryz.prog 76 #[] (fun v9 h1 =>
  vP (iaS 1 v9 a0) fun v11 =>
  vP (ld1 v11 h1) fun v12 =>
  K v12 h1) h)
theorem D35_eq (a0 : Value) (K : Value → Hp → Prop) (h : Hp) : fnVC Tryz.prog Tryz.f35 x35 [a0] K h = D35 a0 K h := by kernel_rfl
theorem D35_ok : fnOk Tryz.prog Tryz.f35 x35 1 = true := by kernel_rfl
theorem C35 {a0 : Value} {K : Value → Hp → Prop} {h : Hp} (hh : D35 a0 K h) : CallH Tryz.prog 35 #[a0] K h :=
  callH_of mixed Tryz.func35 x35 [a0] D35_ok (D35_eq a0 K h ▸ hh)
def x8 : Ann := (.seq (.reg [] [(0, [])]) (.seq (.reg [] [(0, []), (1, []), (2, [])]) (.seq (.seq (.reg [] [(0, []), (1, [])]) (.cond (.seq (.reg [] [(0, [])]) .leaf) .leaf)) (.seq (.reg [] [(0, [])]) (.blk (.loop [4] [12, 13, 5, 14, 15, 16, 17, 18, 19, 20, 21, 22, 23, 24, 25, 2, 10, 11, 4] (.seq (.blk (.seq (.reg [] [(0, []), (1, []), (2, [])]) (.seq (.reg [] [(0, []), (1, []), (2, []), (3, []), (4, []), (5, []), (6, []), (7, []), (8, []), (9, []), (10, [])]) (.cond (.seq (.reg [] [(0, []), (1, [])]) .leaf) .leaf)))) (.reg [] [(0, []), (1, []), (2, [])]))))))))
def D8 (a0 : Value) (K : Value → Hp → Prop) (h : Hp) : Prop :=
  CallH Tryz.prog 35 #[a0] (fun v7 h1 =>
  vP (eqV 1 false v7 (Value.int .i64 0)) fun v9 =>
  vB v9 (K (Value.int .i64 0) h1)
  (∃ I1 : Nat → List Value → Hp → Prop, (∃ n, I1 n [(Value.int .i64 1)] h1) ∧
  ∀ n1 : Nat, ∀ v4 : Value, ∀ h2 : Hp, I1 n1 [v4] h2 → ∀ g1 : St,
    vP (binV .mul v4 (Value.int .i64 64)) fun v13 =>
    vP (binV .geq v13 v7) fun v16 =>
    vP (gdW (gB v16 true) (some v13)) fun v18 =>
    vP (gdW (gB v16 true) (some v7)) fun v19 =>
    vP (gdW (gB v16 true) (binV .rem v18 v19)) fun v20 =>
    vP (gdW (gB v16 true) (binV .mul v20 (Value.int .i64 8))) fun v21 =>
    vP (gdW (gB v16 true) (some v13)) fun v22 =>
    vP (gdW (gB v16 true) (binV .leq v21 v22)) fun v23 =>
    vP (pickV v16 v23 (Value.bool false)) fun v24 =>
    vB v24 (K v4 h2)
    (vP (binV .add v4 (Value.int .i64 1)) fun v11 =>
    ∃ m1, m1 < n1 ∧ I1 m1 [v11] h2))) h
theorem D8_eq (a0 : Value) (K : Value → Hp → Prop) (h : Hp) : fnVC Tryz.prog Tryz.f8 x8 [a0] K h = D8 a0 K h := by kernel_rfl
theorem D8_ok : fnOk Tryz.prog Tryz.f8 x8 1 = true := by kernel_rfl
theorem C8 {a0 : Value} {K : Value → Hp → Prop} {h : Hp} (hh : D8 a0 K h) : CallH Tryz.prog 8 #[a0] K h :=
  callH_of mixed Tryz.func8 x8 [a0] D8_ok (D8_eq a0 K h ▸ hh)
def x114 : Ann := (.seq (.reg [] [(0, [])]) (.seq (.seq (.reg [] [(0, []), (1, []), (2, [])]) (.cond (.seq (.reg [] [(0, [])]) .leaf) .leaf)) (.seq (.reg [] [(0, []), (1, []), (2, []), (3, []), (4, []), (5, []), (6, [])]) .leaf)))
def D114 (a0 : Value) (K : Value → Hp → Prop) (h : Hp) : Prop :=
  CallH Tryz.prog 35 #[a0] (fun v4 h1 =>
  vP (eqV 1 false v4 (Value.int .i64 0)) fun v5 =>
  vB v5 (K (Value.int .i64 0) h1)
  (CallH Tryz.prog 8 #[a0] (fun v7 h2 =>
  vP (binV .mul v7 (Value.int .i64 64)) fun v8 =>
  CallH Tryz.prog 35 #[a0] (fun v10 h3 =>
  vP (binV .quo v8 v10) fun v11 =>
  K v11 h3) h2) h1)) h
theorem D114_eq (a0 : Value) (K : Value → Hp → Prop) (h : Hp) : fnVC Tryz.prog Tryz.f114 x114 [a0] K h = D114 a0 K h := by kernel_rfl
theorem D114_ok : fnOk Tryz.prog Tryz.f114 x114 1 = true := by kernel_rfl
theorem C114 {a0 : Value} {K : Value → Hp → Prop} {h : Hp} (hh : D114 a0 K h) : CallH Tryz.prog 114 #[a0] K h :=
  callH_of mixed Tryz.func114 x114 [a0] D114_ok (D114_eq a0 K h ▸ hh)
def x5 : Ann := (.seq (.reg [] [(0, [])]) (.seq (.reg [] [(0, []), (1, []), (2, []), (3, []), (4, []), (5, [])]) (.seq (.reg [] [(0, []), (1, []), (2, []), (3, []), (4, []), (5, [])]) (.seq (.seq (.reg [] [(0, []), (1, []), (2, []), (3, []), (4, []), (5, []), (6, []), (7, []), (8, []), (9, [])]) (.cond (.seq (.reg [] [(0, [])]) .leaf) .leaf)) (.seq (.reg [] [(0, []), (1, []), (2, []), (3, []), (4, []), (5, []), (6, [])]) (.seq (.reg [] [(0, []), (1, []), (2, []), (3, []), (4, []), (5, []), (6, []), (7, [])]) (.seq (.reg [] [(0, []), (1, []), (2, []), (3, [])]) (.seq (.reg [] [(0, []), (1, []), (2, []), (3, []), (4, []), (5, []), (6, []), (7, [])]) (.seq (.reg [] [(0, []), (1, []), (2, []), (3, []), (4, []), (5, []), (6, []), (7, [])]) (.seq (.reg [] [(0, []), (1, []), (2, []), (3, []), (4, []), (5, []), (6, []), (7, []), (8, []), (9, []), (10, []), (11, []), (12, []), (13, []), (14, []), (15, []), (16, []), (17, []), (18, []), (19, []), (20, []), (21, []), (22, []), (23, []), (24, []), (25, []), (26, []), (27, []), (28, []), (29, []), (30, []), (31, []), (32, []), (33, []), (34, []), (35, []), (36, []), (37, []), (38, []), (39, []), (40, []), (41, []), (42, []), (43, []), (44, []), (45, []), (46, []), (47, []), (48, []), (49, []), (50, []), (51, [])]) .leaf))))))))))
def D5 (K : Value → Hp → Prop) (h : Hp) : Prop :=
  CallH Tryz.prog 6 #[(Value.int .i64 256)] (fun v15 h1 =>
  vP (exV v15 0) fun v16 =>
  vP (exV v15 1) fun v17 =>
  CallH Tryz.prog 6 #[(Value.int .i64 255)] (fun v19 h2 =>
  vP (exV v19 0) fun v20 =>
  vP (exV v19 1) fun v21 =>
  vP (eqV 1 true v17 (Value.int .i64 0)) fun v23 =>
  vP (gdW (gB v23 false) (some v16)) fun v25 =>
  vP (gdW (gB v23 false) (eqV 4 false v25 (Value.pointer none))) fun v26 =>
  vP (pickV v23 (Value.bool true) v26) fun v27 =>
  vP (gdW (gB v27 false) (some v21)) fun v29 =>
  vP (gdW (gB v27 false) (eqV 1 true v29 (Value.int .i64 1))) fun v30 =>
  vP (pickV v27 (Value.bool true) v30) fun v31 =>
  vB v31 (K (Value.bool false) h2)
  (CallH Tryz.prog 7 #[v16, (Value.int .i64 0)] (fun v34 h3 =>
  vP (exV v34 0) fun v35 =>
  vP (exV v34 1) fun v36 =>
  CallH Tryz.prog 12 #[v16, v35, (Value.int .i64 1), (Value.bool true)] (fun v40 h4 =>
  vP (exV v40 0) fun v41 =>
  vP (exV v40 1) fun v42 =>
  CallH Tryz.prog 26 #[v16, v41, (Value.int .i64 0), (Value.int .i64 7)] (fun v45 h5 =>
  CallH Tryz.prog 27 #[v16, v41, (Value.int .i64 0)] (fun v49 h6 =>
  vP (exV v49 0) fun v50 =>
  vP (exV v49 1) fun v51 =>
  CallH Tryz.prog 27 #[v16, v41, (Value.int .i64 1)] (fun v55 h7 =>
  vP (exV v55 0) fun v56 =>
  vP (exV v55 1) fun v57 =>
  vP (eqV 1 false v35 (Value.int .i64 0)) fun v59 =>
  vP (gdW (gB v59 true) (some v36)) fun v61 =>
  vP (gdW (gB v59 true) (eqV 1 false v61 (Value.int .i64 0))) fun v62 =>
  vP (pickV v59 v62 (Value.bool false)) fun v63 =>
  vP (gdW (gB v63 true) (some v41)) fun v65 =>
  vP (gdW (gB v63 true) (eqV 1 false v65 (Value.int .i64 64))) fun v66 =>
  vP (pickV v63 v66 (Value.bool false)) fun v67 =>
  vP (gdW (gB v67 true) (some v42)) fun v69 =>
  vP (gdW (gB v67 true) (eqV 1 false v69 (Value.int .i64 0))) fun v70 =>
  vP (pickV v67 v70 (Value.bool false)) fun v71 =>
  vP (gdW (gB v71 true) (some v45)) fun v73 =>
  vP (gdW (gB v71 true) (eqV 1 false v73 (Value.int .i64 0))) fun v74 =>
  vP (pickV v71 v74 (Value.bool false)) fun v75 =>
  vP (gdW (gB v75 true) (some v50)) fun v77 =>
  vP (gdW (gB v75 true) (eqV 1 false v77 (Value.int .i64 7))) fun v78 =>
  vP (pickV v75 v78 (Value.bool false)) fun v79 =>
  vP (gdW (gB v79 true) (some v51)) fun v81 =>
  vP (gdW (gB v79 true) (eqV 1 false v81 (Value.int .i64 0))) fun v82 =>
  vP (pickV v79 v82 (Value.bool false)) fun v83 =>
  vP (gdW (gB v83 true) (some v57)) fun v85 =>
  vP (gdW (gB v83 true) (eqV 1 false v85 (Value.int .i64 2))) fun v86 =>
  vP (pickV v83 v86 (Value.bool false)) fun v87 =>
  vP (gdW (gB v87 true) (some v16)) fun v89 =>
  vP (gdW (gB v87 true) (some v41)) fun v90 =>
  vE (gB v87 true) (CallH Tryz.prog 28 #[v89, v90]) (fun v91 h8 =>
  vP (pickV v87 v91 (Value.bool false)) fun v92 =>
  vP (gdW (gB v92 true) (some v16)) fun v94 =>
  vP (gdW (gB v92 true) (some v41)) fun v95 =>
  vE (gB v92 true) (CallH Tryz.prog 29 #[v94, v95]) (fun v96 h9 =>
  vP (gdW (gB v92 true) (unV .not v96)) fun v97 =>
  vP (pickV v92 v97 (Value.bool false)) fun v98 =>
  vP (gdW (gB v98 true) (some v16)) fun v100 =>
  vE (gB v98 true) (CallH Tryz.prog 19 #[v100]) (fun v101 h10 =>
  vP (gdW (gB v98 true) (eqV 1 false v101 (Value.int .i64 1))) fun v102 =>
  vP (pickV v98 v102 (Value.bool false)) fun v103 =>
  vP (gdW (gB v103 true) (some v16)) fun v105 =>
  vE (gB v103 true) (CallH Tryz.prog 11 #[v105]) (fun v106 h11 =>
  vP (gdW (gB v103 true) (eqV 1 false v106 (Value.int .i64 2))) fun v107 =>
  vP (pickV v103 v107 (Value.bool false)) fun v108 =>
  K v108 h11) h10) h9) h8) h7) h6) h5) h4) h3) h2)) h1) h
theorem D5_eq (K : Value → Hp → Prop) (h : Hp) : fnVC Tryz.prog Tryz.f5 x5 [] K h = D5  K h := by kernel_rfl
theorem D5_ok : fnOk Tryz.prog Tryz.f5 x5 0 = true := by kernel_rfl
theorem C5 {K : Value → Hp → Prop} {h : Hp} (hh : D5  K h) : CallH Tryz.prog 5 #[] K h :=
  callH_of mixed Tryz.func5 x5 [] D5_ok (D5_eq  K h ▸ hh)
def x21 : Ann := (.seq (.reg [] [(0, []), (1, [])]) (.seq (.reg [] [(0, []), (1, []), (2, [])]) (.join [7] [31, 32, 8, 33, 34, 35, 36, 37, 38, 39, 40, 41, 42, 43, 44, 45, 46, 47, 48, 49, 50, 51, 7] (.seq (.reg [] [(0, []), (1, []), (2, [])]) (.seq (.reg [] [(0, []), (1, []), (2, []), (3, []), (4, []), (5, []), (6, []), (7, [])]) (.cond (.reg [] [(0, []), (1, []), (2, []), (3, []), (4, []), (5, []), (6, []), (7, []), (8, []), (9, []), (10, []), (11, [])]) .leaf))) (.seq (.seq (.reg [] [(0, []), (1, []), (2, []), (3, []), (4, [])]) (.blk (.seq (.reg [] [(0, []), (1, [])]) (.cond (.seq (.reg [] [(0, []), (1, []), (2, []), (3, []), (4, []), (5, []), (6, []), (7, []), (8, [])]) (.seq (.reg [] [(0, []), (1, []), (2, []), (3, []), (4, []), (5, []), (6, []), (7, []), (8, [])]) (.seq (.reg [] [(0, []), (1, []), (2, []), (3, []), (4, []), (5, []), (6, []), (7, []), (8, [])]) .leaf))) (.seq (.reg [] [(0, []), (1, [])]) (.cond (.seq (.reg [0, 0, 2, 7, 0, 0, 32, 127, 255, 511] [(0, []), (1, []), (4, []), (5, []), (2, []), (6, []), (3, [6]), (7, []), (8, []), (9, [])]) .leaf) (.join [92] [93, 92, 94, 95] (.seq (.reg [] [(0, []), (1, [])]) (.cond .leaf (.seq (.reg [] [(0, []), (1, [])]) (.cond .leaf (.reg [] [(0, []), (1, [])]))))) (.cond (.seq (.reg [] [(0, []), (1, []), (2, []), (3, []), (4, []), (5, []), (6, []), (7, []), (8, []), (9, []), (10, []), (11, []), (12, [])]) (.seq (.reg [] [(0, []), (1, []), (2, []), (3, []), (4, []), (5, []), (6, []), (7, []), (8, []), (9, []), (10, []), (11, []), (12, [])]) (.seq (.reg [] [(0, []), (1, []), (2, []), (3, []), (4, []), (5, []), (6, []), (7, []), (8, [])]) .leaf))) (.seq (.reg [] [(0, []), (1, [])]) (.cond (.seq (.reg [0, 0, 0, 4, 0, 16, 63, 0, 0, 0, 512, 0, 2048, 8191, 16383, 32767] [(0, []), (1, []), (2, []), (4, []), (7, []), (8, []), (9, []), (11, []), (3, []), (5, []), (10, []), (12, []), (6, [12, 10]), (13, []), (14, []), (15, [])]) .leaf) (.seq (.reg [] [(0, []), (1, [])]) (.cond (.seq (.reg [] [(0, []), (1, []), (2, []), (3, []), (4, []), (5, []), (6, []), (7, [])]) .leaf) (.seq (.reg [] [(0, []), (1, [])]) (.cond (.seq (.reg [] [(0, []), (1, []), (2, []), (3, []), (4, []), (5, []), (6, []), (7, []), (8, [])]) (.seq (.reg [] [(0, []), (1, []), (2, []), (3, []), (4, []), (5, []), (6, []), (7, []), (8, [])]) (.seq (.reg [] [(0, []), (1, []), (2, []), (3, []), (4, []), (5, []), (6, []), (7, []), (8, [])]) .leaf))) .leaf)))))))))))))) (.seq (.reg [] [(0, []), (1, []), (2, []), (3, []), (4, []), (5, []), (6, []), (7, []), (8, []), (9, [])]) (.seq (.reg [] [(0, []), (1, []), (2, []), (3, []), (4, []), (5, []), (6, []), (7, []), (8, []), (9, [])]) (.seq (.reg [] [(0, []), (1, []), (2, []), (3, []), (4, []), (5, []), (6, []), (7, []), (8, [])]) (.seq (.reg [] [(0, []), (1, []), (2, []), (3, []), (4, []), (5, []), (6, []), (7, []), (8, [])]) (.seq (.reg [0, 0, 3, 7, 15, 15, 63, 127, 255, 511, 511, 2047, 4095, 8191, 16383, 16383, 65535, 131071, 262143, 524287, 524287, 2097151, 524287, 524287, 16777215, 33554431, 67108863, 134217727, 268435455, 268435455, 1073741823, 268435455, 268435455, 8589934591, 17179869183, 34359738367, 68719476735, 137438953471, 137438953471, 412316860415, 1099511627775, 137438953471, 137438953471, 4535485464575, 17592186044415, 35184372088831, 70368744177663, 140737488355327, 281474976710655, 281474976710655, 844424930131967, 2251799813685247, 281474976710655, 281474976710655, 9288674231451647, 36028797018963967, 72057594037927935, 144115188075855871, 288230376151711743] [(0, []), (1, []), (2, []), (3, []), (4, []), (5, []), (6, []), (7, []), (8, []), (9, []), (10, []), (11, []), (12, []), (13, []), (14, []), (15, []), (16, []), (17, []), (18, []), (19, []), (20, []), (22, []), (23, []), (21, []), (24, []), (25, []), (26, []), (27, []), (28, []), (29, []), (31, []), (32, []), (30, []), (33, []), (34, []), (35, []), (36, []), (37, []), (38, []), (41, []), (42, []), (39, []), (43, []), (40, [43]), (44, []), (45, []), (46, []), (47, []), (48, []), (49, []), (52, []), (53, []), (50, []), (54, []), (51, [54]), (55, []), (56, []), (57, []), (58, [])]) .leaf)))))))))
def D21 (a0 a1 a2 : Value) (K : Value → Hp → Prop) (h : Hp) : Prop :=
  vA (some (Obj.cells (Value.cells a2) 48 (0, 0), ptrV)) (fun v5 h1 =>
  vP (faV 4 v5) fun v29 =>
  vP (ld1 v29 h1) fun v30 =>
  ∀ J1 : List Value → Hp → Prop, (∀ v7 : Value, ∀ h2 : Hp, (∀ g1 : St,
    vP (faV 0 v5) fun v52 =>
    vP (ld1 v52 h2) fun v53 =>
    vP (binV .rem v53 (Value.int .i64 10)) fun v54 =>
    vP (binV .add v54 (Value.int .i64 10)) fun v55 =>
    vP (binV .rem v55 (Value.int .i64 10)) fun v56 =>
    vP (eqV 1 false v56 (Value.int .i64 0)) fun v58 =>
    vB v58 (vP (faV 1 v5) fun v61 =>
      vP (ld1 v61 h2) fun v62 =>
      CallH Tryz.prog 7 #[a0, v62] (fun v63 h3 =>
      vP (exV v63 0) fun v64 =>
      vP (exV v63 1) fun v65 =>
      vP (faV 1 v5) fun v68 =>
      vP (ld1 v68 h3) fun v69 =>
      CallH Tryz.prog 49 #[a1, v69] (fun v70 h4 =>
      vP (exV v70 0) fun v71 =>
      vP (exV v70 1) fun v72 =>
      vP (eqV 1 false v64 v71) fun v75 =>
      vP (gdW (gB v75 true) (some v65)) fun v77 =>
      vP (gdW (gB v75 true) (some v72)) fun v78 =>
      vP (gdW (gB v75 true) (eqV 1 false v77 v78)) fun v79 =>
      vP (pickV v75 v79 (Value.bool false)) fun v80 =>
      K v80 h4) h3) h2)
    (vP (eqV 1 false v56 (Value.int .i64 1)) fun v82 =>
    vB v82 (vP (faV 2 v5) fun v84 =>
      vP (faV 2 v5) fun v88 =>
      vP (ld1 v84 h2) fun v85 =>
      vP (ld1 v88 h2) fun v89 =>
      CallH Tryz.prog 13 #[a0, v85] (fun v86 h5 =>
      (ld1 v88 h5) = some v89 ∧ (CallH Tryz.prog 50 #[a1, v89] (fun v90 h6 =>
      vP (eqV 1 false v86 v90) fun v91 =>
      K v91 h6) h5)) h2)
    (∀ J2 : List Value → Hp → Prop, (∀ v92 : Value, ∀ h7 : Hp, (∀ g2 : St,
      vB v92 (vP (faV 2 v5) fun v98 =>
        vP (ld1 v98 h7) fun v99 =>
        vP (faV 3 v5) fun v100 =>
        vP (ld1 v100 h7) fun v101 =>
        vP (faV 7 v5) fun v102 =>
        vP (ld1 v102 h7) fun v103 =>
        CallH Tryz.prog 12 #[a0, v99, v101, v103] (fun v104 h8 =>
        vP (exV v104 0) fun v105 =>
        vP (exV v104 1) fun v106 =>
        vP (faV 2 v5) fun v109 =>
        vP (ld1 v109 h8) fun v110 =>
        vP (faV 3 v5) fun v111 =>
        vP (ld1 v111 h8) fun v112 =>
        vP (faV 7 v5) fun v113 =>
        vP (ld1 v113 h8) fun v114 =>
        CallH Tryz.prog 51 #[a1, v110, v112, v114] (fun v115 h9 =>
        vP (exV v115 0) fun v116 =>
        vP (exV v115 1) fun v117 =>
        vP (eqV 1 false v105 v116) fun v120 =>
        vP (gdW (gB v120 true) (some v106)) fun v122 =>
        vP (gdW (gB v120 true) (some v117)) fun v123 =>
        vP (gdW (gB v120 true) (eqV 1 false v122 v123)) fun v124 =>
        vP (pickV v120 v124 (Value.bool false)) fun v125 =>
        K v125 h9) h8) h7)
      (vP (eqV 1 false v56 (Value.int .i64 6)) fun v127 =>
      vB v127 (vP (faV 5 v5) fun v130 =>
        vP (faV 6 v5) fun v132 =>
        vP (faV 5 v5) fun v137 =>
        vP (faV 6 v5) fun v139 =>
        vP (ld1 v130 h7) fun v131 =>
        vP (ld1 v132 h7) fun v133 =>
        vP (ld1 v137 h7) fun v138 =>
        vP (ld1 v139 h7) fun v140 =>
        CallH Tryz.prog 26 #[a0, v7, v131, v133] (fun v134 h10 =>
        (ld1 v139 h10) = some v140 ∧ ((ld1 v137 h10) = some v138 ∧ (CallH Tryz.prog 52 #[a1, v7, v138, v140] (fun v141 h11 =>
        vP (eqV 1 false v134 v141) fun v142 =>
        K v142 h11) h10))) h7)
      (vP (eqV 1 false v56 (Value.int .i64 7)) fun v144 =>
      vB v144 (CallH Tryz.prog 29 #[a0, v7] (fun v147 h12 =>
        CallH Tryz.prog 53 #[a1, v7] (fun v150 h13 =>
        vP (eqV 2 false v147 v150) fun v151 =>
        K v151 h13) h12) h7)
      (vP (eqV 1 false v56 (Value.int .i64 8)) fun v153 =>
      vB v153 (vP (faV 2 v5) fun v156 =>
        vP (ld1 v156 h7) fun v157 =>
        CallH Tryz.prog 14 #[a0, v157] (fun v158 h14 =>
        vP (exV v158 0) fun v159 =>
        vP (exV v158 1) fun v160 =>
        vP (faV 2 v5) fun v163 =>
        vP (ld1 v163 h14) fun v164 =>
        CallH Tryz.prog 54 #[a1, v164] (fun v165 h15 =>
        vP (exV v165 0) fun v166 =>
        vP (exV v165 1) fun v167 =>
        CallH Tryz.prog 15 #[v159, v166] (fun v170 h16 =>
        vP (gdW (gB v170 true) (some v160)) fun v172 =>
        vP (gdW (gB v170 true) (some v167)) fun v173 =>
        vP (gdW (gB v170 true) (eqV 1 false v172 v173)) fun v174 =>
        vP (pickV v170 v174 (Value.bool false)) fun v175 =>
        K v175 h16) h15) h14) h7)
      (vP (faV 5 v5) fun v179 =>
      vP (ld1 v179 h7) fun v180 =>
      CallH Tryz.prog 27 #[a0, v7, v180] (fun v181 h17 =>
      vP (exV v181 0) fun v182 =>
      vP (exV v181 1) fun v183 =>
      vP (faV 5 v5) fun v187 =>
      vP (ld1 v187 h17) fun v188 =>
      CallH Tryz.prog 55 #[a1, v7, v188] (fun v189 h18 =>
      vP (exV v189 0) fun v190 =>
      vP (exV v189 1) fun v191 =>
      CallH Tryz.prog 16 #[a0, v7] (fun v195 h19 =>
      vP (exV v195 0) fun v196 =>
      vP (exV v195 1) fun v197 =>
      vA (some (Obj.cells #[(Value.int .i64 0), (Value.int .i64 0)] 38 (0, 0), ptrV)) (fun v25 h20 =>
      stN 2 v25 v196 (fun _ h21 =>
      CallH Tryz.prog 56 #[a1, v7] (fun v201 h22 =>
      vP (exV v201 0) fun v202 =>
      vP (exV v201 1) fun v203 =>
      vA (some (Obj.cells #[(Value.int .i64 0), (Value.int .i64 0)] 38 (0, 0), ptrV)) (fun v27 h23 =>
      stN 2 v27 v202 (fun _ h24 =>
      vP (eqV 1 false v182 v190) fun v206 =>
      vP (gdW (gB v206 true) (some v183)) fun v208 =>
      vP (gdW (gB v206 true) (some v191)) fun v209 =>
      vP (gdW (gB v206 true) (eqV 1 false v208 v209)) fun v210 =>
      vP (pickV v206 v210 (Value.bool false)) fun v211 =>
      vP (gdW (gB v211 true) (ldN 2 v25 h24)) fun v213 =>
      vP (gdW (gB v211 true) (ldN 2 v27 h24)) fun v214 =>
      vP (gdW (gB v211 true) (eqA [1, 1] false v213 v214)) fun v215 =>
      vP (pickV v211 v215 (Value.bool false)) fun v216 =>
      vP (gdW (gB v216 true) (some v197)) fun v218 =>
      vP (gdW (gB v216 true) (some v203)) fun v219 =>
      vP (gdW (gB v216 true) (eqV 2 false v218 v219)) fun v220 =>
      vP (pickV v216 v220 (Value.bool false)) fun v221 =>
      vP (gdW (gB v221 true) (some a0)) fun v223 =>
      vP (gdW (gB v221 true) (some v7)) fun v224 =>
      vP (gdW (gB v221 true) (some a1)) fun v226 =>
      vP (gdW (gB v221 true) (some v7)) fun v227 =>
      vE (gB v221 true) (CallH Tryz.prog 17 #[v223, v224]) (fun v225 h25 =>
      vE (gB v221 true) (CallH Tryz.prog 57 #[v226, v227]) (fun v228 h26 =>
      vP (gdW (gB v221 true) (eqV 1 false v225 v228)) fun v229 =>
      vP (pickV v221 v229 (Value.bool false)) fun v230 =>
      vP (gdW (gB v230 true) (some a0)) fun v232 =>
      vP (gdW (gB v230 true) (some v7)) fun v233 =>
      vP (gdW (gB v230 true) (some a1)) fun v235 =>
      vP (gdW (gB v230 true) (some v7)) fun v236 =>
      vE (gB v230 true) (CallH Tryz.prog 28 #[v232, v233]) (fun v234 h27 =>
      vE (gB v230 true) (CallH Tryz.prog 58 #[v235, v236]) (fun v237 h28 =>
      vP (gdW (gB v230 true) (eqV 2 false v234 v237)) fun v238 =>
      vP (pickV v230 v238 (Value.bool false)) fun v239 =>
      vP (gdW (gB v239 true) (some a0)) fun v241 =>
      vP (gdW (gB v239 true) (faV 2 v5)) fun v242 =>
      vP (gdW (gB v239 true) (some a1)) fun v245 =>
      vP (gdW (gB v239 true) (faV 2 v5)) fun v246 =>
      vP (gdW (gB v239 true) (ld1 v242 h28)) fun v243 =>
      vP (gdW (gB v239 true) (ld1 v246 h28)) fun v247 =>
      vE (gB v239 true) (CallH Tryz.prog 10 #[v241, v243]) (fun v244 h29 =>
      gdW (gB v239 true) (ld1 v246 h29) = some v247 ∧ (vE (gB v239 true) (CallH Tryz.prog 59 #[v245, v247]) (fun v248 h30 =>
      vP (gdW (gB v239 true) (eqV 2 false v244 v248)) fun v249 =>
      vP (pickV v239 v249 (Value.bool false)) fun v250 =>
      vP (gdW (gB v250 true) (some a0)) fun v252 =>
      vP (gdW (gB v250 true) (faV 2 v5)) fun v253 =>
      vP (gdW (gB v250 true) (some a1)) fun v256 =>
      vP (gdW (gB v250 true) (faV 2 v5)) fun v257 =>
      vP (gdW (gB v250 true) (ld1 v253 h30)) fun v254 =>
      vP (gdW (gB v250 true) (ld1 v257 h30)) fun v258 =>
      vE (gB v250 true) (CallH Tryz.prog 9 #[v252, v254]) (fun v255 h31 =>
      gdW (gB v250 true) (ld1 v257 h31) = some v258 ∧ (vE (gB v250 true) (CallH Tryz.prog 60 #[v256, v258]) (fun v259 h32 =>
      vP (gdW (gB v250 true) (eqV 1 false v255 v259)) fun v260 =>
      vP (pickV v250 v260 (Value.bool false)) fun v261 =>
      K v261 h32) h31)) h30) h29)) h28) h27) h26) h25) h24) h23) h22) h21) h20) h19) h18) h17) h7))))) → J2 [v92] h7) →
    vP (eqV 1 false v56 (Value.int .i64 2)) fun v93 =>
    vB v93 (J2 [v93] h2)
    (vP (eqV 1 false v56 (Value.int .i64 3)) fun v94 =>
    vB v94 (J2 [v94] h2)
    (vP (eqV 1 false v56 (Value.int .i64 4)) fun v95 =>
    J2 [v95] h2))))) → J1 [v7] h2) →
  CallH Tryz.prog 23 #[a1] (fun v32 h33 =>
  vP (faV 8 v5) fun v33 =>
  vP (ld1 v33 h33) fun v34 =>
  vP (unV .not v34) fun v35 =>
  vP (gdW (gB v35 true) (some v32)) fun v37 =>
  vP (gdW (gB v35 true) (lenV v37)) fun v38 =>
  vP (gdW (gB v35 true) (binV .gtr v38 (Value.int .i64 0))) fun v39 =>
  vP (pickV v35 v39 (Value.bool false)) fun v40 =>
  vB v40 (vP (faV 4 v5) fun v42 =>
    vP (ld1 v42 h33) fun v43 =>
    vP (convV .u64 v43) fun v44 =>
    vP (lenV v32) fun v46 =>
    vP (convV .u64 v46) fun v47 =>
    vP (binV .rem v44 v47) fun v48 =>
    vP (convV .i64 v48) fun v49 =>
    vP (iaS 1 v32 v49) fun v50 =>
    vP (ld1 v50 h33) fun v51 =>
    J1 [v51] h33)
  (J1 [v30] h33)) h1) h
theorem D21_eq (a0 a1 a2 : Value) (K : Value → Hp → Prop) (h : Hp) : fnVC Tryz.prog Tryz.f21 x21 [a0, a1, a2] K h = D21 a0 a1 a2 K h := by kernel_rfl
theorem D21_ok : fnOk Tryz.prog Tryz.f21 x21 3 = true := by kernel_rfl
theorem C21 {a0 a1 a2 : Value} {K : Value → Hp → Prop} {h : Hp} (hh : D21 a0 a1 a2 K h) : CallH Tryz.prog 21 #[a0, a1, a2] K h :=
  callH_of mixed Tryz.func21 x21 [a0, a1, a2] D21_ok (D21_eq a0 a1 a2 K h ▸ hh)
def x3 : Ann := (.seq (.reg [] [(0, [])]) (.seq (.seq (.reg [] [(0, []), (1, []), (2, []), (3, []), (4, []), (5, []), (6, []), (7, [])]) (.cond (.seq (.reg [] [(0, []), (1, [])]) .leaf) .leaf)) (.seq (.reg [] [(0, []), (1, []), (2, []), (3, []), (4, []), (5, [])]) (.seq (.seq (.reg [] [(0, []), (1, []), (2, []), (3, []), (4, []), (5, [])]) (.cond (.seq (.reg [] [(0, [])]) .leaf) .leaf)) (.seq (.reg [] [(0, [])]) (.seq (.seq (.reg [] [(0, [])]) (.blk (.loop [10, 9] [42, 43, 44, 45, 48, 49, 50, 51, 52, 53, 54, 11, 56, 57, 58, 55, 59, 60, 12, 13, 61, 62, 63, 64, 9, 65, 66, 67, 68, 69, 70, 71, 72, 73, 74, 75, 76, 77, 78, 79, 80, 81, 82, 83, 84, 85, 86, 87, 88, 89, 6, 46, 47, 10] (.seq (.seq (.reg [] [(0, []), (1, []), (2, []), (3, [])]) (.cond .leaf .leaf)) (.seq (.blk (.seq (.reg [] [(0, []), (1, []), (2, []), (3, []), (4, []), (5, []), (6, []), (7, [])]) (.seq (.reg [] [(0, []), (1, []), (2, []), (3, []), (4, []), (5, []), (6, []), (7, [])]) (.seq (.reg [] [(0, []), (1, []), (2, []), (3, []), (4, [])]) (.seq (.reg [] [(0, []), (1, []), (2, []), (3, []), (4, []), (5, []), (6, []), (7, []), (8, []), (9, []), (10, []), (11, []), (12, []), (13, []), (14, []), (15, []), (16, []), (17, []), (18, []), (19, []), (20, []), (21, []), (22, []), (23, []), (24, [])]) (.cond (.seq (.reg [] [(0, [])]) .leaf) .leaf)))))) (.reg [] [(0, []), (1, []), (2, [])])))))) (.seq (.reg [] [(0, []), (1, []), (2, []), (3, []), (4, []), (5, []), (6, []), (7, [])]) (.seq (.reg [] [(0, []), (1, []), (2, []), (3, []), (4, []), (5, []), (6, []), (7, [])]) (.seq (.seq (.reg [] [(0, []), (1, []), (2, []), (3, []), (4, []), (5, []), (6, []), (7, [])]) (.cond (.seq (.reg [] [(0, [])]) .leaf) .leaf)) (.seq (.reg [] [(0, []), (1, []), (2, []), (3, []), (4, []), (5, []), (6, []), (7, [])]) (.seq (.seq (.reg [0, 0, 2, 7, 15, 31, 63, 63, 255, 511, 1023, 2047, 4095, 4095, 16383, 32767, 65535, 131071, 262143, 262143, 1048575, 2097151, 4194303, 8388607, 16777215, 16777215, 67108863, 134217727, 268435455, 536870911, 1073741823, 2147483647, 1073741823, 1073741823, 1073741823, 26843545599, 61203283967, 129922760703, 267361714175, 542239621119, 1095216660479, 2199023255551, 4398046511103, 8796093022207] [(0, []), (1, []), (2, []), (3, []), (4, []), (5, []), (6, []), (7, []), (8, []), (9, []), (10, []), (11, []), (12, []), (13, []), (14, []), (15, []), (16, []), (17, []), (18, []), (19, []), (20, []), (21, []), (22, []), (23, []), (24, []), (25, []), (26, []), (27, []), (28, []), (29, []), (30, []), (32, []), (33, []), (34, []), (35, []), (36, []), (37, []), (38, []), (39, []), (31, [36]), (40, []), (41, []), (42, []), (43, [])]) (.cond (.seq (.reg [] [(0, [])]) .leaf) .leaf)) (.seq (.seq (.reg [] [(0, []), (1, []), (2, []), (3, []), (4, []), (5, []), (6, []), (7, []), (8, [])]) (.seq (.reg [] [(0, []), (1, []), (2, []), (3, []), (4, []), (5, []), (6, [])]) (.cond (.seq (.reg [] [(0, [])]) .leaf) .leaf))) (.seq (.reg [] [(0, []), (1, []), (2, []), (3, []), (4, []), (5, []), (6, []), (7, []), (8, []), (9, []), (10, [])]) (.seq (.reg [] [(0, []), (1, []), (2, []), (3, []), (4, []), (5, []), (6, []), (7, []), (8, []), (9, []), (10, []), (11, []), (12, []), (13, []), (14, []), (15, []), (16, []), (17, []), (18, []), (19, []), (20, []), (21, []), (22, []), (23, [])]) .leaf))))))))))))))
def D3 (a0 a1 a2 : Value) (K : Value → Hp → Prop) (h : Hp) : Prop :=
  vP (lenV a0) fun v24 =>
  vP (eqV 1 false v24 (Value.int .i64 0)) fun v25 =>
  vP (gdW (gB v25 false) (some a0)) fun v27 =>
  vP (gdW (gB v25 false) (lenV v27)) fun v28 =>
  vP (gdW (gB v25 false) (binV .gtr v28 (Value.int .i64 12))) fun v29 =>
  vP (pickV v25 (Value.bool true) v29) fun v30 =>
  vB v30 (CallH Tryz.prog 5 #[] (fun v31 h1 =>
    K v31 h1) h)
  (CallH Tryz.prog 6 #[(Value.int .i64 16384)] (fun v33 h2 =>
  vP (exV v33 0) fun v34 =>
  vP (exV v33 1) fun v35 =>
  vP (eqV 1 true v35 (Value.int .i64 0)) fun v37 =>
  vP (gdW (gB v37 false) (some v34)) fun v39 =>
  vP (gdW (gB v37 false) (eqV 4 false v39 (Value.pointer none))) fun v40 =>
  vP (pickV v37 (Value.bool true) v40) fun v41 =>
  vB v41 (K (Value.bool false) h2)
  (∃ I1 : Nat → List Value → Hp → Prop, (∃ n, I1 n [(Value.int .i64 0), (Value.int .i64 255)] h2) ∧
  ∀ n1 : Nat, ∀ v10 v9 : Value, ∀ h3 : Hp, I1 n1 [v10, v9] h3 → ∀ g1 : St,
    vP (lenV a0) fun v44 =>
    vP (binV .lss v10 v44) fun v45 =>
    vB v45 (vP (iaS 1 a0 v10) fun v50 =>
      vP (ld1 v50 h3) fun v51 =>
      vP (convV .u64 v51) fun v52 =>
      vP (binV .rem v52 (Value.int .u64 16)) fun v53 =>
      vP (convV .i64 v53) fun v54 =>
      CallH Tryz.prog 7 #[v34, v54] (fun v58 h4 =>
      vP (exV v58 0) fun v59 =>
      vP (exV v58 1) fun v60 =>
      CallH Tryz.prog 8 #[v54] (fun v63 h5 =>
      vP (binV .sub v9 v63) fun v64 =>
      vP (eqV 1 true v60 (Value.int .i64 0)) fun v66 =>
      vP (gdW (gB v66 false) (some v59)) fun v68 =>
      vP (gdW (gB v66 false) (some v10)) fun v69 =>
      vP (gdW (gB v66 false) (eqV 1 true v68 v69)) fun v70 =>
      vP (pickV v66 (Value.bool true) v70) fun v71 =>
      vP (gdW (gB v71 false) (some v34)) fun v73 =>
      vP (gdW (gB v71 false) (some v59)) fun v74 =>
      vE (gB v71 false) (CallH Tryz.prog 9 #[v73, v74]) (fun v75 h6 =>
      vP (gdW (gB v71 false) (some v54)) fun v76 =>
      vP (gdW (gB v71 false) (eqV 1 true v75 v76)) fun v77 =>
      vP (pickV v71 (Value.bool true) v77) fun v78 =>
      vP (gdW (gB v78 false) (some v34)) fun v80 =>
      vP (gdW (gB v78 false) (some v59)) fun v81 =>
      vE (gB v78 false) (CallH Tryz.prog 10 #[v80, v81]) (fun v82 h7 =>
      vP (pickV v78 (Value.bool true) v82) fun v83 =>
      vP (gdW (gB v83 false) (some v34)) fun v85 =>
      vE (gB v83 false) (CallH Tryz.prog 11 #[v85]) (fun v86 h8 =>
      vP (gdW (gB v83 false) (some v64)) fun v87 =>
      vP (gdW (gB v83 false) (eqV 1 true v86 v87)) fun v88 =>
      vP (pickV v83 (Value.bool true) v88) fun v89 =>
      vB v89 (K (Value.bool false) h8)
      (vP (binV .add v10 (Value.int .i64 1)) fun v47 =>
      ∃ m1, m1 < n1 ∧ I1 m1 [v47, v64] h8)) h7) h6) h5) h4) h3)
    (vP (convV .u64 a1) fun v91 =>
    vP (lenV a0) fun v93 =>
    vP (convV .u64 v93) fun v94 =>
    vP (binV .rem v91 v94) fun v95 =>
    vP (convV .i64 v95) fun v96 =>
    CallH Tryz.prog 12 #[v34, v96, (Value.int .i64 1), (Value.bool false)] (fun v100 h9 =>
    vP (exV v100 0) fun v101 =>
    vP (exV v100 1) fun v102 =>
    vP (eqV 1 true v102 (Value.int .i64 0)) fun v104 =>
    vP (gdW (gB v104 false) (some v34)) fun v106 =>
    vP (gdW (gB v104 false) (some v96)) fun v107 =>
    vE (gB v104 false) (CallH Tryz.prog 13 #[v106, v107]) (fun v108 h10 =>
    vP (gdW (gB v104 false) (eqV 1 true v108 (Value.int .i64 5))) fun v109 =>
    vP (pickV v104 (Value.bool true) v109) fun v110 =>
    vB v110 (K (Value.bool false) h10)
    (CallH Tryz.prog 14 #[v34, v96] (fun v114 h11 =>
    vP (exV v114 0) fun v115 =>
    vP (exV v114 1) fun v116 =>
    vA ((bldV #[(Value.int .i64 0)] [(0, 1, v101)]).map fun c => (Obj.cells c 3 (0, 0), fun r => Value.slice (some ⟨r, 0, none⟩) 1 1)) (fun v119 h12 =>
    CallH Tryz.prog 15 #[v115, v119] (fun v120 h13 =>
    vP (unV .not v120) fun v121 =>
    vP (gdW (gB v121 false) (some v34)) fun v123 =>
    vP (gdW (gB v121 false) (some v96)) fun v124 =>
    vE (gB v121 false) (CallH Tryz.prog 13 #[v123, v124]) (fun v125 h14 =>
    vP (gdW (gB v121 false) (eqV 1 true v125 (Value.int .i64 0))) fun v126 =>
    vP (pickV v121 (Value.bool true) v126) fun v127 =>
    vP (gdW (gB v127 false) (some v34)) fun v129 =>
    vP (gdW (gB v127 false) (some v96)) fun v130 =>
    vE (gB v127 false) (CallH Tryz.prog 13 #[v129, v130]) (fun v131 h15 =>
    vP (gdW (gB v127 false) (eqV 1 true v131 (Value.int .i64 4))) fun v132 =>
    vP (pickV v127 (Value.bool true) v132) fun v133 =>
    vP (gdW (gB v133 false) (some v34)) fun v135 =>
    vP (gdW (gB v133 false) (some v96)) fun v136 =>
    vE (gB v133 false) (CallH Tryz.prog 9 #[v135, v136]) (fun v137 h16 =>
    vP (gdW (gB v133 false) (eqV 1 true v137 (Value.int .i64 (-1)))) fun v138 =>
    vP (pickV v133 (Value.bool true) v138) fun v139 =>
    vP (gdW (gB v139 false) (some v34)) fun v141 =>
    vP (gdW (gB v139 false) (some v96)) fun v142 =>
    vE (gB v139 false) (CallH Tryz.prog 10 #[v141, v142]) (fun v143 h17 =>
    vP (gdW (gB v139 false) (unV .not v143)) fun v144 =>
    vP (pickV v139 (Value.bool true) v144) fun v145 =>
    vP (gdW (gB v145 false) (some v34)) fun v147 =>
    vP (gdW (gB v145 false) (some v9)) fun v149 =>
    vP (gdW (gB v145 false) (some a0)) fun v150 =>
    vP (gdW (gB v145 false) (some v96)) fun v151 =>
    vP (gdW (gB v145 false) (iaS 1 v150 v151)) fun v152 =>
    vP (gdW (gB v145 false) (ld1 v152 h17)) fun v153 =>
    vP (gdW (gB v145 false) (convV .u64 v153)) fun v154 =>
    vP (gdW (gB v145 false) (binV .rem v154 (Value.int .u64 16))) fun v155 =>
    vP (gdW (gB v145 false) (convV .i64 v155)) fun v156 =>
    vE (gB v145 false) (CallH Tryz.prog 11 #[v147]) (fun v148 h18 =>
    gdW (gB v145 false) (ld1 v152 h18) = some v153 ∧ (vE (gB v145 false) (CallH Tryz.prog 8 #[v156]) (fun v157 h19 =>
    vP (gdW (gB v145 false) (binV .add v149 v157)) fun v158 =>
    vP (gdW (gB v145 false) (eqV 1 true v148 v158)) fun v159 =>
    vP (pickV v145 (Value.bool true) v159) fun v160 =>
    vB v160 (K (Value.bool false) h19)
    (CallH Tryz.prog 16 #[v34, v101] (fun v164 h20 =>
    vP (exV v164 0) fun v165 =>
    vP (exV v164 1) fun v166 =>
    vA (some (Obj.cells #[(Value.int .i64 0), (Value.int .i64 0)] 38 (0, 0), ptrV)) (fun v19 h21 =>
    stN 2 v19 v165 (fun _ h22 =>
    vP (gdW (gB v166 false) (some v34)) fun v169 =>
    vP (gdW (gB v166 false) (some v101)) fun v170 =>
    vE (gB v166 false) (CallH Tryz.prog 17 #[v169, v170]) (fun v171 h23 =>
    vP (gdW (gB v166 false) (eqV 1 true v171 (Value.int .i64 0))) fun v172 =>
    vP (pickV v166 (Value.bool true) v172) fun v173 =>
    vB v173 (K (Value.bool false) h23)
    (vP (convV .u64 a2) fun v177 =>
    vP (binV .rem v177 (Value.int .u64 16)) fun v178 =>
    vP (convV .i64 v178) fun v179 =>
    CallH Tryz.prog 7 #[v34, v179] (fun v180 h24 =>
    vP (exV v180 0) fun v181 =>
    vP (exV v180 1) fun v182 =>
    CallH Tryz.prog 5 #[] (fun v183 h25 =>
    vP (gdW (gB v183 true) (some v182)) fun v185 =>
    vP (gdW (gB v183 true) (eqV 1 false v185 (Value.int .i64 0))) fun v186 =>
    vP (pickV v183 v186 (Value.bool false)) fun v187 =>
    vP (gdW (gB v187 true) (some v181)) fun v189 =>
    vP (gdW (gB v187 true) (some v96)) fun v190 =>
    vP (gdW (gB v187 true) (eqV 1 false v189 v190)) fun v191 =>
    vP (pickV v187 v191 (Value.bool false)) fun v192 =>
    vP (gdW (gB v192 true) (some v34)) fun v194 =>
    vE (gB v192 true) (CallH Tryz.prog 18 #[v194]) (fun v195 h26 =>
    vP (gdW (gB v192 true) (lenV v195)) fun v196 =>
    vP (gdW (gB v192 true) (some a0)) fun v197 =>
    vP (gdW (gB v192 true) (lenV v197)) fun v198 =>
    vP (gdW (gB v192 true) (eqV 1 false v196 v198)) fun v199 =>
    vP (pickV v192 v199 (Value.bool false)) fun v200 =>
    vP (gdW (gB v200 true) (some v34)) fun v202 =>
    vE (gB v200 true) (CallH Tryz.prog 19 #[v202]) (fun v203 h27 =>
    vP (gdW (gB v200 true) (eqV 1 false v203 (Value.int .i64 0))) fun v204 =>
    vP (pickV v200 v204 (Value.bool false)) fun v205 =>
    K v205 h27) h26) h25) h24) h23)) h22) h21) h20) h19)) h18)) h17) h16) h15) h14) h13) h12) h11) h10)) h9) h3))) h)
theorem D3_eq (a0 a1 a2 : Value) (K : Value → Hp → Prop) (h : Hp) : fnVC Tryz.prog Tryz.f3 x3 [a0, a1, a2] K h = D3 a0 a1 a2 K h := by kernel_rfl
theorem D3_ok : fnOk Tryz.prog Tryz.f3 x3 3 = true := by kernel_rfl
theorem C3 {a0 a1 a2 : Value} {K : Value → Hp → Prop} {h : Hp} (hh : D3 a0 a1 a2 K h) : CallH Tryz.prog 3 #[a0, a1, a2] K h :=
  callH_of mixed Tryz.func3 x3 [a0, a1, a2] D3_ok (D3_eq a0 a1 a2 K h ▸ hh)
def x4 : Ann := (.seq (.reg [] [(0, [])]) (.join [0] [9, 10, 11, 12, 13, 14, 0] (.seq (.reg [] [(0, []), (1, []), (2, []), (3, []), (4, []), (5, [])]) (.cond (.reg [] [(0, [])]) .leaf)) (.seq (.reg [] [(0, []), (1, []), (2, []), (3, []), (4, []), (5, []), (6, [])]) (.seq (.reg [] [(0, []), (1, []), (2, [])]) (.seq (.seq (.reg [] [(0, []), (1, [])]) (.cond (.seq (.reg [] [(0, []), (1, []), (2, []), (3, []), (4, []), (5, []), (6, []), (7, []), (8, []), (9, [])]) .leaf) .leaf)) (.seq (.seq (.reg [] [(0, []), (1, []), (2, []), (3, []), (4, []), (5, [])]) (.cond (.seq (.reg [] [(0, [])]) .leaf) .leaf)) (.seq (.seq (.reg [] [(0, [])]) (.blk (.loop [8] [39, 40, 41, 42, 43, 44, 45, 46, 49, 50, 51, 52, 53, 54, 55, 56, 4, 47, 48, 8] (.seq (.seq (.reg [] [(0, []), (1, []), (2, []), (3, []), (4, []), (5, []), (6, []), (7, [])]) (.cond .leaf .leaf)) (.seq (.blk (.seq (.reg [] [(0, []), (1, []), (2, []), (3, []), (4, []), (5, []), (6, []), (7, [])]) (.cond (.seq (.reg [] [(0, [])]) .leaf) .leaf))) (.reg [] [(0, []), (1, []), (2, [])])))))) (.seq (.reg [0, 1, 3, 7, 3, 19, 51, 115, 255, 511, 1023, 2047, 4095, 2047, 16383, 32767, 65535, 131071, 262143, 524287, 262143, 2097151, 4194303, 8388607, 16777215, 33554431, 67108863, 33554431, 167772159, 436207615, 973078527, 2147483647, 4294967295, 8589934591, 17179869183] [(0, []), (1, []), (2, []), (4, []), (5, []), (6, []), (7, []), (3, [7]), (8, []), (9, []), (10, []), (11, []), (13, []), (12, []), (14, []), (15, []), (16, []), (17, []), (18, []), (20, []), (19, []), (21, []), (22, []), (23, []), (24, []), (25, []), (27, []), (28, []), (29, []), (30, []), (26, [30]), (31, []), (32, []), (33, []), (34, [])]) .leaf))))))))
def D4 (a0 a1 : Value) (K : Value → Hp → Prop) (h : Hp) : Prop :=
  ∀ J1 : List Value → Hp → Prop, (∀ v0 : Value, ∀ h1 : Hp, (∀ g1 : St,
    CallH Tryz.prog 6 #[v0] (fun v17 h2 =>
    vP (exV v17 0) fun v18 =>
    vP (exV v17 1) fun v19 =>
    CallH Tryz.prog 20 #[v0] (fun v21 h3 =>
    vP (eqV 4 false v21 (Value.pointer none)) fun v23 =>
    vB v23 (CallH Tryz.prog 5 #[] (fun v24 h4 =>
      vP (gdW (gB v24 true) (some v19)) fun v26 =>
      vP (gdW (gB v24 true) (eqV 1 false v26 (Value.int .i64 1))) fun v27 =>
      vP (pickV v24 v27 (Value.bool false)) fun v28 =>
      vP (gdW (gB v28 true) (some v18)) fun v30 =>
      vP (gdW (gB v28 true) (eqV 4 false v30 (Value.pointer none))) fun v31 =>
      vP (pickV v28 v31 (Value.bool false)) fun v32 =>
      K v32 h4) h3)
    (vP (eqV 1 true v19 (Value.int .i64 0)) fun v34 =>
    vP (gdW (gB v34 false) (some v18)) fun v36 =>
    vP (gdW (gB v34 false) (eqV 4 false v36 (Value.pointer none))) fun v37 =>
    vP (pickV v34 (Value.bool true) v37) fun v38 =>
    vB v38 (K (Value.bool false) h3)
    (∃ I2 : Nat → List Value → Hp → Prop, (∃ n, I2 n [(Value.int .i64 0)] h3) ∧
    ∀ n2 : Nat, ∀ v8 : Value, ∀ h5 : Hp, I2 n2 [v8] h5 → ∀ g2 : St,
      vP (lenV a1) fun v41 =>
      vP (binV .lss v8 v41) fun v42 =>
      vP (gdW (gB v42 true) (some v8)) fun v44 =>
      vP (gdW (gB v42 true) (binV .lss v44 (Value.int .i64 60))) fun v45 =>
      vP (pickV v42 v45 (Value.bool false)) fun v46 =>
      vB v46 (vP (iaS 9 a1 v8) fun v53 =>
        vP (ldN 9 v53 h5) fun v54 =>
        CallH Tryz.prog 21 #[v18, v21, v54] (fun v55 h6 =>
        vP (unV .not v55) fun v56 =>
        vB v56 (K (Value.bool false) h6)
        (vP (binV .add v8 (Value.int .i64 1)) fun v48 =>
        ∃ m2, m2 < n2 ∧ I2 m2 [v48] h6)) h5)
      (CallH Tryz.prog 5 #[] (fun v57 h7 =>
      vP (gdW (gB v57 true) (some v18)) fun v59 =>
      vP (gdW (gB v57 true) (some v21)) fun v61 =>
      vP (gdW (gB v57 true) (nilV v61)) fun v62 =>
      vP (gdW (gB v57 true) (faV 1 v62)) fun v63 =>
      vP (gdW (gB v57 true) (ld1 v63 h7)) fun v64 =>
      vE (gB v57 true) (CallH Tryz.prog 18 #[v59]) (fun v60 h8 =>
      gdW (gB v57 true) (ld1 v63 h8) = some v64 ∧ (vE (gB v57 true) (CallH Tryz.prog 15 #[v60, v64]) (fun v65 h9 =>
      vP (pickV v57 v65 (Value.bool false)) fun v66 =>
      vP (gdW (gB v66 true) (some v18)) fun v68 =>
      vP (gdW (gB v66 true) (some v21)) fun v70 =>
      vE (gB v66 true) (CallH Tryz.prog 22 #[v68]) (fun v69 h10 =>
      vE (gB v66 true) (CallH Tryz.prog 23 #[v70]) (fun v71 h11 =>
      vE (gB v66 true) (CallH Tryz.prog 15 #[v69, v71]) (fun v72 h12 =>
      vP (pickV v66 v72 (Value.bool false)) fun v73 =>
      vP (gdW (gB v73 true) (some v18)) fun v75 =>
      vP (gdW (gB v73 true) (some v21)) fun v77 =>
      vE (gB v73 true) (CallH Tryz.prog 19 #[v75]) (fun v76 h13 =>
      vE (gB v73 true) (CallH Tryz.prog 24 #[v77]) (fun v78 h14 =>
      vP (gdW (gB v73 true) (eqV 1 false v76 v78)) fun v79 =>
      vP (pickV v73 v79 (Value.bool false)) fun v80 =>
      vP (gdW (gB v80 true) (some v18)) fun v82 =>
      vP (gdW (gB v80 true) (some v21)) fun v84 =>
      vP (gdW (gB v80 true) (nilV v84)) fun v85 =>
      vP (gdW (gB v80 true) (faV 0 v85)) fun v86 =>
      vP (gdW (gB v80 true) (ld1 v86 h14)) fun v87 =>
      vE (gB v80 true) (CallH Tryz.prog 11 #[v82]) (fun v83 h15 =>
      gdW (gB v80 true) (ld1 v86 h15) = some v87 ∧ (vE (gB v80 true) (CallH Tryz.prog 25 #[v87]) (fun v88 h16 =>
      vP (gdW (gB v80 true) (eqV 1 false v83 v88)) fun v89 =>
      vP (pickV v80 v89 (Value.bool false)) fun v90 =>
      K v90 h16) h15)) h14) h13) h12) h11) h10) h9) h8)) h7) h5)))) h2) h1) → J1 [v0] h1) →
  vP (binV .gtr a0 (Value.int .i64 2048)) fun v10 =>
  vP (gdW (gB v10 true) (some a0)) fun v12 =>
  vP (gdW (gB v10 true) (binV .leq v12 (Value.int .i64 16777216))) fun v13 =>
  vP (pickV v10 v13 (Value.bool false)) fun v14 =>
  vB v14 (J1 [(Value.int .i64 2048)] h)
  (J1 [a0] h)
theorem D4_eq (a0 a1 : Value) (K : Value → Hp → Prop) (h : Hp) : fnVC Tryz.prog Tryz.f4 x4 [a0, a1] K h = D4 a0 a1 K h := by kernel_rfl
theorem D4_ok : fnOk Tryz.prog Tryz.f4 x4 2 = true := by kernel_rfl
theorem C4 {a0 a1 : Value} {K : Value → Hp → Prop} {h : Hp} (hh : D4 a0 a1 K h) : CallH Tryz.prog 4 #[a0, a1] K h :=
  callH_of mixed Tryz.func4 x4 [a0, a1] D4_ok (D4_eq a0 a1 K h ▸ hh)
end Go.Proofs

/-
  The conditions of some functions, as the printer wrote them out of the dump; the kernel checks that each is the function's own.
-/
set_option maxRecDepth 100000
namespace Go.Proofs
open Go.Sl
def x20 : Ann := (.seq (.reg [] [(0, [])]) (.seq (.seq (.reg [] [(0, []), (1, []), (2, []), (3, []), (4, []), (5, []), (6, []), (7, []), (8, []), (9, []), (10, [])]) (.cond (.seq (.reg [] [(0, [])]) .leaf) .leaf)) (.seq (.reg [] [(0, []), (1, []), (2, []), (3, []), (4, []), (5, []), (6, [])]) .leaf)))
def D20 (a0 : Value) (K : Value → Hp → Prop) (h : Hp) : Prop :=
  vP (binV .lss a0 (Value.int .i64 256)) fun v4 =>
  vP (gdW (gB v4 false) (some a0)) fun v6 =>
  vP (gdW (gB v4 false) (binV .gtr v6 (Value.int .i64 16777216))) fun v7 =>
  vP (pickV v4 (Value.bool true) v7) fun v8 =>
  vP (gdW (gB v8 false) (some a0)) fun v10 =>
  vP (gdW (gB v8 false) (binV .rem v10 (Value.int .i64 64))) fun v11 =>
  vP (gdW (gB v8 false) (eqV 1 true v11 (Value.int .i64 0))) fun v12 =>
  vP (pickV v8 (Value.bool true) v12) fun v13 =>
  vB v13 (K (Value.pointer none) h)
  (vP (binV .quo a0 (Value.int .i64 64)) fun v15 =>
  CallH Tryz.prog 48 #[v15] (fun v16 h1 =>
  vA (some (Obj.map #[] 0, fun r => Value.map (some r))) (fun v17 h2 =>
  vP ((bldV #[(Value.pointer none), (Value.slice none 0 0), (Value.slice none 0 0), (Value.slice none 0 0), (Value.map none)] [(0, 1, v16), (4, 1, v17)]).map Value.agg) fun v18 =>
  vA (some (Obj.cells (Value.cells v18) 54 (0, 0), ptrV)) (fun v19 h3 =>
  K v19 h3) h2) h1) h)
theorem D20_eq (a0 : Value) (K : Value → Hp → Prop) (h : Hp) : fnVC Tryz.prog Tryz.f20 x20 [a0] K h = D20 a0 K h := by kernel_rfl
theorem D20_ok : fnOk Tryz.prog Tryz.f20 x20 1 = true := by kernel_rfl
theorem C20 {a0 : Value} {K : Value → Hp → Prop} {h : Hp} (hh : D20 a0 K h) : CallH Tryz.prog 20 #[a0] K h :=
  callH_of mixed Tryz.func20 x20 [a0] D20_ok (D20_eq a0 K h ▸ hh)
def x93 : Ann := (.seq (.reg [] [(0, [])]) (.seq (.reg [] [(0, []), (1, []), (2, [])]) (.seq (.seq (.reg [] [(0, []), (1, []), (2, []), (3, []), (4, []), (5, []), (6, []), (7, []), (8, []), (9, [])]) (.cond (.seq (.reg [] [(0, [])]) .leaf) .leaf)) (.seq (.reg [0, 0, 0, 4, 0, 16, 63, 127, 255] [(0, []), (1, []), (2, []), (4, []), (3, []), (5, []), (6, []), (7, []), (8, [])]) .leaf))))
def D93 (a0 a1 : Value) (K : Value → Hp → Prop) (h : Hp) : Prop :=
  CallH Tryz.prog 114 #[a1] (fun v7 h1 =>
  vP (eqV 1 false v7 (Value.int .i64 0)) fun v9 =>
  vP (gdW (gB v9 false) (some a0)) fun v11 =>
  vP (gdW (gB v9 false) (binV .lss v11 (Value.int .i64 1))) fun v12 =>
  vP (pickV v9 (Value.bool true) v12) fun v13 =>
  vP (gdW (gB v13 false) (some a0)) fun v15 =>
  vP (gdW (gB v13 false) (binV .gtr v15 (Value.int .i64 262144))) fun v16 =>
  vP (pickV v13 (Value.bool true) v16) fun v17 =>
  vB v17 (K (Value.pointer none) h1)
  (vA (msV 1 1 4 #[(Value.bool false)] v7 v7) (fun v21 h2 =>
  vA (msV 1 1 4 #[(Value.bool false)] v7 v7) (fun v23 h3 =>
  vP ((bldV #[(Value.int .i64 0), (Value.int .i64 0), (Value.slice none 0 0), (Value.slice none 0 0), (Value.int .i64 0)] [(0, 1, a0), (1, 1, a1), (2, 1, v21), (3, 1, v23)]).map Value.agg) fun v24 =>
  vA (some (Obj.cells (Value.cells v24) 79 (0, 0), ptrV)) (fun v25 h4 =>
  K v25 h4) h3) h2) h1)) h
theorem D93_eq (a0 a1 : Value) (K : Value → Hp → Prop) (h : Hp) : fnVC Tryz.prog Tryz.f93 x93 [a0, a1] K h = D93 a0 a1 K h := by kernel_rfl
theorem D93_ok : fnOk Tryz.prog Tryz.f93 x93 2 = true := by kernel_rfl
theorem C93 {a0 a1 : Value} {K : Value → Hp → Prop} {h : Hp} (hh : D93 a0 a1 K h) : CallH Tryz.prog 93 #[a0, a1] K h :=
  callH_of mixed Tryz.func93 x93 [a0, a1] D93_ok (D93_eq a0 a1 K h ▸ hh)
def x63 : Ann := (.seq (.reg [] [(0, [])]) (.seq (.seq (.reg [] [(0, []), (1, []), (2, []), (3, []), (4, []), (5, []), (6, []), (7, []), (8, []), (9, []), (10, [])]) (.cond (.seq (.reg [] [(0, [])]) .leaf) .leaf)) (.seq (.reg [0, 1, 3, 7, 15, 0, 0, 64, 192, 448, 960, 2016, 4095, 8191] [(0, []), (1, []), (2, []), (5, []), (6, []), (7, []), (8, []), (3, []), (4, []), (9, []), (10, [3]), (11, []), (12, []), (13, [])]) .leaf)))
def D63 (a0 a1 : Value) (K : Value → Hp → Prop) (h : Hp) : Prop :=
  vP (binV .lss a1 (Value.int .i64 0)) fun v6 =>
  vP (gdW (gB v6 false) (some a1)) fun v8 =>
  vP (gdW (gB v6 false) (some a0)) fun v9 =>
  vP (gdW (gB v6 false) (nilV v9)) fun v10 =>
  vP (gdW (gB v6 false) (faV 2 v10)) fun v11 =>
  vP (gdW (gB v6 false) (ld1 v11 h)) fun v12 =>
  vP (gdW (gB v6 false) (lenV v12)) fun v13 =>
  vP (gdW (gB v6 false) (binV .geq v8 v13)) fun v14 =>
  vP (pickV v6 (Value.bool true) v14) fun v15 =>
  vB v15 (K (Value.int .i64 0) h)
  (vP (nilV a0) fun v17 =>
  vP (faV 0 v17) fun v18 =>
  vP (nilV a0) fun v23 =>
  vP (faV 1 v23) fun v24 =>
  vP (ld1 v18 h) fun v19 =>
  vP (binV .mul v19 (Value.int .i64 64)) fun v20 =>
  vP (ld1 v24 h) fun v25 =>
  CallH Tryz.prog 35 #[v25] (fun v26 h1 =>
  (ld1 v18 h1) = some v19 ∧ (vP (binV .mul a1 v26) fun v27 =>
  vP (binV .add v20 v27) fun v28 =>
  K v28 h1)) h)
theorem D63_eq (a0 a1 : Value) (K : Value → Hp → Prop) (h : Hp) : fnVC Tryz.prog Tryz.f63 x63 [a0, a1] K h = D63 a0 a1 K h := by kernel_rfl
theorem D63_ok : fnOk Tryz.prog Tryz.f63 x63 2 = true := by kernel_rfl
theorem C63 {a0 a1 : Value} {K : Value → Hp → Prop} {h : Hp} (hh : D63 a0 a1 K h) : CallH Tryz.prog 63 #[a0, a1] K h :=
  callH_of mixed Tryz.func63 x63 [a0, a1] D63_ok (D63_eq a0 a1 K h ▸ hh)
def x95 : Ann := (.seq (.reg [] [(0, []), (1, [])]) (.seq (.seq (.reg [] [(0, []), (1, []), (2, []), (3, []), (4, [])]) (.blk (.loop [6] [11, 12, 13, 14, 15, 16, 17, 20, 21, 22, 23, 24, 25, 26, 27, 28, 29, 30, 31, 32, 33, 34, 35, 36, 37, 38, 39, 40, 41, 42, 43, 44, 4, 5, 18, 19, 6] (.seq (.seq (.reg [] [(0, []), (1, []), (2, []), (3, []), (4, []), (5, []), (6, [])]) (.cond .leaf .leaf)) (.seq (.blk (.seq (.seq (.reg [] [(0, []), (1, []), (2, []), (3, []), (4, []), (5, []), (6, [])]) (.cond .leaf .leaf)) (.seq (.reg [] [(0, []), (1, []), (2, []), (3, []), (4, []), (5, []), (6, [])]) (.seq (.reg [] [(0, []), (1, []), (2, []), (3, []), (4, []), (5, []), (6, []), (7, [])]) (.seq (.reg [] [(0, []), (1, []), (2, []), (3, []), (4, [])]) (.seq (.reg [] [(0, []), (1, []), (2, [])]) .leaf)))))) (.reg [] [(0, []), (1, []), (2, [])])))))) (.seq (.reg [] [(0, []), (1, []), (2, []), (3, []), (4, []), (5, []), (6, []), (7, []), (8, [])]) (.seq (.reg [] [(0, []), (1, [])]) .leaf))))
def D95 (a0 a1 : Value) (K : Value → Hp → Prop) (h : Hp) : Prop :=
  vP (nilV a0) fun v8 =>
  vP (faV 4 v8) fun v9 =>
  vP (ld1 v9 h) fun v10 =>
  ∃ I1 : Nat → List Value → Hp → Prop, (∃ n, I1 n [v10] h) ∧
  ∀ n1 : Nat, ∀ v6 : Value, ∀ h1 : Hp, I1 n1 [v6] h1 → ∀ g1 : St,
    vP (nilV a0) fun v13 =>
    vP (faV 2 v13) fun v14 =>
    vP (ld1 v14 h1) fun v15 =>
    vP (lenV v15) fun v16 =>
    vP (binV .lss v6 v16) fun v17 =>
    vB v17 (vP (nilV a0) fun v21 =>
      vP (faV 2 v21) fun v22 =>
      vP (ld1 v22 h1) fun v23 =>
      vP (iaS 1 v23 v6) fun v25 =>
      vP (ld1 v25 h1) fun v26 =>
      vB v26 (vP (binV .add v6 (Value.int .i64 1)) fun v19 =>
        ∃ m1, m1 < n1 ∧ I1 m1 [v19] h1)
      (vP (nilV a0) fun v28 =>
      vP (faV 2 v28) fun v29 =>
      vP (ld1 v29 h1) fun v30 =>
      vP (iaS 1 v30 v6) fun v32 =>
      st1 v32 (Value.bool true) (fun _ h2 =>
      vP (nilV a0) fun v34 =>
      vP (faV 3 v34) fun v35 =>
      vP (ld1 v35 h2) fun v36 =>
      vP (iaS 1 v36 v6) fun v39 =>
      st1 v39 a1 (fun _ h3 =>
      vP (nilV a0) fun v42 =>
      vP (faV 4 v42) fun v43 =>
      st1 v43 v6 (fun _ h4 =>
      K (Value.tuple #[v6, (Value.bool true)]) h4) h3) h2) h1))
    (vP (nilV a0) fun v47 =>
    vP (faV 2 v47) fun v48 =>
    vP (ld1 v48 h1) fun v49 =>
    vP (lenV v49) fun v50 =>
    vP (nilV a0) fun v51 =>
    vP (faV 4 v51) fun v52 =>
    st1 v52 v50 (fun _ h5 =>
    K (Value.tuple #[(Value.int .i64 0), (Value.bool false)]) h5) h1)
theorem D95_eq (a0 a1 : Value) (K : Value → Hp → Prop) (h : Hp) : fnVC Tryz.prog Tryz.f95 x95 [a0, a1] K h = D95 a0 a1 K h := by kernel_rfl
theorem D95_ok : fnOk Tryz.prog Tryz.f95 x95 2 = true := by kernel_rfl
theorem C95 {a0 a1 : Value} {K : Value → Hp → Prop} {h : Hp} (hh : D95 a0 a1 K h) : CallH Tryz.prog 95 #[a0, a1] K h :=
  callH_of mixed Tryz.func95 x95 [a0, a1] D95_ok (D95_eq a0 a1 K h ▸ hh)
def x99 : Ann := (.seq (.reg [] [(0, [])]) (.seq (.seq (.reg [] [(0, []), (1, []), (2, []), (3, []), (4, [])]) (.blk (.loop [3] [8, 9, 10, 11, 12, 13, 14, 17, 18, 19, 20, 21, 22, 23, 24, 2, 15, 16, 3] (.seq (.seq (.reg [] [(0, []), (1, []), (2, []), (3, []), (4, []), (5, []), (6, [])]) (.cond .leaf .leaf)) (.seq (.blk (.seq (.reg [] [(0, []), (1, []), (2, []), (3, []), (4, []), (5, []), (6, []), (7, [])]) (.cond (.seq (.reg [] [(0, [])]) .leaf) .leaf))) (.reg [] [(0, []), (1, []), (2, [])])))))) (.seq (.reg [] [(0, [])]) .leaf)))
def D99 (a0 : Value) (K : Value → Hp → Prop) (h : Hp) : Prop :=
  vP (nilV a0) fun v5 =>
  vP (faV 4 v5) fun v6 =>
  vP (ld1 v6 h) fun v7 =>
  ∃ I1 : Nat → List Value → Hp → Prop, (∃ n, I1 n [v7] h) ∧
  ∀ n1 : Nat, ∀ v3 : Value, ∀ h1 : Hp, I1 n1 [v3] h1 → ∀ g1 : St,
    vP (nilV a0) fun v10 =>
    vP (faV 2 v10) fun v11 =>
    vP (ld1 v11 h1) fun v12 =>
    vP (lenV v12) fun v13 =>
    vP (binV .lss v3 v13) fun v14 =>
    vB v14 (vP (nilV a0) fun v18 =>
      vP (faV 2 v18) fun v19 =>
      vP (ld1 v19 h1) fun v20 =>
      vP (iaS 1 v20 v3) fun v22 =>
      vP (ld1 v22 h1) fun v23 =>
      vP (unV .not v23) fun v24 =>
      vB v24 (K (Value.bool false) h1)
      (vP (binV .add v3 (Value.int .i64 1)) fun v16 =>
      ∃ m1, m1 < n1 ∧ I1 m1 [v16] h1))
    (K (Value.bool true) h1)
theorem D99_eq (a0 : Value) (K : Value → Hp → Prop) (h : Hp) : fnVC Tryz.prog Tryz.f99 x99 [a0] K h = D99 a0 K h := by kernel_rfl
theorem D99_ok : fnOk Tryz.prog Tryz.f99 x99 1 = true := by kernel_rfl
theorem C99 {a0 : Value} {K : Value → Hp → Prop} {h : Hp} (hh : D99 a0 K h) : CallH Tryz.prog 99 #[a0] K h :=
  callH_of mixed Tryz.func99 x99 [a0] D99_ok (D99_eq a0 K h ▸ hh)
def x64 : Ann := (.seq (.reg [] [(0, [])]) (.seq (.reg [] [(0, [])]) (.seq (.seq (.reg [] [(0, [])]) (.blk (.loop [4, 3] [5, 6, 7, 8, 9, 10, 11, 14, 15, 16, 17, 18, 19, 20, 21, 22, 3, 12, 13, 4] (.seq (.seq (.reg [] [(0, []), (1, []), (2, []), (3, []), (4, []), (5, []), (6, [])]) (.cond .leaf .leaf)) (.join [3] [14, 15, 16, 17, 18, 19, 20, 21, 22, 3] (.blk (.seq (.reg [] [(0, []), (1, []), (2, []), (3, []), (4, []), (5, []), (6, [])]) (.cond (.reg [] [(0, []), (1, []), (2, [])]) .leaf))) (.reg [] [(0, []), (1, []), (2, [])])))))) (.seq (.reg [] [(0, []), (1, [])]) .leaf))))
def D64 (a0 : Value) (K : Value → Hp → Prop) (h : Hp) : Prop :=
  ∃ I1 : Nat → List Value → Hp → Prop, (∃ n, I1 n [(Value.int .i64 0), (Value.int .i64 0)] h) ∧
  ∀ n1 : Nat, ∀ v4 v3 : Value, ∀ h1 : Hp, I1 n1 [v4, v3] h1 → ∀ g1 : St,
    vP (nilV a0) fun v7 =>
    vP (faV 2 v7) fun v8 =>
    vP (ld1 v8 h1) fun v9 =>
    vP (lenV v9) fun v10 =>
    vP (binV .lss v4 v10) fun v11 =>
    vB v11 (∀ J2 : List Value → Hp → Prop, (∀ v3_1 : Value, ∀ h2 : Hp, (∀ g2 : St,
        vP (binV .add v4 (Value.int .i64 1)) fun v13 =>
        ∃ m1, m1 < n1 ∧ I1 m1 [v13, v3_1] h2) → J2 [v3_1] h2) →
      vP (nilV a0) fun v15 =>
      vP (faV 2 v15) fun v16 =>
      vP (ld1 v16 h1) fun v17 =>
      vP (iaS 1 v17 v4) fun v19 =>
      vP (ld1 v19 h1) fun v20 =>
      vB v20 (vP (binV .add v3 (Value.int .i64 1)) fun v22 =>
        J2 [v22] h1)
      (J2 [v3] h1))
    (K v3 h1)
theorem D64_eq (a0 : Value) (K : Value → Hp → Prop) (h : Hp) : fnVC Tryz.prog Tryz.f64 x64 [a0] K h = D64 a0 K h := by kernel_rfl
theorem D64_ok : fnOk Tryz.prog Tryz.f64 x64 1 = true := by kernel_rfl
theorem C64 {a0 : Value} {K : Value → Hp → Prop} {h : Hp} (hh : D64 a0 K h) : CallH Tryz.prog 64 #[a0] K h :=
  callH_of mixed Tryz.func64 x64 [a0] D64_ok (D64_eq a0 K h ▸ hh)
def x97 : Ann := (.seq (.reg [] [(0, [])]) (.seq (.seq (.reg [] [(0, []), (1, []), (2, []), (3, []), (4, []), (5, []), (6, []), (7, []), (8, []), (9, []), (10, [])]) (.cond (.seq (.reg [] [(0, [])]) .leaf) .leaf)) (.seq (.seq (.reg [] [(0, []), (1, []), (2, []), (3, []), (4, []), (5, []), (6, []), (7, []), (8, []), (9, []), (10, []), (11, []), (12, []), (13, []), (14, []), (15, []), (16, [])]) (.cond (.seq (.reg [] [(0, [])]) .leaf) .leaf)) (.seq (.reg [] [(0, []), (1, []), (2, []), (3, []), (4, []), (5, []), (6, [])]) (.seq (.reg [] [(0, [])]) .leaf)))))
def D97 (a0 a1 : Value) (K : Value → Hp → Prop) (h : Hp) : Prop :=
  vP (binV .lss a1 (Value.int .i64 0)) fun v6 =>
  vP (gdW (gB v6 false) (some a1)) fun v8 =>
  vP (gdW (gB v6 false) (some a0)) fun v9 =>
  vP (gdW (gB v6 false) (nilV v9)) fun v10 =>
  vP (gdW (gB v6 false) (faV 2 v10)) fun v11 =>
  vP (gdW (gB v6 false) (ld1 v11 h)) fun v12 =>
  vP (gdW (gB v6 false) (lenV v12)) fun v13 =>
  vP (gdW (gB v6 false) (binV .geq v8 v13)) fun v14 =>
  vP (pickV v6 (Value.bool true) v14) fun v15 =>
  vB v15 (K (Value.bool false) h)
  (vP (nilV a0) fun v17 =>
  vP (faV 2 v17) fun v18 =>
  vP (ld1 v18 h) fun v19 =>
  vP (iaS 1 v19 a1) fun v21 =>
  vP (ld1 v21 h) fun v22 =>
  vP (unV .not v22) fun v23 =>
  vP (gdW (gB v23 false) (some a0)) fun v25 =>
  vP (gdW (gB v23 false) (nilV v25)) fun v26 =>
  vP (gdW (gB v23 false) (faV 3 v26)) fun v27 =>
  vP (gdW (gB v23 false) (ld1 v27 h)) fun v28 =>
  vP (gdW (gB v23 false) (some a1)) fun v29 =>
  vP (gdW (gB v23 false) (iaS 1 v28 v29)) fun v30 =>
  vP (gdW (gB v23 false) (ld1 v30 h)) fun v31 =>
  vP (pickV v23 (Value.bool true) v31) fun v32 =>
  vB v32 (K (Value.bool false) h)
  (vP (nilV a0) fun v34 =>
  vP (faV 3 v34) fun v35 =>
  vP (ld1 v35 h) fun v36 =>
  vP (iaS 1 v36 a1) fun v38 =>
  st1 v38 (Value.bool true) (fun _ h1 =>
  K (Value.bool true) h1) h))
theorem D97_eq (a0 a1 : Value) (K : Value → Hp → Prop) (h : Hp) : fnVC Tryz.prog Tryz.f97 x97 [a0, a1] K h = D97 a0 a1 K h := by kernel_rfl
theorem D97_ok : fnOk Tryz.prog Tryz.f97 x97 2 = true := by kernel_rfl
theorem C97 {a0 a1 : Value} {K : Value → Hp → Prop} {h : Hp} (hh : D97 a0 a1 K h) : CallH Tryz.prog 97 #[a0, a1] K h :=
  callH_of mixed Tryz.func97 x97 [a0, a1] D97_ok (D97_eq a0 a1 K h ▸ hh)
def x98 : Ann := (.seq (.reg [] [(0, [])]) (.seq (.reg [] [(0, [])]) (.seq (.seq (.reg [] [(0, [])]) (.blk (.loop [4, 3] [5, 6, 7, 8, 9, 10, 11, 14, 15, 16, 17, 18, 19, 20, 21, 22, 23, 24, 25, 26, 27, 28, 29, 30, 31, 32, 33, 34, 35, 36, 37, 38, 39, 40, 3, 41, 42, 43, 44, 45, 46, 12, 13, 4] (.seq (.seq (.reg [] [(0, []), (1, []), (2, []), (3, []), (4, []), (5, []), (6, [])]) (.cond .leaf .leaf)) (.seq (.blk (.join [3] [14, 15, 16, 17, 18, 19, 20, 21, 22, 23, 24, 25, 26, 27, 28, 29, 30, 31, 32, 33, 34, 35, 36, 37, 38, 39, 40, 3] (.seq (.reg [] [(0, []), (1, []), (2, []), (3, []), (4, []), (5, []), (6, []), (7, []), (8, []), (9, []), (10, []), (11, []), (12, []), (13, []), (14, []), (15, []), (16, [])]) (.cond (.seq (.reg [] [(0, []), (1, []), (2, []), (3, []), (4, []), (5, []), (6, [])]) (.reg [] [(0, []), (1, []), (2, []), (3, []), (4, [])])) .leaf)) (.reg [] [(0, []), (1, []), (2, []), (3, []), (4, []), (5, []), (6, [])]))) (.reg [] [(0, []), (1, []), (2, [])])))))) (.seq (.reg [] [(0, []), (1, []), (2, []), (3, [])]) (.seq (.reg [] [(0, []), (1, [])]) .leaf)))))
def D98 (a0 : Value) (K : Value → Hp → Prop) (h : Hp) : Prop :=
  ∃ I1 : Nat → List Value → Hp → Prop, (∃ n, I1 n [(Value.int .i64 0), (Value.slice none 0 0)] h) ∧
  ∀ n1 : Nat, ∀ v4 v3 : Value, ∀ h1 : Hp, I1 n1 [v4, v3] h1 → ∀ g1 : St,
    vP (nilV a0) fun v7 =>
    vP (faV 2 v7) fun v8 =>
    vP (ld1 v8 h1) fun v9 =>
    vP (lenV v9) fun v10 =>
    vP (binV .lss v4 v10) fun v11 =>
    vB v11 (∀ J2 : List Value → Hp → Prop, (∀ v3_1 : Value, ∀ h2 : Hp, (∀ g2 : St,
        vP (nilV a0) fun v42 =>
        vP (faV 3 v42) fun v43 =>
        vP (ld1 v43 h2) fun v44 =>
        vP (iaS 1 v44 v4) fun v46 =>
        st1 v46 (Value.bool false) (fun _ h3 =>
        vP (binV .add v4 (Value.int .i64 1)) fun v13 =>
        ∃ m1, m1 < n1 ∧ I1 m1 [v13, v3_1] h3) h2) → J2 [v3_1] h2) →
      vP (nilV a0) fun v15 =>
      vP (faV 2 v15) fun v16 =>
      vP (ld1 v16 h1) fun v17 =>
      vP (iaS 1 v17 v4) fun v19 =>
      vP (ld1 v19 h1) fun v20 =>
      vP (gdW (gB v20 true) (some a0)) fun v22 =>
      vP (gdW (gB v20 true) (nilV v22)) fun v23 =>
      vP (gdW (gB v20 true) (faV 3 v23)) fun v24 =>
      vP (gdW (gB v20 true) (ld1 v24 h1)) fun v25 =>
      vP (gdW (gB v20 true) (some v4)) fun v26 =>
      vP (gdW (gB v20 true) (iaS 1 v25 v26)) fun v27 =>
      vP (gdW (gB v20 true) (ld1 v27 h1)) fun v28 =>
      vP (gdW (gB v20 true) (unV .not v28)) fun v29 =>
      vP (pickV v20 v29 (Value.bool false)) fun v30 =>
      vB v30 (vP (nilV a0) fun v32 =>
        vP (faV 2 v32) fun v33 =>
        vP (ld1 v33 h1) fun v34 =>
        vP (iaS 1 v34 v4) fun v36 =>
        st1 v36 (Value.bool false) (fun _ h4 =>
        vA ((bldV #[(Value.int .i64 0)] [(0, 1, v4)]).map fun c => (Obj.cells c 3 (0, 0), fun r => Value.slice (some ⟨r, 0, none⟩) 1 1)) (fun v39 h5 =>
        apW Tryz.prog #[22, 22] 22 v3 v39 (fun v40 h6 =>
        J2 [v40] h6) h5) h4) h1)
      (J2 [v3] h1))
    (vP (nilV a0) fun v48 =>
    vP (faV 4 v48) fun v49 =>
    st1 v49 (Value.int .i64 0) (fun _ h7 =>
    K v3 h7) h1)
theorem D98_eq (a0 : Value) (K : Value → Hp → Prop) (h : Hp) : fnVC Tryz.prog Tryz.f98 x98 [a0] K h = D98 a0 K h := by kernel_rfl
theorem D98_ok : fnOk Tryz.prog Tryz.f98 x98 1 = true := by kernel_rfl
theorem C98 {a0 : Value} {K : Value → Hp → Prop} {h : Hp} (hh : D98 a0 K h) : CallH Tryz.prog 98 #[a0] K h :=
  callH_of mixed Tryz.func98 x98 [a0] D98_ok (D98_eq a0 K h ▸ hh)
def x92 : Ann := (.seq (.reg [] [(0, [])]) (.seq (.seq (.reg [] [(0, [])]) (.blk (.loop [5] [6, 7, 8, 9, 10, 11, 12, 15, 16, 17, 18, 19, 20, 21, 22, 23, 24, 4, 13, 14, 5] (.seq (.seq (.reg [] [(0, []), (1, []), (2, []), (3, []), (4, []), (5, []), (6, [])]) (.cond .leaf .leaf)) (.seq (.blk (.seq (.reg [] [(0, []), (1, []), (2, []), (3, []), (4, []), (5, []), (6, []), (7, []), (8, [])]) (.cond (.seq (.reg [] [(0, []), (1, [])]) .leaf) .leaf))) (.reg [] [(0, []), (1, []), (2, [])])))))) (.seq (.reg [] [(0, [])]) .leaf)))
def D92 (a0 a1 : Value) (K : Value → Hp → Prop) (h : Hp) : Prop :=
  ∃ I1 : Nat → List Value → Hp → Prop, (∃ n, I1 n [(Value.int .i64 0)] h) ∧
  ∀ n1 : Nat, ∀ v5 : Value, ∀ h1 : Hp, I1 n1 [v5] h1 → ∀ g1 : St,
    vP (nilV a0) fun v8 =>
    vP (faV 1 v8) fun v9 =>
    vP (ld1 v9 h1) fun v10 =>
    vP (lenV v10) fun v11 =>
    vP (binV .lss v5 v11) fun v12 =>
    vB v12 (vP (nilV a0) fun v16 =>
      vP (faV 1 v16) fun v17 =>
      vP (ld1 v17 h1) fun v18 =>
      vP (iaS 1 v18 v5) fun v20 =>
      vP (ld1 v20 h1) fun v21 =>
      vP (eqV 1 false v21 a1) fun v23 =>
      vB v23 (K v5 h1)
      (vP (binV .add v5 (Value.int .i64 1)) fun v14 =>
      ∃ m1, m1 < n1 ∧ I1 m1 [v14] h1))
    (K (Value.int .i64 (-1)) h1)
theorem D92_eq (a0 a1 : Value) (K : Value → Hp → Prop) (h : Hp) : fnVC Tryz.prog Tryz.f92 x92 [a0, a1] K h = D92 a0 a1 K h := by kernel_rfl
theorem D92_ok : fnOk Tryz.prog Tryz.f92 x92 2 = true := by kernel_rfl
theorem C92 {a0 a1 : Value} {K : Value → Hp → Prop} {h : Hp} (hh : D92 a0 a1 K h) : CallH Tryz.prog 92 #[a0, a1] K h :=
  callH_of mixed Tryz.func92 x92 [a0, a1] D92_ok (D92_eq a0 a1 K h ▸ hh)
def x96 : Ann := (.seq (.reg [] [(0, []), (1, []), (2, [])]) (.seq (.seq (.reg [] [(0, [])]) (.blk (.loop [7] [9, 10, 11, 12, 13, 14, 15, 8, 18, 19, 20, 21, 22, 23, 24, 25, 26, 27, 28, 29, 30, 33, 34, 35, 36, 37, 38, 39, 40, 41, 42, 43, 44, 45, 46, 47, 48, 49, 50, 51, 52, 53, 54, 55, 56, 57, 58, 59, 60, 4, 5, 6, 31, 32, 16, 17, 7] (.seq (.seq (.reg [] [(0, []), (1, []), (2, []), (3, []), (4, []), (5, []), (6, [])]) (.cond .leaf .leaf)) (.seq (.blk (.seq (.reg [] [(0, [])]) (.blk (.loop [8] [18, 19, 20, 21, 22, 23, 24, 25, 26, 27, 28, 29, 30, 33, 34, 35, 36, 37, 38, 39, 40, 41, 42, 43, 44, 45, 46, 47, 48, 49, 50, 51, 52, 53, 54, 55, 56, 57, 58, 59, 60, 4, 5, 6, 31, 32, 8] (.seq (.seq (.reg [] [(0, []), (1, []), (2, []), (3, []), (4, []), (5, []), (6, []), (7, []), (8, []), (9, []), (10, []), (11, []), (12, [])]) (.cond .leaf .leaf)) (.seq (.blk (.seq (.reg [] [(0, []), (1, []), (2, []), (3, []), (4, []), (5, []), (6, []), (7, []), (8, []), (9, []), (10, []), (11, []), (12, []), (13, []), (14, []), (15, []), (16, []), (17, []), (18, []), (19, []), (20, []), (21, []), (22, []), (23, []), (24, []), (25, [])]) (.cond (.seq (.reg [] [(0, []), (1, []), (2, []), (3, []), (4, [])]) .leaf) .leaf))) (.reg [] [(0, []), (1, []), (2, [])]))))))) (.reg [] [(0, []), (1, []), (2, [])])))))) (.seq (.reg [] [(0, []), (1, []), (2, [])]) .leaf)))
def D96 (a0 a1 : Value) (K : Value → Hp → Prop) (h : Hp) : Prop :=
  ∃ I1 : Nat → List Value → Hp → Prop, (∃ n, I1 n [(Value.int .i64 0)] h) ∧
  ∀ n1 : Nat, ∀ v7 : Value, ∀ h1 : Hp, I1 n1 [v7] h1 → ∀ g1 : St,
    vP (nilV a0) fun v11 =>
    vP (faV 2 v11) fun v12 =>
    vP (ld1 v12 h1) fun v13 =>
    vP (lenV v13) fun v14 =>
    vP (binV .lss v7 v14) fun v15 =>
    vB v15 (∃ I2 : Nat → List Value → Hp → Prop, (∃ n, I2 n [(Value.int .i64 0)] h1) ∧
      ∀ n2 : Nat, ∀ v8 : Value, ∀ h2 : Hp, I2 n2 [v8] h2 → ∀ g2 : St,
        vP (nilV a0) fun v20 =>
        vP (faV 2 v20) fun v21 =>
        vP (ld1 v21 h2) fun v22 =>
        vP (iaS 1 v22 v7) fun v24 =>
        vP (ld1 v24 h2) fun v25 =>
        vP (nilV v25) fun v26 =>
        vP (faV 2 v26) fun v27 =>
        vP (ld1 v27 h2) fun v28 =>
        vP (lenV v28) fun v29 =>
        vP (binV .lss v8 v29) fun v30 =>
        vB v30 (vP (nilV a0) fun v34 =>
          vP (faV 2 v34) fun v35 =>
          vP (ld1 v35 h2) fun v36 =>
          vP (iaS 1 v36 v7) fun v38 =>
          vP (ld1 v38 h2) fun v39 =>
          vP (nilV v39) fun v40 =>
          vP (faV 2 v40) fun v41 =>
          vP (ld1 v41 h2) fun v42 =>
          vP (iaS 1 v42 v8) fun v44 =>
          vP (ld1 v44 h2) fun v45 =>
          vP (gdW (gB v45 true) (some a0)) fun v47 =>
          vP (gdW (gB v45 true) (nilV v47)) fun v48 =>
          vP (gdW (gB v45 true) (faV 2 v48)) fun v49 =>
          vP (gdW (gB v45 true) (ld1 v49 h2)) fun v50 =>
          vP (gdW (gB v45 true) (some v7)) fun v51 =>
          vP (gdW (gB v45 true) (iaS 1 v50 v51)) fun v52 =>
          vP (gdW (gB v45 true) (ld1 v52 h2)) fun v53 =>
          vP (gdW (gB v45 true) (some v8)) fun v54 =>
          vE (gB v45 true) (CallH Tryz.prog 63 #[v53, v54]) (fun v55 h3 =>
          vP (gdW (gB v45 true) (some a1)) fun v56 =>
          vP (gdW (gB v45 true) (eqV 1 false v55 v56)) fun v57 =>
          vP (pickV v45 v57 (Value.bool false)) fun v58 =>
          vB v58 (K (Value.tuple #[v7, v8, (Value.bool true)]) h3)
          (vP (binV .add v8 (Value.int .i64 1)) fun v32 =>
          ∃ m2, m2 < n2 ∧ I2 m2 [v32] h3)) h2)
        (vP (binV .add v7 (Value.int .i64 1)) fun v17 =>
        ∃ m1, m1 < n1 ∧ I1 m1 [v17] h2))
    (K (Value.tuple #[(Value.int .i64 0), (Value.int .i64 0), (Value.bool false)]) h1)
theorem D96_eq (a0 a1 : Value) (K : Value → Hp → Prop) (h : Hp) : fnVC Tryz.prog Tryz.f96 x96 [a0, a1] K h = D96 a0 a1 K h := by kernel_rfl
theorem D96_ok : fnOk Tryz.prog Tryz.f96 x96 2 = true := by kernel_rfl
theorem C96 {a0 a1 : Value} {K : Value → Hp → Prop} {h : Hp} (hh : D96 a0 a1 K h) : CallH Tryz.prog 96 #[a0, a1] K h :=
  callH_of mixed Tryz.func96 x96 [a0, a1] D96_ok (D96_eq a0 a1 K h ▸ hh)
def x49 : Ann := (.seq (.reg [] [(0, []), (1, [])]) (.seq (.seq (.reg [] [(0, []), (1, []), (2, [])]) (.cond (.seq (.reg [] [(0, []), (1, [])]) .leaf) .leaf)) (.seq (.reg [0, 1, 3, 7, 0, 16, 63, 127, 255, 255, 511, 2047] [(0, []), (1, []), (2, []), (4, []), (3, []), (5, [3]), (6, []), (7, []), (8, []), (9, []), (10, []), (11, [])]) (.seq (.seq (.reg [] [(0, []), (1, [])]) (.cond (.seq (.reg [] [(0, []), (1, []), (2, [])]) .leaf) .leaf)) (.seq (.reg [] [(0, [])]) (.seq (.blk (.loop [8] [27, 28, 29, 30, 31, 32, 8] (.seq (.seq (.reg [] [(0, []), (1, []), (2, []), (3, [])]) (.cond .leaf .leaf)) (.blk (.reg [] [(0, []), (1, []), (2, [])]))))) (.seq (.reg [] [(0, [])]) (.seq (.blk (.loop [9] [33, 34, 35, 36, 37, 38, 39, 40, 41, 42, 43, 44, 45, 46, 47, 48, 49, 50, 51, 52, 9] (.seq (.seq (.reg [] [(0, []), (1, []), (2, []), (3, []), (4, []), (5, []), (6, []), (7, []), (8, []), (9, []), (10, []), (11, []), (12, []), (13, []), (14, []), (15, []), (16, []), (17, [])]) (.cond .leaf .leaf)) (.blk (.reg [] [(0, []), (1, []), (2, [])]))))) (.seq (.reg [] [(0, []), (1, []), (2, []), (3, [])]) (.seq (.reg [0, 0, 0, 4, 12, 28, 0, 124, 254, 0, 512, 2046, 0, 4096, 12288, 28672, 0, 126976, 262142, 524287, 1048575, 2097151] [(0, []), (2, []), (3, []), (4, []), (6, []), (9, []), (12, []), (13, []), (14, []), (16, []), (5, []), (7, []), (15, []), (17, []), (1, []), (8, [15]), (10, []), (11, [15]), (18, []), (19, []), (20, []), (21, [])]) (.seq (.reg [0, 0, 0, 4, 12, 28, 0, 124, 254, 0, 512, 2046, 0, 4096, 12288, 28672, 0, 126976, 262142, 524287, 1048575, 2097151] [(0, []), (2, []), (3, []), (4, []), (6, []), (9, []), (12, []), (13, []), (14, []), (16, []), (5, []), (7, []), (15, []), (17, []), (1, []), (8, [15]), (10, []), (11, [15]), (18, []), (19, []), (20, []), (21, [])]) (.seq (.reg [0, 0, 0, 4, 12, 28, 0, 124, 254, 0, 512, 1536, 3584, 7680, 15872, 32256, 65534, 0, 131072, 393216, 917504, 0, 4063232, 8388606, 16777215, 33554431, 67108863] [(0, []), (2, []), (3, []), (4, []), (6, []), (9, []), (10, []), (11, []), (17, []), (18, []), (19, []), (21, []), (5, []), (7, []), (12, []), (13, []), (20, []), (22, []), (1, []), (8, [20, 12]), (14, []), (15, []), (16, [20]), (23, []), (24, []), (25, []), (26, [])]) (.seq (.reg [] [(0, []), (1, []), (2, [])]) .leaf)))))))))))))
def D49 (a0 a1 : Value) (K : Value → Hp → Prop) (h : Hp) : Prop :=
  CallH Tryz.prog 35 #[a1] (fun v12 h1 =>
  vP (eqV 1 false v12 (Value.int .i64 0)) fun v13 =>
  vB v13 (K (Value.tuple #[(Value.int .i64 0), (Value.int .i64 1)]) h1)
  (vP (nilV a0) fun v16 =>
  vP (faV 0 v16) fun v17 =>
  vP (ld1 v17 h1) fun v18 =>
  CallH Tryz.prog 8 #[a1] (fun v20 h2 =>
  (ld1 v17 h2) = some v18 ∧ (CallH Tryz.prog 91 #[v18, v20] (fun v21 h3 =>
  vP (exV v21 0) fun v22 =>
  vP (exV v21 1) fun v23 =>
  vP (eqV 1 true v23 (Value.int .i64 0)) fun v25 =>
  vB v25 (K (Value.tuple #[(Value.int .i64 0), v23]) h3)
  (∃ I1 : Nat → List Value → Hp → Prop, (∃ n, I1 n [(Value.int .i64 0)] h3) ∧
  ∀ n1 : Nat, ∀ v8 : Value, ∀ h4 : Hp, I1 n1 [v8] h4 → ∀ g1 : St,
    CallH Tryz.prog 92 #[a0, v8] (fun v29 h5 =>
    vP (binV .geq v29 (Value.int .i64 0)) fun v30 =>
    vB v30 (vP (binV .add v8 (Value.int .i64 1)) fun v32 =>
      ∃ m1, m1 < n1 ∧ I1 m1 [v32] h5)
    (∃ I2 : Nat → List Value → Hp → Prop, (∃ n, I2 n [(Value.int .i64 0)] h5) ∧
    ∀ n2 : Nat, ∀ v9 : Value, ∀ h6 : Hp, I2 n2 [v9] h6 → ∀ g2 : St,
      vP (nilV a0) fun v35 =>
      vP (faV 1 v35) fun v36 =>
      vP (ld1 v36 h6) fun v37 =>
      vP (lenV v37) fun v38 =>
      vP (binV .lss v9 v38) fun v39 =>
      vP (gdW (gB v39 true) (some a0)) fun v41 =>
      vP (gdW (gB v39 true) (nilV v41)) fun v42 =>
      vP (gdW (gB v39 true) (faV 1 v42)) fun v43 =>
      vP (gdW (gB v39 true) (ld1 v43 h6)) fun v44 =>
      vP (gdW (gB v39 true) (some v9)) fun v45 =>
      vP (gdW (gB v39 true) (iaS 1 v44 v45)) fun v46 =>
      vP (gdW (gB v39 true) (ld1 v46 h6)) fun v47 =>
      vP (gdW (gB v39 true) (some v8)) fun v48 =>
      vP (gdW (gB v39 true) (binV .lss v47 v48)) fun v49 =>
      vP (pickV v39 v49 (Value.bool false)) fun v50 =>
      vB v50 (vP (binV .add v9 (Value.int .i64 1)) fun v52 =>
        ∃ m2, m2 < n2 ∧ I2 m2 [v52] h6)
      (CallH Tryz.prog 93 #[v22, a1] (fun v55 h7 =>
      vP (nilV a0) fun v59 =>
      vP (faV 1 v59) fun v60 =>
      vP (nilV a0) fun v69 =>
      vP (faV 1 v69) fun v70 =>
      vP (ld1 v60 h7) fun v61 =>
      vP (slV 1 v61 none (some v9) none) fun v63 =>
      vP (ld1 v70 h7) fun v71 =>
      vP (slV 1 v71 (some v9) none none) fun v73 =>
      vA ((bldV #[] []).map fun c => (Obj.cells c 3 (0, 0), fun r => Value.slice (some ⟨r, 0, none⟩) 0 0)) (fun v57 h8 =>
      apW Tryz.prog #[22, 22] 22 v57 v63 (fun v64 h9 =>
      (ld1 v70 h9) = some v71 ∧ (vA ((bldV #[(Value.int .i64 0)] [(0, 1, v8)]).map fun c => (Obj.cells c 3 (0, 0), fun r => Value.slice (some ⟨r, 0, none⟩) 1 1)) (fun v66 h10 =>
      apW Tryz.prog #[22, 22] 22 v64 v66 (fun v67 h11 =>
      (ld1 v70 h11) = some v71 ∧ (apW Tryz.prog #[22, 22] 22 v67 v73 (fun v74 h12 =>
      vP (nilV a0) fun v75 =>
      vP (faV 1 v75) fun v76 =>
      st1 v76 v74 (fun _ h13 =>
      vP (nilV a0) fun v80 =>
      vP (faV 2 v80) fun v81 =>
      vP (nilV a0) fun v90 =>
      vP (faV 2 v90) fun v91 =>
      vP (ld1 v81 h13) fun v82 =>
      vP (slV 1 v82 none (some v9) none) fun v84 =>
      vP (ld1 v91 h13) fun v92 =>
      vP (slV 1 v92 (some v9) none none) fun v94 =>
      vA ((bldV #[] []).map fun c => (Obj.cells c 80 (0, 0), fun r => Value.slice (some ⟨r, 0, none⟩) 0 0)) (fun v78 h14 =>
      apW Tryz.prog #[50, 50] 50 v78 v84 (fun v85 h15 =>
      (ld1 v91 h15) = some v92 ∧ (vA ((bldV #[(Value.pointer none)] [(0, 1, v55)]).map fun c => (Obj.cells c 80 (0, 0), fun r => Value.slice (some ⟨r, 0, none⟩) 1 1)) (fun v87 h16 =>
      apW Tryz.prog #[50, 50] 50 v85 v87 (fun v88 h17 =>
      (ld1 v91 h17) = some v92 ∧ (apW Tryz.prog #[50, 50] 50 v88 v94 (fun v95 h18 =>
      vP (nilV a0) fun v96 =>
      vP (faV 2 v96) fun v97 =>
      st1 v97 v95 (fun _ h19 =>
      vP (nilV a0) fun v101 =>
      vP (faV 3 v101) fun v102 =>
      vP (nilV v55) fun v108 =>
      vP (faV 2 v108) fun v109 =>
      vP (nilV a0) fun v116 =>
      vP (faV 3 v116) fun v117 =>
      vP (ld1 v102 h19) fun v103 =>
      vP (slV 1 v103 none (some v9) none) fun v105 =>
      vP (ld1 v109 h19) fun v110 =>
      vP (lenV v110) fun v111 =>
      vP (ld1 v117 h19) fun v118 =>
      vP (slV 1 v118 (some v9) none none) fun v120 =>
      vA ((bldV #[] []).map fun c => (Obj.cells c 22 (0, 0), fun r => Value.slice (some ⟨r, 0, none⟩) 0 0)) (fun v99 h20 =>
      apW Tryz.prog #[51, 51] 51 v99 v105 (fun v106 h21 =>
      (ld1 v117 h21) = some v118 ∧ ((ld1 v109 h21) = some v110 ∧ (vA (msV 8 1 3 #[(Value.int .i64 0)] v111 v111) (fun v112 h22 =>
      vA ((bldV #[(Value.slice none 0 0)] [(0, 1, v112)]).map fun c => (Obj.cells c 22 (0, 0), fun r => Value.slice (some ⟨r, 0, none⟩) 1 1)) (fun v113 h23 =>
      apW Tryz.prog #[51, 51] 51 v106 v113 (fun v114 h24 =>
      (ld1 v117 h24) = some v118 ∧ (apW Tryz.prog #[51, 51] 51 v114 v120 (fun v121 h25 =>
      vP (nilV a0) fun v122 =>
      vP (faV 3 v122) fun v123 =>
      st1 v123 v121 (fun _ h26 =>
      K (Value.tuple #[v8, (Value.int .i64 0)]) h26) h25) h24)) h23) h22) h21))) h20) h19) h18) h17)) h16) h15)) h14) h13) h12) h11)) h10) h9)) h8) h7) h6))) h4)) h2)) h1)) h
theorem D49_eq (a0 a1 : Value) (K : Value → Hp → Prop) (h : Hp) : fnVC Tryz.prog Tryz.f49 x49 [a0, a1] K h = D49 a0 a1 K h := by kernel_rfl
theorem D49_ok : fnOk Tryz.prog Tryz.f49 x49 2 = true := by kernel_rfl
theorem C49 {a0 a1 : Value} {K : Value → Hp → Prop} {h : Hp} (hh : D49 a0 a1 K h) : CallH Tryz.prog 49 #[a0, a1] K h :=
  callH_of mixed Tryz.func49 x49 [a0, a1] D49_ok (D49_eq a0 a1 K h ▸ hh)
def x50 : Ann := (.seq (.reg [] [(0, [])]) (.seq (.reg [] [(0, []), (1, []), (2, []), (3, [])]) (.seq (.seq (.reg [] [(0, []), (1, [])]) (.cond (.seq (.reg [] [(0, [])]) .leaf) .leaf)) (.seq (.seq (.reg [] [(0, []), (1, []), (2, []), (3, []), (4, []), (5, []), (6, []), (7, []), (8, [])]) (.cond (.seq (.reg [] [(0, [])]) .leaf) .leaf)) (.seq (.reg [0, 1, 3, 7, 0, 16, 48, 112, 0, 496, 1008, 2032, 4080, 8176, 0, 16384, 49152, 114688, 0, 507904, 1032192, 2080768, 4177920, 8372224, 16760832, 33554431] [(0, []), (1, []), (2, []), (4, []), (5, []), (6, []), (8, []), (14, []), (15, []), (16, []), (18, []), (3, []), (7, []), (9, []), (10, []), (11, []), (12, []), (13, []), (17, []), (19, []), (20, []), (21, []), (22, []), (23, []), (24, [13, 10, 7, 3]), (25, [])]) (.seq (.reg [0, 0, 0, 4, 12, 28, 0, 124, 254, 0, 512, 1536, 3584, 0, 8192, 32256, 65534, 131071, 262143, 524287] [(0, []), (2, []), (3, []), (4, []), (6, []), (9, []), (10, []), (11, []), (13, []), (14, []), (5, []), (7, []), (12, []), (15, []), (1, []), (8, [12]), (16, []), (17, []), (18, []), (19, [])]) (.seq (.reg [0, 0, 0, 4, 12, 28, 0, 124, 254, 0, 512, 1536, 3584, 0, 8192, 32256, 65534, 131071, 262143, 524287] [(0, []), (2, []), (3, []), (4, []), (6, []), (9, []), (10, []), (11, []), (13, []), (14, []), (5, []), (7, []), (12, []), (15, []), (1, []), (8, [12]), (16, []), (17, []), (18, []), (19, [])]) (.seq (.reg [0, 0, 0, 4, 12, 28, 0, 124, 254, 0, 512, 1536, 3584, 0, 8192, 32256, 65534, 131071, 262143, 524287] [(0, []), (2, []), (3, []), (4, []), (6, []), (9, []), (10, []), (11, []), (13, []), (14, []), (5, []), (7, []), (12, []), (15, []), (1, []), (8, [12]), (16, []), (17, []), (18, []), (19, [])]) (.seq (.reg [] [(0, [])]) .leaf)))))))))
def D50 (a0 a1 : Value) (K : Value → Hp → Prop) (h : Hp) : Prop :=
  CallH Tryz.prog 92 #[a0, a1] (fun v8 h1 =>
  vP (binV .lss v8 (Value.int .i64 0)) fun v10 =>
  vB v10 (K (Value.int .i64 4) h1)
  (vP (nilV a0) fun v12 =>
  vP (faV 2 v12) fun v13 =>
  vP (ld1 v13 h1) fun v14 =>
  vP (iaS 1 v14 v8) fun v16 =>
  vP (ld1 v16 h1) fun v17 =>
  CallH Tryz.prog 64 #[v17] (fun v18 h2 =>
  vP (binV .gtr v18 (Value.int .i64 0)) fun v19 =>
  vB v19 (K (Value.int .i64 5) h2)
  (vP (nilV a0) fun v21 =>
  vP (faV 0 v21) fun v22 =>
  vP (nilV a0) fun v25 =>
  vP (faV 2 v25) fun v26 =>
  vP (nilV a0) fun v35 =>
  vP (faV 2 v35) fun v36 =>
  vP (ld1 v22 h2) fun v23 =>
  vP (ld1 v26 h2) fun v27 =>
  vP (iaS 1 v27 v8) fun v29 =>
  vP (ld1 v29 h2) fun v30 =>
  vP (nilV v30) fun v31 =>
  vP (faV 0 v31) fun v32 =>
  vP (ld1 v32 h2) fun v33 =>
  vP (ld1 v36 h2) fun v37 =>
  vP (iaS 1 v37 v8) fun v39 =>
  vP (ld1 v39 h2) fun v40 =>
  vP (nilV v40) fun v41 =>
  vP (faV 1 v41) fun v42 =>
  vP (ld1 v42 h2) fun v43 =>
  CallH Tryz.prog 8 #[v43] (fun v44 h3 =>
  (ld1 v32 h3) = some v33 ∧ ((ld1 v29 h3) = some v30 ∧ ((ld1 v26 h3) = some v27 ∧ ((ld1 v22 h3) = some v23 ∧ (CallH Tryz.prog 94 #[v23, v33, v44] (fun v45 h4 =>
  vP (nilV a0) fun v49 =>
  vP (faV 1 v49) fun v50 =>
  vP (nilV a0) fun v56 =>
  vP (faV 1 v56) fun v57 =>
  vP (binV .add v8 (Value.int .i64 1)) fun v60 =>
  vP (ld1 v50 h4) fun v51 =>
  vP (slV 1 v51 none (some v8) none) fun v53 =>
  vP (ld1 v57 h4) fun v58 =>
  vP (slV 1 v58 (some v60) none none) fun v61 =>
  vA ((bldV #[] []).map fun c => (Obj.cells c 3 (0, 0), fun r => Value.slice (some ⟨r, 0, none⟩) 0 0)) (fun v47 h5 =>
  apW Tryz.prog #[22, 22] 22 v47 v53 (fun v54 h6 =>
  (ld1 v57 h6) = some v58 ∧ (apW Tryz.prog #[22, 22] 22 v54 v61 (fun v62 h7 =>
  vP (nilV a0) fun v63 =>
  vP (faV 1 v63) fun v64 =>
  st1 v64 v62 (fun _ h8 =>
  vP (nilV a0) fun v68 =>
  vP (faV 2 v68) fun v69 =>
  vP (nilV a0) fun v75 =>
  vP (faV 2 v75) fun v76 =>
  vP (binV .add v8 (Value.int .i64 1)) fun v79 =>
  vP (ld1 v69 h8) fun v70 =>
  vP (slV 1 v70 none (some v8) none) fun v72 =>
  vP (ld1 v76 h8) fun v77 =>
  vP (slV 1 v77 (some v79) none none) fun v80 =>
  vA ((bldV #[] []).map fun c => (Obj.cells c 80 (0, 0), fun r => Value.slice (some ⟨r, 0, none⟩) 0 0)) (fun v66 h9 =>
  apW Tryz.prog #[50, 50] 50 v66 v72 (fun v73 h10 =>
  (ld1 v76 h10) = some v77 ∧ (apW Tryz.prog #[50, 50] 50 v73 v80 (fun v81 h11 =>
  vP (nilV a0) fun v82 =>
  vP (faV 2 v82) fun v83 =>
  st1 v83 v81 (fun _ h12 =>
  vP (nilV a0) fun v87 =>
  vP (faV 3 v87) fun v88 =>
  vP (nilV a0) fun v94 =>
  vP (faV 3 v94) fun v95 =>
  vP (binV .add v8 (Value.int .i64 1)) fun v98 =>
  vP (ld1 v88 h12) fun v89 =>
  vP (slV 1 v89 none (some v8) none) fun v91 =>
  vP (ld1 v95 h12) fun v96 =>
  vP (slV 1 v96 (some v98) none none) fun v99 =>
  vA ((bldV #[] []).map fun c => (Obj.cells c 22 (0, 0), fun r => Value.slice (some ⟨r, 0, none⟩) 0 0)) (fun v85 h13 =>
  apW Tryz.prog #[51, 51] 51 v85 v91 (fun v92 h14 =>
  (ld1 v95 h14) = some v96 ∧ (apW Tryz.prog #[51, 51] 51 v92 v99 (fun v100 h15 =>
  vP (nilV a0) fun v101 =>
  vP (faV 3 v101) fun v102 =>
  st1 v102 v100 (fun _ h16 =>
  K (Value.int .i64 0) h16) h15) h14)) h13) h12) h11) h10)) h9) h8) h7) h6)) h5) h4) h3))))) h2)) h1)) h
theorem D50_eq (a0 a1 : Value) (K : Value → Hp → Prop) (h : Hp) : fnVC Tryz.prog Tryz.f50 x50 [a0, a1] K h = D50 a0 a1 K h := by kernel_rfl
theorem D50_ok : fnOk Tryz.prog Tryz.f50 x50 2 = true := by kernel_rfl
theorem C50 {a0 a1 : Value} {K : Value → Hp → Prop} {h : Hp} (hh : D50 a0 a1 K h) : CallH Tryz.prog 50 #[a0, a1] K h :=
  callH_of mixed Tryz.func50 x50 [a0, a1] D50_ok (D50_eq a0 a1 K h ▸ hh)
def x51 : Ann := (.seq (.reg [] [(0, []), (1, [])]) (.seq (.reg [] [(0, []), (1, []), (2, []), (3, [])]) (.seq (.seq (.reg [] [(0, []), (1, [])]) (.cond (.seq (.reg [] [(0, []), (1, [])]) .leaf) .leaf)) (.seq (.reg [] [(0, []), (1, []), (2, []), (3, []), (4, []), (5, []), (6, []), (7, [])]) (.seq (.seq (.reg [] [(0, []), (1, []), (2, []), (3, []), (4, []), (5, []), (6, []), (7, []), (8, []), (9, []), (10, [])]) (.cond (.seq (.reg [] [(0, []), (1, [])]) .leaf) .leaf)) (.seq (.reg [] [(0, []), (1, []), (2, []), (3, []), (4, []), (5, []), (6, []), (7, [])]) (.seq (.seq (.reg [] [(0, []), (1, [])]) (.cond (.seq (.reg [] [(0, []), (1, [])]) .leaf) .leaf)) (.seq (.reg [] [(0, []), (1, []), (2, []), (3, []), (4, []), (5, []), (6, []), (7, []), (8, []), (9, []), (10, [])]) (.seq (.seq (.reg [] [(0, [])]) (.blk (.loop [14] [56, 57, 58, 61, 62, 63, 64, 65, 66, 67, 68, 69, 59, 60, 14] (.seq (.seq (.reg [] [(0, []), (1, []), (2, [])]) (.cond .leaf .leaf)) (.seq (.blk (.reg [0, 1, 3, 7, 0, 0, 48, 0, 240, 511] [(0, []), (1, []), (2, []), (4, []), (5, []), (7, []), (3, []), (6, [3]), (8, []), (9, [])])) (.reg [] [(0, []), (1, []), (2, [])])))))) (.seq (.reg [] [(0, []), (1, []), (2, []), (3, []), (4, [])]) .leaf))))))))))
def D51 (a0 a1 a2 a3 : Value) (K : Value → Hp → Prop) (h : Hp) : Prop :=
  CallH Tryz.prog 92 #[a0, a1] (fun v17 h1 =>
  vP (binV .lss v17 (Value.int .i64 0)) fun v19 =>
  vB v19 (K (Value.tuple #[(Value.int .i64 0), (Value.int .i64 4)]) h1)
  (vP (nilV a0) fun v21 =>
  vP (faV 2 v21) fun v22 =>
  vP (ld1 v22 h1) fun v23 =>
  vP (iaS 1 v23 v17) fun v25 =>
  vP (ld1 v25 h1) fun v26 =>
  vP (binV .lss a2 (Value.int .i64 1)) fun v28 =>
  vP (gdW (gB v28 false) (some a2)) fun v30 =>
  vP (gdW (gB v28 false) (some v26)) fun v31 =>
  vP (gdW (gB v28 false) (nilV v31)) fun v32 =>
  vP (gdW (gB v28 false) (faV 1 v32)) fun v33 =>
  vP (gdW (gB v28 false) (ld1 v33 h1)) fun v34 =>
  vE (gB v28 false) (CallH Tryz.prog 35 #[v34]) (fun v35 h2 =>
  vP (gdW (gB v28 false) (binV .gtr v30 v35)) fun v36 =>
  vP (pickV v28 (Value.bool true) v36) fun v37 =>
  vB v37 (K (Value.tuple #[(Value.int .i64 0), (Value.int .i64 1)]) h2)
  (CallH Tryz.prog 95 #[v26, a3] (fun v41 h3 =>
  vP (exV v41 0) fun v42 =>
  vP (exV v41 1) fun v43 =>
  vP (unV .not v43) fun v45 =>
  vB v45 (K (Value.tuple #[(Value.int .i64 0), (Value.int .i64 3)]) h3)
  (vP (nilV a0) fun v47 =>
  vP (faV 3 v47) fun v48 =>
  vP (ld1 v48 h3) fun v49 =>
  vP (iaS 1 v49 v17) fun v51 =>
  vP (ld1 v51 h3) fun v52 =>
  vP (iaS 1 v52 v42) fun v55 =>
  st1 v55 a2 (fun _ h4 =>
  ∃ I1 : Nat → List Value → Hp → Prop, (∃ n, I1 n [(Value.int .i64 0)] h4) ∧
  ∀ n1 : Nat, ∀ v14 : Value, ∀ h5 : Hp, I1 n1 [v14] h5 → ∀ g1 : St,
    vP (binV .lss v14 a2) fun v58 =>
    vB v58 (vP (nilV a0) fun v62 =>
      vP (faV 4 v62) fun v63 =>
      vP (ld1 v63 h5) fun v64 =>
      CallH Tryz.prog 63 #[v26, v42] (fun v67 h6 =>
      (ld1 v63 h6) = some v64 ∧ (vP (binV .add v67 v14) fun v69 =>
      muW Tryz.prog 52 v64 v69 (Value.int .i64 0) (fun _ h7 =>
      vP (binV .add v14 (Value.int .i64 1)) fun v60 =>
      ∃ m1, m1 < n1 ∧ I1 m1 [v60] h7) h6)) h5)
    (CallH Tryz.prog 63 #[v26, v42] (fun v72 h8 =>
    K (Value.tuple #[v72, (Value.int .i64 0)]) h8) h5)) h3)) h2)) h1)) h
theorem D51_eq (a0 a1 a2 a3 : Value) (K : Value → Hp → Prop) (h : Hp) : fnVC Tryz.prog Tryz.f51 x51 [a0, a1, a2, a3] K h = D51 a0 a1 a2 a3 K h := by kernel_rfl
theorem D51_ok : fnOk Tryz.prog Tryz.f51 x51 4 = true := by kernel_rfl
theorem C51 {a0 a1 a2 a3 : Value} {K : Value → Hp → Prop} {h : Hp} (hh : D51 a0 a1 a2 a3 K h) : CallH Tryz.prog 51 #[a0, a1, a2, a3] K h :=
  callH_of mixed Tryz.func51 x51 [a0, a1, a2, a3] D51_ok (D51_eq a0 a1 a2 a3 K h ▸ hh)
def x59 : Ann := (.seq (.reg [] [(0, [])]) (.seq (.reg [] [(0, []), (1, []), (2, []), (3, [])]) (.seq (.reg [] [(0, []), (1, []), (2, []), (3, []), (4, []), (5, []), (6, []), (7, []), (8, []), (9, []), (10, []), (11, []), (12, [])]) .leaf)))
def D59 (a0 a1 : Value) (K : Value → Hp → Prop) (h : Hp) : Prop :=
  CallH Tryz.prog 92 #[a0, a1] (fun v8 h1 =>
  vP (binV .lss v8 (Value.int .i64 0)) fun v10 =>
  vP (gdW (gB v10 false) (some a0)) fun v12 =>
  vP (gdW (gB v10 false) (nilV v12)) fun v13 =>
  vP (gdW (gB v10 false) (faV 2 v13)) fun v14 =>
  vP (gdW (gB v10 false) (ld1 v14 h1)) fun v15 =>
  vP (gdW (gB v10 false) (some v8)) fun v16 =>
  vP (gdW (gB v10 false) (iaS 1 v15 v16)) fun v17 =>
  vP (gdW (gB v10 false) (ld1 v17 h1)) fun v18 =>
  vE (gB v10 false) (CallH Tryz.prog 99 #[v18]) (fun v19 h2 =>
  vP (pickV v10 (Value.bool true) v19) fun v20 =>
  K v20 h2) h1) h
theorem D59_eq (a0 a1 : Value) (K : Value → Hp → Prop) (h : Hp) : fnVC Tryz.prog Tryz.f59 x59 [a0, a1] K h = D59 a0 a1 K h := by kernel_rfl
theorem D59_ok : fnOk Tryz.prog Tryz.f59 x59 2 = true := by kernel_rfl
theorem C59 {a0 a1 : Value} {K : Value → Hp → Prop} {h : Hp} (hh : D59 a0 a1 K h) : CallH Tryz.prog 59 #[a0, a1] K h :=
  callH_of mixed Tryz.func59 x59 [a0, a1] D59_ok (D59_eq a0 a1 K h ▸ hh)
def x60 : Ann := (.seq (.reg [] [(0, [])]) (.seq (.seq (.reg [] [(0, []), (1, []), (2, []), (3, [])]) (.seq (.reg [] [(0, []), (1, [])]) (.cond (.seq (.reg [] [(0, []), (1, []), (2, []), (3, []), (4, []), (5, []), (6, []), (7, []), (8, []), (9, []), (10, [])]) .leaf) .leaf))) (.seq (.reg [] [(0, [])]) .leaf)))
def D60 (a0 a1 : Value) (K : Value → Hp → Prop) (h : Hp) : Prop :=
  CallH Tryz.prog 92 #[a0, a1] (fun v8 h1 =>
  vP (binV .geq v8 (Value.int .i64 0)) fun v10 =>
  vB v10 (vP (nilV a0) fun v12 =>
    vP (faV 2 v12) fun v13 =>
    vP (ld1 v13 h1) fun v14 =>
    vP (iaS 1 v14 v8) fun v16 =>
    vP (ld1 v16 h1) fun v17 =>
    vP (nilV v17) fun v18 =>
    vP (faV 1 v18) fun v19 =>
    vP (ld1 v19 h1) fun v20 =>
    K v20 h1)
  (K (Value.int .i64 (-1)) h1)) h
theorem D60_eq (a0 a1 : Value) (K : Value → Hp → Prop) (h : Hp) : fnVC Tryz.prog Tryz.f60 x60 [a0, a1] K h = D60 a0 a1 K h := by kernel_rfl
theorem D60_ok : fnOk Tryz.prog Tryz.f60 x60 2 = true := by kernel_rfl
theorem C60 {a0 a1 : Value} {K : Value → Hp → Prop} {h : Hp} (hh : D60 a0 a1 K h) : CallH Tryz.prog 60 #[a0, a1] K h :=
  callH_of mixed Tryz.func60 x60 [a0, a1] D60_ok (D60_eq a0 a1 K h ▸ hh)
def x56 : Ann := (.seq (.reg [] [(0, []), (1, [])]) (.seq (.reg [] [(0, []), (1, []), (2, []), (3, []), (4, []), (5, []), (6, []), (7, []), (8, []), (9, [])]) (.seq (.seq (.reg [] [(0, []), (1, [])]) (.cond (.seq (.reg [] [(0, []), (1, []), (2, [])]) .leaf) .leaf)) (.seq (.reg [] [(0, []), (1, []), (2, []), (3, []), (4, []), (5, []), (6, []), (7, []), (8, []), (9, []), (10, [])]) .leaf))))
def D56 (a0 a1 : Value) (K : Value → Hp → Prop) (h : Hp) : Prop :=
  vA (some (Obj.cells #[(Value.int .i64 0), (Value.int .i64 0)] 38 (0, 0), ptrV)) (fun v4 h1 =>
  CallH Tryz.prog 96 #[a0, a1] (fun v12 h2 =>
  vP (exV v12 0) fun v13 =>
  vP (exV v12 1) fun v14 =>
  vP (exV v12 2) fun v15 =>
  vP (unV .not v15) fun v17 =>
  vB v17 (vP ((bldV #[(Value.int .i64 0), (Value.int .i64 0)] []).map Value.agg) fun v18 =>
    stN 2 v4 v18 (fun _ h3 =>
    vP (ldN 2 v4 h3) fun r0 => K (Value.tuple #[r0, (Value.bool false)]) h3) h2)
  (vP (nilV a0) fun v20 =>
  vP (faV 1 v20) fun v21 =>
  vP (ld1 v21 h2) fun v22 =>
  vP (iaS 1 v22 v13) fun v24 =>
  vP (ld1 v24 h2) fun v25 =>
  vP ((bldV #[(Value.int .i64 0), (Value.int .i64 0)] [(0, 1, v25), (1, 1, v14)]).map Value.agg) fun v27 =>
  stN 2 v4 v27 (fun _ h4 =>
  vP (ldN 2 v4 h4) fun r0 => K (Value.tuple #[r0, (Value.bool true)]) h4) h2)) h1) h
theorem D56_eq (a0 a1 : Value) (K : Value → Hp → Prop) (h : Hp) : fnVC Tryz.prog Tryz.f56 x56 [a0, a1] K h = D56 a0 a1 K h := by kernel_rfl
theorem D56_ok : fnOk Tryz.prog Tryz.f56 x56 2 = true := by kernel_rfl
theorem C56 {a0 a1 : Value} {K : Value → Hp → Prop} {h : Hp} (hh : D56 a0 a1 K h) : CallH Tryz.prog 56 #[a0, a1] K h :=
  callH_of mixed Tryz.func56 x56 [a0, a1] D56_ok (D56_eq a0 a1 K h ▸ hh)
def x57 : Ann := (.seq (.reg [] [(0, [])]) (.seq (.reg [] [(0, []), (1, []), (2, []), (3, []), (4, []), (5, []), (6, []), (7, []), (8, []), (9, [])]) (.seq (.seq (.reg [] [(0, []), (1, [])]) (.cond (.seq (.reg [] [(0, [])]) .leaf) .leaf)) (.seq (.reg [] [(0, []), (1, []), (2, []), (3, []), (4, []), (5, []), (6, []), (7, []), (8, []), (9, []), (10, [])]) .leaf))))
def D57 (a0 a1 : Value) (K : Value → Hp → Prop) (h : Hp) : Prop :=
  CallH Tryz.prog 96 #[a0, a1] (fun v11 h1 =>
  vP (exV v11 0) fun v12 =>
  vP (exV v11 1) fun v13 =>
  vP (exV v11 2) fun v14 =>
  vP (unV .not v14) fun v16 =>
  vB v16 (K (Value.int .i64 0) h1)
  (vP (nilV a0) fun v18 =>
  vP (faV 3 v18) fun v19 =>
  vP (ld1 v19 h1) fun v20 =>
  vP (iaS 1 v20 v12) fun v22 =>
  vP (ld1 v22 h1) fun v23 =>
  vP (iaS 1 v23 v13) fun v25 =>
  vP (ld1 v25 h1) fun v26 =>
  K v26 h1)) h
theorem D57_eq (a0 a1 : Value) (K : Value → Hp → Prop) (h : Hp) : fnVC Tryz.prog Tryz.f57 x57 [a0, a1] K h = D57 a0 a1 K h := by kernel_rfl
theorem D57_ok : fnOk Tryz.prog Tryz.f57 x57 2 = true := by kernel_rfl
theorem C57 {a0 a1 : Value} {K : Value → Hp → Prop} {h : Hp} (hh : D57 a0 a1 K h) : CallH Tryz.prog 57 #[a0, a1] K h :=
  callH_of mixed Tryz.func57 x57 [a0, a1] D57_ok (D57_eq a0 a1 K h ▸ hh)
def x55 : Ann := (.seq (.reg [] [(0, []), (1, [])]) (.seq (.reg [] [(0, []), (1, []), (2, []), (3, [])]) (.seq (.seq (.reg [] [(0, []), (1, [])]) (.cond (.seq (.reg [] [(0, []), (1, [])]) .leaf) .leaf)) (.seq (.seq (.reg [] [(0, []), (1, []), (2, []), (3, []), (4, []), (5, []), (6, [])]) (.cond (.seq (.reg [] [(0, []), (1, [])]) .leaf) .leaf)) (.seq (.reg [] [(0, []), (1, []), (2, []), (3, []), (4, []), (5, []), (6, []), (7, []), (8, []), (9, [])]) .leaf)))))
def D55 (a0 a1 a2 : Value) (K : Value → Hp → Prop) (h : Hp) : Prop :=
  CallH Tryz.prog 57 #[a0, a1] (fun v11 h1 =>
  vP (eqV 1 false v11 (Value.int .i64 0)) fun v13 =>
  vB v13 (K (Value.tuple #[(Value.int .i64 0), (Value.int .i64 4)]) h1)
  (vP (binV .lss a2 (Value.int .i64 0)) fun v15 =>
  vP (gdW (gB v15 false) (some a2)) fun v17 =>
  vP (gdW (gB v15 false) (some v11)) fun v18 =>
  vP (gdW (gB v15 false) (binV .geq v17 v18)) fun v19 =>
  vP (pickV v15 (Value.bool true) v19) fun v20 =>
  vB v20 (K (Value.tuple #[(Value.int .i64 0), (Value.int .i64 2)]) h1)
  (vP (nilV a0) fun v22 =>
  vP (faV 4 v22) fun v23 =>
  vP (ld1 v23 h1) fun v24 =>
  vP (binV .add a1 a2) fun v27 =>
  vP (lkV Tryz.prog 52 v24 v27 false h1) fun v28 =>
  K (Value.tuple #[v28, (Value.int .i64 0)]) h1))) h
theorem D55_eq (a0 a1 a2 : Value) (K : Value → Hp → Prop) (h : Hp) : fnVC Tryz.prog Tryz.f55 x55 [a0, a1, a2] K h = D55 a0 a1 a2 K h := by kernel_rfl
theorem D55_ok : fnOk Tryz.prog Tryz.f55 x55 3 = true := by kernel_rfl
theorem C55 {a0 a1 a2 : Value} {K : Value → Hp → Prop} {h : Hp} (hh : D55 a0 a1 a2 K h) : CallH Tryz.prog 55 #[a0, a1, a2] K h :=
  callH_of mixed Tryz.func55 x55 [a0, a1, a2] D55_ok (D55_eq a0 a1 a2 K h ▸ hh)
def x52 : Ann := (.seq (.reg [] [(0, [])]) (.seq (.reg [] [(0, []), (1, []), (2, []), (3, []), (4, []), (5, []), (6, []), (7, []), (8, [])]) (.join [] [18, 19, 20, 21, 22, 23, 24, 25, 26, 27] (.seq (.reg [] [(0, []), (1, [])]) (.cond (.reg [] [(0, []), (1, []), (2, []), (3, []), (4, []), (5, []), (6, []), (7, []), (8, [])]) .leaf)) (.seq (.reg [] [(0, []), (1, [])]) .leaf))))
def D52 (a0 a1 a2 a3 : Value) (K : Value → Hp → Prop) (h : Hp) : Prop :=
  CallH Tryz.prog 55 #[a0, a1, a2] (fun v15 h1 =>
  vP (exV v15 0) fun v16 =>
  vP (exV v15 1) fun v17 =>
  ∀ J1 : List Value → Hp → Prop, (∀ h2 : Hp, (∀ g1 : St,
    K v17 h2) → J1 [] h2) →
  vP (eqV 1 false v17 (Value.int .i64 0)) fun v19 =>
  vB v19 (vP (nilV a0) fun v21 =>
    vP (faV 4 v21) fun v22 =>
    vP (ld1 v22 h1) fun v23 =>
    vP (binV .add a1 a2) fun v26 =>
    muW Tryz.prog 52 v23 v26 a3 (fun _ h3 =>
    J1 [] h3) h1)
  (J1 [] h1)) h
theorem D52_eq (a0 a1 a2 a3 : Value) (K : Value → Hp → Prop) (h : Hp) : fnVC Tryz.prog Tryz.f52 x52 [a0, a1, a2, a3] K h = D52 a0 a1 a2 a3 K h := by kernel_rfl
theorem D52_ok : fnOk Tryz.prog Tryz.f52 x52 4 = true := by kernel_rfl
theorem C52 {a0 a1 a2 a3 : Value} {K : Value → Hp → Prop} {h : Hp} (hh : D52 a0 a1 a2 a3 K h) : CallH Tryz.prog 52 #[a0, a1, a2, a3] K h :=
  callH_of mixed Tryz.func52 x52 [a0, a1, a2, a3] D52_ok (D52_eq a0 a1 a2 a3 K h ▸ hh)
def x53 : Ann := (.seq (.reg [] [(0, [])]) (.seq (.reg [] [(0, []), (1, []), (2, []), (3, []), (4, []), (5, []), (6, []), (7, []), (8, []), (9, [])]) (.seq (.reg [] [(0, []), (1, []), (2, []), (3, []), (4, []), (5, []), (6, []), (7, []), (8, []), (9, []), (10, []), (11, []), (12, [])]) .leaf)))
def D53 (a0 a1 : Value) (K : Value → Hp → Prop) (h : Hp) : Prop :=
  CallH Tryz.prog 96 #[a0, a1] (fun v11 h1 =>
  vP (exV v11 0) fun v12 =>
  vP (exV v11 1) fun v13 =>
  vP (exV v11 2) fun v14 =>
  vP (gdW (gB v14 true) (some a0)) fun v17 =>
  vP (gdW (gB v14 true) (nilV v17)) fun v18 =>
  vP (gdW (gB v14 true) (faV 2 v18)) fun v19 =>
  vP (gdW (gB v14 true) (ld1 v19 h1)) fun v20 =>
  vP (gdW (gB v14 true) (some v12)) fun v21 =>
  vP (gdW (gB v14 true) (iaS 1 v20 v21)) fun v22 =>
  vP (gdW (gB v14 true) (ld1 v22 h1)) fun v23 =>
  vP (gdW (gB v14 true) (some v13)) fun v24 =>
  vE (gB v14 true) (CallH Tryz.prog 97 #[v23, v24]) (fun v25 h2 =>
  vP (pickV v14 v25 (Value.bool false)) fun v26 =>
  K v26 h2) h1) h
theorem D53_eq (a0 a1 : Value) (K : Value → Hp → Prop) (h : Hp) : fnVC Tryz.prog Tryz.f53 x53 [a0, a1] K h = D53 a0 a1 K h := by kernel_rfl
theorem D53_ok : fnOk Tryz.prog Tryz.f53 x53 2 = true := by kernel_rfl
theorem C53 {a0 a1 : Value} {K : Value → Hp → Prop} {h : Hp} (hh : D53 a0 a1 K h) : CallH Tryz.prog 53 #[a0, a1] K h :=
  callH_of mixed Tryz.func53 x53 [a0, a1] D53_ok (D53_eq a0 a1 K h ▸ hh)
def x58 : Ann := (.seq (.reg [] [(0, [])]) (.seq (.reg [] [(0, []), (1, []), (2, []), (3, []), (4, []), (5, []), (6, []), (7, []), (8, []), (9, [])]) (.seq (.reg [] [(0, []), (1, []), (2, []), (3, []), (4, []), (5, []), (6, []), (7, []), (8, []), (9, []), (10, []), (11, []), (12, []), (13, []), (14, []), (15, []), (16, [])]) .leaf)))
def D58 (a0 a1 : Value) (K : Value → Hp → Prop) (h : Hp) : Prop :=
  CallH Tryz.prog 96 #[a0, a1] (fun v11 h1 =>
  vP (exV v11 0) fun v12 =>
  vP (exV v11 1) fun v13 =>
  vP (exV v11 2) fun v14 =>
  vP (gdW (gB v14 true) (some a0)) fun v17 =>
  vP (gdW (gB v14 true) (nilV v17)) fun v18 =>
  vP (gdW (gB v14 true) (faV 2 v18)) fun v19 =>
  vP (gdW (gB v14 true) (ld1 v19 h1)) fun v20 =>
  vP (gdW (gB v14 true) (some v12)) fun v21 =>
  vP (gdW (gB v14 true) (iaS 1 v20 v21)) fun v22 =>
  vP (gdW (gB v14 true) (ld1 v22 h1)) fun v23 =>
  vP (gdW (gB v14 true) (nilV v23)) fun v24 =>
  vP (gdW (gB v14 true) (faV 3 v24)) fun v25 =>
  vP (gdW (gB v14 true) (ld1 v25 h1)) fun v26 =>
  vP (gdW (gB v14 true) (some v13)) fun v27 =>
  vP (gdW (gB v14 true) (iaS 1 v26 v27)) fun v28 =>
  vP (gdW (gB v14 true) (ld1 v28 h1)) fun v29 =>
  vP (pickV v14 v29 (Value.bool false)) fun v30 =>
  K v30 h1) h
theorem D58_eq (a0 a1 : Value) (K : Value → Hp → Prop) (h : Hp) : fnVC Tryz.prog Tryz.f58 x58 [a0, a1] K h = D58 a0 a1 K h := by kernel_rfl
theorem D58_ok : fnOk Tryz.prog Tryz.f58 x58 2 = true := by kernel_rfl
theorem C58 {a0 a1 : Value} {K : Value → Hp → Prop} {h : Hp} (hh : D58 a0 a1 K h) : CallH Tryz.prog 58 #[a0, a1] K h :=
  callH_of mixed Tryz.func58 x58 [a0, a1] D58_ok (D58_eq a0 a1 K h ▸ hh)
def x54 : Ann := (.seq (.reg [] [(0, []), (1, [])]) (.seq (.reg [] [(0, []), (1, []), (2, []), (3, [])]) (.seq (.seq (.reg [] [(0, []), (1, [])]) (.cond (.seq (.reg [] [(0, []), (1, [])]) .leaf) .leaf)) (.seq (.reg [] [(0, []), (1, []), (2, []), (3, []), (4, []), (5, []), (6, []), (7, []), (8, [])]) (.seq (.reg [] [(0, [])]) (.seq (.seq (.reg [] [(0, [])]) (.blk (.loop [9, 8] [23, 24, 25, 26, 29, 30, 31, 32, 33, 34, 35, 36, 37, 38, 39, 40, 41, 42, 43, 8, 27, 28, 9] (.seq (.seq (.reg [] [(0, []), (1, []), (2, []), (3, [])]) (.cond .leaf .leaf)) (.seq (.blk (.reg [0, 0, 2, 6, 14, 0, 62, 126, 0, 0, 768, 1792, 4094, 8190, 16383, 32767] [(0, []), (1, []), (2, []), (3, []), (5, []), (8, []), (9, []), (10, []), (4, []), (6, []), (7, []), (11, []), (12, []), (13, []), (14, []), (15, [])])) (.reg [] [(0, []), (1, []), (2, [])])))))) (.seq (.reg [] [(0, []), (1, []), (2, [])]) .leaf)))))))
def D54 (a0 a1 : Value) (K : Value → Hp → Prop) (h : Hp) : Prop :=
  CallH Tryz.prog 92 #[a0, a1] (fun v12 h1 =>
  vP (binV .lss v12 (Value.int .i64 0)) fun v14 =>
  vB v14 (K (Value.tuple #[(Value.slice none 0 0), (Value.int .i64 4)]) h1)
  (vP (nilV a0) fun v16 =>
  vP (faV 2 v16) fun v17 =>
  vP (ld1 v17 h1) fun v18 =>
  vP (iaS 1 v18 v12) fun v20 =>
  vP (ld1 v20 h1) fun v21 =>
  CallH Tryz.prog 98 #[v21] (fun v22 h2 =>
  ∃ I1 : Nat → List Value → Hp → Prop, (∃ n, I1 n [(Value.int .i64 0), (Value.slice none 0 0)] h2) ∧
  ∀ n1 : Nat, ∀ v9 v8 : Value, ∀ h3 : Hp, I1 n1 [v9, v8] h3 → ∀ g1 : St,
    vP (lenV v22) fun v25 =>
    vP (binV .lss v9 v25) fun v26 =>
    vB v26 (vP (nilV a0) fun v31 =>
      vP (faV 2 v31) fun v32 =>
      vP (iaS 1 v22 v9) fun v39 =>
      vP (ld1 v32 h3) fun v33 =>
      vP (iaS 1 v33 v12) fun v35 =>
      vP (ld1 v35 h3) fun v36 =>
      vP (ld1 v39 h3) fun v40 =>
      CallH Tryz.prog 63 #[v36, v40] (fun v41 h4 =>
      vA ((bldV #[(Value.int .i64 0)] [(0, 1, v41)]).map fun c => (Obj.cells c 3 (0, 0), fun r => Value.slice (some ⟨r, 0, none⟩) 1 1)) (fun v42 h5 =>
      apW Tryz.prog #[22, 22] 22 v8 v42 (fun v43 h6 =>
      vP (binV .add v9 (Value.int .i64 1)) fun v28 =>
      ∃ m1, m1 < n1 ∧ I1 m1 [v28, v43] h6) h5) h4) h3)
    (K (Value.tuple #[v8, (Value.int .i64 0)]) h3)) h1)) h
theorem D54_eq (a0 a1 : Value) (K : Value → Hp → Prop) (h : Hp) : fnVC Tryz.prog Tryz.f54 x54 [a0, a1] K h = D54 a0 a1 K h := by kernel_rfl
theorem D54_ok : fnOk Tryz.prog Tryz.f54 x54 2 = true := by kernel_rfl
theorem C54 {a0 a1 : Value} {K : Value → Hp → Prop} {h : Hp} (hh : D54 a0 a1 K h) : CallH Tryz.prog 54 #[a0, a1] K h :=
  callH_of mixed Tryz.func54 x54 [a0, a1] D54_ok (D54_eq a0 a1 K h ▸ hh)
def x23 : Ann := (.seq (.reg [] [(0, [])]) (.seq (.reg [] [(0, [])]) (.seq (.seq (.reg [] [(0, [])]) (.blk (.loop [4, 3] [6, 7, 8, 9, 10, 11, 12, 5, 15, 16, 17, 18, 19, 20, 21, 22, 23, 24, 25, 26, 27, 30, 31, 32, 33, 34, 35, 36, 37, 38, 39, 40, 41, 42, 43, 44, 45, 46, 47, 48, 49, 50, 51, 52, 53, 3, 28, 29, 13, 14, 4] (.seq (.seq (.reg [] [(0, []), (1, []), (2, []), (3, []), (4, []), (5, []), (6, [])]) (.cond .leaf .leaf)) (.seq (.blk (.seq (.reg [] [(0, [])]) (.blk (.loop [5, 3] [15, 16, 17, 18, 19, 20, 21, 22, 23, 24, 25, 26, 27, 30, 31, 32, 33, 34, 35, 36, 37, 38, 39, 40, 41, 42, 43, 44, 45, 46, 47, 48, 49, 50, 51, 52, 53, 3, 28, 29, 5] (.seq (.seq (.reg [] [(0, []), (1, []), (2, []), (3, []), (4, []), (5, []), (6, []), (7, []), (8, []), (9, []), (10, []), (11, []), (12, [])]) (.cond .leaf .leaf)) (.join [3] [30, 31, 32, 33, 34, 35, 36, 37, 38, 39, 40, 41, 42, 43, 44, 45, 46, 47, 48, 49, 50, 51, 52, 53, 3] (.blk (.seq (.reg [] [(0, []), (1, []), (2, []), (3, []), (4, []), (5, []), (6, []), (7, []), (8, []), (9, []), (10, []), (11, []), (12, [])]) (.cond (.reg [] [(0, []), (1, []), (2, []), (3, []), (4, []), (5, []), (6, []), (7, []), (8, []), (9, []), (10, []), (11, [])]) .leaf))) (.reg [] [(0, []), (1, []), (2, [])]))))))) (.reg [] [(0, []), (1, []), (2, [])])))))) (.seq (.reg [] [(0, []), (1, [])]) .leaf))))
def D23 (a0 : Value) (K : Value → Hp → Prop) (h : Hp) : Prop :=
  ∃ I1 : Nat → List Value → Hp → Prop, (∃ n, I1 n [(Value.int .i64 0), (Value.slice none 0 0)] h) ∧
  ∀ n1 : Nat, ∀ v4 v3 : Value, ∀ h1 : Hp, I1 n1 [v4, v3] h1 → ∀ g1 : St,
    vP (nilV a0) fun v8 =>
    vP (faV 2 v8) fun v9 =>
    vP (ld1 v9 h1) fun v10 =>
    vP (lenV v10) fun v11 =>
    vP (binV .lss v4 v11) fun v12 =>
    vB v12 (∃ I2 : Nat → List Value → Hp → Prop, (∃ n, I2 n [(Value.int .i64 0), v3] h1) ∧
      ∀ n2 : Nat, ∀ v5 v3_1 : Value, ∀ h2 : Hp, I2 n2 [v5, v3_1] h2 → ∀ g2 : St,
        vP (nilV a0) fun v17 =>
        vP (faV 2 v17) fun v18 =>
        vP (ld1 v18 h2) fun v19 =>
        vP (iaS 1 v19 v4) fun v21 =>
        vP (ld1 v21 h2) fun v22 =>
        vP (nilV v22) fun v23 =>
        vP (faV 2 v23) fun v24 =>
        vP (ld1 v24 h2) fun v25 =>
        vP (lenV v25) fun v26 =>
        vP (binV .lss v5 v26) fun v27 =>
        vB v27 (∀ J3 : List Value → Hp → Prop, (∀ v3_2 : Value, ∀ h3 : Hp, (∀ g3 : St,
            vP (binV .add v5 (Value.int .i64 1)) fun v29 =>
            ∃ m2, m2 < n2 ∧ I2 m2 [v29, v3_2] h3) → J3 [v3_2] h3) →
          vP (nilV a0) fun v31 =>
          vP (faV 2 v31) fun v32 =>
          vP (ld1 v32 h2) fun v33 =>
          vP (iaS 1 v33 v4) fun v35 =>
          vP (ld1 v35 h2) fun v36 =>
          vP (nilV v36) fun v37 =>
          vP (faV 2 v37) fun v38 =>
          vP (ld1 v38 h2) fun v39 =>
          vP (iaS 1 v39 v5) fun v41 =>
          vP (ld1 v41 h2) fun v42 =>
          vB v42 (vP (nilV a0) fun v45 =>
            vP (faV 2 v45) fun v46 =>
            vP (ld1 v46 h2) fun v47 =>
            vP (iaS 1 v47 v4) fun v49 =>
            vP (ld1 v49 h2) fun v50 =>
            CallH Tryz.prog 63 #[v50, v5] (fun v52 h4 =>
            CallH Tryz.prog 62 #[v3_1, v52] (fun v53 h5 =>
            J3 [v53] h5) h4) h2)
          (J3 [v3_1] h2))
        (vP (binV .add v4 (Value.int .i64 1)) fun v14 =>
        ∃ m1, m1 < n1 ∧ I1 m1 [v14, v3_1] h2))
    (K v3 h1)
theorem D23_eq (a0 : Value) (K : Value → Hp → Prop) (h : Hp) : fnVC Tryz.prog Tryz.f23 x23 [a0] K h = D23 a0 K h := by kernel_rfl
theorem D23_ok : fnOk Tryz.prog Tryz.f23 x23 1 = true := by kernel_rfl
theorem C23 {a0 : Value} {K : Value → Hp → Prop} {h : Hp} (hh : D23 a0 K h) : CallH Tryz.prog 23 #[a0] K h :=
  callH_of mixed Tryz.func23 x23 [a0] D23_ok (D23_eq a0 K h ▸ hh)
def x24 : Ann := (.seq (.reg [] [(0, [])]) (.seq (.reg [] [(0, [])]) (.seq (.seq (.reg [] [(0, [])]) (.blk (.loop [4, 3] [5, 6, 7, 8, 9, 10, 11, 14, 15, 16, 17, 18, 19, 20, 21, 22, 23, 24, 25, 26, 27, 28, 29, 30, 31, 32, 33, 34, 35, 3, 12, 13, 4] (.seq (.seq (.reg [] [(0, []), (1, []), (2, []), (3, []), (4, []), (5, []), (6, [])]) (.cond .leaf .leaf)) (.seq (.blk (.reg [0, 0, 2, 6, 14, 0, 62, 126, 254, 0, 512, 1536, 3584, 0, 15872, 32256, 65024, 130560, 261632, 524286, 1048574, 2097151, 4194303] [(0, []), (1, []), (2, []), (3, []), (5, []), (9, []), (10, []), (11, []), (13, []), (4, []), (6, []), (7, []), (12, []), (14, []), (15, []), (16, []), (17, []), (18, []), (8, [18, 15, 12]), (19, []), (20, []), (21, []), (22, [])])) (.reg [] [(0, []), (1, []), (2, [])])))))) (.seq (.reg [] [(0, []), (1, [])]) .leaf))))
def D24 (a0 : Value) (K : Value → Hp → Prop) (h : Hp) : Prop :=
  ∃ I1 : Nat → List Value → Hp → Prop, (∃ n, I1 n [(Value.int .i64 0), (Value.int .i64 0)] h) ∧
  ∀ n1 : Nat, ∀ v4 v3 : Value, ∀ h1 : Hp, I1 n1 [v4, v3] h1 → ∀ g1 : St,
    vP (nilV a0) fun v7 =>
    vP (faV 2 v7) fun v8 =>
    vP (ld1 v8 h1) fun v9 =>
    vP (lenV v9) fun v10 =>
    vP (binV .lss v4 v10) fun v11 =>
    vB v11 (vP (nilV a0) fun v16 =>
      vP (faV 2 v16) fun v17 =>
      vP (nilV a0) fun v24 =>
      vP (faV 2 v24) fun v25 =>
      vP (ld1 v17 h1) fun v18 =>
      vP (iaS 1 v18 v4) fun v20 =>
      vP (ld1 v20 h1) fun v21 =>
      vP (ld1 v25 h1) fun v26 =>
      vP (iaS 1 v26 v4) fun v28 =>
      vP (ld1 v28 h1) fun v29 =>
      vP (nilV v29) fun v30 =>
      vP (faV 1 v30) fun v31 =>
      vP (ld1 v31 h1) fun v32 =>
      CallH Tryz.prog 64 #[v21] (fun v22 h2 =>
      (ld1 v31 h2) = some v32 ∧ ((ld1 v28 h2) = some v29 ∧ ((ld1 v25 h2) = some v26 ∧ (CallH Tryz.prog 35 #[v32] (fun v33 h3 =>
      vP (binV .mul v22 v33) fun v34 =>
      vP (binV .add v3 v34) fun v35 =>
      vP (binV .add v4 (Value.int .i64 1)) fun v13 =>
      ∃ m1, m1 < n1 ∧ I1 m1 [v13, v35] h3) h2)))) h1)
    (K v3 h1)
theorem D24_eq (a0 : Value) (K : Value → Hp → Prop) (h : Hp) : fnVC Tryz.prog Tryz.f24 x24 [a0] K h = D24 a0 K h := by kernel_rfl
theorem D24_ok : fnOk Tryz.prog Tryz.f24 x24 1 = true := by kernel_rfl
theorem C24 {a0 : Value} {K : Value → Hp → Prop} {h : Hp} (hh : D24 a0 K h) : CallH Tryz.prog 24 #[a0] K h :=
  callH_of mixed Tryz.func24 x24 [a0] D24_ok (D24_eq a0 K h ▸ hh)
end Go.Proofs
