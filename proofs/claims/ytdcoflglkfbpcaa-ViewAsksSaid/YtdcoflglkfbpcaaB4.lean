/-
  The conditions of some functions, as the printer wrote them out of the dump; the kernel checks that each is the function's own.
-/
import Derived.Test.YtdcoflglkfbpcaaB3
import Derived.Test.YtdcoflglkfbpcaaProg
set_option linter.unusedVariables false
set_option linter.unusedSimpArgs false
set_option maxRecDepth 100000
namespace Go.Proofs
open Go.Sl
/- 39: treadmill/view.Same; slots: 0 a, 1 b, 2 a, 3 b, 5 object, 6 gor, 7 one, 8 two -/
def x39 : Ann := (.seq (.reg [] [(0, []), (1, []), (2, [])]) (.seq (.reg [] [(0, [])]) (.seq (.reg [] [(0, [])]) (.seq (.reg [0, 1, 0, 4, 0, 16, 0, 64, 0, 256, 0, 1024, 4095, 0, 8192, 0, 32768, 0, 131072, 0, 524288, 0, 2097152, 0, 8388608, 33546240, 0, 0, 201334783, 536870911] [(0, []), (2, []), (4, []), (6, []), (8, []), (10, []), (13, []), (15, []), (17, []), (19, []), (21, []), (23, []), (1, []), (3, []), (5, []), (7, []), (9, []), (11, []), (12, []), (14, []), (16, []), (18, []), (20, []), (22, []), (24, []), (25, []), (26, []), (27, []), (28, [24, 22, 20, 18, 16, 14]), (29, [])]) (.seq (.reg [] [(0, []), (1, []), (2, []), (3, []), (4, []), (5, []), (6, []), (7, []), (8, []), (9, []), (10, []), (11, []), (12, []), (13, []), (14, []), (15, []), (16, []), (17, []), (18, []), (19, []), (20, []), (21, []), (22, []), (23, []), (24, []), (25, []), (26, [])]) .leaf)))))
def D39 (a0 a1 : Value) (K : Value → Hp → Prop) (h : Hp) : Prop :=
  vA (some (Obj.cells (Value.cells a0) 26 (0, 0), ptrV)) (fun v2 h1 =>
  vA (some (Obj.cells (Value.cells a1) 26 (0, 0), ptrV)) (fun v3 h2 =>
  vP (faV 0 v2) fun v9 =>
  vP (faV 1 v2) fun v11 =>
  vP (faV 2 v2) fun v13 =>
  vP (faV 6 v2) fun v15 =>
  vP (faV 7 v2) fun v17 =>
  vP (faV 8 v2) fun v19 =>
  vP (faV 0 v3) fun v22 =>
  vP (faV 1 v3) fun v24 =>
  vP (faV 2 v3) fun v26 =>
  vP (faV 6 v3) fun v28 =>
  vP (faV 7 v3) fun v30 =>
  vP (faV 8 v3) fun v32 =>
  vP (ld1 v9 h2) fun v10 =>
  vP (ld1 v11 h2) fun v12 =>
  vP (ld1 v13 h2) fun v14 =>
  vP (ld1 v15 h2) fun v16 =>
  vP (ld1 v17 h2) fun v18 =>
  vP (ld1 v19 h2) fun v20 =>
  vP ((bldV #[(Value.int .i64 0), (Value.int .i64 0), (Value.int .i64 0), (Value.int .i64 0), (Value.int .i64 0), (Value.int .i64 0)] [(0, 1, v10), (1, 1, v12), (2, 1, v14), (3, 1, v16), (4, 1, v18), (5, 1, v20)]).map Value.agg) fun v21 =>
  vP (ld1 v22 h2) fun v23 =>
  vP (ld1 v24 h2) fun v25 =>
  vP (ld1 v26 h2) fun v27 =>
  vP (ld1 v28 h2) fun v29 =>
  vP (ld1 v30 h2) fun v31 =>
  vP (ld1 v32 h2) fun v33 =>
  vP ((bldV #[(Value.int .i64 0), (Value.int .i64 0), (Value.int .i64 0), (Value.int .i64 0), (Value.int .i64 0), (Value.int .i64 0)] [(0, 1, v23), (1, 1, v25), (2, 1, v27), (3, 1, v29), (4, 1, v31), (5, 1, v33)]).map Value.agg) fun v34 =>
  vA (some (Obj.cells #[(Value.int .i64 0), (Value.int .i64 0), (Value.int .i64 0), (Value.int .i64 0), (Value.int .i64 0), (Value.int .i64 0)] 74 (0, 0), ptrV)) (fun v7 h3 =>
  vA (some (Obj.cells #[(Value.int .i64 0), (Value.int .i64 0), (Value.int .i64 0), (Value.int .i64 0), (Value.int .i64 0), (Value.int .i64 0)] 74 (0, 0), ptrV)) (fun v8 h4 =>
  stN 6 v7 v21 (fun _ h5 =>
  (ld1 v32 h5) = some v33 ∧ ((ld1 v30 h5) = some v31 ∧ ((ld1 v28 h5) = some v29 ∧ ((ld1 v26 h5) = some v27 ∧ ((ld1 v24 h5) = some v25 ∧ ((ld1 v22 h5) = some v23 ∧ (stN 6 v8 v34 (fun _ h6 =>
  vP (ldN 6 v7 h6) fun v35 =>
  vP (ldN 6 v8 h6) fun v36 =>
  vP (eqA [1, 1, 1, 1, 1, 1] false v35 v36) fun v37 =>
  vP (gdW (gB v37 true) (faV 3 v2)) fun v39 =>
  vP (gdW (gB v37 true) (ld1 v39 h6)) fun v40 =>
  vP (gdW (gB v37 true) (faV 3 v3)) fun v41 =>
  vP (gdW (gB v37 true) (ld1 v41 h6)) fun v42 =>
  vE (gB v37 true) (CallH Try.prog 63 #[v40, v42]) (fun v43 h7 =>
  vP (pickV v37 v43 (Value.bool false)) fun v44 =>
  vP (gdW (gB v44 true) (faV 4 v2)) fun v46 =>
  vP (gdW (gB v44 true) (ld1 v46 h7)) fun v47 =>
  vP (gdW (gB v44 true) (faV 4 v3)) fun v48 =>
  vP (gdW (gB v44 true) (ld1 v48 h7)) fun v49 =>
  vP (gdW (gB v44 true) (some (Value.func (.func 64) #[] #[]))) fun v50 =>
  vE (gB v44 true) (CallH Try.prog 65 #[v47, v49, v50]) (fun v51 h8 =>
  vP (pickV v44 v51 (Value.bool false)) fun v52 =>
  vP (gdW (gB v52 true) (faV 5 v2)) fun v54 =>
  vP (gdW (gB v52 true) (ld1 v54 h8)) fun v55 =>
  vP (gdW (gB v52 true) (faV 5 v3)) fun v56 =>
  vP (gdW (gB v52 true) (ld1 v56 h8)) fun v57 =>
  vP (gdW (gB v52 true) (some (Value.func (.func 62) #[] #[]))) fun v58 =>
  vE (gB v52 true) (CallH Try.prog 66 #[v55, v57, v58]) (fun v59 h9 =>
  vP (pickV v52 v59 (Value.bool false)) fun v60 =>
  K v60 h9) h8) h7) h6) h5))))))) h4) h3) h2) h1) h
theorem D39_eq (a0 a1 : Value) (K : Value → Hp → Prop) (h : Hp) : fnVC Try.prog Try.f39 x39 [a0, a1] K h = D39 a0 a1 K h := by kernel_rfl
theorem D39_ok : fnOk Try.prog Try.f39 x39 2 = true := by kernel_rfl
theorem C39 {a0 a1 : Value} {K : Value → Hp → Prop} {h : Hp} (hh : D39 a0 a1 K h) : CallH Try.prog 39 #[a0, a1] K h :=
  callH_of mixed Try.func39 x39 [a0, a1] D39_ok (D39_eq a0 a1 K h ▸ hh)

/- 62: treadmill/view.Same$1; slots: 0 x, 1 y, 2 x, 3 y -/
def x62 : Ann := (.seq (.reg [] [(0, []), (1, []), (2, [])]) (.seq (.reg [] [(0, []), (1, []), (2, []), (3, []), (4, []), (5, []), (6, []), (7, []), (8, []), (9, []), (10, []), (11, []), (12, []), (13, []), (14, []), (15, []), (16, []), (17, []), (18, []), (19, [])]) .leaf))
def D62 (a0 a1 : Value) (K : Value → Hp → Prop) (h : Hp) : Prop :=
  vA (some (Obj.cells (Value.cells a0) 30 (0, 0), ptrV)) (fun v2 h1 =>
  vA (some (Obj.cells (Value.cells a1) 30 (0, 0), ptrV)) (fun v3 h2 =>
  vP (faV 0 v2) fun v5 =>
  vP (ld1 v5 h2) fun v6 =>
  vP (faV 0 v3) fun v7 =>
  vP (ld1 v7 h2) fun v8 =>
  vP (eqV 1 false v6 v8) fun v9 =>
  vP (gdW (gB v9 true) (faV 2 v2)) fun v11 =>
  vP (gdW (gB v9 true) (ld1 v11 h2)) fun v12 =>
  vP (gdW (gB v9 true) (faV 2 v3)) fun v13 =>
  vP (gdW (gB v9 true) (ld1 v13 h2)) fun v14 =>
  vP (gdW (gB v9 true) (eqV 2 false v12 v14)) fun v15 =>
  vP (pickV v9 v15 (Value.bool false)) fun v16 =>
  vP (gdW (gB v16 true) (faV 1 v2)) fun v18 =>
  vP (gdW (gB v16 true) (ld1 v18 h2)) fun v19 =>
  vP (gdW (gB v16 true) (faV 1 v3)) fun v20 =>
  vP (gdW (gB v16 true) (ld1 v20 h2)) fun v21 =>
  vE (gB v16 true) (CallH Try.prog 63 #[v19, v21]) (fun v22 h3 =>
  vP (pickV v16 v22 (Value.bool false)) fun v23 =>
  K v23 h3) h2) h1) h
theorem D62_eq (a0 a1 : Value) (K : Value → Hp → Prop) (h : Hp) : fnVC Try.prog Try.f62 x62 [a0, a1] K h = D62 a0 a1 K h := by kernel_rfl
theorem D62_ok : fnOk Try.prog Try.f62 x62 2 = true := by kernel_rfl
theorem C62 {a0 a1 : Value} {K : Value → Hp → Prop} {h : Hp} (hh : D62 a0 a1 K h) : CallH Try.prog 62 #[a0, a1] K h :=
  callH_of mixed Try.func62 x62 [a0, a1] D62_ok (D62_eq a0 a1 K h ▸ hh)

/- 64: treadmill/view.Same$2; slots: 0 x, 1 y, 2 x, 3 y -/
def x64 : Ann := (.seq (.reg [] [(0, []), (1, []), (2, [])]) (.seq (.reg [] [(0, []), (1, []), (2, []), (3, []), (4, []), (5, []), (6, []), (7, []), (8, []), (9, []), (10, []), (11, []), (12, []), (13, []), (14, []), (15, []), (16, []), (17, []), (18, []), (19, [])]) .leaf))
def D64 (a0 a1 : Value) (K : Value → Hp → Prop) (h : Hp) : Prop :=
  vA (some (Obj.cells (Value.cells a0) 41 (0, 0), ptrV)) (fun v2 h1 =>
  vA (some (Obj.cells (Value.cells a1) 41 (0, 0), ptrV)) (fun v3 h2 =>
  vP (faV 0 v2) fun v5 =>
  vP (ld1 v5 h2) fun v6 =>
  vP (faV 0 v3) fun v7 =>
  vP (ld1 v7 h2) fun v8 =>
  vP (eqV 1 false v6 v8) fun v9 =>
  vP (gdW (gB v9 true) (faV 1 v2)) fun v11 =>
  vP (gdW (gB v9 true) (ld1 v11 h2)) fun v12 =>
  vP (gdW (gB v9 true) (faV 1 v3)) fun v13 =>
  vP (gdW (gB v9 true) (ld1 v13 h2)) fun v14 =>
  vP (gdW (gB v9 true) (eqV 1 false v12 v14)) fun v15 =>
  vP (pickV v9 v15 (Value.bool false)) fun v16 =>
  vP (gdW (gB v16 true) (faV 2 v2)) fun v18 =>
  vP (gdW (gB v16 true) (ld1 v18 h2)) fun v19 =>
  vP (gdW (gB v16 true) (faV 2 v3)) fun v20 =>
  vP (gdW (gB v16 true) (ld1 v20 h2)) fun v21 =>
  vE (gB v16 true) (CallH Try.prog 63 #[v19, v21]) (fun v22 h3 =>
  vP (pickV v16 v22 (Value.bool false)) fun v23 =>
  K v23 h3) h2) h1) h
theorem D64_eq (a0 a1 : Value) (K : Value → Hp → Prop) (h : Hp) : fnVC Try.prog Try.f64 x64 [a0, a1] K h = D64 a0 a1 K h := by kernel_rfl
theorem D64_ok : fnOk Try.prog Try.f64 x64 2 = true := by kernel_rfl
theorem C64 {a0 a1 : Value} {K : Value → Hp → Prop} {h : Hp} (hh : D64 a0 a1 K h) : CallH Try.prog 64 #[a0, a1] K h :=
  callH_of mixed Try.func64 x64 [a0, a1] D64_ok (D64_eq a0 a1 K h ▸ hh)

/- 63: slices.Equal[[]int,int]; slots: 0 s1, 1 s2, 2 s1, 3 s2, 5 i -/
def x63 : Ann := (.seq (.reg [] [(0, [])]) (.seq (.seq (.reg [] [(0, []), (1, []), (2, []), (3, []), (4, [])]) (.cond (.seq (.reg [] [(0, [])]) .leaf) .leaf)) (.seq (.seq (.reg [] [(0, []), (1, []), (2, [])]) (.blk (.loop [13] [14, 15, 5, 16, 17, 18, 19, 20, 21, 22, 23, 24, 4, 25, 13] (.seq (.reg [] [(0, [])]) (.seq (.cond .leaf .leaf) (.seq (.blk (.seq (.reg [] [(0, []), (1, [])]) (.seq (.reg [0, 0, 3, 7, 0, 0, 48, 112, 255] [(0, []), (1, []), (2, []), (4, []), (5, []), (6, []), (3, []), (7, []), (8, [])]) (.cond (.seq (.reg [] [(0, [])]) .leaf) .leaf)))) (.reg [] [(0, []), (1, [])]))))))) (.seq (.reg [] [(0, [])]) .leaf))))
def D63 (a0 a1 : Value) (K : Value → Hp → Prop) (h : Hp) : Prop :=
  vP (lenV a0) fun v7 =>
  vP (lenV a1) fun v9 =>
  vP (eqV 1 true v7 v9) fun v10 =>
  vB v10 (K (Value.bool false) h)
  (vP (lenV a0) fun v12 =>
  ∃ I1 : Nat → List Value → Hp → Prop, (∃ n, I1 n [(Value.int .i64 0)] h) ∧
  ∀ n1 : Nat, ∀ v13 : Value, ∀ h1 : Hp, I1 n1 [v13] h1 → ∀ g1 : St,
    vP (binV .lss v13 v12) fun v14 =>
    vB v14 (vP (iaS 1 a0 v13) fun v18 =>
      vP (iaS 1 a1 v13) fun v22 =>
      vP (ld1 v18 h1) fun v19 =>
      vP (ld1 v22 h1) fun v23 =>
      vP (eqV 1 true v19 v23) fun v24 =>
      vB v24 (K (Value.bool false) h1)
      (vP (binV .add v13 (Value.int .i64 1)) fun v25 =>
      ∃ m1, m1 < n1 ∧ I1 m1 [v25] h1))
    (K (Value.bool true) h1))
theorem D63_eq (a0 a1 : Value) (K : Value → Hp → Prop) (h : Hp) : fnVC Try.prog Try.f63 x63 [a0, a1] K h = D63 a0 a1 K h := by kernel_rfl
theorem D63_ok : fnOk Try.prog Try.f63 x63 2 = true := by kernel_rfl
theorem C63 {a0 a1 : Value} {K : Value → Hp → Prop} {h : Hp} (hh : D63 a0 a1 K h) : CallH Try.prog 63 #[a0, a1] K h :=
  callH_of mixed Try.func63 x63 [a0, a1] D63_ok (D63_eq a0 a1 K h ▸ hh)

/- 65: slices.EqualFunc[[]treadmill/api.Goroutine,[]treadmill/api.Goroutine,treadmill/api.Goroutine,treadmill/api.Goroutine]; slots: 0 s1, 1 s2, 2 eq, 3 s1, 4 s2, 5 eq, 7 i, 8 v1, 9 v2 -/
def x65 : Ann := (.seq (.reg [] [(0, [])]) (.seq (.seq (.reg [] [(0, []), (1, []), (2, []), (3, []), (4, [])]) (.cond (.seq (.reg [] [(0, [])]) .leaf) .leaf)) (.seq (.seq (.reg [] [(0, []), (1, []), (2, [])]) (.blk (.loop [17] [18, 19, 20, 21, 8, 7, 22, 23, 24, 25, 9, 26, 27, 28, 29, 30, 6, 31, 17] (.seq (.reg [] [(0, [])]) (.seq (.cond .leaf .leaf) (.seq (.blk (.seq (.reg [] [(0, []), (1, []), (2, []), (3, []), (4, []), (5, [])]) (.seq (.reg [] [(0, []), (1, []), (2, []), (3, []), (4, []), (5, [])]) (.seq (.reg [] [(0, []), (1, []), (2, []), (3, []), (4, [])]) (.cond (.seq (.reg [] [(0, [])]) .leaf) .leaf))))) (.reg [] [(0, []), (1, [])]))))))) (.seq (.reg [] [(0, [])]) .leaf))))
def D65 (a0 a1 a2 : Value) (K : Value → Hp → Prop) (h : Hp) : Prop :=
  vP (lenV a0) fun v11 =>
  vP (lenV a1) fun v13 =>
  vP (eqV 1 true v11 v13) fun v14 =>
  vB v14 (K (Value.bool false) h)
  (vP (lenV a0) fun v16 =>
  ∃ I1 : Nat → List Value → Hp → Prop, (∃ n, I1 n [(Value.int .i64 0)] h) ∧
  ∀ n1 : Nat, ∀ v17 : Value, ∀ h1 : Hp, I1 n1 [v17] h1 → ∀ g1 : St,
    vP (binV .lss v17 v16) fun v18 =>
    vB v18 (vP (iaS 3 a0 v17) fun v20 =>
      vP (ldN 3 v20 h1) fun v21 =>
      vA (some (Obj.cells #[(Value.int .i64 0), (Value.int .i64 0), (Value.slice none 0 0)] 41 (0, 0), ptrV)) (fun v8 h2 =>
      stN 3 v8 v21 (fun _ h3 =>
      vP (iaS 3 a1 v17) fun v24 =>
      vP (ldN 3 v24 h3) fun v25 =>
      vA (some (Obj.cells #[(Value.int .i64 0), (Value.int .i64 0), (Value.slice none 0 0)] 41 (0, 0), ptrV)) (fun v9 h4 =>
      stN 3 v9 v25 (fun _ h5 =>
      vP (ldN 3 v8 h5) fun v27 =>
      vP (ldN 3 v9 h5) fun v28 =>
      cvW Try.prog a2 #[v27, v28] (fun v29 h6 =>
      vP (unV .not v29) fun v30 =>
      vB v30 (K (Value.bool false) h6)
      (vP (binV .add v17 (Value.int .i64 1)) fun v31 =>
      ∃ m1, m1 < n1 ∧ I1 m1 [v31] h6)) h5) h4) h3) h2) h1)
    (K (Value.bool true) h1))
theorem D65_eq (a0 a1 a2 : Value) (K : Value → Hp → Prop) (h : Hp) : fnVC Try.prog Try.f65 x65 [a0, a1, a2] K h = D65 a0 a1 a2 K h := by kernel_rfl
theorem D65_ok : fnOk Try.prog Try.f65 x65 3 = true := by kernel_rfl
theorem C65 {a0 a1 a2 : Value} {K : Value → Hp → Prop} {h : Hp} (hh : D65 a0 a1 a2 K h) : CallH Try.prog 65 #[a0, a1, a2] K h :=
  callH_of mixed Try.func65 x65 [a0, a1, a2] D65_ok (D65_eq a0 a1 a2 K h ▸ hh)

/- 66: slices.EqualFunc[[]treadmill/api.Object,[]treadmill/api.Object,treadmill/api.Object,treadmill/api.Object]; slots: 0 s1, 1 s2, 2 eq, 3 s1, 4 s2, 5 eq, 7 i, 8 v1, 9 v2 -/
def x66 : Ann := (.seq (.reg [] [(0, [])]) (.seq (.seq (.reg [] [(0, []), (1, []), (2, []), (3, []), (4, [])]) (.cond (.seq (.reg [] [(0, [])]) .leaf) .leaf)) (.seq (.seq (.reg [] [(0, []), (1, []), (2, [])]) (.blk (.loop [17] [18, 19, 20, 21, 8, 7, 22, 23, 24, 25, 9, 26, 27, 28, 29, 30, 6, 31, 17] (.seq (.reg [] [(0, [])]) (.seq (.cond .leaf .leaf) (.seq (.blk (.seq (.reg [] [(0, []), (1, []), (2, []), (3, []), (4, []), (5, [])]) (.seq (.reg [] [(0, []), (1, []), (2, []), (3, []), (4, []), (5, [])]) (.seq (.reg [] [(0, []), (1, []), (2, []), (3, []), (4, [])]) (.cond (.seq (.reg [] [(0, [])]) .leaf) .leaf))))) (.reg [] [(0, []), (1, [])]))))))) (.seq (.reg [] [(0, [])]) .leaf))))
def D66 (a0 a1 a2 : Value) (K : Value → Hp → Prop) (h : Hp) : Prop :=
  vP (lenV a0) fun v11 =>
  vP (lenV a1) fun v13 =>
  vP (eqV 1 true v11 v13) fun v14 =>
  vB v14 (K (Value.bool false) h)
  (vP (lenV a0) fun v16 =>
  ∃ I1 : Nat → List Value → Hp → Prop, (∃ n, I1 n [(Value.int .i64 0)] h) ∧
  ∀ n1 : Nat, ∀ v17 : Value, ∀ h1 : Hp, I1 n1 [v17] h1 → ∀ g1 : St,
    vP (binV .lss v17 v16) fun v18 =>
    vB v18 (vP (iaS 3 a0 v17) fun v20 =>
      vP (ldN 3 v20 h1) fun v21 =>
      vA (some (Obj.cells #[(Value.int .i64 0), (Value.slice none 0 0), (Value.bool false)] 30 (0, 0), ptrV)) (fun v8 h2 =>
      stN 3 v8 v21 (fun _ h3 =>
      vP (iaS 3 a1 v17) fun v24 =>
      vP (ldN 3 v24 h3) fun v25 =>
      vA (some (Obj.cells #[(Value.int .i64 0), (Value.slice none 0 0), (Value.bool false)] 30 (0, 0), ptrV)) (fun v9 h4 =>
      stN 3 v9 v25 (fun _ h5 =>
      vP (ldN 3 v8 h5) fun v27 =>
      vP (ldN 3 v9 h5) fun v28 =>
      cvW Try.prog a2 #[v27, v28] (fun v29 h6 =>
      vP (unV .not v29) fun v30 =>
      vB v30 (K (Value.bool false) h6)
      (vP (binV .add v17 (Value.int .i64 1)) fun v31 =>
      ∃ m1, m1 < n1 ∧ I1 m1 [v31] h6)) h5) h4) h3) h2) h1)
    (K (Value.bool true) h1))
theorem D66_eq (a0 a1 a2 : Value) (K : Value → Hp → Prop) (h : Hp) : fnVC Try.prog Try.f66 x66 [a0, a1, a2] K h = D66 a0 a1 a2 K h := by kernel_rfl
theorem D66_ok : fnOk Try.prog Try.f66 x66 3 = true := by kernel_rfl
theorem C66 {a0 a1 a2 : Value} {K : Value → Hp → Prop} {h : Hp} (hh : D66 a0 a1 a2 K h) : CallH Try.prog 66 #[a0, a1, a2] K h :=
  callH_of mixed Try.func66 x66 [a0, a1, a2] D66_ok (D66_eq a0 a1 a2 K h ▸ hh)

/- 40: treadmill/treadmillref29.Same; slots: 0 a, 1 b, 2 a, 3 b, 5 i, 6 i, 7 x, 8 y -/
def x40 : Ann := (.seq (.reg [] [(0, []), (1, []), (2, [])]) (.seq (.seq (.reg [] [(0, []), (1, []), (2, []), (3, []), (4, []), (5, []), (6, []), (7, []), (8, []), (9, []), (10, []), (11, []), (12, []), (13, []), (14, []), (15, []), (16, []), (17, []), (18, []), (19, []), (20, []), (21, []), (22, []), (23, []), (24, []), (25, []), (26, []), (27, []), (28, []), (29, []), (30, []), (31, []), (32, []), (33, []), (34, []), (35, []), (36, []), (37, []), (38, []), (39, []), (40, []), (41, []), (42, []), (43, []), (44, []), (45, []), (46, []), (47, []), (48, []), (49, []), (50, []), (51, []), (52, []), (53, []), (54, []), (55, []), (56, []), (57, []), (58, []), (59, []), (60, []), (61, []), (62, []), (63, []), (64, []), (65, [])]) (.cond (.seq (.reg [] [(0, [])]) .leaf) .leaf)) (.seq (.seq (.reg [] [(0, [])]) (.blk (.loop [5] [75, 76, 77, 78, 79, 82, 83, 84, 85, 86, 87, 88, 89, 90, 91, 92, 93, 94, 95, 96, 97, 98, 99, 100, 101, 102, 103, 104, 105, 106, 107, 108, 109, 110, 111, 112, 113, 114, 115, 116, 117, 118, 119, 120, 121, 122, 123, 124, 125, 4, 80, 81, 5] (.seq (.seq (.reg [] [(0, []), (1, []), (2, []), (3, []), (4, [])]) (.cond .leaf .leaf)) (.seq (.blk (.seq (.reg [0, 1, 0, 7, 15, 31, 0, 64, 0, 448, 960, 1984, 4095, 8191, 16383, 32767, 16383, 131071, 262143, 524287, 16383, 1064959, 16383, 7356415, 15745023, 32522239, 67108863, 134217727, 268435455, 536870911, 1073741823, 536870911, 4294967295, 8589934591, 17179869183, 536870911, 34896609279, 536870911, 241055039487, 515932946431, 1065688760319, 2199023255551, 4398046511103, 8796093022207] [(0, []), (2, []), (6, []), (8, []), (1, []), (3, []), (4, []), (5, []), (7, []), (9, []), (10, []), (11, []), (12, []), (13, []), (14, []), (16, []), (20, []), (22, []), (15, []), (17, []), (18, []), (19, []), (21, []), (23, []), (24, []), (25, []), (26, []), (27, []), (28, []), (29, []), (31, []), (35, []), (37, []), (30, []), (32, []), (33, []), (34, []), (36, []), (38, []), (39, []), (40, []), (41, []), (42, []), (43, [])]) (.cond (.seq (.reg [] [(0, [])]) .leaf) .leaf))) (.reg [] [(0, []), (1, []), (2, [])])))))) (.seq (.seq (.reg [] [(0, [])]) (.blk (.loop [6] [126, 127, 128, 129, 130, 133, 134, 135, 136, 137, 138, 139, 140, 141, 142, 7, 8, 143, 144, 145, 146, 147, 148, 149, 150, 151, 152, 153, 154, 155, 156, 157, 158, 159, 160, 161, 162, 4, 131, 132, 6] (.seq (.seq (.reg [] [(0, []), (1, []), (2, []), (3, []), (4, [])]) (.cond .leaf .leaf)) (.seq (.blk (.seq (.reg [0, 1, 0, 7, 15, 0, 32, 0, 224, 480, 0, 0, 3103, 8191] [(0, []), (2, []), (5, []), (7, []), (1, []), (3, []), (4, []), (6, []), (8, []), (9, []), (10, []), (11, []), (12, [9, 6]), (13, [])]) (.seq (.reg [] [(0, []), (1, []), (2, []), (3, []), (4, []), (5, []), (6, []), (7, []), (8, []), (9, []), (10, []), (11, []), (12, []), (13, []), (14, []), (15, []), (16, []), (17, []), (18, []), (19, [])]) (.cond (.seq (.reg [] [(0, [])]) .leaf) .leaf)))) (.reg [] [(0, []), (1, []), (2, [])])))))) (.seq (.reg [] [(0, [])]) .leaf)))))
def D40 (a0 a1 : Value) (K : Value → Hp → Prop) (h : Hp) : Prop :=
  vA (some (Obj.cells (Value.cells a0) 26 (0, 0), ptrV)) (fun v2 h1 =>
  vA (some (Obj.cells (Value.cells a1) 26 (0, 0), ptrV)) (fun v3 h2 =>
  vP (faV 0 v2) fun v9 =>
  vP (ld1 v9 h2) fun v10 =>
  vP (faV 0 v3) fun v11 =>
  vP (ld1 v11 h2) fun v12 =>
  vP (eqV 1 true v10 v12) fun v13 =>
  vP (gdW (gB v13 false) (faV 1 v2)) fun v15 =>
  vP (gdW (gB v13 false) (ld1 v15 h2)) fun v16 =>
  vP (gdW (gB v13 false) (faV 1 v3)) fun v17 =>
  vP (gdW (gB v13 false) (ld1 v17 h2)) fun v18 =>
  vP (gdW (gB v13 false) (eqV 1 true v16 v18)) fun v19 =>
  vP (pickV v13 (Value.bool true) v19) fun v20 =>
  vP (gdW (gB v20 false) (faV 2 v2)) fun v22 =>
  vP (gdW (gB v20 false) (ld1 v22 h2)) fun v23 =>
  vP (gdW (gB v20 false) (faV 2 v3)) fun v24 =>
  vP (gdW (gB v20 false) (ld1 v24 h2)) fun v25 =>
  vP (gdW (gB v20 false) (eqV 1 true v23 v25)) fun v26 =>
  vP (pickV v20 (Value.bool true) v26) fun v27 =>
  vP (gdW (gB v27 false) (faV 6 v2)) fun v29 =>
  vP (gdW (gB v27 false) (ld1 v29 h2)) fun v30 =>
  vP (gdW (gB v27 false) (faV 6 v3)) fun v31 =>
  vP (gdW (gB v27 false) (ld1 v31 h2)) fun v32 =>
  vP (gdW (gB v27 false) (eqV 1 true v30 v32)) fun v33 =>
  vP (pickV v27 (Value.bool true) v33) fun v34 =>
  vP (gdW (gB v34 false) (faV 7 v2)) fun v36 =>
  vP (gdW (gB v34 false) (ld1 v36 h2)) fun v37 =>
  vP (gdW (gB v34 false) (faV 7 v3)) fun v38 =>
  vP (gdW (gB v34 false) (ld1 v38 h2)) fun v39 =>
  vP (gdW (gB v34 false) (eqV 1 true v37 v39)) fun v40 =>
  vP (pickV v34 (Value.bool true) v40) fun v41 =>
  vP (gdW (gB v41 false) (faV 8 v2)) fun v43 =>
  vP (gdW (gB v41 false) (ld1 v43 h2)) fun v44 =>
  vP (gdW (gB v41 false) (faV 8 v3)) fun v45 =>
  vP (gdW (gB v41 false) (ld1 v45 h2)) fun v46 =>
  vP (gdW (gB v41 false) (eqV 1 true v44 v46)) fun v47 =>
  vP (pickV v41 (Value.bool true) v47) fun v48 =>
  vP (gdW (gB v48 false) (faV 3 v2)) fun v50 =>
  vP (gdW (gB v48 false) (ld1 v50 h2)) fun v51 =>
  vP (gdW (gB v48 false) (faV 3 v3)) fun v52 =>
  vP (gdW (gB v48 false) (ld1 v52 h2)) fun v53 =>
  vE (gB v48 false) (CallH Try.prog 14 #[v51, v53]) (fun v54 h3 =>
  vP (gdW (gB v48 false) (unV .not v54)) fun v55 =>
  vP (pickV v48 (Value.bool true) v55) fun v56 =>
  vP (gdW (gB v56 false) (faV 4 v2)) fun v58 =>
  vP (gdW (gB v56 false) (ld1 v58 h3)) fun v59 =>
  vP (gdW (gB v56 false) (lenV v59)) fun v60 =>
  vP (gdW (gB v56 false) (faV 4 v3)) fun v61 =>
  vP (gdW (gB v56 false) (ld1 v61 h3)) fun v62 =>
  vP (gdW (gB v56 false) (lenV v62)) fun v63 =>
  vP (gdW (gB v56 false) (eqV 1 true v60 v63)) fun v64 =>
  vP (pickV v56 (Value.bool true) v64) fun v65 =>
  vP (gdW (gB v65 false) (faV 5 v2)) fun v67 =>
  vP (gdW (gB v65 false) (ld1 v67 h3)) fun v68 =>
  vP (gdW (gB v65 false) (lenV v68)) fun v69 =>
  vP (gdW (gB v65 false) (faV 5 v3)) fun v70 =>
  vP (gdW (gB v65 false) (ld1 v70 h3)) fun v71 =>
  vP (gdW (gB v65 false) (lenV v71)) fun v72 =>
  vP (gdW (gB v65 false) (eqV 1 true v69 v72)) fun v73 =>
  vP (pickV v65 (Value.bool true) v73) fun v74 =>
  vB v74 (K (Value.bool false) h3)
  (∃ I1 : Nat → List Value → Hp → Prop, (∃ n, I1 n [(Value.int .i64 0)] h3) ∧
  ∀ n1 : Nat, ∀ v5 : Value, ∀ h4 : Hp, I1 n1 [v5] h4 → ∀ g1 : St,
    vP (faV 4 v2) fun v76 =>
    vP (ld1 v76 h4) fun v77 =>
    vP (lenV v77) fun v78 =>
    vP (binV .lss v5 v78) fun v79 =>
    vB v79 (vP (faV 4 v2) fun v82 =>
      vP (faV 4 v3) fun v88 =>
      vP (ld1 v82 h4) fun v83 =>
      vP (iaS 3 v83 v5) fun v85 =>
      vP (faV 0 v85) fun v86 =>
      vP (ld1 v86 h4) fun v87 =>
      vP (ld1 v88 h4) fun v89 =>
      vP (iaS 3 v89 v5) fun v91 =>
      vP (faV 0 v91) fun v92 =>
      vP (ld1 v92 h4) fun v93 =>
      vP (eqV 1 true v87 v93) fun v94 =>
      vP (gdW (gB v94 false) (faV 4 v2)) fun v96 =>
      vP (gdW (gB v94 false) (some v5)) fun v98 =>
      vP (gdW (gB v94 false) (faV 4 v3)) fun v102 =>
      vP (gdW (gB v94 false) (some v5)) fun v104 =>
      vP (gdW (gB v94 false) (ld1 v96 h4)) fun v97 =>
      vP (gdW (gB v94 false) (iaS 3 v97 v98)) fun v99 =>
      vP (gdW (gB v94 false) (faV 1 v99)) fun v100 =>
      vP (gdW (gB v94 false) (ld1 v100 h4)) fun v101 =>
      vP (gdW (gB v94 false) (ld1 v102 h4)) fun v103 =>
      vP (gdW (gB v94 false) (iaS 3 v103 v104)) fun v105 =>
      vP (gdW (gB v94 false) (faV 1 v105)) fun v106 =>
      vP (gdW (gB v94 false) (ld1 v106 h4)) fun v107 =>
      vP (gdW (gB v94 false) (eqV 1 true v101 v107)) fun v108 =>
      vP (pickV v94 (Value.bool true) v108) fun v109 =>
      vP (gdW (gB v109 false) (faV 4 v2)) fun v111 =>
      vP (gdW (gB v109 false) (some v5)) fun v113 =>
      vP (gdW (gB v109 false) (faV 4 v3)) fun v117 =>
      vP (gdW (gB v109 false) (some v5)) fun v119 =>
      vP (gdW (gB v109 false) (ld1 v111 h4)) fun v112 =>
      vP (gdW (gB v109 false) (iaS 3 v112 v113)) fun v114 =>
      vP (gdW (gB v109 false) (faV 2 v114)) fun v115 =>
      vP (gdW (gB v109 false) (ld1 v115 h4)) fun v116 =>
      vP (gdW (gB v109 false) (ld1 v117 h4)) fun v118 =>
      vP (gdW (gB v109 false) (iaS 3 v118 v119)) fun v120 =>
      vP (gdW (gB v109 false) (faV 2 v120)) fun v121 =>
      vP (gdW (gB v109 false) (ld1 v121 h4)) fun v122 =>
      vE (gB v109 false) (CallH Try.prog 14 #[v116, v122]) (fun v123 h5 =>
      vP (gdW (gB v109 false) (unV .not v123)) fun v124 =>
      vP (pickV v109 (Value.bool true) v124) fun v125 =>
      vB v125 (K (Value.bool false) h5)
      (vP (binV .add v5 (Value.int .i64 1)) fun v81 =>
      ∃ m1, m1 < n1 ∧ I1 m1 [v81] h5)) h4)
    (∃ I2 : Nat → List Value → Hp → Prop, (∃ n, I2 n [(Value.int .i64 0)] h4) ∧
    ∀ n2 : Nat, ∀ v6 : Value, ∀ h6 : Hp, I2 n2 [v6] h6 → ∀ g2 : St,
      vP (faV 5 v2) fun v127 =>
      vP (ld1 v127 h6) fun v128 =>
      vP (lenV v128) fun v129 =>
      vP (binV .lss v6 v129) fun v130 =>
      vB v130 (vP (faV 5 v2) fun v133 =>
        vP (faV 5 v3) fun v138 =>
        vP (ld1 v133 h6) fun v134 =>
        vP (iaS 3 v134 v6) fun v136 =>
        vP (ldN 3 v136 h6) fun v137 =>
        vP (ld1 v138 h6) fun v139 =>
        vP (iaS 3 v139 v6) fun v141 =>
        vP (ldN 3 v141 h6) fun v142 =>
        vA (some (Obj.cells #[(Value.int .i64 0), (Value.slice none 0 0), (Value.bool false)] 30 (0, 0), ptrV)) (fun v7 h7 =>
        vA (some (Obj.cells #[(Value.int .i64 0), (Value.slice none 0 0), (Value.bool false)] 30 (0, 0), ptrV)) (fun v8 h8 =>
        stN 3 v7 v137 (fun _ h9 =>
        (ldN 3 v141 h9) = some v142 ∧ ((ld1 v138 h9) = some v139 ∧ (stN 3 v8 v142 (fun _ h10 =>
        vP (faV 0 v7) fun v143 =>
        vP (ld1 v143 h10) fun v144 =>
        vP (faV 0 v8) fun v145 =>
        vP (ld1 v145 h10) fun v146 =>
        vP (eqV 1 true v144 v146) fun v147 =>
        vP (gdW (gB v147 false) (faV 2 v7)) fun v149 =>
        vP (gdW (gB v147 false) (ld1 v149 h10)) fun v150 =>
        vP (gdW (gB v147 false) (faV 2 v8)) fun v151 =>
        vP (gdW (gB v147 false) (ld1 v151 h10)) fun v152 =>
        vP (gdW (gB v147 false) (eqV 2 true v150 v152)) fun v153 =>
        vP (pickV v147 (Value.bool true) v153) fun v154 =>
        vP (gdW (gB v154 false) (faV 1 v7)) fun v156 =>
        vP (gdW (gB v154 false) (ld1 v156 h10)) fun v157 =>
        vP (gdW (gB v154 false) (faV 1 v8)) fun v158 =>
        vP (gdW (gB v154 false) (ld1 v158 h10)) fun v159 =>
        vE (gB v154 false) (CallH Try.prog 14 #[v157, v159]) (fun v160 h11 =>
        vP (gdW (gB v154 false) (unV .not v160)) fun v161 =>
        vP (pickV v154 (Value.bool true) v161) fun v162 =>
        vB v162 (K (Value.bool false) h11)
        (vP (binV .add v6 (Value.int .i64 1)) fun v132 =>
        ∃ m2, m2 < n2 ∧ I2 m2 [v132] h11)) h10) h9))) h8) h7) h6)
      (K (Value.bool true) h6)))) h2) h1) h
theorem D40_eq (a0 a1 : Value) (K : Value → Hp → Prop) (h : Hp) : fnVC Try.prog Try.f40 x40 [a0, a1] K h = D40 a0 a1 K h := by kernel_rfl
theorem D40_ok : fnOk Try.prog Try.f40 x40 2 = true := by kernel_rfl
theorem C40 {a0 a1 : Value} {K : Value → Hp → Prop} {h : Hp} (hh : D40 a0 a1 K h) : CallH Try.prog 40 #[a0, a1] K h :=
  callH_of mixed Try.func40 x40 [a0, a1] D40_ok (D40_eq a0 a1 K h ▸ hh)

/- 10: treadmill/treadmilllaw29.ViewAsks; slots: 0 v, 1 w, 2 addr, 3 v, 4 w, 5 addr -/
def x10 : Ann := (.seq (.reg [] [(0, []), (1, []), (2, [])]) (.seq (.seq (.reg [] [(0, []), (1, []), (2, []), (3, []), (4, []), (5, []), (6, []), (7, [])]) (.cond (.seq (.reg [] [(0, []), (1, [])]) .leaf) .leaf)) (.seq (.reg [0, 1, 3, 3, 15, 3, 3, 127, 255, 511, 1023, 2047, 4095, 2047, 16383, 32767, 65535, 131071, 262143, 524287, 262143, 2097151, 4194303, 8388607, 16777215, 33554431, 67108863, 33554431, 268435455, 536870911, 1073741823, 2147483647, 4294967295, 8589934591, 4294967295, 34359738367, 68719476735, 137438953471, 274877906943, 549755813887, 1099511627775, 549755813887, 4398046511103, 8796093022207, 17592186044415, 35184372088831, 70368744177663, 70368744177663, 281474976710655, 70368744177663, 70368744177663, 2251799813685247, 4503599627370495, 9007199254740991, 18014398509481983, 36028797018963967, 36028797018963967, 144115188075855871, 288230376151711743, 576460752303423487] [(0, []), (1, []), (3, []), (6, []), (2, []), (5, []), (4, [5]), (7, []), (8, []), (9, []), (10, []), (11, []), (13, []), (12, [13]), (14, []), (15, []), (16, []), (17, []), (18, []), (20, []), (19, [20]), (21, []), (22, []), (23, []), (24, []), (25, []), (27, []), (26, [27]), (28, []), (29, []), (30, []), (31, []), (32, []), (34, []), (33, [34]), (35, []), (36, []), (37, []), (38, []), (39, []), (41, []), (40, [41]), (42, []), (43, []), (44, []), (45, []), (46, []), (47, []), (49, []), (50, []), (48, [50, 49]), (51, []), (52, []), (53, []), (54, []), (55, []), (56, []), (57, []), (58, []), (59, [])]) .leaf)))
def D10 (a0 a1 a2 : Value) (K : Value → Hp → Prop) (h : Hp) : Prop :=
  vA (some (Obj.cells (Value.cells a0) 26 (0, 0), ptrV)) (fun v3 h1 =>
  vA (some (Obj.cells (Value.cells a1) 26 (0, 0), ptrV)) (fun v4 h2 =>
  vP (ldN 9 v3 h2) fun v7 =>
  CallH Try.prog 11 #[v7] (fun v8 h3 =>
  vP (unV .not v8) fun v9 =>
  vP (gdW (gB v9 false) (ldN 9 v4 h3)) fun v11 =>
  vE (gB v9 false) (CallH Try.prog 11 #[v11]) (fun v12 h4 =>
  vP (gdW (gB v9 false) (unV .not v12)) fun v13 =>
  vP (pickV v9 (Value.bool true) v13) fun v14 =>
  vB v14 (CallH Try.prog 13 #[] (fun v15 h5 =>
    K v15 h5) h4)
  (CallH Try.prog 13 #[] (fun v16 h6 =>
  vP (gdW (gB v16 true) (some a2)) fun v19 =>
  vP (gdW (gB v16 true) (some a2)) fun v22 =>
  vP (gdW (gB v16 true) (ldN 9 v3 h6)) fun v18 =>
  vP (gdW (gB v16 true) (ldN 9 v3 h6)) fun v21 =>
  vE (gB v16 true) (CallH Try.prog 22 #[v18, v19]) (fun v20 h7 =>
  gdW (gB v16 true) (ldN 9 v3 h7) = some v21 ∧ (vE (gB v16 true) (CallH Try.prog 33 #[v21, v22]) (fun v23 h8 =>
  vP (gdW (gB v16 true) (eqV 1 false v20 v23)) fun v24 =>
  vP (pickV v16 v24 (Value.bool false)) fun v25 =>
  vP (gdW (gB v25 true) (ldN 9 v3 h8)) fun v27 =>
  vP (gdW (gB v25 true) (ldN 9 v3 h8)) fun v29 =>
  vE (gB v25 true) (CallH Try.prog 19 #[v27]) (fun v28 h9 =>
  gdW (gB v25 true) (ldN 9 v3 h9) = some v29 ∧ (vE (gB v25 true) (CallH Try.prog 34 #[v29]) (fun v30 h10 =>
  vE (gB v25 true) (CallH Try.prog 14 #[v28, v30]) (fun v31 h11 =>
  vP (pickV v25 v31 (Value.bool false)) fun v32 =>
  vP (gdW (gB v32 true) (ldN 9 v3 h11)) fun v34 =>
  vP (gdW (gB v32 true) (ldN 9 v3 h11)) fun v36 =>
  vE (gB v32 true) (CallH Try.prog 17 #[v34]) (fun v35 h12 =>
  gdW (gB v32 true) (ldN 9 v3 h12) = some v36 ∧ (vE (gB v32 true) (CallH Try.prog 35 #[v36]) (fun v37 h13 =>
  vE (gB v32 true) (CallH Try.prog 14 #[v35, v37]) (fun v38 h14 =>
  vP (pickV v32 v38 (Value.bool false)) fun v39 =>
  vP (gdW (gB v39 true) (ldN 9 v3 h14)) fun v41 =>
  vP (gdW (gB v39 true) (ldN 9 v3 h14)) fun v43 =>
  vE (gB v39 true) (CallH Try.prog 23 #[v41]) (fun v42 h15 =>
  gdW (gB v39 true) (ldN 9 v3 h15) = some v43 ∧ (vE (gB v39 true) (CallH Try.prog 36 #[v43]) (fun v44 h16 =>
  vE (gB v39 true) (CallH Try.prog 14 #[v42, v44]) (fun v45 h17 =>
  vP (pickV v39 v45 (Value.bool false)) fun v46 =>
  vP (gdW (gB v46 true) (ldN 9 v3 h17)) fun v48 =>
  vP (gdW (gB v46 true) (ldN 9 v3 h17)) fun v50 =>
  vE (gB v46 true) (CallH Try.prog 18 #[v48]) (fun v49 h18 =>
  gdW (gB v46 true) (ldN 9 v3 h18) = some v50 ∧ (vE (gB v46 true) (CallH Try.prog 37 #[v50]) (fun v51 h19 =>
  vE (gB v46 true) (CallH Try.prog 14 #[v49, v51]) (fun v52 h20 =>
  vP (pickV v46 v52 (Value.bool false)) fun v53 =>
  vP (gdW (gB v53 true) (ldN 9 v3 h20)) fun v55 =>
  vP (gdW (gB v53 true) (ldN 9 v3 h20)) fun v57 =>
  vE (gB v53 true) (CallH Try.prog 25 #[v55]) (fun v56 h21 =>
  gdW (gB v53 true) (ldN 9 v3 h21) = some v57 ∧ (vE (gB v53 true) (CallH Try.prog 38 #[v57]) (fun v58 h22 =>
  vP (gdW (gB v53 true) (eqV 1 false v56 v58)) fun v59 =>
  vP (pickV v53 v59 (Value.bool false)) fun v60 =>
  vP (gdW (gB v60 true) (ldN 9 v3 h22)) fun v62 =>
  vP (gdW (gB v60 true) (ldN 9 v4 h22)) fun v63 =>
  vP (gdW (gB v60 true) (ldN 9 v3 h22)) fun v65 =>
  vP (gdW (gB v60 true) (ldN 9 v4 h22)) fun v66 =>
  vE (gB v60 true) (CallH Try.prog 39 #[v62, v63]) (fun v64 h23 =>
  gdW (gB v60 true) (ldN 9 v4 h23) = some v66 ∧ (gdW (gB v60 true) (ldN 9 v3 h23) = some v65 ∧ (vE (gB v60 true) (CallH Try.prog 40 #[v65, v66]) (fun v67 h24 =>
  vP (gdW (gB v60 true) (eqV 2 false v64 v67)) fun v68 =>
  vP (pickV v60 v68 (Value.bool false)) fun v69 =>
  vP (gdW (gB v69 true) (ldN 9 v3 h24)) fun v71 =>
  vP (gdW (gB v69 true) (ldN 9 v3 h24)) fun v72 =>
  vE (gB v69 true) (CallH Try.prog 39 #[v71, v72]) (fun v73 h25 =>
  vP (pickV v69 v73 (Value.bool false)) fun v74 =>
  K v74 h25) h24) h23))) h22) h21)) h20) h19) h18)) h17) h16) h15)) h14) h13) h12)) h11) h10) h9)) h8) h7)) h6) h4)) h3) h2) h1) h
theorem D10_eq (a0 a1 a2 : Value) (K : Value → Hp → Prop) (h : Hp) : fnVC Try.prog Try.f10 x10 [a0, a1, a2] K h = D10 a0 a1 a2 K h := by kernel_rfl
theorem D10_ok : fnOk Try.prog Try.f10 x10 3 = true := by kernel_rfl
theorem C10 {a0 a1 a2 : Value} {K : Value → Hp → Prop} {h : Hp} (hh : D10 a0 a1 a2 K h) : CallH Try.prog 10 #[a0, a1, a2] K h :=
  callH_of mixed Try.func10 x10 [a0, a1, a2] D10_ok (D10_eq a0 a1 a2 K h ▸ hh)

end Go.Proofs
