/-
  The conditions of some functions, as the printer wrote them out of the dump; the kernel checks that each is the function's own.
-/
import Derived.Test.YtdcoflglkfbpcaaVwD3
import Derived.Test.YtdcoflglkfbpcaaProg
set_option linter.unusedVariables false
set_option linter.unusedSimpArgs false
set_option maxRecDepth 100000
namespace Go.Proofs
open Go.Sl
/- 57: treadmill/audit.rules; slots:  -/
def x57 : Ann := (.seq (.reg [] [(0, [])]) (.seq (.reg [] [(0, []), (1, []), (2, []), (3, []), (4, []), (5, []), (6, []), (7, []), (8, []), (9, [])]) .leaf))
def D57 (K : Value → Hp → Prop) (h : Hp) : Prop :=
  vP ((bldV #[(Value.string ⟨#[]⟩), Value.nilFunc] [(0, 1, (Value.string ⟨#[108, 111, 115, 116]⟩)), (1, 1, (Value.func (.func 73) #[] #[]))]).map Value.agg) fun v1 =>
  vP ((bldV #[(Value.string ⟨#[]⟩), Value.nilFunc] [(0, 1, (Value.string ⟨#[111, 98, 106, 101, 99, 116, 115]⟩)), (1, 1, (Value.func (.func 74) #[] #[]))]).map Value.agg) fun v2 =>
  vP ((bldV #[(Value.string ⟨#[]⟩), Value.nilFunc] [(0, 1, (Value.string ⟨#[116, 119, 105, 99, 101]⟩)), (1, 1, (Value.func (.func 75) #[] #[]))]).map Value.agg) fun v3 =>
  vP ((bldV #[(Value.string ⟨#[]⟩), Value.nilFunc] [(0, 1, (Value.string ⟨#[112, 108, 97, 99, 101, 115]⟩)), (1, 1, (Value.func (.func 76) #[] #[]))]).map Value.agg) fun v4 =>
  vP ((bldV #[(Value.string ⟨#[]⟩), Value.nilFunc] [(0, 1, (Value.string ⟨#[119, 111, 114, 107]⟩)), (1, 1, (Value.func (.func 77) #[] #[]))]).map Value.agg) fun v5 =>
  vP ((bldV #[(Value.string ⟨#[]⟩), Value.nilFunc] [(0, 1, (Value.string ⟨#[119, 104, 105, 116, 101]⟩)), (1, 1, (Value.func (.func 78) #[] #[]))]).map Value.agg) fun v6 =>
  vP ((bldV #[(Value.string ⟨#[]⟩), Value.nilFunc] [(0, 1, (Value.string ⟨#[110, 117, 109, 98, 101, 114, 115]⟩)), (1, 1, (Value.func (.func 79) #[] #[]))]).map Value.agg) fun v7 =>
  vP ((bldV #[(Value.string ⟨#[]⟩), Value.nilFunc] [(0, 1, (Value.string ⟨#[109, 97, 114, 107, 101, 100]⟩)), (1, 1, (Value.func (.func 80) #[] #[]))]).map Value.agg) fun v8 =>
  vA ((bldV #[(Value.string ⟨#[]⟩), Value.nilFunc, (Value.string ⟨#[]⟩), Value.nilFunc, (Value.string ⟨#[]⟩), Value.nilFunc, (Value.string ⟨#[]⟩), Value.nilFunc, (Value.string ⟨#[]⟩), Value.nilFunc, (Value.string ⟨#[]⟩), Value.nilFunc, (Value.string ⟨#[]⟩), Value.nilFunc, (Value.string ⟨#[]⟩), Value.nilFunc] [(0, 2, v1), (2, 2, v2), (4, 2, v3), (6, 2, v4), (8, 2, v5), (10, 2, v6), (12, 2, v7), (14, 2, v8)]).map fun c => (Obj.cells c 69 (0, 0), fun r => Value.slice (some ⟨r, 0, none⟩) 8 8)) (fun v9 h1 =>
  K v9 h1) h
theorem D57_eq (K : Value → Hp → Prop) (h : Hp) : fnVC Try.prog Try.f57 x57 [] K h = D57  K h := by kernel_rfl
theorem D57_ok : fnOk Try.prog Try.f57 x57 0 = true := by kernel_rfl
theorem C57 {K : Value → Hp → Prop} {h : Hp} (hh : D57  K h) : CallH Try.prog 57 #[] K h :=
  callH_of mixed Try.func57 x57 [] D57_ok (D57_eq  K h ▸ hh)

/- 73: treadmill/audit.lost; slots: 0 v, 1 ps, 2 v, 3 ps -/
def x73 : Ann := (.seq (.reg [] [(0, []), (1, [])]) (.seq (.reg [] [(0, []), (1, []), (2, []), (3, []), (4, [])]) .leaf))
def D73 (a0 a1 : Value) (K : Value → Hp → Prop) (h : Hp) : Prop :=
  vA (some (Obj.cells (Value.cells a0) 26 (0, 0), ptrV)) (fun v2 h1 =>
  vP (ldN 9 v2 h1) fun v5 =>
  CallH Try.prog 18 #[v5] (fun v6 h2 =>
  vP (lenV v6) fun v7 =>
  vP (binV .gtr v7 (Value.int .i64 0)) fun v8 =>
  K v8 h2) h1) h
theorem D73_eq (a0 a1 : Value) (K : Value → Hp → Prop) (h : Hp) : fnVC Try.prog Try.f73 x73 [a0, a1] K h = D73 a0 a1 K h := by kernel_rfl
theorem D73_ok : fnOk Try.prog Try.f73 x73 2 = true := by kernel_rfl
theorem C73 {a0 a1 : Value} {K : Value → Hp → Prop} {h : Hp} (hh : D73 a0 a1 K h) : CallH Try.prog 73 #[a0, a1] K h :=
  callH_of mixed Try.func73 x73 [a0, a1] D73_ok (D73_eq a0 a1 K h ▸ hh)

/- 74: treadmill/audit.objects; slots: 0 v, 1 ps, 2 v, 3 ps, 5 i, 6 o -/
def x74 : Ann := (.seq (.reg [] [(0, []), (1, [])]) (.seq (.seq (.reg [] [(0, []), (1, []), (2, []), (3, [])]) (.blk (.loop [10] [11, 12, 13, 14, 6, 5, 15, 16, 17, 18, 19, 20, 21, 22, 4, 23, 24, 25, 26, 27, 28, 29, 30, 31, 32, 33, 34, 35, 36, 37, 38, 39, 40, 41, 42, 43, 44, 45, 46, 47, 48, 49, 50, 51, 52, 53, 54, 55, 56, 57, 10] (.seq (.reg [] [(0, [])]) (.seq (.cond .leaf .leaf) (.seq (.blk (.seq (.reg [] [(0, []), (1, []), (2, []), (3, []), (4, []), (5, [])]) (.seq (.seq (.reg [] [(0, []), (1, []), (2, []), (3, []), (4, []), (5, []), (6, []), (7, [])]) (.cond (.seq (.reg [] [(0, [])]) .leaf) .leaf)) (.seq (.reg [0, 1, 3, 7, 15, 7, 39, 127, 255, 511, 7, 1031, 4095, 8191, 16383, 32767, 16383, 81919, 16383, 278527, 999423, 2047999, 4145151, 8388607, 16383, 16793599, 16383, 67125247, 251674623, 520110079, 1056980991, 2147483647, 4294967295, 8589934591] [(0, []), (1, []), (2, []), (3, []), (5, []), (6, []), (10, []), (4, []), (7, []), (8, []), (9, []), (11, []), (12, []), (13, []), (14, []), (16, []), (18, []), (19, []), (24, []), (26, []), (27, []), (15, []), (17, []), (20, []), (21, []), (22, []), (23, []), (25, []), (28, []), (29, []), (30, [22, 17, 15]), (31, []), (32, []), (33, [])]) (.cond (.seq (.reg [] [(0, [])]) .leaf) .leaf))))) (.reg [] [(0, []), (1, [])]))))))) (.seq (.reg [] [(0, [])]) .leaf)))
def D74 (a0 a1 : Value) (K : Value → Hp → Prop) (h : Hp) : Prop :=
  vA (some (Obj.cells (Value.cells a0) 26 (0, 0), ptrV)) (fun v2 h1 =>
  vP (faV 5 v2) fun v7 =>
  vP (ld1 v7 h1) fun v8 =>
  vP (lenV v8) fun v9 =>
  ∃ I1 : Nat → List Value → Hp → Prop, (∃ n, I1 n [(Value.int .i64 0)] h1) ∧
  ∀ n1 : Nat, ∀ v10 : Value, ∀ h2 : Hp, I1 n1 [v10] h2 → ∀ g1 : St,
    vP (binV .lss v10 v9) fun v11 =>
    vB v11 (vP (iaS 3 v8 v10) fun v13 =>
      vP (ldN 3 v13 h2) fun v14 =>
      vA (some (Obj.cells #[(Value.int .i64 0), (Value.slice none 0 0), (Value.bool false)] 30 (0, 0), ptrV)) (fun v6 h3 =>
      stN 3 v6 v14 (fun _ h4 =>
      vP (faV 0 v6) fun v15 =>
      vP (ld1 v15 h4) fun v16 =>
      vP (binV .lss v16 (Value.int .i64 64)) fun v17 =>
      vP (gdW (gB v17 false) (ldN 3 v6 h4)) fun v19 =>
      vE (gB v17 false) (CallH Try.prog 86 #[v19]) (fun v20 h5 =>
      vP (gdW (gB v17 false) (eqV 1 false v20 (Value.int .i64 0))) fun v21 =>
      vP (pickV v17 (Value.bool true) v21) fun v22 =>
      vB v22 (K (Value.bool true) h5)
      (vP (binV .gtr v10 (Value.int .i64 0)) fun v24 =>
      vP (gdW (gB v24 true) (faV 5 v2)) fun v26 =>
      vP (gdW (gB v24 true) (some v10)) fun v28 =>
      vP (gdW (gB v24 true) (binV .sub v28 (Value.int .i64 1))) fun v29 =>
      vP (gdW (gB v24 true) (faV 0 v6)) fun v33 =>
      vP (gdW (gB v24 true) (ld1 v26 h5)) fun v27 =>
      vP (gdW (gB v24 true) (iaS 3 v27 v29)) fun v30 =>
      vP (gdW (gB v24 true) (faV 0 v30)) fun v31 =>
      vP (gdW (gB v24 true) (ld1 v31 h5)) fun v32 =>
      vP (gdW (gB v24 true) (ld1 v33 h5)) fun v34 =>
      vP (gdW (gB v24 true) (binV .geq v32 v34)) fun v35 =>
      vP (gdW (gB v24 true) (some v35)) fun v36 =>
      vP (gdW (gB v36 false) (faV 0 v6)) fun v37 =>
      vP (gdW (gB v36 false) (faV 5 v2)) fun v39 =>
      vP (gdW (gB v36 false) (some v10)) fun v41 =>
      vP (gdW (gB v36 false) (binV .sub v41 (Value.int .i64 1))) fun v42 =>
      vP (gdW (gB v36 false) (faV 5 v2)) fun v47 =>
      vP (gdW (gB v36 false) (some v10)) fun v49 =>
      vP (gdW (gB v36 false) (binV .sub v49 (Value.int .i64 1))) fun v50 =>
      vP (gdW (gB v36 false) (ld1 v37 h5)) fun v38 =>
      vP (gdW (gB v36 false) (ld1 v39 h5)) fun v40 =>
      vP (gdW (gB v36 false) (iaS 3 v40 v42)) fun v43 =>
      vP (gdW (gB v36 false) (faV 0 v43)) fun v44 =>
      vP (gdW (gB v36 false) (ld1 v44 h5)) fun v45 =>
      vP (gdW (gB v36 false) (binV .sub v38 v45)) fun v46 =>
      vP (gdW (gB v36 false) (ld1 v47 h5)) fun v48 =>
      vP (gdW (gB v36 false) (iaS 3 v48 v50)) fun v51 =>
      vP (gdW (gB v36 false) (ldN 3 v51 h5)) fun v52 =>
      vE (gB v36 false) (CallH Try.prog 86 #[v52]) (fun v53 h6 =>
      gdW (gB v36 false) (ld1 v44 h6) = some v45 ∧ (gdW (gB v36 false) (ld1 v39 h6) = some v40 ∧ (gdW (gB v36 false) (ld1 v37 h6) = some v38 ∧ (vP (gdW (gB v36 false) (binV .lss v46 v53)) fun v54 =>
      vP (gdW (gB v24 true) (pickV v36 (Value.bool true) v54)) fun v55 =>
      vP (pickV v24 v55 (Value.bool false)) fun v56 =>
      vB v56 (K (Value.bool true) h6)
      (vP (binV .add v10 (Value.int .i64 1)) fun v57 =>
      ∃ m1, m1 < n1 ∧ I1 m1 [v57] h6))))) h5)) h4) h3) h2)
    (K (Value.bool false) h2)) h
theorem D74_eq (a0 a1 : Value) (K : Value → Hp → Prop) (h : Hp) : fnVC Try.prog Try.f74 x74 [a0, a1] K h = D74 a0 a1 K h := by kernel_rfl
theorem D74_ok : fnOk Try.prog Try.f74 x74 2 = true := by kernel_rfl
theorem C74 {a0 a1 : Value} {K : Value → Hp → Prop} {h : Hp} (hh : D74 a0 a1 K h) : CallH Try.prog 74 #[a0, a1] K h :=
  callH_of mixed Try.func74 x74 [a0, a1] D74_ok (D74_eq a0 a1 K h ▸ hh)

/- 75: treadmill/audit.twice; slots: 0 v, 1 ps, 2 v, 3 ps, 5 l, 6 _, 7 g -/
def x75 : Ann := (.seq (.reg [] [(0, []), (1, [])]) (.seq (.reg [] [(0, [])]) (.seq (.seq (.reg [] [(0, []), (1, []), (2, []), (3, [])]) (.blk (.loop [11, 5] [12, 13, 14, 7, 15, 16, 17, 18, 19, 20, 21, 4, 22, 23, 24, 25, 26, 5, 27, 11] (.seq (.reg [] [(0, [])]) (.seq (.cond .leaf .leaf) (.join [5] [13, 14, 7, 15, 16, 17, 18, 19, 20, 21, 4, 22, 23, 24, 25, 26, 5] (.blk (.seq (.reg [] [(0, []), (1, []), (2, []), (3, [])]) (.seq (.seq (.reg [] [(0, []), (1, []), (2, [])]) (.cond .leaf .leaf)) (.seq (.seq (.reg [] [(0, []), (1, []), (2, []), (3, [])]) (.cond (.seq (.reg [] [(0, [])]) .leaf) .leaf)) (.reg [] [(0, []), (1, []), (2, []), (3, []), (4, []), (5, [])]))))) (.reg [] [(0, []), (1, [])]))))))) (.seq (.reg [] [(0, [])]) .leaf))))
def D75 (a0 a1 : Value) (K : Value → Hp → Prop) (h : Hp) : Prop :=
  vA (some (Obj.cells (Value.cells a0) 26 (0, 0), ptrV)) (fun v2 h1 =>
  vP (faV 4 v2) fun v8 =>
  vP (ld1 v8 h1) fun v9 =>
  vP (lenV v9) fun v10 =>
  ∃ I1 : Nat → List Value → Hp → Prop, (∃ n, I1 n [(Value.int .i64 0), (Value.slice none 0 0)] h1) ∧
  ∀ n1 : Nat, ∀ v11 v5 : Value, ∀ h2 : Hp, I1 n1 [v11, v5] h2 → ∀ g1 : St,
    vP (binV .lss v11 v10) fun v12 =>
    vB v12 (∀ J2 : List Value → Hp → Prop, (∀ v5_1 : Value, ∀ h3 : Hp, (∀ g2 : St,
        vP (binV .add v11 (Value.int .i64 1)) fun v27 =>
        ∃ m1, m1 < n1 ∧ I1 m1 [v27, v5_1] h3) → J2 [v5_1] h3) →
      vP (iaS 3 v9 v11) fun v13 =>
      vP (ldN 3 v13 h2) fun v14 =>
      vA (some (Obj.cells #[(Value.int .i64 0), (Value.int .i64 0), (Value.slice none 0 0)] 41 (0, 0), ptrV)) (fun v7 h4 =>
      stN 3 v7 v14 (fun _ h5 =>
      vP (faV 0 v7) fun v15 =>
      vP (ld1 v15 h5) fun v16 =>
      vP (eqV 1 true v16 (Value.int .i64 2)) fun v17 =>
      vB v17 (J2 [v5] h5)
      (vP (faV 1 v7) fun v19 =>
      vP (ld1 v19 h5) fun v20 =>
      CallH Try.prog 44 #[v5, v20] (fun v21 h6 =>
      vB v21 (K (Value.bool true) h6)
      (vP (faV 1 v7) fun v23 =>
      vP (ld1 v23 h6) fun v24 =>
      vA ((bldV #[(Value.int .i64 0)] [(0, 1, v24)]).map fun c => (Obj.cells c 3 (0, 0), fun r => Value.slice (some ⟨r, 0, none⟩) 1 1)) (fun v25 h7 =>
      apW Try.prog #[22, 22] 22 v5 v25 (fun v26 h8 =>
      J2 [v26] h8) h7) h6)) h5)) h4) h2)
    (K (Value.bool false) h2)) h
theorem D75_eq (a0 a1 : Value) (K : Value → Hp → Prop) (h : Hp) : fnVC Try.prog Try.f75 x75 [a0, a1] K h = D75 a0 a1 K h := by kernel_rfl
theorem D75_ok : fnOk Try.prog Try.f75 x75 2 = true := by kernel_rfl
theorem C75 {a0 a1 : Value} {K : Value → Hp → Prop} {h : Hp} (hh : D75 a0 a1 K h) : CallH Try.prog 75 #[a0, a1] K h :=
  callH_of mixed Try.func75 x75 [a0, a1] D75_ok (D75_eq a0 a1 K h ▸ hh)

/- 76: treadmill/audit.places; slots: 0 v, 1 ps, 2 v, 3 ps, 5 _, 6 g, 7 ok -/
def x76 : Ann := (.seq (.reg [] [(0, []), (1, [])]) (.seq (.seq (.reg [] [(0, []), (1, []), (2, []), (3, [])]) (.blk (.loop [11] [12, 13, 14, 6, 15, 16, 17, 7, 18, 19, 21, 20, 22, 23, 24, 25, 26, 27, 28, 29, 30, 32, 31, 33, 34, 35, 36, 37, 38, 39, 40, 41, 42, 43, 4, 44, 11] (.seq (.reg [] [(0, [])]) (.seq (.cond .leaf .leaf) (.seq (.blk (.seq (.reg [] [(0, []), (1, []), (2, []), (3, [])]) (.seq (.reg [] [(0, []), (1, []), (2, []), (3, [])]) (.join [7] [18, 19, 21, 20, 22, 23, 24, 25, 26, 27, 28, 29, 30, 7, 32, 31, 33, 34, 35, 36, 37, 38, 39, 40, 41] (.seq (.reg [] [(0, []), (1, [])]) (.blk (.seq (.reg [] [(0, []), (1, [])]) (.cond (.reg [] [(0, []), (1, []), (2, []), (3, []), (4, []), (5, []), (6, []), (7, []), (8, []), (9, [])]) (.seq (.reg [] [(0, []), (1, [])]) (.cond (.reg [] [(0, []), (1, []), (2, []), (3, []), (4, []), (5, []), (6, []), (7, []), (8, []), (9, [])]) .leaf)))))) (.seq (.reg [] [(0, []), (1, [])]) (.cond (.seq (.reg [] [(0, [])]) .leaf) .leaf)))))) (.reg [] [(0, []), (1, [])]))))))) (.seq (.reg [] [(0, [])]) .leaf)))
def D76 (a0 a1 : Value) (K : Value → Hp → Prop) (h : Hp) : Prop :=
  vA (some (Obj.cells (Value.cells a0) 26 (0, 0), ptrV)) (fun v2 h1 =>
  vP (faV 4 v2) fun v8 =>
  vP (ld1 v8 h1) fun v9 =>
  vP (lenV v9) fun v10 =>
  ∃ I1 : Nat → List Value → Hp → Prop, (∃ n, I1 n [(Value.int .i64 0)] h1) ∧
  ∀ n1 : Nat, ∀ v11 : Value, ∀ h2 : Hp, I1 n1 [v11] h2 → ∀ g1 : St,
    vP (binV .lss v11 v10) fun v12 =>
    vB v12 (vP (iaS 3 v9 v11) fun v13 =>
      vP (ldN 3 v13 h2) fun v14 =>
      vA (some (Obj.cells #[(Value.int .i64 0), (Value.int .i64 0), (Value.slice none 0 0)] 41 (0, 0), ptrV)) (fun v6 h3 =>
      stN 3 v6 v14 (fun _ h4 =>
      vP (faV 1 v6) fun v15 =>
      vP (ld1 v15 h4) fun v16 =>
      vP (eqV 1 false v16 (Value.int .i64 (-1))) fun v17 =>
      ∀ J2 : List Value → Hp → Prop, (∀ v7 : Value, ∀ h5 : Hp, (∀ g2 : St,
        vP (unV .not v7) fun v43 =>
        vB v43 (K (Value.bool true) h5)
        (vP (binV .add v11 (Value.int .i64 1)) fun v44 =>
        ∃ m1, m1 < n1 ∧ I1 m1 [v44] h5)) → J2 [v7] h5) →
      vP (faV 0 v6) fun v18 =>
      vP (ld1 v18 h4) fun v19 =>
      vP (eqV 1 false v19 (Value.int .i64 2)) fun v21 =>
      vB v21 (vP (faV 1 v6) fun v22 =>
        vP (ld1 v22 h4) fun v23 =>
        vP (binV .geq v23 (Value.int .i64 0)) fun v24 =>
        vP (gdW (gB v24 true) (faV 1 v6)) fun v26 =>
        vP (gdW (gB v24 true) (ld1 v26 h4)) fun v27 =>
        vP (gdW (gB v24 true) (some a1)) fun v28 =>
        vP (gdW (gB v24 true) (binV .lss v27 v28)) fun v29 =>
        vP (pickV v24 v29 (Value.bool false)) fun v30 =>
        J2 [v30] h4)
      (vP (eqV 1 false v19 (Value.int .i64 1)) fun v32 =>
      vB v32 (vP (faV 1 v6) fun v33 =>
        vP (ld1 v33 h4) fun v34 =>
        vP (binV .geq v34 (Value.int .i64 (-1))) fun v35 =>
        vP (gdW (gB v35 true) (faV 1 v6)) fun v37 =>
        vP (gdW (gB v35 true) (ld1 v37 h4)) fun v38 =>
        vP (gdW (gB v35 true) (some a1)) fun v39 =>
        vP (gdW (gB v35 true) (binV .lss v38 v39)) fun v40 =>
        vP (pickV v35 v40 (Value.bool false)) fun v41 =>
        J2 [v41] h4)
      (J2 [v17] h4))) h3) h2)
    (K (Value.bool false) h2)) h
theorem D76_eq (a0 a1 : Value) (K : Value → Hp → Prop) (h : Hp) : fnVC Try.prog Try.f76 x76 [a0, a1] K h = D76 a0 a1 K h := by kernel_rfl
theorem D76_ok : fnOk Try.prog Try.f76 x76 2 = true := by kernel_rfl
theorem C76 {a0 a1 : Value} {K : Value → Hp → Prop} {h : Hp} (hh : D76 a0 a1 K h) : CallH Try.prog 76 #[a0, a1] K h :=
  callH_of mixed Try.func76 x76 [a0, a1] D76_ok (D76_eq a0 a1 K h ▸ hh)

/- 77: treadmill/audit.work; slots: 0 v, 1 ps, 2 v, 3 ps, 5 some -/
def x77 : Ann := (.seq (.reg [] [(0, []), (1, [])]) (.seq (.reg [] [(0, []), (1, []), (2, []), (3, []), (4, []), (5, []), (6, []), (7, []), (8, []), (9, []), (10, []), (11, []), (12, []), (13, [])]) (.seq (.reg [] [(0, []), (1, []), (2, []), (3, []), (4, []), (5, []), (6, []), (7, []), (8, []), (9, []), (10, []), (11, []), (12, []), (13, []), (14, []), (15, []), (16, []), (17, []), (18, []), (19, []), (20, []), (21, [])]) .leaf)))
def D77 (a0 a1 : Value) (K : Value → Hp → Prop) (h : Hp) : Prop :=
  vA (some (Obj.cells (Value.cells a0) 26 (0, 0), ptrV)) (fun v2 h1 =>
  vP (faV 6 v2) fun v6 =>
  vP (ld1 v6 h1) fun v7 =>
  vP (eqV 1 true v7 (Value.int .i64 0)) fun v8 =>
  vP (gdW (gB v8 false) (faV 7 v2)) fun v10 =>
  vP (gdW (gB v8 false) (ld1 v10 h1)) fun v11 =>
  vP (gdW (gB v8 false) (eqV 1 true v11 (Value.int .i64 0))) fun v12 =>
  vP (pickV v8 (Value.bool true) v12) fun v13 =>
  vP (gdW (gB v13 false) (faV 8 v2)) fun v15 =>
  vP (gdW (gB v13 false) (ld1 v15 h1)) fun v16 =>
  vP (gdW (gB v13 false) (eqV 1 true v16 (Value.int .i64 0))) fun v17 =>
  vP (pickV v13 (Value.bool true) v17) fun v18 =>
  vP (faV 0 v2) fun v19 =>
  vP (ld1 v19 h1) fun v20 =>
  vP (eqV 1 true v20 (Value.int .i64 1)) fun v21 =>
  vP (gdW (gB v21 true) (some v18)) fun v23 =>
  vP (pickV v21 v23 (Value.bool false)) fun v24 =>
  vP (gdW (gB v24 false) (faV 6 v2)) fun v26 =>
  vP (gdW (gB v24 false) (ld1 v26 h1)) fun v27 =>
  vP (gdW (gB v24 false) (binV .lss v27 (Value.int .i64 0))) fun v28 =>
  vP (pickV v24 (Value.bool true) v28) fun v29 =>
  vP (gdW (gB v29 false) (faV 7 v2)) fun v31 =>
  vP (gdW (gB v29 false) (ld1 v31 h1)) fun v32 =>
  vP (gdW (gB v29 false) (binV .lss v32 (Value.int .i64 0))) fun v33 =>
  vP (pickV v29 (Value.bool true) v33) fun v34 =>
  vP (gdW (gB v34 false) (faV 8 v2)) fun v36 =>
  vP (gdW (gB v34 false) (ld1 v36 h1)) fun v37 =>
  vP (gdW (gB v34 false) (binV .lss v37 (Value.int .i64 0))) fun v38 =>
  vP (pickV v34 (Value.bool true) v38) fun v39 =>
  K v39 h1) h
theorem D77_eq (a0 a1 : Value) (K : Value → Hp → Prop) (h : Hp) : fnVC Try.prog Try.f77 x77 [a0, a1] K h = D77 a0 a1 K h := by kernel_rfl
theorem D77_ok : fnOk Try.prog Try.f77 x77 2 = true := by kernel_rfl
theorem C77 {a0 a1 : Value} {K : Value → Hp → Prop} {h : Hp} (hh : D77 a0 a1 K h) : CallH Try.prog 77 #[a0, a1] K h :=
  callH_of mixed Try.func77 x77 [a0, a1] D77_ok (D77_eq a0 a1 K h ▸ hh)

/- 78: treadmill/audit.white; slots: 0 v, 1 ps, 2 v, 3 ps -/
def x78 : Ann := (.seq (.reg [] [(0, []), (1, [])]) (.seq (.reg [] [(0, []), (1, []), (2, []), (3, []), (4, []), (5, []), (6, []), (7, []), (8, []), (9, [])]) .leaf))
def D78 (a0 a1 : Value) (K : Value → Hp → Prop) (h : Hp) : Prop :=
  vA (some (Obj.cells (Value.cells a0) 26 (0, 0), ptrV)) (fun v2 h1 =>
  vP (faV 0 v2) fun v5 =>
  vP (ld1 v5 h1) fun v6 =>
  vP (eqV 1 false v6 (Value.int .i64 2)) fun v7 =>
  vP (gdW (gB v7 true) (ldN 9 v2 h1)) fun v9 =>
  vE (gB v7 true) (CallH Try.prog 23 #[v9]) (fun v10 h2 =>
  vP (gdW (gB v7 true) (lenV v10)) fun v11 =>
  vP (gdW (gB v7 true) (binV .gtr v11 (Value.int .i64 0))) fun v12 =>
  vP (pickV v7 v12 (Value.bool false)) fun v13 =>
  K v13 h2) h1) h
theorem D78_eq (a0 a1 : Value) (K : Value → Hp → Prop) (h : Hp) : fnVC Try.prog Try.f78 x78 [a0, a1] K h = D78 a0 a1 K h := by kernel_rfl
theorem D78_ok : fnOk Try.prog Try.f78 x78 2 = true := by kernel_rfl
theorem C78 {a0 a1 : Value} {K : Value → Hp → Prop} {h : Hp} (hh : D78 a0 a1 K h) : CallH Try.prog 78 #[a0, a1] K h :=
  callH_of mixed Try.func78 x78 [a0, a1] D78_ok (D78_eq a0 a1 K h ▸ hh)

/- 79: treadmill/audit.numbers; slots: 0 v, 1 ps, 2 v, 3 ps, 5 _, 6 g -/
def x79 : Ann := (.seq (.reg [] [(0, []), (1, [])]) (.seq (.seq (.reg [] [(0, []), (1, []), (2, []), (3, [])]) (.blk (.loop [10] [11, 12, 13, 6, 14, 15, 16, 17, 4, 18, 10] (.seq (.reg [] [(0, [])]) (.seq (.cond .leaf .leaf) (.seq (.blk (.seq (.reg [] [(0, []), (1, []), (2, []), (3, [])]) (.seq (.reg [] [(0, []), (1, []), (2, []), (3, [])]) (.cond (.seq (.reg [] [(0, [])]) .leaf) .leaf)))) (.reg [] [(0, []), (1, [])]))))))) (.seq (.reg [] [(0, []), (1, []), (2, []), (3, []), (4, []), (5, []), (6, []), (7, []), (8, []), (9, []), (10, []), (11, []), (12, []), (13, []), (14, []), (15, []), (16, []), (17, []), (18, [])]) .leaf)))
def D79 (a0 a1 : Value) (K : Value → Hp → Prop) (h : Hp) : Prop :=
  vA (some (Obj.cells (Value.cells a0) 26 (0, 0), ptrV)) (fun v2 h1 =>
  vP (faV 4 v2) fun v7 =>
  vP (ld1 v7 h1) fun v8 =>
  vP (lenV v8) fun v9 =>
  ∃ I1 : Nat → List Value → Hp → Prop, (∃ n, I1 n [(Value.int .i64 0)] h1) ∧
  ∀ n1 : Nat, ∀ v10 : Value, ∀ h2 : Hp, I1 n1 [v10] h2 → ∀ g1 : St,
    vP (binV .lss v10 v9) fun v11 =>
    vB v11 (vP (iaS 3 v8 v10) fun v12 =>
      vP (ldN 3 v12 h2) fun v13 =>
      vA (some (Obj.cells #[(Value.int .i64 0), (Value.int .i64 0), (Value.slice none 0 0)] 41 (0, 0), ptrV)) (fun v6 h3 =>
      stN 3 v6 v13 (fun _ h4 =>
      vP (faV 2 v6) fun v14 =>
      vP (ld1 v14 h4) fun v15 =>
      vP (lenV v15) fun v16 =>
      vP (eqV 1 true v16 (Value.int .i64 16)) fun v17 =>
      vB v17 (K (Value.bool true) h4)
      (vP (binV .add v10 (Value.int .i64 1)) fun v18 =>
      ∃ m1, m1 < n1 ∧ I1 m1 [v18] h4)) h3) h2)
    (vP (faV 0 v2) fun v19 =>
    vP (ld1 v19 h2) fun v20 =>
    vP (binV .lss v20 (Value.int .i64 0)) fun v21 =>
    vP (gdW (gB v21 false) (faV 0 v2)) fun v23 =>
    vP (gdW (gB v21 false) (ld1 v23 h2)) fun v24 =>
    vP (gdW (gB v21 false) (binV .gtr v24 (Value.int .i64 3))) fun v25 =>
    vP (pickV v21 (Value.bool true) v25) fun v26 =>
    vP (gdW (gB v26 false) (faV 1 v2)) fun v28 =>
    vP (gdW (gB v26 false) (ld1 v28 h2)) fun v29 =>
    vP (gdW (gB v26 false) (binV .lss v29 (Value.int .i64 0))) fun v30 =>
    vP (pickV v26 (Value.bool true) v30) fun v31 =>
    vP (gdW (gB v31 false) (faV 2 v2)) fun v33 =>
    vP (gdW (gB v31 false) (ld1 v33 h2)) fun v34 =>
    vP (gdW (gB v31 false) (binV .lss v34 (Value.int .i64 0))) fun v35 =>
    vP (pickV v31 (Value.bool true) v35) fun v36 =>
    K v36 h2)) h
theorem D79_eq (a0 a1 : Value) (K : Value → Hp → Prop) (h : Hp) : fnVC Try.prog Try.f79 x79 [a0, a1] K h = D79 a0 a1 K h := by kernel_rfl
theorem D79_ok : fnOk Try.prog Try.f79 x79 2 = true := by kernel_rfl
theorem C79 {a0 a1 : Value} {K : Value → Hp → Prop} {h : Hp} (hh : D79 a0 a1 K h) : CallH Try.prog 79 #[a0, a1] K h :=
  callH_of mixed Try.func79 x79 [a0, a1] D79_ok (D79_eq a0 a1 K h ▸ hh)

/- 80: treadmill/audit.marked; slots: 0 v, 1 ps, 2 v, 3 ps -/
def x80 : Ann := (.seq (.reg [] [(0, []), (1, [])]) (.seq (.reg [] [(0, []), (1, []), (2, []), (3, []), (4, []), (5, []), (6, []), (7, []), (8, [])]) .leaf))
def D80 (a0 a1 : Value) (K : Value → Hp → Prop) (h : Hp) : Prop :=
  vA (some (Obj.cells (Value.cells a0) 26 (0, 0), ptrV)) (fun v2 h1 =>
  vP (faV 0 v2) fun v5 =>
  vP (ld1 v5 h1) fun v6 =>
  vP (eqV 1 false v6 (Value.int .i64 0)) fun v7 =>
  vP (gdW (gB v7 true) (faV 5 v2)) fun v9 =>
  vP (gdW (gB v7 true) (ld1 v9 h1)) fun v10 =>
  vE (gB v7 true) (CallH Try.prog 87 #[v10, (Value.func (.func 88) #[] #[])]) (fun v11 h2 =>
  vP (pickV v7 v11 (Value.bool false)) fun v12 =>
  K v12 h2) h1) h
theorem D80_eq (a0 a1 : Value) (K : Value → Hp → Prop) (h : Hp) : fnVC Try.prog Try.f80 x80 [a0, a1] K h = D80 a0 a1 K h := by kernel_rfl
theorem D80_ok : fnOk Try.prog Try.f80 x80 2 = true := by kernel_rfl
theorem C80 {a0 a1 : Value} {K : Value → Hp → Prop} {h : Hp} (hh : D80 a0 a1 K h) : CallH Try.prog 80 #[a0, a1] K h :=
  callH_of mixed Try.func80 x80 [a0, a1] D80_ok (D80_eq a0 a1 K h ▸ hh)

/- 87: slices.ContainsFunc[[]treadmill/api.Object,treadmill/api.Object]; slots: 0 s, 1 f, 2 s, 3 f -/
def x87 : Ann := (.seq (.reg [] [(0, [])]) (.seq (.reg [] [(0, []), (1, []), (2, []), (3, []), (4, [])]) .leaf))
def D87 (a0 a1 : Value) (K : Value → Hp → Prop) (h : Hp) : Prop :=
  CallH Try.prog 48 #[a0, a1] (fun v7 h1 =>
  vP (binV .geq v7 (Value.int .i64 0)) fun v8 =>
  K v8 h1) h
theorem D87_eq (a0 a1 : Value) (K : Value → Hp → Prop) (h : Hp) : fnVC Try.prog Try.f87 x87 [a0, a1] K h = D87 a0 a1 K h := by kernel_rfl
theorem D87_ok : fnOk Try.prog Try.f87 x87 2 = true := by kernel_rfl
theorem C87 {a0 a1 : Value} {K : Value → Hp → Prop} {h : Hp} (hh : D87 a0 a1 K h) : CallH Try.prog 87 #[a0, a1] K h :=
  callH_of mixed Try.func87 x87 [a0, a1] D87_ok (D87_eq a0 a1 K h ▸ hh)

/- 88: treadmill/audit.marked$1; slots: 0 o, 1 o -/
def x88 : Ann := (.seq (.reg [] [(0, []), (1, [])]) (.seq (.reg [] [(0, []), (1, []), (2, [])]) .leaf))
def D88 (a0 : Value) (K : Value → Hp → Prop) (h : Hp) : Prop :=
  vA (some (Obj.cells (Value.cells a0) 30 (0, 0), ptrV)) (fun v1 h1 =>
  vP (faV 2 v1) fun v3 =>
  vP (ld1 v3 h1) fun v4 =>
  K v4 h1) h
theorem D88_eq (a0 : Value) (K : Value → Hp → Prop) (h : Hp) : fnVC Try.prog Try.f88 x88 [a0] K h = D88 a0 K h := by kernel_rfl
theorem D88_ok : fnOk Try.prog Try.f88 x88 1 = true := by kernel_rfl
theorem C88 {a0 : Value} {K : Value → Hp → Prop} {h : Hp} (hh : D88 a0 K h) : CallH Try.prog 88 #[a0] K h :=
  callH_of mixed Try.func88 x88 [a0] D88_ok (D88_eq a0 K h ▸ hh)

/- 28: treadmill/audit.All; slots: 0 v, 1 ps, 2 v, 3 ps, 5 out, 6 i, 7 r -/
def x28 : Ann := (.seq (.reg [] [(0, []), (1, [])]) (.seq (.reg [] [(0, [])]) (.seq (.seq (.reg [] [(0, []), (1, []), (2, [])]) (.blk (.loop [10, 5] [11, 12, 13, 14, 7, 6, 15, 16, 17, 18, 19, 20, 21, 22, 23, 24, 5, 25, 10] (.seq (.reg [] [(0, [])]) (.seq (.cond .leaf .leaf) (.join [5] [12, 13, 14, 7, 6, 15, 16, 17, 18, 19, 20, 21, 22, 23, 24, 5] (.blk (.seq (.reg [] [(0, []), (1, []), (2, []), (3, []), (4, []), (5, [])]) (.seq (.reg [] [(0, []), (1, []), (2, []), (3, []), (4, [])]) (.cond (.reg [] [(0, []), (1, []), (2, []), (3, []), (4, []), (5, [])]) .leaf)))) (.reg [] [(0, []), (1, [])]))))))) (.seq (.reg [] [(0, []), (1, [])]) .leaf))))
def D28 (a0 a1 : Value) (K : Value → Hp → Prop) (h : Hp) : Prop :=
  vA (some (Obj.cells (Value.cells a0) 26 (0, 0), ptrV)) (fun v2 h1 =>
  CallH Try.prog 57 #[] (fun v8 h2 =>
  vP (lenV v8) fun v9 =>
  ∃ I1 : Nat → List Value → Hp → Prop, (∃ n, I1 n [(Value.int .i64 0), (Value.slice none 0 0)] h2) ∧
  ∀ n1 : Nat, ∀ v10 v5 : Value, ∀ h3 : Hp, I1 n1 [v10, v5] h3 → ∀ g1 : St,
    vP (binV .lss v10 v9) fun v11 =>
    vB v11 (∀ J2 : List Value → Hp → Prop, (∀ v5_1 : Value, ∀ h4 : Hp, (∀ g2 : St,
        vP (binV .add v10 (Value.int .i64 1)) fun v25 =>
        ∃ m1, m1 < n1 ∧ I1 m1 [v25, v5_1] h4) → J2 [v5_1] h4) →
      vP (iaS 2 v8 v10) fun v13 =>
      vP (ldN 2 v13 h3) fun v14 =>
      vA (some (Obj.cells #[(Value.string ⟨#[]⟩), Value.nilFunc] 69 (0, 0), ptrV)) (fun v7 h5 =>
      stN 2 v7 v14 (fun _ h6 =>
      vP (faV 1 v7) fun v15 =>
      vP (ld1 v15 h6) fun v16 =>
      vP (ldN 9 v2 h6) fun v17 =>
      cvW Try.prog v16 #[v17, a1] (fun v19 h7 =>
      vB v19 (vP (binV .add v10 (Value.int .i64 1)) fun v22 =>
        vA ((bldV #[(Value.int .i64 0)] [(0, 1, v22)]).map fun c => (Obj.cells c 3 (0, 0), fun r => Value.slice (some ⟨r, 0, none⟩) 1 1)) (fun v23 h8 =>
        apW Try.prog #[22, 22] 22 v5 v23 (fun v24 h9 =>
        J2 [v24] h9) h8) h7)
      (J2 [v5] h7)) h6) h5) h3)
    (K v5 h3)) h1) h
theorem D28_eq (a0 a1 : Value) (K : Value → Hp → Prop) (h : Hp) : fnVC Try.prog Try.f28 x28 [a0, a1] K h = D28 a0 a1 K h := by kernel_rfl
theorem D28_ok : fnOk Try.prog Try.f28 x28 2 = true := by kernel_rfl
theorem C28 {a0 a1 : Value} {K : Value → Hp → Prop} {h : Hp} (hh : D28 a0 a1 K h) : CallH Try.prog 28 #[a0, a1] K h :=
  callH_of mixed Try.func28 x28 [a0, a1] D28_ok (D28_eq a0 a1 K h ▸ hh)

/- 29: treadmill/audit.Check; slots: 0 v, 1 ps, 2 v, 3 ps, 5 l -/
def x29 : Ann := (.seq (.reg [] [(0, []), (1, [])]) (.seq (.seq (.reg [] [(0, []), (1, []), (2, []), (3, [])]) (.seq (.reg [] [(0, []), (1, []), (2, [])]) (.cond (.seq (.reg [] [(0, []), (1, []), (2, []), (3, [])]) .leaf) .leaf))) (.seq (.reg [] [(0, [])]) .leaf)))
def D29 (a0 a1 : Value) (K : Value → Hp → Prop) (h : Hp) : Prop :=
  vA (some (Obj.cells (Value.cells a0) 26 (0, 0), ptrV)) (fun v2 h1 =>
  vP (ldN 9 v2 h1) fun v6 =>
  CallH Try.prog 28 #[v6, a1] (fun v8 h2 =>
  vP (lenV v8) fun v10 =>
  vP (binV .gtr v10 (Value.int .i64 0)) fun v11 =>
  vB v11 (vP (iaS 1 v8 (Value.int .i64 0)) fun v13 =>
    vP (ld1 v13 h2) fun v14 =>
    K v14 h2)
  (K (Value.int .i64 0) h2)) h1) h
theorem D29_eq (a0 a1 : Value) (K : Value → Hp → Prop) (h : Hp) : fnVC Try.prog Try.f29 x29 [a0, a1] K h = D29 a0 a1 K h := by kernel_rfl
theorem D29_ok : fnOk Try.prog Try.f29 x29 2 = true := by kernel_rfl
theorem C29 {a0 a1 : Value} {K : Value → Hp → Prop} {h : Hp} (hh : D29 a0 a1 K h) : CallH Try.prog 29 #[a0, a1] K h :=
  callH_of mixed Try.func29 x29 [a0, a1] D29_ok (D29_eq a0 a1 K h ▸ hh)

/- 30: treadmill/audit.Text; slots: 0 code, 1 code, 3 l -/
def x30 : Ann := (.seq (.reg [] [(0, [])]) (.seq (.seq (.reg [] [(0, []), (1, [])]) (.seq (.reg [] [(0, []), (1, []), (2, []), (3, []), (4, []), (5, []), (6, []), (7, [])]) (.cond (.seq (.reg [] [(0, []), (1, []), (2, []), (3, []), (4, []), (5, []), (6, [])]) .leaf) .leaf))) (.seq (.reg [] [(0, [])]) .leaf)))
def D30 (a0 : Value) (K : Value → Hp → Prop) (h : Hp) : Prop :=
  CallH Try.prog 57 #[] (fun v4 h1 =>
  vP (binV .geq a0 (Value.int .i64 1)) fun v6 =>
  vP (gdW (gB v6 true) (some a0)) fun v8 =>
  vP (gdW (gB v6 true) (some v4)) fun v9 =>
  vP (gdW (gB v6 true) (lenV v9)) fun v10 =>
  vP (gdW (gB v6 true) (binV .leq v8 v10)) fun v11 =>
  vP (pickV v6 v11 (Value.bool false)) fun v12 =>
  vB v12 (vP (binV .sub a0 (Value.int .i64 1)) fun v15 =>
    vP (iaS 2 v4 v15) fun v16 =>
    vP (faV 0 v16) fun v17 =>
    vP (ld1 v17 h1) fun v18 =>
    K v18 h1)
  (K (Value.string ⟨#[]⟩) h1)) h
theorem D30_eq (a0 : Value) (K : Value → Hp → Prop) (h : Hp) : fnVC Try.prog Try.f30 x30 [a0] K h = D30 a0 K h := by kernel_rfl
theorem D30_ok : fnOk Try.prog Try.f30 x30 1 = true := by kernel_rfl
theorem C30 {a0 : Value} {K : Value → Hp → Prop} {h : Hp} (hh : D30 a0 K h) : CallH Try.prog 30 #[a0] K h :=
  callH_of mixed Try.func30 x30 [a0] D30_ok (D30_eq a0 K h ▸ hh)

/- 44: slices.Contains[[]int,int]; slots: 0 s, 1 v, 2 s, 3 v -/
def x44 : Ann := (.seq (.reg [] [(0, [])]) (.seq (.reg [] [(0, []), (1, []), (2, []), (3, []), (4, [])]) .leaf))
def D44 (a0 a1 : Value) (K : Value → Hp → Prop) (h : Hp) : Prop :=
  CallH Try.prog 70 #[a0, a1] (fun v7 h1 =>
  vP (binV .geq v7 (Value.int .i64 0)) fun v8 =>
  K v8 h1) h
theorem D44_eq (a0 a1 : Value) (K : Value → Hp → Prop) (h : Hp) : fnVC Try.prog Try.f44 x44 [a0, a1] K h = D44 a0 a1 K h := by kernel_rfl
theorem D44_ok : fnOk Try.prog Try.f44 x44 2 = true := by kernel_rfl
theorem C44 {a0 a1 : Value} {K : Value → Hp → Prop} {h : Hp} (hh : D44 a0 a1 K h) : CallH Try.prog 44 #[a0, a1] K h :=
  callH_of mixed Try.func44 x44 [a0, a1] D44_ok (D44_eq a0 a1 K h ▸ hh)

/- 70: slices.Index[[]int,int]; slots: 0 s, 1 v, 2 s, 3 v, 5 i -/
def x70 : Ann := (.seq (.reg [] [(0, [])]) (.seq (.seq (.reg [] [(0, []), (1, []), (2, [])]) (.blk (.loop [8] [9, 10, 5, 11, 12, 13, 14, 15, 16, 17, 4, 18, 8] (.seq (.reg [] [(0, [])]) (.seq (.cond .leaf .leaf) (.seq (.blk (.seq (.reg [] [(0, []), (1, [])]) (.seq (.reg [] [(0, []), (1, []), (2, []), (3, []), (4, []), (5, [])]) (.cond (.seq (.reg [] [(0, []), (1, [])]) .leaf) .leaf)))) (.reg [] [(0, []), (1, [])]))))))) (.seq (.reg [] [(0, [])]) .leaf)))
def D70 (a0 a1 : Value) (K : Value → Hp → Prop) (h : Hp) : Prop :=
  vP (lenV a0) fun v7 =>
  ∃ I1 : Nat → List Value → Hp → Prop, (∃ n, I1 n [(Value.int .i64 0)] h) ∧
  ∀ n1 : Nat, ∀ v8 : Value, ∀ h1 : Hp, I1 n1 [v8] h1 → ∀ g1 : St,
    vP (binV .lss v8 v7) fun v9 =>
    vB v9 (vP (iaS 1 a0 v8) fun v14 =>
      vP (ld1 v14 h1) fun v15 =>
      vP (eqV 1 false a1 v15) fun v16 =>
      vB v16 (K v8 h1)
      (vP (binV .add v8 (Value.int .i64 1)) fun v18 =>
      ∃ m1, m1 < n1 ∧ I1 m1 [v18] h1))
    (K (Value.int .i64 (-1)) h1)
theorem D70_eq (a0 a1 : Value) (K : Value → Hp → Prop) (h : Hp) : fnVC Try.prog Try.f70 x70 [a0, a1] K h = D70 a0 a1 K h := by kernel_rfl
theorem D70_ok : fnOk Try.prog Try.f70 x70 2 = true := by kernel_rfl
theorem C70 {a0 a1 : Value} {K : Value → Hp → Prop} {h : Hp} (hh : D70 a0 a1 K h) : CallH Try.prog 70 #[a0, a1] K h :=
  callH_of mixed Try.func70 x70 [a0, a1] D70_ok (D70_eq a0 a1 K h ▸ hh)

/- 26: treadmill/treadmilllaw30.told; slots:  -/
def x26 : Ann := (.seq (.reg [] [(0, [])]) (.seq (.reg [] [(0, []), (1, []), (2, []), (3, []), (4, []), (5, []), (6, []), (7, []), (8, []), (9, []), (10, []), (11, []), (12, []), (13, []), (14, []), (15, []), (16, []), (17, []), (18, []), (19, []), (20, []), (21, []), (22, []), (23, []), (24, []), (25, []), (26, [])]) .leaf))
def D26 (K : Value → Hp → Prop) (h : Hp) : Prop :=
  vP ((bldV #[(Value.int .i64 0), (Value.int .i64 0), (Value.int .i64 0), (Value.slice none 0 0), (Value.slice none 0 0), (Value.slice none 0 0), (Value.int .i64 0), (Value.int .i64 0), (Value.int .i64 0)] []).map Value.agg) fun v1 =>
  CallH Try.prog 29 #[v1, (Value.int .i64 4)] (fun v2 h1 =>
  vP (eqV 1 false v2 (Value.int .i64 0)) fun v3 =>
  vE (gB v3 true) (vA ((bldV #[(Value.int .i64 0)] [(0, 1, (Value.int .i64 64))]).map fun c => (Obj.cells c 3 (0, 0), fun r => Value.slice (some ⟨r, 0, none⟩) 1 1))) (fun v5 h2 =>
  vP (gdW (gB v3 true) ((bldV #[(Value.int .i64 0), (Value.int .i64 0), (Value.int .i64 0), (Value.slice none 0 0), (Value.slice none 0 0), (Value.slice none 0 0), (Value.int .i64 0), (Value.int .i64 0), (Value.int .i64 0)] [(3, 1, v5)]).map Value.agg)) fun v6 =>
  vE (gB v3 true) (CallH Try.prog 29 #[v6, (Value.int .i64 4)]) (fun v7 h3 =>
  vP (gdW (gB v3 true) (eqV 1 false v7 (Value.int .i64 1))) fun v8 =>
  vP (pickV v3 v8 (Value.bool false)) fun v9 =>
  vP (gdW (gB v9 true) ((bldV #[(Value.int .i64 0), (Value.int .i64 0), (Value.int .i64 0), (Value.slice none 0 0), (Value.slice none 0 0), (Value.slice none 0 0), (Value.int .i64 0), (Value.int .i64 0), (Value.int .i64 0)] [(0, 1, (Value.int .i64 9))]).map Value.agg)) fun v11 =>
  vE (gB v9 true) (CallH Try.prog 29 #[v11, (Value.int .i64 4)]) (fun v12 h4 =>
  vP (gdW (gB v9 true) (eqV 1 false v12 (Value.int .i64 7))) fun v13 =>
  vP (pickV v9 v13 (Value.bool false)) fun v14 =>
  vE (gB v14 true) (CallH Try.prog 30 #[(Value.int .i64 1)]) (fun v16 h5 =>
  vP (gdW (gB v14 true) (eqV 3 false v16 (Value.string ⟨#[108, 111, 115, 116]⟩))) fun v17 =>
  vP (pickV v14 v17 (Value.bool false)) fun v18 =>
  vE (gB v18 true) (CallH Try.prog 30 #[(Value.int .i64 8)]) (fun v20 h6 =>
  vP (gdW (gB v18 true) (eqV 3 false v20 (Value.string ⟨#[109, 97, 114, 107, 101, 100]⟩))) fun v21 =>
  vP (pickV v18 v21 (Value.bool false)) fun v22 =>
  vE (gB v22 true) (CallH Try.prog 30 #[(Value.int .i64 9)]) (fun v24 h7 =>
  vP (gdW (gB v22 true) (eqV 3 false v24 (Value.string ⟨#[]⟩))) fun v25 =>
  vP (pickV v22 v25 (Value.bool false)) fun v26 =>
  K v26 h7) h6) h5) h4) h3) h2) h1) h
theorem D26_eq (K : Value → Hp → Prop) (h : Hp) : fnVC Try.prog Try.f26 x26 [] K h = D26  K h := by kernel_rfl
theorem D26_ok : fnOk Try.prog Try.f26 x26 0 = true := by kernel_rfl
theorem C26 {K : Value → Hp → Prop} {h : Hp} (hh : D26  K h) : CallH Try.prog 26 #[] K h :=
  callH_of mixed Try.func26 x26 [] D26_ok (D26_eq  K h ▸ hh)

/- 8: treadmill/treadmilllaw30.AuditRules; slots: 0 v, 1 ps, 2 code, 3 v, 4 ps, 5 code, 7 want, 8 first -/
def x8 : Ann := (.seq (.reg [] [(0, []), (1, [])]) (.seq (.seq (.reg [] [(0, []), (1, []), (2, [])]) (.cond (.seq (.reg [] [(0, []), (1, [])]) .leaf) .leaf)) (.seq (.reg [] [(0, []), (1, []), (2, []), (3, [])]) (.seq (.reg [] [(0, [])]) (.join [8] [16, 17, 18, 19, 20, 21, 8] (.seq (.reg [] [(0, []), (1, []), (2, [])]) (.cond (.reg [] [(0, []), (1, []), (2, []), (3, [])]) .leaf)) (.seq (.reg [] [(0, []), (1, []), (2, []), (3, []), (4, []), (5, []), (6, []), (7, []), (8, []), (9, []), (10, []), (11, []), (12, []), (13, []), (14, []), (15, []), (16, []), (17, []), (18, []), (19, []), (20, []), (21, []), (22, []), (23, []), (24, []), (25, []), (26, []), (27, []), (28, []), (29, []), (30, []), (31, [])]) .leaf))))))
def D8 (a0 a1 a2 : Value) (K : Value → Hp → Prop) (h : Hp) : Prop :=
  vA (some (Obj.cells (Value.cells a0) 26 (0, 0), ptrV)) (fun v3 h1 =>
  vP (ldN 9 v3 h1) fun v9 =>
  CallH Try.prog 11 #[v9] (fun v10 h2 =>
  vP (unV .not v10) fun v11 =>
  vB v11 (CallH Try.prog 26 #[] (fun v12 h3 =>
    K v12 h3) h2)
  (vP (ldN 9 v3 h2) fun v13 =>
  CallH Try.prog 27 #[v13, a1] (fun v15 h4 =>
  ∀ J1 : List Value → Hp → Prop, (∀ v8 : Value, ∀ h5 : Hp, (∀ g1 : St,
    CallH Try.prog 26 #[] (fun v22 h6 =>
    vP (gdW (gB v22 true) (ldN 9 v3 h6)) fun v24 =>
    vP (gdW (gB v22 true) (some a1)) fun v25 =>
    vE (gB v22 true) (CallH Try.prog 28 #[v24, v25]) (fun v26 h7 =>
    vP (gdW (gB v22 true) (some v15)) fun v27 =>
    vE (gB v22 true) (CallH Try.prog 14 #[v26, v27]) (fun v28 h8 =>
    vP (pickV v22 v28 (Value.bool false)) fun v29 =>
    vP (gdW (gB v29 true) (ldN 9 v3 h8)) fun v31 =>
    vP (gdW (gB v29 true) (some a1)) fun v32 =>
    vE (gB v29 true) (CallH Try.prog 29 #[v31, v32]) (fun v33 h9 =>
    vP (gdW (gB v29 true) (some v8)) fun v34 =>
    vP (gdW (gB v29 true) (eqV 1 false v33 v34)) fun v35 =>
    vP (pickV v29 v35 (Value.bool false)) fun v36 =>
    vP (gdW (gB v36 true) (some a2)) fun v38 =>
    vE (gB v36 true) (CallH Try.prog 30 #[v38]) (fun v39 h10 =>
    vP (gdW (gB v36 true) (some a2)) fun v40 =>
    vE (gB v36 true) (CallH Try.prog 31 #[v40]) (fun v41 h11 =>
    vP (gdW (gB v36 true) (eqV 3 false v39 v41)) fun v42 =>
    vP (pickV v36 v42 (Value.bool false)) fun v43 =>
    vP (gdW (gB v43 true) (some a2)) fun v45 =>
    vP (gdW (gB v43 true) (binV .rem v45 (Value.int .i64 10))) fun v46 =>
    vE (gB v43 true) (CallH Try.prog 30 #[v46]) (fun v47 h12 =>
    vP (gdW (gB v43 true) (some a2)) fun v48 =>
    vP (gdW (gB v43 true) (binV .rem v48 (Value.int .i64 10))) fun v49 =>
    vE (gB v43 true) (CallH Try.prog 31 #[v49]) (fun v50 h13 =>
    vP (gdW (gB v43 true) (eqV 3 false v47 v50)) fun v51 =>
    vP (pickV v43 v51 (Value.bool false)) fun v52 =>
    K v52 h13) h12) h11) h10) h9) h8) h7) h6) h5) → J1 [v8] h5) →
  vP (lenV v15) fun v17 =>
  vP (binV .gtr v17 (Value.int .i64 0)) fun v18 =>
  vB v18 (vP (iaS 1 v15 (Value.int .i64 0)) fun v20 =>
    vP (ld1 v20 h4) fun v21 =>
    J1 [v21] h4)
  (J1 [(Value.int .i64 0)] h4)) h2)) h1) h
theorem D8_eq (a0 a1 a2 : Value) (K : Value → Hp → Prop) (h : Hp) : fnVC Try.prog Try.f8 x8 [a0, a1, a2] K h = D8 a0 a1 a2 K h := by kernel_rfl
theorem D8_ok : fnOk Try.prog Try.f8 x8 3 = true := by kernel_rfl
theorem C8 {a0 a1 a2 : Value} {K : Value → Hp → Prop} {h : Hp} (hh : D8 a0 a1 a2 K h) : CallH Try.prog 8 #[a0, a1, a2] K h :=
  callH_of mixed Try.func8 x8 [a0, a1, a2] D8_ok (D8_eq a0 a1 a2 K h ▸ hh)

/- 9: treadmill/treadmilllaw30.AuditEach; slots: 0 rule, 1 ps, 2 rule, 3 ps, 5 k, 6 n, 7 stack, 8 v, 9 l, 10 word -/
def x9 : Ann := (.seq (.reg [] [(0, [])]) (.seq (.reg [] [(0, []), (1, []), (2, []), (3, []), (4, []), (5, []), (6, []), (7, []), (8, []), (9, []), (10, []), (11, [])]) (.seq (.reg [] [(0, [])]) (.seq (.reg [] [(0, []), (1, []), (2, []), (3, []), (4, []), (5, []), (6, []), (7, []), (8, []), (9, []), (10, []), (11, []), (12, []), (13, []), (14, []), (15, [])]) (.seq (.seq (.reg [] [(0, []), (1, []), (2, []), (3, []), (4, []), (5, []), (6, []), (7, []), (8, []), (9, []), (10, [])]) (.cond (.seq (.reg [] [(0, [])]) .leaf) .leaf)) (.join [] [46, 52, 51, 53, 54, 55, 57, 56, 58, 59, 60, 61, 62, 63, 64, 65, 66, 67, 69, 68, 70, 71, 72, 73, 74, 75, 77, 76, 78, 79, 80, 81, 83, 82, 84, 86, 85, 87, 88, 89, 90, 91, 93, 92, 94, 95, 96, 97, 98, 99, 100, 101, 102, 103, 47, 48, 49, 50] (.seq (.reg [] [(0, [])]) (.blk (.seq (.reg [] [(0, []), (1, [])]) (.cond (.reg [] [(0, []), (1, []), (2, []), (3, [])]) (.seq (.reg [] [(0, []), (1, [])]) (.cond (.seq (.reg [] [(0, []), (1, []), (2, []), (3, []), (4, [])]) (.reg [] [(0, []), (1, []), (2, []), (3, []), (4, []), (5, []), (6, [])])) (.seq (.reg [] [(0, []), (1, [])]) (.cond (.reg [0, 1, 0, 4, 12, 31, 63] [(0, []), (2, []), (1, []), (3, [1]), (4, []), (5, []), (6, [])]) (.seq (.reg [] [(0, []), (1, [])]) (.cond (.reg [] [(0, []), (1, []), (2, []), (3, []), (4, [])]) (.seq (.reg [] [(0, []), (1, [])]) (.cond (.reg [] [(0, []), (1, [])]) (.seq (.reg [] [(0, []), (1, [])]) (.cond (.seq (.reg [] [(0, []), (1, [])]) (.reg [] [(0, []), (1, []), (2, []), (3, []), (4, [])])) (.seq (.reg [] [(0, []), (1, [])]) (.cond (.reg [0, 1, 0, 4, 12, 28, 60, 124, 255, 511, 1023] [(0, []), (2, []), (1, []), (3, []), (4, []), (5, []), (6, []), (7, []), (8, []), (9, []), (10, [])]) (.reg [] [(0, []), (1, []), (2, []), (3, []), (4, [])]))))))))))))))))) (.seq (.reg [] [(0, []), (1, []), (2, []), (3, [])]) (.seq (.reg [] [(0, []), (1, []), (2, []), (3, []), (4, []), (5, [])]) (.seq (.reg [] [(0, []), (1, []), (2, []), (3, []), (4, []), (5, []), (6, []), (7, []), (8, []), (9, []), (10, []), (11, []), (12, []), (13, []), (14, []), (15, []), (16, []), (17, []), (18, []), (19, []), (20, []), (21, []), (22, []), (23, []), (24, []), (25, []), (26, [])]) .leaf)))))))))
def D9 (a0 a1 : Value) (K : Value → Hp → Prop) (h : Hp) : Prop :=
  vP (convV .u64 a0) fun v12 =>
  vP (binV .rem v12 (Value.int .u64 8)) fun v13 =>
  vP (convV .i64 v13) fun v14 =>
  vP (binV .add (Value.int .i64 1) v14) fun v15 =>
  vP (convV .u64 a1) fun v17 =>
  vP (binV .rem v17 (Value.int .u64 64)) fun v18 =>
  vP (convV .i64 v18) fun v19 =>
  vP (binV .add (Value.int .i64 1) v19) fun v20 =>
  vA ((bldV #[(Value.int .i64 0), (Value.int .i64 0)] [(0, 1, (Value.int .i64 64)), (1, 1, (Value.int .i64 0))]).map fun c => (Obj.cells c 3 (0, 0), fun r => Value.slice (some ⟨r, 0, none⟩) 2 2)) (fun v21 h1 =>
  cvW Try.prog (Value.func (.func 32) #[] #[]) #[] (fun v23 h2 =>
  vP ((bldV #[(Value.int .i64 0), (Value.int .i64 0), (Value.slice none 0 0)] [(0, 1, (Value.int .i64 2)), (1, 1, (Value.int .i64 0)), (2, 1, v23)]).map Value.agg) fun v24 =>
  cvW Try.prog (Value.func (.func 32) #[] #[]) #[] (fun v26 h3 =>
  vP ((bldV #[(Value.int .i64 0), (Value.int .i64 0), (Value.slice none 0 0)] [(0, 1, (Value.int .i64 3)), (1, 1, (Value.int .i64 (-1))), (2, 1, v26)]).map Value.agg) fun v27 =>
  vA ((bldV #[(Value.int .i64 0), (Value.int .i64 0), (Value.slice none 0 0), (Value.int .i64 0), (Value.int .i64 0), (Value.slice none 0 0)] [(0, 3, v24), (3, 3, v27)]).map fun c => (Obj.cells c 41 (0, 0), fun r => Value.slice (some ⟨r, 0, none⟩) 2 2)) (fun v28 h4 =>
  vA ((bldV #[(Value.int .i64 0)] [(0, 1, (Value.int .i64 68))]).map fun c => (Obj.cells c 3 (0, 0), fun r => Value.slice (some ⟨r, 0, none⟩) 1 1)) (fun v29 h5 =>
  vP ((bldV #[(Value.int .i64 0), (Value.slice none 0 0), (Value.bool false)] [(0, 1, (Value.int .i64 64)), (1, 1, v29)]).map Value.agg) fun v30 =>
  vA ((bldV #[(Value.int .i64 0), (Value.int .i64 0)] [(0, 1, (Value.int .i64 0)), (1, 1, (Value.int .i64 64))]).map fun c => (Obj.cells c 3 (0, 0), fun r => Value.slice (some ⟨r, 0, none⟩) 2 2)) (fun v31 h6 =>
  vP ((bldV #[(Value.int .i64 0), (Value.slice none 0 0), (Value.bool false)] [(0, 1, (Value.int .i64 68)), (1, 1, v31)]).map Value.agg) fun v32 =>
  vA ((bldV #[(Value.int .i64 0), (Value.slice none 0 0), (Value.bool false), (Value.int .i64 0), (Value.slice none 0 0), (Value.bool false)] [(0, 3, v30), (3, 3, v32)]).map fun c => (Obj.cells c 30 (0, 0), fun r => Value.slice (some ⟨r, 0, none⟩) 2 2)) (fun v33 h7 =>
  vP ((bldV #[(Value.int .i64 0), (Value.int .i64 0), (Value.int .i64 0), (Value.slice none 0 0), (Value.slice none 0 0), (Value.slice none 0 0), (Value.int .i64 0), (Value.int .i64 0), (Value.int .i64 0)] [(0, 1, (Value.int .i64 0)), (3, 1, v21), (4, 1, v28), (5, 1, v33)]).map Value.agg) fun v34 =>
  vA (some (Obj.cells #[(Value.int .i64 0), (Value.int .i64 0), (Value.int .i64 0), (Value.slice none 0 0), (Value.slice none 0 0), (Value.slice none 0 0), (Value.int .i64 0), (Value.int .i64 0), (Value.int .i64 0)] 26 (0, 0), ptrV)) (fun v8 h8 =>
  stN 9 v8 v34 (fun _ h9 =>
  vP (ldN 9 v8 h9) fun v35 =>
  CallH Try.prog 29 #[v35, v20] (fun v37 h10 =>
  vP (eqV 1 true v37 (Value.int .i64 0)) fun v38 =>
  vP (gdW (gB v38 false) (ldN 9 v8 h10)) fun v40 =>
  vP (gdW (gB v38 false) (some v20)) fun v41 =>
  vE (gB v38 false) (CallH Try.prog 28 #[v40, v41]) (fun v42 h11 =>
  vP (gdW (gB v38 false) (lenV v42)) fun v43 =>
  vP (gdW (gB v38 false) (eqV 1 true v43 (Value.int .i64 0))) fun v44 =>
  vP (pickV v38 (Value.bool true) v44) fun v45 =>
  vB v45 (K (Value.bool false) h11)
  (∀ J1 : List Value → Hp → Prop, (∀ h12 : Hp, (∀ g1 : St,
    vP (ldN 9 v8 h12) fun v104 =>
    CallH Try.prog 28 #[v104, v20] (fun v106 h13 =>
    vA ((bldV #[(Value.string ⟨#[]⟩), (Value.string ⟨#[]⟩), (Value.string ⟨#[]⟩), (Value.string ⟨#[]⟩), (Value.string ⟨#[]⟩), (Value.string ⟨#[]⟩), (Value.string ⟨#[]⟩), (Value.string ⟨#[]⟩)] [(0, 1, (Value.string ⟨#[108, 111, 115, 116]⟩)), (1, 1, (Value.string ⟨#[111, 98, 106, 101, 99, 116, 115]⟩)), (2, 1, (Value.string ⟨#[116, 119, 105, 99, 101]⟩)), (3, 1, (Value.string ⟨#[112, 108, 97, 99, 101, 115]⟩)), (4, 1, (Value.string ⟨#[119, 111, 114, 107]⟩)), (5, 1, (Value.string ⟨#[119, 104, 105, 116, 101]⟩)), (6, 1, (Value.string ⟨#[110, 117, 109, 98, 101, 114, 115]⟩)), (7, 1, (Value.string ⟨#[109, 97, 114, 107, 101, 100]⟩))]).map fun c => (Obj.cells c 9 (0, 0), fun r => Value.slice (some ⟨r, 0, none⟩) 8 8)) (fun v107 h14 =>
    vP (binV .sub v15 (Value.int .i64 1)) fun v109 =>
    vP (iaS 1 v107 v109) fun v110 =>
    vP (ld1 v110 h14) fun v111 =>
    CallH Try.prog 26 #[] (fun v112 h15 =>
    vP (gdW (gB v112 true) (some v106)) fun v114 =>
    vP (gdW (gB v112 true) (lenV v114)) fun v115 =>
    vP (gdW (gB v112 true) (eqV 1 false v115 (Value.int .i64 1))) fun v116 =>
    vP (pickV v112 v116 (Value.bool false)) fun v117 =>
    vP (gdW (gB v117 true) (some v106)) fun v119 =>
    vP (gdW (gB v117 true) (iaS 1 v119 (Value.int .i64 0))) fun v120 =>
    vP (gdW (gB v117 true) (ld1 v120 h15)) fun v121 =>
    vP (gdW (gB v117 true) (some v15)) fun v122 =>
    vP (gdW (gB v117 true) (eqV 1 false v121 v122)) fun v123 =>
    vP (pickV v117 v123 (Value.bool false)) fun v124 =>
    vP (gdW (gB v124 true) (ldN 9 v8 h15)) fun v126 =>
    vP (gdW (gB v124 true) (some v20)) fun v127 =>
    vE (gB v124 true) (CallH Try.prog 29 #[v126, v127]) (fun v128 h16 =>
    vP (gdW (gB v124 true) (some v15)) fun v129 =>
    vP (gdW (gB v124 true) (eqV 1 false v128 v129)) fun v130 =>
    vP (pickV v124 v130 (Value.bool false)) fun v131 =>
    vP (gdW (gB v131 true) (some v15)) fun v133 =>
    vE (gB v131 true) (CallH Try.prog 30 #[v133]) (fun v134 h17 =>
    vP (gdW (gB v131 true) (some v111)) fun v135 =>
    vP (gdW (gB v131 true) (eqV 3 false v134 v135)) fun v136 =>
    vP (pickV v131 v136 (Value.bool false)) fun v137 =>
    K v137 h17) h16) h15) h14) h13) h12) → J1 [] h12) →
  vP (eqV 1 false v15 (Value.int .i64 1)) fun v52 =>
  vB v52 (vP (faV 3 v8) fun v53 =>
    vP (ld1 v53 h11) fun v54 =>
    vP (iaS 1 v54 (Value.int .i64 1)) fun v55 =>
    st1 v55 (Value.int .i64 69) (fun _ h18 =>
    J1 [] h18) h11)
  (vP (eqV 1 false v15 (Value.int .i64 2)) fun v57 =>
  vB v57 (vP (faV 5 v8) fun v58 =>
    vP (ld1 v58 h11) fun v59 =>
    vP (iaS 3 v59 (Value.int .i64 1)) fun v60 =>
    vP (faV 0 v60) fun v61 =>
    st1 v61 (Value.int .i64 64) (fun _ h19 =>
    vP (faV 5 v8) fun v62 =>
    vP (ld1 v62 h19) fun v63 =>
    vP (iaS 3 v63 (Value.int .i64 0)) fun v64 =>
    vP (faV 1 v64) fun v65 =>
    vP (ld1 v65 h19) fun v66 =>
    vP (iaS 1 v66 (Value.int .i64 0)) fun v67 =>
    st1 v67 (Value.int .i64 0) (fun _ h20 =>
    J1 [] h20) h19) h11)
  (vP (eqV 1 false v15 (Value.int .i64 3)) fun v69 =>
  vB v69 (vP (faV 4 v8) fun v70 =>
    vP (ld1 v70 h11) fun v71 =>
    cvW Try.prog (Value.func (.func 32) #[] #[]) #[] (fun v73 h21 =>
    (ld1 v70 h21) = some v71 ∧ (vP ((bldV #[(Value.int .i64 0), (Value.int .i64 0), (Value.slice none 0 0)] [(0, 1, (Value.int .i64 2)), (1, 1, (Value.int .i64 0)), (2, 1, v73)]).map Value.agg) fun v74 =>
    vP (iaS 3 v71 (Value.int .i64 1)) fun v75 =>
    stN 3 v75 v74 (fun _ h22 =>
    J1 [] h22) h21)) h11)
  (vP (eqV 1 false v15 (Value.int .i64 4)) fun v77 =>
  vB v77 (vP (faV 4 v8) fun v78 =>
    vP (ld1 v78 h11) fun v79 =>
    vP (iaS 3 v79 (Value.int .i64 1)) fun v80 =>
    vP (faV 1 v80) fun v81 =>
    st1 v81 (Value.int .i64 0) (fun _ h23 =>
    J1 [] h23) h11)
  (vP (eqV 1 false v15 (Value.int .i64 5)) fun v83 =>
  vB v83 (vP (faV 7 v8) fun v84 =>
    st1 v84 (Value.int .i64 1) (fun _ h24 =>
    J1 [] h24) h11)
  (vP (eqV 1 false v15 (Value.int .i64 6)) fun v86 =>
  vB v86 (vP (faV 0 v8) fun v87 =>
    st1 v87 (Value.int .i64 2) (fun _ h25 =>
    vP (faV 5 v8) fun v88 =>
    vP (ld1 v88 h25) fun v89 =>
    vP (iaS 3 v89 (Value.int .i64 0)) fun v90 =>
    vP (faV 2 v90) fun v91 =>
    st1 v91 (Value.bool true) (fun _ h26 =>
    J1 [] h26) h25) h11)
  (vP (eqV 1 false v15 (Value.int .i64 7)) fun v93 =>
  vB v93 (vP (faV 4 v8) fun v94 =>
    vP (faV 4 v8) fun v96 =>
    vP (ld1 v94 h11) fun v95 =>
    vP (ld1 v96 h11) fun v97 =>
    vP (iaS 3 v97 (Value.int .i64 0)) fun v98 =>
    vP (faV 2 v98) fun v99 =>
    vP (ld1 v99 h11) fun v100 =>
    vP (slV 1 v100 none (some (Value.int .i64 15)) none) fun v101 =>
    vP (iaS 3 v95 (Value.int .i64 0)) fun v102 =>
    vP (faV 2 v102) fun v103 =>
    st1 v103 v101 (fun _ h27 =>
    J1 [] h27) h11)
  (vP (faV 5 v8) fun v47 =>
  vP (ld1 v47 h11) fun v48 =>
  vP (iaS 3 v48 (Value.int .i64 1)) fun v49 =>
  vP (faV 2 v49) fun v50 =>
  st1 v50 (Value.bool true) (fun _ h28 =>
  J1 [] h28) h11))))))))) h10) h9) h8) h7) h6) h5) h4) h3) h2) h1) h
theorem D9_eq (a0 a1 : Value) (K : Value → Hp → Prop) (h : Hp) : fnVC Try.prog Try.f9 x9 [a0, a1] K h = D9 a0 a1 K h := by kernel_rfl
theorem D9_ok : fnOk Try.prog Try.f9 x9 2 = true := by kernel_rfl
theorem C9 {a0 a1 : Value} {K : Value → Hp → Prop} {h : Hp} (hh : D9 a0 a1 K h) : CallH Try.prog 9 #[a0, a1] K h :=
  callH_of mixed Try.func9 x9 [a0, a1] D9_ok (D9_eq a0 a1 K h ▸ hh)

/- 32: treadmill/treadmilllaw30.AuditEach$1; slots:  -/
def x32 : Ann := (.seq (.reg [] [(0, [])]) (.seq (.reg [] [(0, []), (1, [])]) .leaf))
def D32 (K : Value → Hp → Prop) (h : Hp) : Prop :=
  vA (msV 8 1 3 #[(Value.int .i64 0)] (Value.int .i64 16) (Value.int .i64 16)) (fun v1 h1 =>
  K v1 h1) h
theorem D32_eq (K : Value → Hp → Prop) (h : Hp) : fnVC Try.prog Try.f32 x32 [] K h = D32  K h := by kernel_rfl
theorem D32_ok : fnOk Try.prog Try.f32 x32 0 = true := by kernel_rfl
theorem C32 {K : Value → Hp → Prop} {h : Hp} (hh : D32  K h) : CallH Try.prog 32 #[] K h :=
  callH_of mixed Try.func32 x32 [] D32_ok (D32_eq  K h ▸ hh)

/- 11: treadmill/treadmilllaw29.Few; slots: 0 v, 1 v, 3 i, 4 i -/
def x11 : Ann := (.seq (.reg [] [(0, []), (1, [])]) (.seq (.seq (.reg [] [(0, [])]) (.blk (.loop [3] [5, 6, 7, 8, 9, 12, 13, 14, 15, 16, 17, 18, 19, 2, 10, 11, 3] (.seq (.seq (.reg [] [(0, []), (1, []), (2, []), (3, []), (4, [])]) (.cond .leaf .leaf)) (.seq (.blk (.seq (.reg [] [(0, []), (1, []), (2, []), (3, []), (4, []), (5, []), (6, []), (7, [])]) (.cond (.seq (.reg [] [(0, [])]) .leaf) .leaf))) (.reg [] [(0, []), (1, []), (2, [])])))))) (.seq (.seq (.reg [] [(0, [])]) (.blk (.loop [4] [20, 21, 22, 23, 24, 27, 28, 29, 30, 31, 32, 33, 34, 2, 25, 26, 4] (.seq (.seq (.reg [] [(0, []), (1, []), (2, []), (3, []), (4, [])]) (.cond .leaf .leaf)) (.seq (.blk (.seq (.reg [] [(0, []), (1, []), (2, []), (3, []), (4, []), (5, []), (6, []), (7, [])]) (.cond (.seq (.reg [] [(0, [])]) .leaf) .leaf))) (.reg [] [(0, []), (1, []), (2, [])])))))) (.seq (.reg [] [(0, []), (1, []), (2, []), (3, []), (4, []), (5, []), (6, []), (7, []), (8, []), (9, []), (10, []), (11, []), (12, []), (13, []), (14, []), (15, []), (16, [])]) .leaf))))
def D11 (a0 : Value) (K : Value → Hp → Prop) (h : Hp) : Prop :=
  vA (some (Obj.cells (Value.cells a0) 26 (0, 0), ptrV)) (fun v1 h1 =>
  ∃ I1 : Nat → List Value → Hp → Prop, (∃ n, I1 n [(Value.int .i64 0)] h1) ∧
  ∀ n1 : Nat, ∀ v3 : Value, ∀ h2 : Hp, I1 n1 [v3] h2 → ∀ g1 : St,
    vP (faV 5 v1) fun v6 =>
    vP (ld1 v6 h2) fun v7 =>
    vP (lenV v7) fun v8 =>
    vP (binV .lss v3 v8) fun v9 =>
    vB v9 (vP (faV 5 v1) fun v12 =>
      vP (ld1 v12 h2) fun v13 =>
      vP (iaS 3 v13 v3) fun v15 =>
      vP (faV 1 v15) fun v16 =>
      vP (ld1 v16 h2) fun v17 =>
      vP (lenV v17) fun v18 =>
      vP (binV .gtr v18 (Value.int .i64 300)) fun v19 =>
      vB v19 (K (Value.bool false) h2)
      (vP (binV .add v3 (Value.int .i64 1)) fun v11 =>
      ∃ m1, m1 < n1 ∧ I1 m1 [v11] h2))
    (∃ I2 : Nat → List Value → Hp → Prop, (∃ n, I2 n [(Value.int .i64 0)] h2) ∧
    ∀ n2 : Nat, ∀ v4 : Value, ∀ h3 : Hp, I2 n2 [v4] h3 → ∀ g2 : St,
      vP (faV 4 v1) fun v21 =>
      vP (ld1 v21 h3) fun v22 =>
      vP (lenV v22) fun v23 =>
      vP (binV .lss v4 v23) fun v24 =>
      vB v24 (vP (faV 4 v1) fun v27 =>
        vP (ld1 v27 h3) fun v28 =>
        vP (iaS 3 v28 v4) fun v30 =>
        vP (faV 2 v30) fun v31 =>
        vP (ld1 v31 h3) fun v32 =>
        vP (lenV v32) fun v33 =>
        vP (binV .gtr v33 (Value.int .i64 40)) fun v34 =>
        vB v34 (K (Value.bool false) h3)
        (vP (binV .add v4 (Value.int .i64 1)) fun v26 =>
        ∃ m2, m2 < n2 ∧ I2 m2 [v26] h3))
      (vP (faV 5 v1) fun v35 =>
      vP (ld1 v35 h3) fun v36 =>
      vP (lenV v36) fun v37 =>
      vP (binV .leq v37 (Value.int .i64 40)) fun v38 =>
      vP (gdW (gB v38 true) (faV 4 v1)) fun v40 =>
      vP (gdW (gB v38 true) (ld1 v40 h3)) fun v41 =>
      vP (gdW (gB v38 true) (lenV v41)) fun v42 =>
      vP (gdW (gB v38 true) (binV .leq v42 (Value.int .i64 40))) fun v43 =>
      vP (pickV v38 v43 (Value.bool false)) fun v44 =>
      vP (gdW (gB v44 true) (faV 3 v1)) fun v46 =>
      vP (gdW (gB v44 true) (ld1 v46 h3)) fun v47 =>
      vP (gdW (gB v44 true) (lenV v47)) fun v48 =>
      vP (gdW (gB v44 true) (binV .leq v48 (Value.int .i64 40))) fun v49 =>
      vP (pickV v44 v49 (Value.bool false)) fun v50 =>
      K v50 h3))) h
theorem D11_eq (a0 : Value) (K : Value → Hp → Prop) (h : Hp) : fnVC Try.prog Try.f11 x11 [a0] K h = D11 a0 K h := by kernel_rfl
theorem D11_ok : fnOk Try.prog Try.f11 x11 1 = true := by kernel_rfl
theorem C11 {a0 : Value} {K : Value → Hp → Prop} {h : Hp} (hh : D11 a0 K h) : CallH Try.prog 11 #[a0] K h :=
  callH_of mixed Try.func11 x11 [a0] D11_ok (D11_eq a0 K h ▸ hh)

end Go.Proofs
