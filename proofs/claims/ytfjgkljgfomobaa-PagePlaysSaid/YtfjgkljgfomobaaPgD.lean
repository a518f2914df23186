/-
  The conditions of page's functions, as the printer wrote them out of the dump; the kernel checks that each is the function's own.
-/
import Derived.Test.YtfjgkljgfomobaaV7
import Derived.Test.YtfjgkljgfomobaaProg
set_option linter.unusedVariables false
set_option linter.unusedSimpArgs false
namespace Go.Proofs
open Go.Sl
theorem mixed : Try.prog.follows .mixedOrders = true := by kernel_rfl
/- 8: treadmill/page.New; slots: 0 n, 1 n, 3 p -/
def x8 : Ann := (.seq (.reg [] [(0, [])]) (.seq (.reg [] [(0, []), (1, []), (2, []), (3, []), (4, []), (5, [])]) (.join [] [9, 10, 11, 12, 13, 14, 15, 16, 17, 18, 19, 20, 21, 22, 23] (.seq (.reg [] [(0, []), (1, []), (2, []), (3, []), (4, [])]) (.cond (.reg [] [(0, []), (1, []), (2, []), (3, []), (4, []), (5, []), (6, []), (7, []), (8, []), (9, []), (10, [])]) .leaf)) (.seq (.reg [] [(0, []), (1, [])]) .leaf))))
def D8 (a0 : Value) (K : Value → Hp → Prop) (h : Hp) : Prop :=
  vP (max2V a0 (Value.int .i64 1)) fun v5 =>
  vP (min2V v5 (Value.int .i64 262144)) fun v6 =>
  vP ((bldV #[(Value.int .i64 0), (Value.slice none 0 0)] [(0, 1, v6)]).map Value.agg) fun v7 =>
  vA (some (Obj.cells (Value.cells v7) 47 (0, 0), ptrV)) (fun v8 h1 =>
  ∀ J1 : List Value → Hp → Prop, (∀ h2 : Hp, (∀ g1 : St,
    K v8 h2) → J1 [] h2) →
  vP (nilV v8) fun v10 =>
  vP (faV 0 v10) fun v11 =>
  vP (ld1 v11 h1) fun v12 =>
  vP (binV .gtr v12 (Value.int .i64 1)) fun v13 =>
  vB v13 (vP (nilV v8) fun v16 =>
    vP (faV 0 v16) fun v17 =>
    vP (ld1 v17 h1) fun v18 =>
    vP (binV .sub v18 (Value.int .i64 1)) fun v19 =>
    vP ((bldV #[(Value.int .i64 0), (Value.int .i64 0)] [(0, 1, (Value.int .i64 1)), (1, 1, v19)]).map Value.agg) fun v20 =>
    vA ((bldV #[(Value.int .i64 0), (Value.int .i64 0)] [(0, 2, v20)]).map fun c => (Obj.cells c 34 (0, 0), fun r => Value.slice (some ⟨r, 0, none⟩) 1 1)) (fun v21 h3 =>
    vP (nilV v8) fun v22 =>
    vP (faV 1 v22) fun v23 =>
    st1 v23 v21 (fun _ h4 =>
    J1 [] h4) h3) h1)
  (J1 [] h1)) h
theorem D8_eq (a0 : Value) (K : Value → Hp → Prop) (h : Hp) : fnVC Try.prog Try.f8 x8 [a0] K h = D8 a0 K h := by kernel_rfl
theorem D8_ok : fnOk Try.prog Try.f8 x8 1 = true := by kernel_rfl
theorem C8 {a0 : Value} {K : Value → Hp → Prop} {h : Hp} (hh : D8 a0 K h) : CallH Try.prog 8 #[a0] K h :=
  callH_of mixed Try.func8 x8 [a0] D8_ok (D8_eq a0 K h ▸ hh)

/- 9: (*treadmill/page.Pages).Alloc; slots: 0 p, 1 k, 2 p, 3 k, 6 h, 7 _, 8 r, 9 best, 10 i -/
def x9 : Ann := (.seq (.reg [] [(0, []), (1, [])]) (.seq (.seq (.reg [] [(0, []), (1, []), (2, []), (3, []), (4, []), (5, [])]) (.cond (.seq (.reg [] [(0, []), (1, [])]) .leaf) .leaf)) (.seq (.reg [] [(0, [])]) (.seq (.seq (.reg [] [(0, []), (1, []), (2, []), (3, []), (4, []), (5, [])]) (.blk (.loop [22] [23, 24, 25, 8, 26, 27, 28, 29, 30, 31, 32, 33, 34, 22] (.seq (.reg [] [(0, [])]) (.seq (.cond .leaf .leaf) (.join [] [24, 25, 8, 26, 27, 28, 29, 30, 31, 32, 33] (.blk (.seq (.reg [] [(0, []), (1, []), (2, []), (3, [])]) (.seq (.reg [] [(0, []), (1, []), (2, []), (3, [])]) (.cond (.reg [] [(0, []), (1, []), (2, []), (3, [])]) .leaf)))) (.reg [] [(0, []), (1, [])]))))))) (.seq (.seq (.reg [] [(0, []), (1, []), (2, [])]) (.cond (.seq (.reg [] [(0, []), (1, [])]) .leaf) .leaf)) (.seq (.reg [] [(0, []), (1, []), (2, []), (3, []), (4, [])]) (.seq (.reg [0, 1, 3, 7, 0, 31, 63] [(0, []), (1, []), (2, []), (3, []), (4, []), (5, []), (6, [])]) (.join [] [47, 48, 49, 50, 51, 52, 53, 54, 55, 56, 57, 58, 59, 60, 61, 62, 63, 64, 65, 66, 67, 68, 69, 70, 71, 72, 73, 74, 75, 76] (.seq (.reg [] [(0, []), (1, []), (2, []), (3, [])]) (.cond (.reg [] [(0, []), (1, []), (2, []), (3, []), (4, []), (5, []), (6, []), (7, []), (8, []), (9, []), (10, []), (11, [])]) (.reg [0, 1, 3, 7, 0, 0, 32, 0, 224, 0, 512, 0, 3584, 8160, 16383, 32767] [(0, []), (1, []), (2, []), (4, []), (5, []), (7, []), (9, []), (11, []), (3, []), (6, []), (8, []), (10, []), (12, []), (13, []), (14, []), (15, [])]))) (.seq (.reg [] [(0, []), (1, []), (2, []), (3, [])]) .leaf)))))))))
def D9 (a0 a1 : Value) (K : Value → Hp → Prop) (h : Hp) : Prop :=
  vP (eqV 4 false a0 (Value.pointer none)) fun v12 =>
  vP (gdW (gB v12 false) (some a1)) fun v14 =>
  vP (gdW (gB v12 false) (binV .lss v14 (Value.int .i64 1))) fun v15 =>
  vP (pickV v12 (Value.bool true) v15) fun v16 =>
  vB v16 (K (Value.tuple #[(Value.int .i64 0), (Value.int .i64 1)]) h)
  (vA (some (Obj.cells #[(Value.slice none 0 0)] 48 (0, 0), ptrV)) (fun v6 h1 =>
  vP (nilV a0) fun v18 =>
  vP (faV 1 v18) fun v19 =>
  vP (ld1 v19 h1) fun v20 =>
  vP (lenV v20) fun v21 =>
  ∃ I1 : Nat → List Value → Hp → Prop, (∃ n, I1 n [(Value.int .i64 0)] h1) ∧
  ∀ n1 : Nat, ∀ v22 : Value, ∀ h2 : Hp, I1 n1 [v22] h2 → ∀ g1 : St,
    vP (binV .lss v22 v21) fun v23 =>
    vB v23 (∀ J2 : List Value → Hp → Prop, (∀ h3 : Hp, (∀ g2 : St,
        vP (binV .add v22 (Value.int .i64 1)) fun v34 =>
        ∃ m1, m1 < n1 ∧ I1 m1 [v34] h3) → J2 [] h3) →
      vP (iaS 2 v20 v22) fun v24 =>
      vP (ldN 2 v24 h2) fun v25 =>
      vA (some (Obj.cells #[(Value.int .i64 0), (Value.int .i64 0)] 34 (0, 0), ptrV)) (fun v8 h4 =>
      stN 2 v8 v25 (fun _ h5 =>
      vP (faV 1 v8) fun v26 =>
      vP (ld1 v26 h5) fun v27 =>
      vP (binV .geq v27 a1) fun v29 =>
      vB v29 (vP (some (Value.iface 50 v6)) fun v30 =>
        vP (ldN 2 v8 h5) fun v31 =>
        vP (some (Value.iface 34 v31)) fun v32 =>
        CallH Try.prog 21 #[v30, v32] (fun v33 h6 =>
        J2 [] h6) h5)
      (J2 [] h5)) h4) h2)
    (vP (ld1 v6 h2) fun v35 =>
    vP (lenV v35) fun v36 =>
    vP (eqV 1 false v36 (Value.int .i64 0)) fun v37 =>
    vB v37 (K (Value.tuple #[(Value.int .i64 0), (Value.int .i64 3)]) h2)
    (vP (some (Value.iface 50 v6)) fun v38 =>
    CallH Try.prog 22 #[v38] (fun v39 h7 =>
    vP (taV 34 (Value.agg #[(Value.int .i64 0), (Value.int .i64 0)]) false v39) fun v40 =>
    vA (some (Obj.cells #[(Value.int .i64 0), (Value.int .i64 0)] 34 (0, 0), ptrV)) (fun v9 h8 =>
    stN 2 v9 v40 (fun _ h9 =>
    vP (nilV a0) fun v42 =>
    vP (faV 1 v42) fun v43 =>
    vP (ld1 v43 h9) fun v44 =>
    vP (ldN 2 v9 h9) fun v45 =>
    CallH Try.prog 23 #[v44, v45] (fun v46 h10 =>
    ∀ J3 : List Value → Hp → Prop, (∀ h11 : Hp, (∀ g3 : St,
      vP (faV 0 v9) fun v77 =>
      vP (ld1 v77 h11) fun v78 =>
      K (Value.tuple #[v78, (Value.int .i64 0)]) h11) → J3 [] h11) →
    vP (faV 1 v9) fun v47 =>
    vP (ld1 v47 h10) fun v48 =>
    vP (eqV 1 false v48 a1) fun v50 =>
    vB v50 (vP (nilV a0) fun v53 =>
      vP (faV 1 v53) fun v54 =>
      vP (ld1 v54 h10) fun v55 =>
      vP (binV .add v46 (Value.int .i64 1)) fun v58 =>
      CallH Try.prog 24 #[v55, v46, v58] (fun v59 h12 =>
      vP (nilV a0) fun v60 =>
      vP (faV 1 v60) fun v61 =>
      st1 v61 v59 (fun _ h13 =>
      J3 [] h13) h12) h10)
    (vP (nilV a0) fun v63 =>
    vP (faV 1 v63) fun v64 =>
    vP (faV 0 v9) fun v67 =>
    vP (faV 1 v9) fun v71 =>
    vP (ld1 v64 h10) fun v65 =>
    vP (ld1 v67 h10) fun v68 =>
    vP (binV .add v68 a1) fun v70 =>
    vP (ld1 v71 h10) fun v72 =>
    vP (binV .sub v72 a1) fun v74 =>
    vP ((bldV #[(Value.int .i64 0), (Value.int .i64 0)] [(0, 1, v70), (1, 1, v74)]).map Value.agg) fun v75 =>
    vP (iaS 2 v65 v46) fun v76 =>
    stN 2 v76 v75 (fun _ h14 =>
    J3 [] h14) h10)) h9) h8) h7) h2))) h)
theorem D9_eq (a0 a1 : Value) (K : Value → Hp → Prop) (h : Hp) : fnVC Try.prog Try.f9 x9 [a0, a1] K h = D9 a0 a1 K h := by kernel_rfl
theorem D9_ok : fnOk Try.prog Try.f9 x9 2 = true := by kernel_rfl
theorem C9 {a0 a1 : Value} {K : Value → Hp → Prop} {h : Hp} (hh : D9 a0 a1 K h) : CallH Try.prog 9 #[a0, a1] K h :=
  callH_of mixed Try.func9 x9 [a0, a1] D9_ok (D9_eq a0 a1 K h ▸ hh)

/- 10: treadmill/treadmilllaw5.gcd; slots: 0 a, 1 b, 2 a, 3 b -/
def x10 : Ann := (.seq (.reg [] [(0, [])]) (.seq (.blk (.loop [1, 0] [5, 6, 7, 8, 9, 10, 0, 1] (.seq (.seq (.reg [] [(0, []), (1, [])]) (.cond .leaf .leaf)) (.blk (.reg [0, 0, 0, 6, 3, 31] [(0, []), (1, []), (2, []), (3, []), (4, []), (5, [])]))))) (.seq (.reg [] [(0, []), (1, [])]) .leaf)))
def D10 (a0 a1 : Value) (K : Value → Hp → Prop) (h : Hp) : Prop :=
  ∃ I1 : Nat → List Value → Hp → Prop, (∃ n, I1 n [a1, a0] h) ∧
  ∀ n1 : Nat, ∀ v1 v0 : Value, ∀ h1 : Hp, I1 n1 [v1, v0] h1 → ∀ g1 : St,
    vP (eqV 1 true v1 (Value.int .i64 0)) fun v6 =>
    vB v6 (vP (binV .rem v0 v1) fun v10 =>
      ∃ m1, m1 < n1 ∧ I1 m1 [v10, v1] h1)
    (K v0 h1)
theorem D10_eq (a0 a1 : Value) (K : Value → Hp → Prop) (h : Hp) : fnVC Try.prog Try.f10 x10 [a0, a1] K h = D10 a0 a1 K h := by kernel_rfl
theorem D10_ok : fnOk Try.prog Try.f10 x10 2 = true := by kernel_rfl
theorem C10 {a0 a1 : Value} {K : Value → Hp → Prop} {h : Hp} (hh : D10 a0 a1 K h) : CallH Try.prog 10 #[a0, a1] K h :=
  callH_of mixed Try.func10 x10 [a0, a1] D10_ok (D10_eq a0 a1 K h ▸ hh)

/- 11: (*treadmill/page.Pages).Free; slots: 0 p, 1 first, 2 k, 3 p, 4 first, 5 k, 7 at -/
def x11 : Ann := (.seq (.reg [] [(0, [])]) (.seq (.seq (.reg [] [(0, []), (1, []), (2, []), (3, []), (4, []), (5, []), (6, []), (7, []), (8, []), (9, []), (10, []), (11, []), (12, []), (13, []), (14, []), (15, []), (16, []), (17, []), (18, []), (19, []), (20, []), (21, []), (22, []), (23, []), (24, []), (25, []), (26, []), (27, []), (28, [])]) (.cond (.seq (.reg [] [(0, [])]) .leaf) .leaf)) (.seq (.reg [] [(0, [])]) (.seq (.blk (.loop [7] [37, 38, 39, 40, 41, 42, 43, 44, 45, 46, 47, 48, 49, 50, 51, 52, 53, 54, 55, 56, 57, 7] (.seq (.seq (.reg [] [(0, []), (1, []), (2, []), (3, []), (4, []), (5, []), (6, []), (7, []), (8, []), (9, []), (10, []), (11, []), (12, []), (13, []), (14, []), (15, []), (16, []), (17, []), (18, [])]) (.cond .leaf .leaf)) (.blk (.reg [] [(0, []), (1, []), (2, [])]))))) (.seq (.seq (.reg [0, 1, 3, 7, 15, 31, 63, 7, 135, 511, 1023, 2047, 7, 4103, 12295, 28679, 7, 65543, 258055, 520199, 1044487, 2097151, 7, 8388607, 16777215, 33554431, 67108863, 67108863, 201326591, 469762047, 1006632959, 2080374783, 4294967295, 8589934591, 17179869183, 34359738367, 68719476735, 137438953471, 17179869183, 549755813887, 1099511627775, 2199023255551, 17179869183, 17179869183, 13211319402495, 35184372088831, 70368744177663, 140737488355327] [(0, []), (1, []), (2, []), (3, []), (4, []), (5, []), (7, []), (8, []), (12, []), (13, []), (14, []), (16, []), (17, []), (22, []), (6, []), (9, []), (10, []), (11, []), (15, []), (18, []), (19, []), (20, []), (21, []), (23, []), (24, []), (25, []), (26, []), (27, []), (28, []), (29, []), (30, []), (31, []), (32, []), (33, []), (34, []), (35, []), (36, []), (38, []), (42, []), (43, []), (44, []), (37, []), (39, []), (40, []), (41, []), (45, []), (46, []), (47, [])]) (.cond (.seq (.reg [] [(0, [])]) .leaf) .leaf)) (.seq (.reg [] [(0, []), (1, []), (2, []), (3, []), (4, []), (5, []), (6, []), (7, []), (8, []), (9, []), (10, []), (11, []), (12, []), (13, [])]) (.seq (.reg [] [(0, []), (1, []), (2, [])]) (.seq (.reg [] [(0, []), (1, []), (2, []), (3, [])]) (.seq (.reg [] [(0, [])]) .leaf)))))))))
def D11 (a0 a1 a2 : Value) (K : Value → Hp → Prop) (h : Hp) : Prop :=
  vP (eqV 4 false a0 (Value.pointer none)) fun v9 =>
  vP (gdW (gB v9 false) (some a2)) fun v11 =>
  vP (gdW (gB v9 false) (binV .lss v11 (Value.int .i64 1))) fun v12 =>
  vP (pickV v9 (Value.bool true) v12) fun v13 =>
  vP (gdW (gB v13 false) (some a1)) fun v15 =>
  vP (gdW (gB v13 false) (binV .lss v15 (Value.int .i64 1))) fun v16 =>
  vP (pickV v13 (Value.bool true) v16) fun v17 =>
  vP (gdW (gB v17 false) (some a1)) fun v19 =>
  vP (gdW (gB v17 false) (some a0)) fun v20 =>
  vP (gdW (gB v17 false) (nilV v20)) fun v21 =>
  vP (gdW (gB v17 false) (faV 0 v21)) fun v22 =>
  vP (gdW (gB v17 false) (ld1 v22 h)) fun v23 =>
  vP (gdW (gB v17 false) (binV .sub v23 (Value.int .i64 1))) fun v24 =>
  vP (gdW (gB v17 false) (binV .gtr v19 v24)) fun v25 =>
  vP (pickV v17 (Value.bool true) v25) fun v26 =>
  vP (gdW (gB v26 false) (some a2)) fun v28 =>
  vP (gdW (gB v26 false) (some a0)) fun v29 =>
  vP (gdW (gB v26 false) (nilV v29)) fun v30 =>
  vP (gdW (gB v26 false) (faV 0 v30)) fun v31 =>
  vP (gdW (gB v26 false) (ld1 v31 h)) fun v32 =>
  vP (gdW (gB v26 false) (some a1)) fun v33 =>
  vP (gdW (gB v26 false) (binV .sub v32 v33)) fun v34 =>
  vP (gdW (gB v26 false) (binV .gtr v28 v34)) fun v35 =>
  vP (pickV v26 (Value.bool true) v35) fun v36 =>
  vB v36 (K (Value.int .i64 1) h)
  (∃ I1 : Nat → List Value → Hp → Prop, (∃ n, I1 n [(Value.int .i64 0)] h) ∧
  ∀ n1 : Nat, ∀ v7 : Value, ∀ h1 : Hp, I1 n1 [v7] h1 → ∀ g1 : St,
    vP (nilV a0) fun v39 =>
    vP (faV 1 v39) fun v40 =>
    vP (ld1 v40 h1) fun v41 =>
    vP (lenV v41) fun v42 =>
    vP (binV .lss v7 v42) fun v43 =>
    vP (gdW (gB v43 true) (some a0)) fun v45 =>
    vP (gdW (gB v43 true) (nilV v45)) fun v46 =>
    vP (gdW (gB v43 true) (faV 1 v46)) fun v47 =>
    vP (gdW (gB v43 true) (ld1 v47 h1)) fun v48 =>
    vP (gdW (gB v43 true) (some v7)) fun v49 =>
    vP (gdW (gB v43 true) (iaS 2 v48 v49)) fun v50 =>
    vP (gdW (gB v43 true) (faV 0 v50)) fun v51 =>
    vP (gdW (gB v43 true) (ld1 v51 h1)) fun v52 =>
    vP (gdW (gB v43 true) (some a1)) fun v53 =>
    vP (gdW (gB v43 true) (binV .lss v52 v53)) fun v54 =>
    vP (pickV v43 v54 (Value.bool false)) fun v55 =>
    vB v55 (vP (binV .add v7 (Value.int .i64 1)) fun v57 =>
      ∃ m1, m1 < n1 ∧ I1 m1 [v57] h1)
    (vP (binV .gtr v7 (Value.int .i64 0)) fun v59 =>
    vP (gdW (gB v59 true) (some a0)) fun v61 =>
    vP (gdW (gB v59 true) (nilV v61)) fun v62 =>
    vP (gdW (gB v59 true) (faV 1 v62)) fun v63 =>
    vP (gdW (gB v59 true) (some v7)) fun v65 =>
    vP (gdW (gB v59 true) (binV .sub v65 (Value.int .i64 1))) fun v66 =>
    vP (gdW (gB v59 true) (some a0)) fun v70 =>
    vP (gdW (gB v59 true) (nilV v70)) fun v71 =>
    vP (gdW (gB v59 true) (faV 1 v71)) fun v72 =>
    vP (gdW (gB v59 true) (some v7)) fun v74 =>
    vP (gdW (gB v59 true) (binV .sub v74 (Value.int .i64 1))) fun v75 =>
    vP (gdW (gB v59 true) (some a1)) fun v80 =>
    vP (gdW (gB v59 true) (ld1 v63 h1)) fun v64 =>
    vP (gdW (gB v59 true) (iaS 2 v64 v66)) fun v67 =>
    vP (gdW (gB v59 true) (faV 0 v67)) fun v68 =>
    vP (gdW (gB v59 true) (ld1 v68 h1)) fun v69 =>
    vP (gdW (gB v59 true) (ld1 v72 h1)) fun v73 =>
    vP (gdW (gB v59 true) (iaS 2 v73 v75)) fun v76 =>
    vP (gdW (gB v59 true) (faV 1 v76)) fun v77 =>
    vP (gdW (gB v59 true) (ld1 v77 h1)) fun v78 =>
    vP (gdW (gB v59 true) (binV .add v69 v78)) fun v79 =>
    vP (gdW (gB v59 true) (binV .gtr v79 v80)) fun v81 =>
    vP (pickV v59 v81 (Value.bool false)) fun v82 =>
    vP (gdW (gB v82 false) (some v7)) fun v84 =>
    vP (gdW (gB v82 false) (some a0)) fun v85 =>
    vP (gdW (gB v82 false) (nilV v85)) fun v86 =>
    vP (gdW (gB v82 false) (faV 1 v86)) fun v87 =>
    vP (gdW (gB v82 false) (ld1 v87 h1)) fun v88 =>
    vP (gdW (gB v82 false) (lenV v88)) fun v89 =>
    vP (gdW (gB v82 false) (binV .lss v84 v89)) fun v90 =>
    vP (gdW (gB v82 false) (some v90)) fun v91 =>
    vP (gdW (gB v91 true) (some a0)) fun v92 =>
    vP (gdW (gB v91 true) (nilV v92)) fun v93 =>
    vP (gdW (gB v91 true) (faV 1 v93)) fun v94 =>
    vP (gdW (gB v91 true) (some v7)) fun v96 =>
    vP (gdW (gB v91 true) (some a1)) fun v100 =>
    vP (gdW (gB v91 true) (some a2)) fun v101 =>
    vP (gdW (gB v91 true) (binV .add v100 v101)) fun v102 =>
    vP (gdW (gB v91 true) (ld1 v94 h1)) fun v95 =>
    vP (gdW (gB v91 true) (iaS 2 v95 v96)) fun v97 =>
    vP (gdW (gB v91 true) (faV 0 v97)) fun v98 =>
    vP (gdW (gB v91 true) (ld1 v98 h1)) fun v99 =>
    vP (gdW (gB v91 true) (binV .lss v99 v102)) fun v103 =>
    vP (gdW (gB v82 false) (pickV v91 v103 (Value.bool false))) fun v104 =>
    vP (pickV v82 (Value.bool true) v104) fun v105 =>
    vB v105 (K (Value.int .i64 5) h1)
    (vP (nilV a0) fun v108 =>
    vP (faV 1 v108) fun v109 =>
    vP (ld1 v109 h1) fun v110 =>
    vP ((bldV #[(Value.int .i64 0), (Value.int .i64 0)] [(0, 1, a1), (1, 1, a2)]).map Value.agg) fun v114 =>
    vA ((bldV #[(Value.int .i64 0), (Value.int .i64 0)] [(0, 2, v114)]).map fun c => (Obj.cells c 34 (0, 0), fun r => Value.slice (some ⟨r, 0, none⟩) 1 1)) (fun v115 h2 =>
    CallH Try.prog 25 #[v110, v7, v115] (fun v116 h3 =>
    vP (nilV a0) fun v117 =>
    vP (faV 1 v117) fun v118 =>
    st1 v118 v116 (fun _ h4 =>
    CallH Try.prog 26 #[a0, v7] (fun v121 h5 =>
    vP (binV .sub v7 (Value.int .i64 1)) fun v124 =>
    CallH Try.prog 26 #[a0, v124] (fun v125 h6 =>
    K (Value.int .i64 0) h6) h5) h4) h3) h2) h1)))
theorem D11_eq (a0 a1 a2 : Value) (K : Value → Hp → Prop) (h : Hp) : fnVC Try.prog Try.f11 x11 [a0, a1, a2] K h = D11 a0 a1 a2 K h := by kernel_rfl
theorem D11_ok : fnOk Try.prog Try.f11 x11 3 = true := by kernel_rfl
theorem C11 {a0 a1 a2 : Value} {K : Value → Hp → Prop} {h : Hp} (hh : D11 a0 a1 a2 K h) : CallH Try.prog 11 #[a0, a1, a2] K h :=
  callH_of mixed Try.func11 x11 [a0, a1, a2] D11_ok (D11_eq a0 a1 a2 K h ▸ hh)

/- 12: (*treadmill/page.Pages).Runs; slots: 0 p, 1 p -/
def x12 : Ann := (.seq (.reg [] [(0, [])]) (.seq (.seq (.reg [] [(0, []), (1, [])]) (.cond (.seq (.reg [] [(0, [])]) .leaf) .leaf)) (.seq (.reg [] [(0, []), (1, []), (2, []), (3, []), (4, []), (5, [])]) .leaf)))
def D12 (a0 : Value) (K : Value → Hp → Prop) (h : Hp) : Prop :=
  vP (eqV 4 false a0 (Value.pointer none)) fun v4 =>
  vB v4 (K (Value.slice none 0 0) h)
  (vP (nilV a0) fun v6 =>
  vP (faV 1 v6) fun v7 =>
  vP (ld1 v7 h) fun v8 =>
  CallH Try.prog 27 #[v8] (fun v9 h1 =>
  K v9 h1) h)
theorem D12_eq (a0 : Value) (K : Value → Hp → Prop) (h : Hp) : fnVC Try.prog Try.f12 x12 [a0] K h = D12 a0 K h := by kernel_rfl
theorem D12_ok : fnOk Try.prog Try.f12 x12 1 = true := by kernel_rfl
theorem C12 {a0 : Value} {K : Value → Hp → Prop} {h : Hp} (hh : D12 a0 K h) : CallH Try.prog 12 #[a0] K h :=
  callH_of mixed Try.func12 x12 [a0] D12_ok (D12_eq a0 K h ▸ hh)

/- 13: (*treadmill/page.Pages).Left; slots: 0 p, 1 p, 3 n, 4 _, 5 r -/
def x13 : Ann := (.seq (.reg [] [(0, [])]) (.seq (.reg [] [(0, [])]) (.seq (.seq (.reg [] [(0, []), (1, []), (2, []), (3, [])]) (.blk (.loop [9, 3] [10, 11, 12, 5, 13, 14, 15, 16, 3, 17, 9] (.seq (.reg [] [(0, [])]) (.seq (.cond .leaf .leaf) (.seq (.blk (.seq (.reg [] [(0, []), (1, []), (2, []), (3, [])]) (.reg [] [(0, []), (1, []), (2, []), (3, []), (4, [])]))) (.reg [] [(0, []), (1, [])]))))))) (.seq (.reg [] [(0, []), (1, [])]) .leaf))))
def D13 (a0 : Value) (K : Value → Hp → Prop) (h : Hp) : Prop :=
  CallH Try.prog 12 #[a0] (fun v7 h1 =>
  vP (lenV v7) fun v8 =>
  ∃ I1 : Nat → List Value → Hp → Prop, (∃ n, I1 n [(Value.int .i64 0), (Value.int .i64 0)] h1) ∧
  ∀ n1 : Nat, ∀ v9 v3 : Value, ∀ h2 : Hp, I1 n1 [v9, v3] h2 → ∀ g1 : St,
    vP (binV .lss v9 v8) fun v10 =>
    vB v10 (vP (iaS 2 v7 v9) fun v11 =>
      vP (ldN 2 v11 h2) fun v12 =>
      vA (some (Obj.cells #[(Value.int .i64 0), (Value.int .i64 0)] 34 (0, 0), ptrV)) (fun v5 h3 =>
      stN 2 v5 v12 (fun _ h4 =>
      vP (faV 1 v5) fun v14 =>
      vP (ld1 v14 h4) fun v15 =>
      vP (binV .add v3 v15) fun v16 =>
      vP (binV .add v9 (Value.int .i64 1)) fun v17 =>
      ∃ m1, m1 < n1 ∧ I1 m1 [v17, v16] h4) h3) h2)
    (K v3 h2)) h
theorem D13_eq (a0 : Value) (K : Value → Hp → Prop) (h : Hp) : fnVC Try.prog Try.f13 x13 [a0] K h = D13 a0 K h := by kernel_rfl
theorem D13_ok : fnOk Try.prog Try.f13 x13 1 = true := by kernel_rfl
theorem C13 {a0 : Value} {K : Value → Hp → Prop} {h : Hp} (hh : D13 a0 K h) : CallH Try.prog 13 #[a0] K h :=
  callH_of mixed Try.func13 x13 [a0] D13_ok (D13_eq a0 K h ▸ hh)

/- 15: treadmill/treadmillref5.NewPages; slots: 0 n, 1 n, 3 p, 4 i -/
def x15 : Ann := (.seq (.reg [] [(0, [])]) (.seq (.reg [] [(0, []), (1, []), (2, []), (3, []), (4, []), (5, []), (6, [])]) (.seq (.seq (.reg [] [(0, [])]) (.blk (.loop [4] [11, 12, 13, 14, 15, 16, 17, 20, 21, 22, 23, 24, 25, 18, 19, 4] (.seq (.seq (.reg [] [(0, []), (1, []), (2, []), (3, []), (4, []), (5, []), (6, [])]) (.cond .leaf .leaf)) (.seq (.blk (.reg [] [(0, []), (1, []), (2, []), (3, []), (4, []), (5, []), (6, [])])) (.reg [] [(0, []), (1, []), (2, [])])))))) (.seq (.reg [] [(0, []), (1, [])]) .leaf))))
def D15 (a0 : Value) (K : Value → Hp → Prop) (h : Hp) : Prop :=
  vP (min2V a0 (Value.int .i64 262144)) fun v6 =>
  vP (max2V (Value.int .i64 1) v6) fun v7 =>
  vA (msV 1 1 4 #[(Value.bool false)] v7 v7) (fun v8 h1 =>
  vP ((bldV #[(Value.slice none 0 0)] [(0, 1, v8)]).map Value.agg) fun v9 =>
  vA (some (Obj.cells (Value.cells v9) 58 (0, 0), ptrV)) (fun v10 h2 =>
  ∃ I1 : Nat → List Value → Hp → Prop, (∃ n, I1 n [(Value.int .i64 1)] h2) ∧
  ∀ n1 : Nat, ∀ v4 : Value, ∀ h3 : Hp, I1 n1 [v4] h3 → ∀ g1 : St,
    vP (nilV v10) fun v13 =>
    vP (faV 0 v13) fun v14 =>
    vP (ld1 v14 h3) fun v15 =>
    vP (lenV v15) fun v16 =>
    vP (binV .lss v4 v16) fun v17 =>
    vB v17 (vP (nilV v10) fun v21 =>
      vP (faV 0 v21) fun v22 =>
      vP (ld1 v22 h3) fun v23 =>
      vP (iaS 1 v23 v4) fun v25 =>
      st1 v25 (Value.bool true) (fun _ h4 =>
      vP (binV .add v4 (Value.int .i64 1)) fun v19 =>
      ∃ m1, m1 < n1 ∧ I1 m1 [v19] h4) h3)
    (K v10 h3)) h1) h
theorem D15_eq (a0 : Value) (K : Value → Hp → Prop) (h : Hp) : fnVC Try.prog Try.f15 x15 [a0] K h = D15 a0 K h := by kernel_rfl
theorem D15_ok : fnOk Try.prog Try.f15 x15 1 = true := by kernel_rfl
theorem C15 {a0 : Value} {K : Value → Hp → Prop} {h : Hp} (hh : D15 a0 K h) : CallH Try.prog 15 #[a0] K h :=
  callH_of mixed Try.func15 x15 [a0] D15_ok (D15_eq a0 K h ▸ hh)

/- 16: (*treadmill/treadmillref5.Pages).Alloc; slots: 0 p, 1 k, 2 p, 3 k, 6 l, 7 best, 8 i, 9 i -/
def x16 : Ann := (.seq (.reg [] [(0, []), (1, [])]) (.seq (.seq (.reg [] [(0, []), (1, [])]) (.cond (.seq (.reg [] [(0, []), (1, [])]) .leaf) .leaf)) (.seq (.reg [] [(0, []), (1, []), (2, [])]) (.seq (.reg [] [(0, [])]) (.seq (.seq (.reg [] [(0, [])]) (.blk (.loop [8, 7] [14, 15, 16, 17, 20, 21, 22, 23, 24, 25, 26, 27, 28, 29, 30, 31, 32, 33, 34, 35, 36, 37, 38, 39, 40, 41, 42, 43, 44, 7, 18, 19, 8] (.seq (.seq (.reg [] [(0, []), (1, []), (2, []), (3, [])]) (.cond .leaf .leaf)) (.join [7] [20, 21, 22, 23, 24, 25, 26, 27, 28, 29, 30, 31, 32, 33, 34, 35, 36, 37, 38, 39, 40, 41, 42, 43, 44, 7] (.blk (.seq (.reg [0, 0, 3, 7, 15, 0, 63, 127, 255, 511, 1023, 2047, 2047, 8191, 16383, 32767, 2047, 2047, 198655, 460799, 985087, 2097151, 4194303, 8388607] [(0, []), (1, []), (2, []), (3, []), (5, []), (4, []), (6, []), (7, []), (8, []), (9, []), (10, []), (11, []), (12, []), (13, []), (14, []), (16, []), (17, []), (18, []), (19, []), (15, []), (20, []), (21, []), (22, []), (23, [])]) (.cond (.reg [] [(0, []), (1, [])]) .leaf))) (.reg [] [(0, []), (1, []), (2, [])])))))) (.seq (.seq (.reg [] [(0, []), (1, [])]) (.cond (.seq (.reg [] [(0, []), (1, [])]) .leaf) .leaf)) (.seq (.seq (.reg [] [(0, [])]) (.blk (.loop [9] [47, 48, 49, 52, 53, 54, 55, 56, 57, 58, 59, 60, 61, 62, 63, 50, 51, 9] (.seq (.seq (.reg [] [(0, []), (1, []), (2, [])]) (.cond .leaf .leaf)) (.seq (.blk (.reg [0, 1, 3, 7, 0, 0, 48, 112, 240, 0, 1008, 2047, 4095] [(0, []), (1, []), (2, []), (4, []), (5, []), (6, []), (7, []), (9, []), (3, []), (8, []), (10, []), (11, []), (12, [])])) (.reg [] [(0, []), (1, []), (2, [])])))))) (.seq (.reg [] [(0, []), (1, []), (2, []), (3, []), (4, []), (5, []), (6, [])]) .leaf))))))))
def D16 (a0 a1 : Value) (K : Value → Hp → Prop) (h : Hp) : Prop :=
  vP (binV .lss a1 (Value.int .i64 1)) fun v11 =>
  vB v11 (K (Value.tuple #[(Value.int .i64 0), (Value.int .i64 1)]) h)
  (CallH Try.prog 19 #[a0] (fun v13 h1 =>
  ∃ I1 : Nat → List Value → Hp → Prop, (∃ n, I1 n [(Value.int .i64 0), (Value.int .i64 (-1))] h1) ∧
  ∀ n1 : Nat, ∀ v8 v7 : Value, ∀ h2 : Hp, I1 n1 [v8, v7] h2 → ∀ g1 : St,
    vP (lenV v13) fun v16 =>
    vP (binV .lss v8 v16) fun v17 =>
    vB v17 (∀ J2 : List Value → Hp → Prop, (∀ v7_1 : Value, ∀ h3 : Hp, (∀ g2 : St,
        vP (binV .add v8 (Value.int .i64 1)) fun v19 =>
        ∃ m1, m1 < n1 ∧ I1 m1 [v19, v7_1] h3) → J2 [v7_1] h3) →
      vP (iaS 2 v13 v8) fun v22 =>
      vP (faV 1 v22) fun v23 =>
      vP (ld1 v23 h2) fun v24 =>
      vP (binV .geq v24 a1) fun v26 =>
      vP (gdW (gB v26 true) (some v7)) fun v28 =>
      vP (gdW (gB v26 true) (binV .lss v28 (Value.int .i64 0))) fun v29 =>
      vP (gdW (gB v26 true) (some v29)) fun v30 =>
      vP (gdW (gB v30 false) (some v13)) fun v31 =>
      vP (gdW (gB v30 false) (some v8)) fun v32 =>
      vP (gdW (gB v30 false) (iaS 2 v31 v32)) fun v33 =>
      vP (gdW (gB v30 false) (faV 1 v33)) fun v34 =>
      vP (gdW (gB v30 false) (some v13)) fun v36 =>
      vP (gdW (gB v30 false) (some v7)) fun v37 =>
      vP (gdW (gB v30 false) (iaS 2 v36 v37)) fun v38 =>
      vP (gdW (gB v30 false) (faV 1 v38)) fun v39 =>
      vP (gdW (gB v30 false) (ld1 v34 h2)) fun v35 =>
      vP (gdW (gB v30 false) (ld1 v39 h2)) fun v40 =>
      vP (gdW (gB v30 false) (binV .lss v35 v40)) fun v41 =>
      vP (gdW (gB v26 true) (pickV v30 (Value.bool true) v41)) fun v42 =>
      vP (pickV v26 v42 (Value.bool false)) fun v43 =>
      vB v43 (J2 [v8] h2)
      (J2 [v7] h2))
    (vP (binV .lss v7 (Value.int .i64 0)) fun v46 =>
    vB v46 (K (Value.tuple #[(Value.int .i64 0), (Value.int .i64 3)]) h2)
    (∃ I3 : Nat → List Value → Hp → Prop, (∃ n, I3 n [(Value.int .i64 0)] h2) ∧
    ∀ n3 : Nat, ∀ v9 : Value, ∀ h4 : Hp, I3 n3 [v9] h4 → ∀ g3 : St,
      vP (binV .lss v9 a1) fun v49 =>
      vB v49 (vP (nilV a0) fun v53 =>
        vP (faV 0 v53) fun v54 =>
        vP (iaS 2 v13 v7) fun v58 =>
        vP (faV 0 v58) fun v59 =>
        vP (ld1 v54 h4) fun v55 =>
        vP (ld1 v59 h4) fun v60 =>
        vP (binV .add v60 v9) fun v62 =>
        vP (iaS 1 v55 v62) fun v63 =>
        st1 v63 (Value.bool false) (fun _ h5 =>
        vP (binV .add v9 (Value.int .i64 1)) fun v51 =>
        ∃ m3, m3 < n3 ∧ I3 m3 [v51] h5) h4)
      (vP (iaS 2 v13 v7) fun v66 =>
      vP (faV 0 v66) fun v67 =>
      vP (ld1 v67 h4) fun v68 =>
      K (Value.tuple #[v68, (Value.int .i64 0)]) h4)))) h)
theorem D16_eq (a0 a1 : Value) (K : Value → Hp → Prop) (h : Hp) : fnVC Try.prog Try.f16 x16 [a0, a1] K h = D16 a0 a1 K h := by kernel_rfl
theorem D16_ok : fnOk Try.prog Try.f16 x16 2 = true := by kernel_rfl
theorem C16 {a0 a1 : Value} {K : Value → Hp → Prop} {h : Hp} (hh : D16 a0 a1 K h) : CallH Try.prog 16 #[a0, a1] K h :=
  callH_of mixed Try.func16 x16 [a0, a1] D16_ok (D16_eq a0 a1 K h ▸ hh)

/- 17: (*treadmill/treadmillref5.Pages).Back; slots: 0 p, 1 first, 2 k, 3 p, 4 first, 5 k, 7 i, 8 i -/
def x17 : Ann := (.seq (.reg [] [(0, [])]) (.seq (.seq (.reg [] [(0, []), (1, []), (2, []), (3, []), (4, []), (5, []), (6, []), (7, []), (8, []), (9, []), (10, []), (11, []), (12, []), (13, []), (14, []), (15, []), (16, []), (17, []), (18, []), (19, []), (20, []), (21, []), (22, []), (23, []), (24, []), (25, [])]) (.cond (.seq (.reg [] [(0, [])]) .leaf) .leaf)) (.seq (.seq (.reg [] [(0, [])]) (.blk (.loop [7] [35, 36, 37, 40, 41, 42, 43, 44, 45, 46, 47, 48, 6, 38, 39, 7] (.seq (.seq (.reg [] [(0, []), (1, []), (2, [])]) (.cond .leaf .leaf)) (.seq (.blk (.seq (.reg [] [(0, []), (1, []), (2, []), (3, []), (4, []), (5, []), (6, []), (7, []), (8, [])]) (.cond (.seq (.reg [] [(0, [])]) .leaf) .leaf))) (.reg [] [(0, []), (1, []), (2, [])])))))) (.seq (.seq (.reg [] [(0, [])]) (.blk (.loop [8] [49, 50, 51, 54, 55, 56, 57, 58, 59, 60, 61, 52, 53, 8] (.seq (.seq (.reg [] [(0, []), (1, []), (2, [])]) (.cond .leaf .leaf)) (.seq (.blk (.reg [] [(0, []), (1, []), (2, []), (3, []), (4, []), (5, []), (6, []), (7, []), (8, [])])) (.reg [] [(0, []), (1, []), (2, [])])))))) (.seq (.reg [] [(0, [])]) .leaf)))))
def D17 (a0 a1 a2 : Value) (K : Value → Hp → Prop) (h : Hp) : Prop :=
  vP (binV .lss a2 (Value.int .i64 1)) fun v10 =>
  vP (gdW (gB v10 false) (some a1)) fun v12 =>
  vP (gdW (gB v10 false) (binV .lss v12 (Value.int .i64 1))) fun v13 =>
  vP (pickV v10 (Value.bool true) v13) fun v14 =>
  vP (gdW (gB v14 false) (some a1)) fun v16 =>
  vP (gdW (gB v14 false) (some a0)) fun v17 =>
  vP (gdW (gB v14 false) (nilV v17)) fun v18 =>
  vP (gdW (gB v14 false) (faV 0 v18)) fun v19 =>
  vP (gdW (gB v14 false) (ld1 v19 h)) fun v20 =>
  vP (gdW (gB v14 false) (lenV v20)) fun v21 =>
  vP (gdW (gB v14 false) (binV .geq v16 v21)) fun v22 =>
  vP (pickV v14 (Value.bool true) v22) fun v23 =>
  vP (gdW (gB v23 false) (some a2)) fun v25 =>
  vP (gdW (gB v23 false) (some a0)) fun v26 =>
  vP (gdW (gB v23 false) (nilV v26)) fun v27 =>
  vP (gdW (gB v23 false) (faV 0 v27)) fun v28 =>
  vP (gdW (gB v23 false) (ld1 v28 h)) fun v29 =>
  vP (gdW (gB v23 false) (lenV v29)) fun v30 =>
  vP (gdW (gB v23 false) (some a1)) fun v31 =>
  vP (gdW (gB v23 false) (binV .sub v30 v31)) fun v32 =>
  vP (gdW (gB v23 false) (binV .gtr v25 v32)) fun v33 =>
  vP (pickV v23 (Value.bool true) v33) fun v34 =>
  vB v34 (K (Value.int .i64 1) h)
  (∃ I1 : Nat → List Value → Hp → Prop, (∃ n, I1 n [(Value.int .i64 0)] h) ∧
  ∀ n1 : Nat, ∀ v7 : Value, ∀ h1 : Hp, I1 n1 [v7] h1 → ∀ g1 : St,
    vP (binV .lss v7 a2) fun v37 =>
    vB v37 (vP (nilV a0) fun v41 =>
      vP (faV 0 v41) fun v42 =>
      vP (ld1 v42 h1) fun v43 =>
      vP (binV .add a1 v7) fun v46 =>
      vP (iaS 1 v43 v46) fun v47 =>
      vP (ld1 v47 h1) fun v48 =>
      vB v48 (K (Value.int .i64 5) h1)
      (vP (binV .add v7 (Value.int .i64 1)) fun v39 =>
      ∃ m1, m1 < n1 ∧ I1 m1 [v39] h1))
    (∃ I2 : Nat → List Value → Hp → Prop, (∃ n, I2 n [(Value.int .i64 0)] h1) ∧
    ∀ n2 : Nat, ∀ v8 : Value, ∀ h2 : Hp, I2 n2 [v8] h2 → ∀ g2 : St,
      vP (binV .lss v8 a2) fun v51 =>
      vB v51 (vP (nilV a0) fun v55 =>
        vP (faV 0 v55) fun v56 =>
        vP (ld1 v56 h2) fun v57 =>
        vP (binV .add a1 v8) fun v60 =>
        vP (iaS 1 v57 v60) fun v61 =>
        st1 v61 (Value.bool true) (fun _ h3 =>
        vP (binV .add v8 (Value.int .i64 1)) fun v53 =>
        ∃ m2, m2 < n2 ∧ I2 m2 [v53] h3) h2)
      (K (Value.int .i64 0) h2)))
theorem D17_eq (a0 a1 a2 : Value) (K : Value → Hp → Prop) (h : Hp) : fnVC Try.prog Try.f17 x17 [a0, a1, a2] K h = D17 a0 a1 a2 K h := by kernel_rfl
theorem D17_ok : fnOk Try.prog Try.f17 x17 3 = true := by kernel_rfl
theorem C17 {a0 a1 a2 : Value} {K : Value → Hp → Prop} {h : Hp} (hh : D17 a0 a1 a2 K h) : CallH Try.prog 17 #[a0, a1, a2] K h :=
  callH_of mixed Try.func17 x17 [a0, a1, a2] D17_ok (D17_eq a0 a1 a2 K h ▸ hh)

/- 18: treadmill/treadmilllaw5.runs; slots: 0 a, 1 b, 2 a, 3 b, 5 i -/
def x18 : Ann := (.seq (.reg [] [(0, [])]) (.seq (.seq (.reg [] [(0, []), (1, []), (2, []), (3, []), (4, [])]) (.cond (.seq (.reg [] [(0, [])]) .leaf) .leaf)) (.seq (.seq (.reg [] [(0, [])]) (.blk (.loop [5] [11, 12, 13, 14, 17, 18, 19, 20, 21, 22, 23, 24, 25, 4, 15, 16, 5] (.seq (.seq (.reg [] [(0, []), (1, []), (2, []), (3, [])]) (.cond .leaf .leaf)) (.seq (.blk (.seq (.reg [0, 0, 3, 7, 0, 0, 48, 112, 255] [(0, []), (1, []), (2, []), (4, []), (5, []), (6, []), (3, []), (7, []), (8, [])]) (.cond (.seq (.reg [] [(0, [])]) .leaf) .leaf))) (.reg [] [(0, []), (1, []), (2, [])])))))) (.seq (.reg [] [(0, [])]) .leaf))))
def D18 (a0 a1 : Value) (K : Value → Hp → Prop) (h : Hp) : Prop :=
  vP (lenV a0) fun v7 =>
  vP (lenV a1) fun v9 =>
  vP (eqV 1 true v7 v9) fun v10 =>
  vB v10 (K (Value.bool false) h)
  (∃ I1 : Nat → List Value → Hp → Prop, (∃ n, I1 n [(Value.int .i64 0)] h) ∧
  ∀ n1 : Nat, ∀ v5 : Value, ∀ h1 : Hp, I1 n1 [v5] h1 → ∀ g1 : St,
    vP (lenV a0) fun v13 =>
    vP (binV .lss v5 v13) fun v14 =>
    vB v14 (vP (iaS 2 a0 v5) fun v19 =>
      vP (iaS 2 a1 v5) fun v23 =>
      vP (ldN 2 v19 h1) fun v20 =>
      vP (ldN 2 v23 h1) fun v24 =>
      vP (eqA [1, 1] true v20 v24) fun v25 =>
      vB v25 (K (Value.bool false) h1)
      (vP (binV .add v5 (Value.int .i64 1)) fun v16 =>
      ∃ m1, m1 < n1 ∧ I1 m1 [v16] h1))
    (K (Value.bool true) h1))
theorem D18_eq (a0 a1 : Value) (K : Value → Hp → Prop) (h : Hp) : fnVC Try.prog Try.f18 x18 [a0, a1] K h = D18 a0 a1 K h := by kernel_rfl
theorem D18_ok : fnOk Try.prog Try.f18 x18 2 = true := by kernel_rfl
theorem C18 {a0 a1 : Value} {K : Value → Hp → Prop} {h : Hp} (hh : D18 a0 a1 K h) : CallH Try.prog 18 #[a0, a1] K h :=
  callH_of mixed Try.func18 x18 [a0, a1] D18_ok (D18_eq a0 a1 K h ▸ hh)

/- 19: (*treadmill/treadmillref5.Pages).Runs; slots: 0 p, 1 p, 3 out, 4 i -/
def x19 : Ann := (.seq (.reg [] [(0, [])]) (.seq (.reg [] [(0, [])]) (.seq (.seq (.reg [] [(0, [])]) (.blk (.loop [4, 3] [5, 6, 7, 8, 9, 10, 11, 14, 15, 16, 17, 18, 19, 20, 21, 22, 23, 24, 25, 26, 27, 28, 29, 30, 31, 32, 33, 34, 35, 36, 37, 38, 39, 40, 41, 42, 43, 44, 45, 46, 47, 48, 3, 12, 13, 4] (.seq (.seq (.reg [] [(0, []), (1, []), (2, []), (3, []), (4, []), (5, []), (6, [])]) (.cond .leaf .leaf)) (.join [3] [14, 15, 16, 17, 18, 19, 20, 21, 22, 23, 24, 25, 26, 27, 28, 29, 30, 31, 32, 33, 34, 35, 36, 37, 38, 39, 40, 41, 42, 43, 44, 45, 46, 47, 48, 3] (.blk (.seq (.seq (.reg [] [(0, []), (1, []), (2, []), (3, []), (4, []), (5, []), (6, []), (7, [])]) (.cond .leaf .leaf)) (.seq (.reg [] [(0, []), (1, []), (2, []), (3, []), (4, []), (5, []), (6, []), (7, []), (8, []), (9, []), (10, []), (11, [])]) (.cond (.reg [] [(0, []), (1, []), (2, []), (3, []), (4, []), (5, []), (6, []), (7, []), (8, []), (9, []), (10, [])]) (.reg [] [(0, []), (1, []), (2, []), (3, []), (4, []), (5, [])]))))) (.reg [] [(0, []), (1, []), (2, [])])))))) (.seq (.reg [] [(0, []), (1, [])]) .leaf))))
def D19 (a0 : Value) (K : Value → Hp → Prop) (h : Hp) : Prop :=
  ∃ I1 : Nat → List Value → Hp → Prop, (∃ n, I1 n [(Value.int .i64 0), (Value.slice none 0 0)] h) ∧
  ∀ n1 : Nat, ∀ v4 v3 : Value, ∀ h1 : Hp, I1 n1 [v4, v3] h1 → ∀ g1 : St,
    vP (nilV a0) fun v7 =>
    vP (faV 0 v7) fun v8 =>
    vP (ld1 v8 h1) fun v9 =>
    vP (lenV v9) fun v10 =>
    vP (binV .lss v4 v10) fun v11 =>
    vB v11 (∀ J2 : List Value → Hp → Prop, (∀ v3_1 : Value, ∀ h2 : Hp, (∀ g2 : St,
        vP (binV .add v4 (Value.int .i64 1)) fun v13 =>
        ∃ m1, m1 < n1 ∧ I1 m1 [v13, v3_1] h2) → J2 [v3_1] h2) →
      vP (nilV a0) fun v15 =>
      vP (faV 0 v15) fun v16 =>
      vP (ld1 v16 h1) fun v17 =>
      vP (iaS 1 v17 v4) fun v19 =>
      vP (ld1 v19 h1) fun v20 =>
      vP (unV .not v20) fun v21 =>
      vB v21 (J2 [v3] h1)
      (vP (binV .gtr v4 (Value.int .i64 0)) fun v23 =>
      vP (gdW (gB v23 true) (some a0)) fun v25 =>
      vP (gdW (gB v23 true) (nilV v25)) fun v26 =>
      vP (gdW (gB v23 true) (faV 0 v26)) fun v27 =>
      vP (gdW (gB v23 true) (ld1 v27 h1)) fun v28 =>
      vP (gdW (gB v23 true) (some v4)) fun v29 =>
      vP (gdW (gB v23 true) (binV .sub v29 (Value.int .i64 1))) fun v30 =>
      vP (gdW (gB v23 true) (iaS 1 v28 v30)) fun v31 =>
      vP (gdW (gB v23 true) (ld1 v31 h1)) fun v32 =>
      vP (pickV v23 v32 (Value.bool false)) fun v33 =>
      vB v33 (vP (lenV v3) fun v36 =>
        vP (binV .sub v36 (Value.int .i64 1)) fun v37 =>
        vP (iaS 2 v3 v37) fun v38 =>
        vP (faV 1 v38) fun v39 =>
        vP (ld1 v39 h1) fun v40 =>
        vP (binV .add v40 (Value.int .i64 1)) fun v41 =>
        vP (iaS 2 v3 v37) fun v42 =>
        vP (faV 1 v42) fun v43 =>
        st1 v43 v41 (fun _ h3 =>
        J2 [v3] h3) h1)
      (vP ((bldV #[(Value.int .i64 0), (Value.int .i64 0)] [(0, 1, v4), (1, 1, (Value.int .i64 1))]).map Value.agg) fun v46 =>
      vA ((bldV #[(Value.int .i64 0), (Value.int .i64 0)] [(0, 2, v46)]).map fun c => (Obj.cells c 34 (0, 0), fun r => Value.slice (some ⟨r, 0, none⟩) 1 1)) (fun v47 h4 =>
      apW Try.prog #[29, 29] 29 v3 v47 (fun v48 h5 =>
      J2 [v48] h5) h4) h1)))
    (K v3 h1)
theorem D19_eq (a0 : Value) (K : Value → Hp → Prop) (h : Hp) : fnVC Try.prog Try.f19 x19 [a0] K h = D19 a0 K h := by kernel_rfl
theorem D19_ok : fnOk Try.prog Try.f19 x19 1 = true := by kernel_rfl
theorem C19 {a0 : Value} {K : Value → Hp → Prop} {h : Hp} (hh : D19 a0 K h) : CallH Try.prog 19 #[a0] K h :=
  callH_of mixed Try.func19 x19 [a0] D19_ok (D19_eq a0 K h ▸ hh)

/- 20: (*treadmill/treadmillref5.Pages).Left; slots: 0 p, 1 p, 3 n, 4 i -/
def x20 : Ann := (.seq (.reg [] [(0, [])]) (.seq (.reg [] [(0, [])]) (.seq (.seq (.reg [] [(0, [])]) (.blk (.loop [4, 3] [5, 6, 7, 8, 9, 10, 11, 14, 15, 16, 17, 18, 19, 20, 21, 22, 3, 12, 13, 4] (.seq (.seq (.reg [] [(0, []), (1, []), (2, []), (3, []), (4, []), (5, []), (6, [])]) (.cond .leaf .leaf)) (.join [3] [14, 15, 16, 17, 18, 19, 20, 21, 22, 3] (.blk (.seq (.reg [] [(0, []), (1, []), (2, []), (3, []), (4, []), (5, []), (6, [])]) (.cond (.reg [] [(0, []), (1, []), (2, [])]) .leaf))) (.reg [] [(0, []), (1, []), (2, [])])))))) (.seq (.reg [] [(0, []), (1, [])]) .leaf))))
def D20 (a0 : Value) (K : Value → Hp → Prop) (h : Hp) : Prop :=
  ∃ I1 : Nat → List Value → Hp → Prop, (∃ n, I1 n [(Value.int .i64 0), (Value.int .i64 0)] h) ∧
  ∀ n1 : Nat, ∀ v4 v3 : Value, ∀ h1 : Hp, I1 n1 [v4, v3] h1 → ∀ g1 : St,
    vP (nilV a0) fun v7 =>
    vP (faV 0 v7) fun v8 =>
    vP (ld1 v8 h1) fun v9 =>
    vP (lenV v9) fun v10 =>
    vP (binV .lss v4 v10) fun v11 =>
    vB v11 (∀ J2 : List Value → Hp → Prop, (∀ v3_1 : Value, ∀ h2 : Hp, (∀ g2 : St,
        vP (binV .add v4 (Value.int .i64 1)) fun v13 =>
        ∃ m1, m1 < n1 ∧ I1 m1 [v13, v3_1] h2) → J2 [v3_1] h2) →
      vP (nilV a0) fun v15 =>
      vP (faV 0 v15) fun v16 =>
      vP (ld1 v16 h1) fun v17 =>
      vP (iaS 1 v17 v4) fun v19 =>
      vP (ld1 v19 h1) fun v20 =>
      vB v20 (vP (binV .add v3 (Value.int .i64 1)) fun v22 =>
        J2 [v22] h1)
      (J2 [v3] h1))
    (K v3 h1)
theorem D20_eq (a0 : Value) (K : Value → Hp → Prop) (h : Hp) : fnVC Try.prog Try.f20 x20 [a0] K h = D20 a0 K h := by kernel_rfl
theorem D20_ok : fnOk Try.prog Try.f20 x20 1 = true := by kernel_rfl
theorem C20 {a0 : Value} {K : Value → Hp → Prop} {h : Hp} (hh : D20 a0 K h) : CallH Try.prog 20 #[a0] K h :=
  callH_of mixed Try.func20 x20 [a0] D20_ok (D20_eq a0 K h ▸ hh)

/- 21: container/heap.Push; slots: 0 h, 1 x, 2 h, 3 x -/
def x21 : Ann := (.seq (.reg [] [(0, []), (1, []), (2, [])]) (.reg [] [(0, []), (1, []), (2, []), (3, []), (4, [])]))
def D21 (a0 a1 : Value) (K : Value → Hp → Prop) (h : Hp) : Prop :=
  ivW Try.prog a0 "Push" #[a1] (fun v6 h1 =>
  ivW Try.prog a0 "Len" #[] (fun v9 h2 =>
  vP (binV .sub v9 (Value.int .i64 1)) fun v10 =>
  CallH Try.prog 28 #[a0, v10] (fun v11 h3 =>
  K (Value.tuple #[]) h3) h2) h1) h
theorem D21_eq (a0 a1 : Value) (K : Value → Hp → Prop) (h : Hp) : fnVC Try.prog Try.f21 x21 [a0, a1] K h = D21 a0 a1 K h := by kernel_rfl
theorem D21_ok : fnOk Try.prog Try.f21 x21 2 = true := by kernel_rfl
theorem C21 {a0 a1 : Value} {K : Value → Hp → Prop} {h : Hp} (hh : D21 a0 a1 K h) : CallH Try.prog 21 #[a0, a1] K h :=
  callH_of mixed Try.func21 x21 [a0, a1] D21_ok (D21_eq a0 a1 K h ▸ hh)

/- 22: container/heap.Pop; slots: 0 h, 1 h, 3 n -/
def x22 : Ann := (.seq (.reg [] [(0, [])]) (.seq (.reg [] [(0, []), (1, []), (2, []), (3, [])]) (.seq (.reg [] [(0, []), (1, []), (2, [])]) (.seq (.reg [] [(0, []), (1, []), (2, [])]) (.seq (.reg [] [(0, []), (1, []), (2, [])]) .leaf)))))
def D22 (a0 : Value) (K : Value → Hp → Prop) (h : Hp) : Prop :=
  ivW Try.prog a0 "Len" #[] (fun v5 h1 =>
  vP (binV .sub v5 (Value.int .i64 1)) fun v6 =>
  ivW Try.prog a0 "Swap" #[(Value.int .i64 0), v6] (fun v9 h2 =>
  CallH Try.prog 29 #[a0, (Value.int .i64 0), v6] (fun v12 h3 =>
  ivW Try.prog a0 "Pop" #[] (fun v14 h4 =>
  K v14 h4) h3) h2) h1) h
theorem D22_eq (a0 : Value) (K : Value → Hp → Prop) (h : Hp) : fnVC Try.prog Try.f22 x22 [a0] K h = D22 a0 K h := by kernel_rfl
theorem D22_ok : fnOk Try.prog Try.f22 x22 1 = true := by kernel_rfl
theorem C22 {a0 : Value} {K : Value → Hp → Prop} {h : Hp} (hh : D22 a0 K h) : CallH Try.prog 22 #[a0] K h :=
  callH_of mixed Try.func22 x22 [a0] D22_ok (D22_eq a0 K h ▸ hh)

/- 23: slices.Index[[]treadmill/api.Run,treadmill/api.Run]; slots: 0 s, 1 v, 2 s, 3 v, 5 i -/
def x23 : Ann := (.seq (.reg [] [(0, []), (1, [])]) (.seq (.seq (.reg [] [(0, []), (1, []), (2, [])]) (.blk (.loop [8] [9, 10, 5, 11, 12, 13, 14, 15, 16, 17, 4, 18, 8] (.seq (.reg [] [(0, [])]) (.seq (.cond .leaf .leaf) (.seq (.blk (.seq (.reg [] [(0, []), (1, [])]) (.seq (.reg [0, 0, 0, 6, 14, 31] [(1, []), (2, []), (3, []), (0, []), (4, []), (5, [])]) (.cond (.seq (.reg [] [(0, []), (1, [])]) .leaf) .leaf)))) (.reg [] [(0, []), (1, [])]))))))) (.seq (.reg [] [(0, [])]) .leaf)))
def D23 (a0 a1 : Value) (K : Value → Hp → Prop) (h : Hp) : Prop :=
  vA (some (Obj.cells (Value.cells a1) 34 (0, 0), ptrV)) (fun v3 h1 =>
  vP (lenV a0) fun v7 =>
  ∃ I1 : Nat → List Value → Hp → Prop, (∃ n, I1 n [(Value.int .i64 0)] h1) ∧
  ∀ n1 : Nat, ∀ v8 : Value, ∀ h2 : Hp, I1 n1 [v8] h2 → ∀ g1 : St,
    vP (binV .lss v8 v7) fun v9 =>
    vB v9 (vP (iaS 2 a0 v8) fun v14 =>
      vP (ldN 2 v3 h2) fun v11 =>
      vP (ldN 2 v14 h2) fun v15 =>
      vP (eqA [1, 1] false v11 v15) fun v16 =>
      vB v16 (K v8 h2)
      (vP (binV .add v8 (Value.int .i64 1)) fun v18 =>
      ∃ m1, m1 < n1 ∧ I1 m1 [v18] h2))
    (K (Value.int .i64 (-1)) h2)) h
theorem D23_eq (a0 a1 : Value) (K : Value → Hp → Prop) (h : Hp) : fnVC Try.prog Try.f23 x23 [a0, a1] K h = D23 a0 a1 K h := by kernel_rfl
theorem D23_ok : fnOk Try.prog Try.f23 x23 2 = true := by kernel_rfl
theorem C23 {a0 a1 : Value} {K : Value → Hp → Prop} {h : Hp} (hh : D23 a0 a1 K h) : CallH Try.prog 23 #[a0, a1] K h :=
  callH_of mixed Try.func23 x23 [a0, a1] D23_ok (D23_eq a0 a1 K h ▸ hh)

/- 24: slices.Delete[[]treadmill/api.Run,treadmill/api.Run]; slots: 0 s, 1 i, 2 j, 3 s, 4 i, 5 j, 7 oldlen -/
def x24 : Ann := (.seq (.reg [] [(0, [])]) (.seq (.reg [] [(0, []), (1, []), (2, []), (3, []), (4, []), (5, [])]) (.seq (.seq (.reg [] [(0, []), (1, []), (2, [])]) (.cond (.seq (.reg [] [(0, []), (1, [])]) .leaf) .leaf)) (.seq (.reg [] [(0, []), (1, []), (2, [])]) (.seq (.reg [0, 0, 3, 0, 0, 24, 63, 127] [(0, []), (1, []), (2, []), (3, []), (4, []), (5, []), (6, []), (7, [])]) (.seq (.reg [] [(0, []), (1, []), (2, []), (3, []), (4, []), (5, [])]) (.seq (.reg [] [(0, []), (1, [])]) .leaf)))))))
def D24 (a0 a1 a2 : Value) (K : Value → Hp → Prop) (h : Hp) : Prop :=
  vP (lenV a0) fun v12 =>
  vP (slV 2 a0 (some a1) (some a2) (some v12)) fun v13 =>
  vP (eqV 1 false a1 a2) fun v16 =>
  vB v16 (K a0 h)
  (vP (lenV a0) fun v19 =>
  vP (slV 2 a0 none (some a1) none) fun v22 =>
  vP (slV 2 a0 (some a2) none none) fun v25 =>
  apW Try.prog #[29, 29] 29 v22 v25 (fun v26 h1 =>
  vP (lenV v26) fun v29 =>
  vP (slV 2 v26 (some v29) (some v19) none) fun v31 =>
  clW Try.prog #[29] 0 v31 (fun _ h2 =>
  K v26 h2) h1) h)
theorem D24_eq (a0 a1 a2 : Value) (K : Value → Hp → Prop) (h : Hp) : fnVC Try.prog Try.f24 x24 [a0, a1, a2] K h = D24 a0 a1 a2 K h := by kernel_rfl
theorem D24_ok : fnOk Try.prog Try.f24 x24 3 = true := by kernel_rfl
theorem C24 {a0 a1 a2 : Value} {K : Value → Hp → Prop} {h : Hp} (hh : D24 a0 a1 a2 K h) : CallH Try.prog 24 #[a0, a1, a2] K h :=
  callH_of mixed Try.func24 x24 [a0, a1, a2] D24_ok (D24_eq a0 a1 a2 K h ▸ hh)

/- 25: slices.Insert[[]treadmill/api.Run,treadmill/api.Run]; slots: 0 s, 1 i, 2 v, 3 s, 4 i, 5 v, 7 m, 8 n, 9 s2 -/
def x25 : Ann := (.seq (.reg [] [(0, [])]) (.seq (.reg [] [(0, []), (1, []), (2, [])]) (.seq (.reg [] [(0, []), (1, []), (2, [])]) (.seq (.seq (.reg [] [(0, []), (1, [])]) (.cond (.seq (.reg [] [(0, []), (1, [])]) .leaf) .leaf)) (.seq (.reg [] [(0, []), (1, []), (2, [])]) (.seq (.seq (.reg [] [(0, []), (1, []), (2, [])]) (.cond (.seq (.reg [] [(0, []), (1, []), (2, []), (3, [])]) .leaf) .leaf)) (.seq (.seq (.reg [] [(0, []), (1, []), (2, []), (3, []), (4, []), (5, [])]) (.cond (.seq (.reg [] [(0, []), (1, []), (2, []), (3, []), (4, []), (5, []), (6, []), (7, []), (8, []), (9, [])]) (.seq (.reg [] [(0, []), (1, []), (2, []), (3, []), (4, [])]) (.seq (.reg [0, 0, 0, 6, 15, 0, 0, 96, 255] [(0, []), (1, []), (2, []), (3, []), (4, []), (5, []), (6, []), (7, []), (8, [])]) (.seq (.reg [] [(0, []), (1, [])]) .leaf)))) .leaf)) (.seq (.reg [] [(0, []), (1, []), (2, []), (3, []), (4, []), (5, [])]) (.seq (.seq (.reg [] [(0, []), (1, []), (2, []), (3, []), (4, []), (5, []), (6, []), (7, [])]) (.cond (.seq (.reg [0, 0, 0, 6, 15, 0, 0, 96, 255] [(0, []), (1, []), (2, []), (3, []), (4, []), (5, []), (6, []), (7, []), (8, [])]) (.seq (.reg [] [(0, []), (1, []), (2, []), (3, []), (4, [])]) (.seq (.reg [] [(0, []), (1, [])]) .leaf))) .leaf)) (.seq (.reg [] [(0, []), (1, []), (2, []), (3, []), (4, [])]) (.seq (.reg [] [(0, []), (1, []), (2, []), (3, []), (4, [])]) (.seq (.reg [] [(0, []), (1, [])]) .leaf))))))))))))
def D25 (a0 a1 a2 : Value) (K : Value → Hp → Prop) (h : Hp) : Prop :=
  vP (slV 2 a0 (some a1) none none) fun v12 =>
  vP (lenV a2) fun v14 =>
  vP (eqV 1 false v14 (Value.int .i64 0)) fun v16 =>
  vB v16 (K a0 h)
  (vP (lenV a0) fun v19 =>
  vP (eqV 1 false a1 v19) fun v22 =>
  vB v22 (apW Try.prog #[29, 29] 29 a0 a2 (fun v25 h1 =>
    K v25 h1) h)
  (vP (binV .add v19 v14) fun v28 =>
  vP (capV a0) fun v30 =>
  vP (binV .gtr v28 v30) fun v31 =>
  vB v31 (vP (slV 2 a0 none (some a1) none) fun v34 =>
    vP (binV .add v19 v14) fun v37 =>
    vP (binV .sub v37 a1) fun v39 =>
    apW Try.prog #[29, 3] 29 v34 v39 (fun v40 h2 =>
    vP (slV 2 v40 (some a1) none none) fun v43 =>
    cpW Try.prog #[29, 29] 3 v43 a2 (fun v45 h3 =>
    vP (binV .add a1 v14) fun v49 =>
    vP (slV 2 v40 (some v49) none none) fun v50 =>
    vP (slV 2 a0 (some a1) none none) fun v53 =>
    cpW Try.prog #[29, 29] 3 v50 v53 (fun v54 h4 =>
    K v40 h4) h3) h2) h)
  (vP (binV .add v19 v14) fun v59 =>
  vP (slV 2 a0 none (some v59) none) fun v60 =>
  vP (binV .add a1 v14) fun v65 =>
  vP (slV 2 v60 (some v65) none none) fun v66 =>
  exW Try.prog 30 #[a2, v66] (fun v67 h5 =>
  vP (unV .not v67) fun v68 =>
  vB v68 (vP (binV .add a1 v14) fun v72 =>
    vP (slV 2 v60 (some v72) none none) fun v73 =>
    vP (slV 2 v60 (some a1) none none) fun v76 =>
    cpW Try.prog #[29, 29] 3 v73 v76 (fun v77 h6 =>
    vP (slV 2 v60 (some a1) none none) fun v80 =>
    cpW Try.prog #[29, 29] 3 v80 a2 (fun v82 h7 =>
    K v60 h7) h6) h5)
  (vP (slV 2 v60 (some v19) none none) fun v86 =>
  cpW Try.prog #[29, 29] 3 v86 a2 (fun v88 h8 =>
  vP (slV 2 v60 (some a1) none none) fun v91 =>
  CallH Try.prog 31 #[v91, v14] (fun v93 h9 =>
  K v60 h9) h8) h5)) h)))
theorem D25_eq (a0 a1 a2 : Value) (K : Value → Hp → Prop) (h : Hp) : fnVC Try.prog Try.f25 x25 [a0, a1, a2] K h = D25 a0 a1 a2 K h := by kernel_rfl
theorem D25_ok : fnOk Try.prog Try.f25 x25 3 = true := by kernel_rfl
theorem C25 {a0 a1 a2 : Value} {K : Value → Hp → Prop} {h : Hp} (hh : D25 a0 a1 a2 K h) : CallH Try.prog 25 #[a0, a1, a2] K h :=
  callH_of mixed Try.func25 x25 [a0, a1, a2] D25_ok (D25_eq a0 a1 a2 K h ▸ hh)

/- 26: (*treadmill/page.Pages).join; slots: 0 p, 1 i, 2 p, 3 i -/
def x26 : Ann := (.seq (.seq (.reg [0, 1, 3, 7, 15, 7, 39, 103, 231, 487, 1023, 2047, 4095, 8191, 16383, 32767, 65535, 8191, 262143, 524287, 1048575, 8191, 2105343, 6299647, 14688255, 8191, 65019903, 132128767, 266346495, 536870911, 8191, 1073750015, 3221233663, 7516200959, 8191, 17179877375, 67645743103, 136365219839, 273804173311, 549755813887, 1099511627775] [(0, []), (1, []), (2, []), (3, []), (4, []), (5, []), (6, []), (7, []), (8, []), (9, []), (10, []), (11, []), (12, []), (13, []), (14, []), (15, []), (17, []), (21, []), (22, []), (23, []), (25, []), (30, []), (31, []), (32, []), (34, []), (35, []), (16, []), (18, []), (19, []), (20, []), (24, []), (26, []), (27, []), (28, []), (29, []), (33, []), (36, []), (37, []), (38, []), (39, []), (40, [])]) (.cond .leaf .leaf)) (.seq (.reg [0, 1, 3, 7, 0, 0, 32, 96, 224, 0, 992, 2016, 4064, 0, 8192, 24576, 57344, 0, 131072, 516096, 1040384, 2088960, 4194272, 8388607, 16777215, 33554431] [(0, []), (1, []), (2, []), (4, []), (5, []), (6, []), (7, []), (9, []), (13, []), (14, []), (15, []), (17, []), (18, []), (3, []), (8, []), (10, []), (11, []), (12, []), (16, []), (19, []), (20, []), (21, []), (22, []), (23, []), (24, []), (25, [])]) (.reg [] [(0, []), (1, []), (2, []), (3, []), (4, []), (5, []), (6, []), (7, []), (8, []), (9, []), (10, []), (11, []), (12, [])])))
def D26 (a0 a1 : Value) (K : Value → Hp → Prop) (h : Hp) : Prop :=
  vP (binV .lss a1 (Value.int .i64 0)) fun v5 =>
  vP (gdW (gB v5 false) (some a1)) fun v7 =>
  vP (gdW (gB v5 false) (binV .add v7 (Value.int .i64 1))) fun v8 =>
  vP (gdW (gB v5 false) (some a0)) fun v9 =>
  vP (gdW (gB v5 false) (nilV v9)) fun v10 =>
  vP (gdW (gB v5 false) (faV 1 v10)) fun v11 =>
  vP (gdW (gB v5 false) (ld1 v11 h)) fun v12 =>
  vP (gdW (gB v5 false) (lenV v12)) fun v13 =>
  vP (gdW (gB v5 false) (binV .geq v8 v13)) fun v14 =>
  vP (pickV v5 (Value.bool true) v14) fun v15 =>
  vP (gdW (gB v15 false) (some a0)) fun v17 =>
  vP (gdW (gB v15 false) (nilV v17)) fun v18 =>
  vP (gdW (gB v15 false) (faV 1 v18)) fun v19 =>
  vP (gdW (gB v15 false) (some a1)) fun v21 =>
  vP (gdW (gB v15 false) (some a0)) fun v25 =>
  vP (gdW (gB v15 false) (nilV v25)) fun v26 =>
  vP (gdW (gB v15 false) (faV 1 v26)) fun v27 =>
  vP (gdW (gB v15 false) (some a1)) fun v29 =>
  vP (gdW (gB v15 false) (some a0)) fun v34 =>
  vP (gdW (gB v15 false) (nilV v34)) fun v35 =>
  vP (gdW (gB v15 false) (faV 1 v35)) fun v36 =>
  vP (gdW (gB v15 false) (some a1)) fun v38 =>
  vP (gdW (gB v15 false) (binV .add v38 (Value.int .i64 1))) fun v39 =>
  vP (gdW (gB v15 false) (ld1 v19 h)) fun v20 =>
  vP (gdW (gB v15 false) (iaS 2 v20 v21)) fun v22 =>
  vP (gdW (gB v15 false) (faV 0 v22)) fun v23 =>
  vP (gdW (gB v15 false) (ld1 v23 h)) fun v24 =>
  vP (gdW (gB v15 false) (ld1 v27 h)) fun v28 =>
  vP (gdW (gB v15 false) (iaS 2 v28 v29)) fun v30 =>
  vP (gdW (gB v15 false) (faV 1 v30)) fun v31 =>
  vP (gdW (gB v15 false) (ld1 v31 h)) fun v32 =>
  vP (gdW (gB v15 false) (binV .add v24 v32)) fun v33 =>
  vP (gdW (gB v15 false) (ld1 v36 h)) fun v37 =>
  vP (gdW (gB v15 false) (iaS 2 v37 v39)) fun v40 =>
  vP (gdW (gB v15 false) (faV 0 v40)) fun v41 =>
  vP (gdW (gB v15 false) (ld1 v41 h)) fun v42 =>
  vP (gdW (gB v15 false) (eqV 1 true v33 v42)) fun v43 =>
  vP (pickV v15 (Value.bool true) v43) fun v44 =>
  vB v44 (K (Value.tuple #[]) h)
  (vP (nilV a0) fun v46 =>
  vP (faV 1 v46) fun v47 =>
  vP (nilV a0) fun v51 =>
  vP (faV 1 v51) fun v52 =>
  vP (nilV a0) fun v59 =>
  vP (faV 1 v59) fun v60 =>
  vP (binV .add a1 (Value.int .i64 1)) fun v63 =>
  vP (ld1 v47 h) fun v48 =>
  vP (ld1 v52 h) fun v53 =>
  vP (iaS 2 v53 a1) fun v55 =>
  vP (faV 1 v55) fun v56 =>
  vP (ld1 v56 h) fun v57 =>
  vP (ld1 v60 h) fun v61 =>
  vP (iaS 2 v61 v63) fun v64 =>
  vP (faV 1 v64) fun v65 =>
  vP (ld1 v65 h) fun v66 =>
  vP (binV .add v57 v66) fun v67 =>
  vP (iaS 2 v48 a1) fun v68 =>
  vP (faV 1 v68) fun v69 =>
  st1 v69 v67 (fun _ h1 =>
  vP (nilV a0) fun v72 =>
  vP (faV 1 v72) fun v73 =>
  vP (ld1 v73 h1) fun v74 =>
  vP (binV .add a1 (Value.int .i64 1)) fun v76 =>
  vP (binV .add a1 (Value.int .i64 2)) fun v78 =>
  CallH Try.prog 24 #[v74, v76, v78] (fun v79 h2 =>
  vP (nilV a0) fun v80 =>
  vP (faV 1 v80) fun v81 =>
  st1 v81 v79 (fun _ h3 =>
  K (Value.tuple #[]) h3) h2) h1) h)
theorem D26_eq (a0 a1 : Value) (K : Value → Hp → Prop) (h : Hp) : fnVC Try.prog Try.f26 x26 [a0, a1] K h = D26 a0 a1 K h := by kernel_rfl
theorem D26_ok : fnOk Try.prog Try.f26 x26 2 = true := by kernel_rfl
theorem C26 {a0 a1 : Value} {K : Value → Hp → Prop} {h : Hp} (hh : D26 a0 a1 K h) : CallH Try.prog 26 #[a0, a1] K h :=
  callH_of mixed Try.func26 x26 [a0, a1] D26_ok (D26_eq a0 a1 K h ▸ hh)

/- 27: slices.Clone[[]treadmill/api.Run,treadmill/api.Run]; slots: 0 s, 1 s -/
def x27 : Ann := (.seq (.reg [] [(0, [])]) (.seq (.seq (.reg [] [(0, []), (1, [])]) (.cond (.seq (.reg [] [(0, [])]) .leaf) .leaf)) (.seq (.reg [] [(0, []), (1, []), (2, []), (3, [])]) .leaf)))
def D27 (a0 : Value) (K : Value → Hp → Prop) (h : Hp) : Prop :=
  vP (eqV 5 false a0 (Value.slice none 0 0)) fun v4 =>
  vB v4 (K (Value.slice none 0 0) h)
  (vA ((bldV #[] []).map fun c => (Obj.cells c 34 (0, 0), fun r => Value.slice (some ⟨r, 0, none⟩) 0 0)) (fun v5 h1 =>
  apW Try.prog #[29, 29] 29 v5 a0 (fun v7 h2 =>
  K v7 h2) h1) h)
theorem D27_eq (a0 : Value) (K : Value → Hp → Prop) (h : Hp) : fnVC Try.prog Try.f27 x27 [a0] K h = D27 a0 K h := by kernel_rfl
theorem D27_ok : fnOk Try.prog Try.f27 x27 1 = true := by kernel_rfl
theorem C27 {a0 : Value} {K : Value → Hp → Prop} {h : Hp} (hh : D27 a0 K h) : CallH Try.prog 27 #[a0] K h :=
  callH_of mixed Try.func27 x27 [a0] D27_ok (D27_eq a0 K h ▸ hh)

/- 28: container/heap.up; slots: 0 h, 1 j, 2 h, 3 j, 4 i -/
def x28 : Ann := (.blk (.loop [1] [5, 6, 7, 4, 8, 9, 10, 11, 12, 13, 14, 15, 16, 17, 18, 19, 20, 21, 22, 1] (.blk (.seq (.reg [] [(0, []), (1, []), (2, []), (3, [])]) (.seq (.seq (.reg [] [(0, []), (1, []), (2, []), (3, []), (4, []), (5, []), (6, []), (7, []), (8, []), (9, [])]) (.cond .leaf .leaf)) (.seq (.reg [] [(0, []), (1, []), (2, []), (3, [])]) (.reg [] [(0, []), (1, [])])))))))
def D28 (a0 a1 : Value) (K : Value → Hp → Prop) (h : Hp) : Prop :=
  ∃ I1 : Nat → List Value → Hp → Prop, (∃ n, I1 n [a1] h) ∧
  ∀ n1 : Nat, ∀ v1 : Value, ∀ h1 : Hp, I1 n1 [v1] h1 → ∀ g1 : St,
    vP (binV .sub v1 (Value.int .i64 1)) fun v6 =>
    vP (binV .quo v6 (Value.int .i64 2)) fun v7 =>
    vP (eqV 1 false v7 v1) fun v10 =>
    vP (gdW (gB v10 false) (some a0)) fun v12 =>
    vP (gdW (gB v10 false) (some v1)) fun v13 =>
    vP (gdW (gB v10 false) (some v7)) fun v14 =>
    vE (gB v10 false) (ivW Try.prog v12 "Less" #[v13, v14]) (fun v15 h2 =>
    vP (gdW (gB v10 false) (unV .not v15)) fun v16 =>
    vP (pickV v10 (Value.bool true) v16) fun v17 =>
    vB v17 (K (Value.tuple #[]) h2)
    (ivW Try.prog a0 "Swap" #[v7, v1] (fun v21 h3 =>
    ∃ m1, m1 < n1 ∧ I1 m1 [v7] h3) h2)) h1
theorem D28_eq (a0 a1 : Value) (K : Value → Hp → Prop) (h : Hp) : fnVC Try.prog Try.f28 x28 [a0, a1] K h = D28 a0 a1 K h := by kernel_rfl
theorem D28_ok : fnOk Try.prog Try.f28 x28 2 = true := by kernel_rfl
theorem C28 {a0 a1 : Value} {K : Value → Hp → Prop} {h : Hp} (hh : D28 a0 a1 K h) : CallH Try.prog 28 #[a0, a1] K h :=
  callH_of mixed Try.func28 x28 [a0, a1] D28_ok (D28_eq a0 a1 K h ▸ hh)

/- 29: container/heap.down; slots: 0 h, 1 i0, 2 n, 3 h, 4 i0, 5 n, 7 i, 8 j1, 9 j, 10 j2 -/
def x29 : Ann := (.seq (.reg [] [(0, [])]) (.seq (.reg [] [(0, []), (1, [])]) (.join [7] [12, 13, 14, 8, 15, 16, 17, 18, 19, 20, 21, 22, 9, 23, 24, 10, 25, 26, 27, 28, 29, 30, 31, 32, 33, 34, 35, 36, 37, 38, 39, 40, 41, 42, 43, 44, 7] (.blk (.loop [7] [12, 13, 14, 8, 15, 16, 17, 18, 19, 20, 21, 22, 9, 23, 24, 10, 25, 26, 27, 28, 29, 30, 31, 32, 33, 34, 35, 36, 37, 38, 39, 40, 41, 42, 43, 44, 7] (.blk (.seq (.reg [] [(0, []), (1, []), (2, []), (3, [])]) (.seq (.seq (.reg [] [(0, []), (1, []), (2, []), (3, []), (4, []), (5, []), (6, [])]) (.cond .leaf .leaf)) (.seq (.reg [] [(0, []), (1, [])]) (.join [9] [23, 24, 10, 25, 26, 27, 28, 29, 30, 31, 32, 33, 34, 9] (.seq (.reg [] [(0, []), (1, []), (2, [])]) (.seq (.reg [] [(0, []), (1, []), (2, []), (3, []), (4, []), (5, []), (6, []), (7, []), (8, [])]) (.cond (.reg [] [(0, []), (1, [])]) .leaf))) (.seq (.seq (.reg [] [(0, []), (1, []), (2, []), (3, []), (4, [])]) (.cond .leaf .leaf)) (.seq (.reg [] [(0, []), (1, []), (2, []), (3, [])]) (.reg [] [(0, []), (1, [])])))))))))) (.seq (.reg [] [(0, []), (1, []), (2, []), (3, [])]) .leaf))))
def D29 (a0 a1 a2 : Value) (K : Value → Hp → Prop) (h : Hp) : Prop :=
  ∀ J1 : List Value → Hp → Prop, (∀ v7 : Value, ∀ h1 : Hp, (∀ g1 : St,
    vP (binV .gtr v7 a1) fun v47 =>
    K v47 h1) → J1 [v7] h1) →
  ∃ I2 : Nat → List Value → Hp → Prop, (∃ n, I2 n [a1] h) ∧
  ∀ n2 : Nat, ∀ v7_1 : Value, ∀ h2 : Hp, I2 n2 [v7_1] h2 → ∀ g2 : St,
    vP (binV .mul (Value.int .i64 2) v7_1) fun v13 =>
    vP (binV .add v13 (Value.int .i64 1)) fun v14 =>
    vP (binV .geq v14 a2) fun v17 =>
    vP (gdW (gB v17 false) (some v14)) fun v19 =>
    vP (gdW (gB v17 false) (binV .lss v19 (Value.int .i64 0))) fun v20 =>
    vP (pickV v17 (Value.bool true) v20) fun v21 =>
    vB v21 (J1 [v7_1] h2)
    (∀ J3 : List Value → Hp → Prop, (∀ v9 : Value, ∀ h3 : Hp, (∀ g3 : St,
      ivW Try.prog a0 "Less" #[v9, v7_1] (fun v38 h4 =>
      vP (unV .not v38) fun v39 =>
      vB v39 (J1 [v7_1] h4)
      (ivW Try.prog a0 "Swap" #[v7_1, v9] (fun v43 h5 =>
      ∃ m2, m2 < n2 ∧ I2 m2 [v9] h5) h4)) h3) → J3 [v9] h3) →
    vP (binV .add v14 (Value.int .i64 1)) fun v24 =>
    vP (binV .lss v24 a2) fun v27 =>
    vP (gdW (gB v27 true) (some a0)) fun v29 =>
    vP (gdW (gB v27 true) (some v24)) fun v30 =>
    vP (gdW (gB v27 true) (some v14)) fun v31 =>
    vE (gB v27 true) (ivW Try.prog v29 "Less" #[v30, v31]) (fun v32 h6 =>
    vP (pickV v27 v32 (Value.bool false)) fun v33 =>
    vB v33 (J3 [v24] h6)
    (J3 [v14] h6)) h2)
theorem D29_eq (a0 a1 a2 : Value) (K : Value → Hp → Prop) (h : Hp) : fnVC Try.prog Try.f29 x29 [a0, a1, a2] K h = D29 a0 a1 a2 K h := by kernel_rfl
theorem D29_ok : fnOk Try.prog Try.f29 x29 3 = true := by kernel_rfl
theorem C29 {a0 a1 a2 : Value} {K : Value → Hp → Prop} {h : Hp} (hh : D29 a0 a1 a2 K h) : CallH Try.prog 29 #[a0, a1, a2] K h :=
  callH_of mixed Try.func29 x29 [a0, a1, a2] D29_ok (D29_eq a0 a1 a2 K h ▸ hh)

/- 31: slices.rotateRight[treadmill/api.Run]; slots: 0 s, 1 r, 2 s, 3 r -/
def x31 : Ann := (.reg [] [(0, []), (1, []), (2, []), (3, []), (4, []), (5, [])])
def D31 (a0 a1 : Value) (K : Value → Hp → Prop) (h : Hp) : Prop :=
  vP (lenV a0) fun v6 =>
  vP (binV .sub v6 a1) fun v8 =>
  CallH Try.prog 32 #[a0, v8] (fun v9 h1 =>
  K (Value.tuple #[]) h1) h
theorem D31_eq (a0 a1 : Value) (K : Value → Hp → Prop) (h : Hp) : fnVC Try.prog Try.f31 x31 [a0, a1] K h = D31 a0 a1 K h := by kernel_rfl
theorem D31_ok : fnOk Try.prog Try.f31 x31 2 = true := by kernel_rfl
theorem C31 {a0 a1 : Value} {K : Value → Hp → Prop} {h : Hp} (hh : D31 a0 a1 K h) : CallH Try.prog 31 #[a0, a1] K h :=
  callH_of mixed Try.func31 x31 [a0, a1] D31_ok (D31_eq a0 a1 K h ▸ hh)

/- 32: slices.rotateLeft[treadmill/api.Run]; slots: 0 s, 1 r, 2 s, 3 r -/
def x32 : Ann := (.seq (.reg [] [(0, []), (1, []), (2, []), (3, [])]) (.seq (.reg [] [(0, []), (1, []), (2, []), (3, [])]) (.reg [] [(0, []), (1, [])])))
def D32 (a0 a1 : Value) (K : Value → Hp → Prop) (h : Hp) : Prop :=
  vP (slV 2 a0 none (some a1) none) fun v6 =>
  CallH Try.prog 33 #[v6] (fun v7 h1 =>
  vP (slV 2 a0 (some a1) none none) fun v10 =>
  CallH Try.prog 33 #[v10] (fun v11 h2 =>
  CallH Try.prog 33 #[a0] (fun v13 h3 =>
  K (Value.tuple #[]) h3) h2) h1) h
theorem D32_eq (a0 a1 : Value) (K : Value → Hp → Prop) (h : Hp) : fnVC Try.prog Try.f32 x32 [a0, a1] K h = D32 a0 a1 K h := by kernel_rfl
theorem D32_ok : fnOk Try.prog Try.f32 x32 2 = true := by kernel_rfl
theorem C32 {a0 a1 : Value} {K : Value → Hp → Prop} {h : Hp} (hh : D32 a0 a1 K h) : CallH Try.prog 32 #[a0, a1] K h :=
  callH_of mixed Try.func32 x32 [a0, a1] D32_ok (D32_eq a0 a1 K h ▸ hh)

/- 33: slices.Reverse[[]treadmill/api.Run,treadmill/api.Run]; slots: 0 s, 1 s, 2 i, 3 j -/
def x33 : Ann := (.seq (.reg [] [(0, []), (1, []), (2, []), (3, []), (4, [])]) (.blk (.loop [3, 2] [7, 8, 9, 14, 15, 16, 17, 18, 19, 20, 21, 22, 23, 24, 25, 26, 27, 10, 11, 12, 13, 2, 3] (.seq (.seq (.reg [] [(0, []), (1, []), (2, [])]) (.cond .leaf .leaf)) (.seq (.blk (.reg [0, 0, 0, 0, 0, 0, 48, 112, 0, 0, 768, 1792, 4083, 8179, 16383, 32767] [(0, []), (1, []), (2, []), (3, []), (4, []), (5, []), (6, []), (8, []), (9, []), (10, []), (7, []), (11, []), (12, []), (13, []), (14, []), (15, [])])) (.reg [] [(0, []), (1, []), (2, []), (3, []), (4, []), (5, [])]))))))
def D33 (a0 : Value) (K : Value → Hp → Prop) (h : Hp) : Prop :=
  vP (lenV a0) fun v5 =>
  vP (binV .sub v5 (Value.int .i64 1)) fun v6 =>
  ∃ I1 : Nat → List Value → Hp → Prop, (∃ n, I1 n [v6, (Value.int .i64 0)] h) ∧
  ∀ n1 : Nat, ∀ v3 v2 : Value, ∀ h1 : Hp, I1 n1 [v3, v2] h1 → ∀ g1 : St,
    vP (binV .lss v2 v3) fun v9 =>
    vB v9 (vP (iaS 2 a0 v3) fun v20 =>
      vP (iaS 2 a0 v2) fun v24 =>
      vP (ldN 2 v20 h1) fun v21 =>
      vP (ldN 2 v24 h1) fun v25 =>
      vP (iaS 2 a0 v2) fun v26 =>
      stN 2 v26 v21 (fun _ h2 =>
      vP (iaS 2 a0 v3) fun v27 =>
      stN 2 v27 v25 (fun _ h3 =>
      vP (binV .add v2 (Value.int .i64 1)) fun v11 =>
      vP (binV .sub v3 (Value.int .i64 1)) fun v13 =>
      ∃ m1, m1 < n1 ∧ I1 m1 [v13, v11] h3) h2) h1)
    (K (Value.tuple #[]) h1)
theorem D33_eq (a0 : Value) (K : Value → Hp → Prop) (h : Hp) : fnVC Try.prog Try.f33 x33 [a0] K h = D33 a0 K h := by kernel_rfl
theorem D33_ok : fnOk Try.prog Try.f33 x33 1 = true := by kernel_rfl
theorem C33 {a0 : Value} {K : Value → Hp → Prop} {h : Hp} (hh : D33 a0 K h) : CallH Try.prog 33 #[a0] K h :=
  callH_of mixed Try.func33 x33 [a0] D33_ok (D33_eq a0 K h ▸ hh)

/- 50: (treadmill/page.bySize).Len; slots: 0 h, 1 h -/
def x50 : Ann := (.seq (.reg [] [(0, [])]) (.seq (.reg [] [(0, []), (1, []), (2, [])]) .leaf))
def D50 (a0 : Value) (K : Value → Hp → Prop) (h : Hp) : Prop :=
  vP (lenV a0) fun v4 =>
  K v4 h
theorem D50_eq (a0 : Value) (K : Value → Hp → Prop) (h : Hp) : fnVC Try.prog Try.f50 x50 [a0] K h = D50 a0 K h := by kernel_rfl
theorem D50_ok : fnOk Try.prog Try.f50 x50 1 = true := by kernel_rfl
theorem C50 {a0 : Value} {K : Value → Hp → Prop} {h : Hp} (hh : D50 a0 K h) : CallH Try.prog 50 #[a0] K h :=
  callH_of mixed Try.func50 x50 [a0] D50_ok (D50_eq a0 K h ▸ hh)

/- 51: (treadmill/page.bySize).Less; slots: 0 h, 1 i, 2 k, 3 h, 4 i, 5 k -/
def x51 : Ann := (.seq (.reg [] [(0, [])]) (.seq (.reg [0, 0, 3, 7, 15, 0, 0, 96, 224, 480, 1023, 2047, 4095, 4095, 16383, 32767, 65535, 4095, 4095, 397311, 921599, 1970175, 4194303, 8388607, 16777215, 16777215, 67108863, 134217727, 268435455, 16777215, 16777215, 1627389951, 3774873599, 8069840895, 17179869183, 34359738367, 68719476735, 137438953471] [(0, []), (1, []), (2, []), (3, []), (5, []), (6, []), (7, []), (8, []), (4, []), (9, []), (10, []), (11, []), (12, []), (13, []), (14, []), (15, []), (17, []), (18, []), (19, []), (20, []), (16, []), (21, []), (22, []), (23, []), (24, []), (25, []), (26, []), (27, []), (29, []), (30, []), (31, []), (32, []), (28, []), (33, []), (34, []), (35, []), (36, []), (37, [])]) .leaf))
def D51 (a0 a1 a2 : Value) (K : Value → Hp → Prop) (h : Hp) : Prop :=
  vP (iaS 2 a0 a1) fun v9 =>
  vP (faV 1 v9) fun v10 =>
  vP (iaS 2 a0 a2) fun v14 =>
  vP (faV 1 v14) fun v15 =>
  vP (ld1 v10 h) fun v11 =>
  vP (ld1 v15 h) fun v16 =>
  vP (binV .lss v11 v16) fun v17 =>
  vP (gdW (gB v17 false) (some a0)) fun v19 =>
  vP (gdW (gB v17 false) (some a1)) fun v20 =>
  vP (gdW (gB v17 false) (iaS 2 v19 v20)) fun v21 =>
  vP (gdW (gB v17 false) (faV 1 v21)) fun v22 =>
  vP (gdW (gB v17 false) (some a0)) fun v24 =>
  vP (gdW (gB v17 false) (some a2)) fun v25 =>
  vP (gdW (gB v17 false) (iaS 2 v24 v25)) fun v26 =>
  vP (gdW (gB v17 false) (faV 1 v26)) fun v27 =>
  vP (gdW (gB v17 false) (ld1 v22 h)) fun v23 =>
  vP (gdW (gB v17 false) (ld1 v27 h)) fun v28 =>
  vP (gdW (gB v17 false) (eqV 1 false v23 v28)) fun v29 =>
  vP (gdW (gB v17 false) (some v29)) fun v30 =>
  vP (gdW (gB v30 true) (some a0)) fun v31 =>
  vP (gdW (gB v30 true) (some a1)) fun v32 =>
  vP (gdW (gB v30 true) (iaS 2 v31 v32)) fun v33 =>
  vP (gdW (gB v30 true) (faV 0 v33)) fun v34 =>
  vP (gdW (gB v30 true) (some a0)) fun v36 =>
  vP (gdW (gB v30 true) (some a2)) fun v37 =>
  vP (gdW (gB v30 true) (iaS 2 v36 v37)) fun v38 =>
  vP (gdW (gB v30 true) (faV 0 v38)) fun v39 =>
  vP (gdW (gB v30 true) (ld1 v34 h)) fun v35 =>
  vP (gdW (gB v30 true) (ld1 v39 h)) fun v40 =>
  vP (gdW (gB v30 true) (binV .lss v35 v40)) fun v41 =>
  vP (gdW (gB v17 false) (pickV v30 v41 (Value.bool false))) fun v42 =>
  vP (pickV v17 (Value.bool true) v42) fun v43 =>
  K v43 h
theorem D51_eq (a0 a1 a2 : Value) (K : Value → Hp → Prop) (h : Hp) : fnVC Try.prog Try.f51 x51 [a0, a1, a2] K h = D51 a0 a1 a2 K h := by kernel_rfl
theorem D51_ok : fnOk Try.prog Try.f51 x51 3 = true := by kernel_rfl
theorem C51 {a0 a1 a2 : Value} {K : Value → Hp → Prop} {h : Hp} (hh : D51 a0 a1 a2 K h) : CallH Try.prog 51 #[a0, a1, a2] K h :=
  callH_of mixed Try.func51 x51 [a0, a1, a2] D51_ok (D51_eq a0 a1 a2 K h ▸ hh)

/- 52: (treadmill/page.bySize).Swap; slots: 0 h, 1 i, 2 k, 3 h, 4 i, 5 k -/
def x52 : Ann := (.reg [0, 0, 0, 0, 0, 0, 48, 112, 0, 0, 768, 1792, 4083, 8179, 16383, 32767] [(0, []), (1, []), (2, []), (3, []), (4, []), (5, []), (6, []), (8, []), (9, []), (10, []), (7, []), (11, []), (12, []), (13, []), (14, []), (15, [])])
def D52 (a0 a1 a2 : Value) (K : Value → Hp → Prop) (h : Hp) : Prop :=
  vP (iaS 2 a0 a2) fun v12 =>
  vP (iaS 2 a0 a1) fun v16 =>
  vP (ldN 2 v12 h) fun v13 =>
  vP (ldN 2 v16 h) fun v17 =>
  vP (iaS 2 a0 a1) fun v18 =>
  stN 2 v18 v13 (fun _ h1 =>
  vP (iaS 2 a0 a2) fun v19 =>
  stN 2 v19 v17 (fun _ h2 =>
  K (Value.tuple #[]) h2) h1) h
theorem D52_eq (a0 a1 a2 : Value) (K : Value → Hp → Prop) (h : Hp) : fnVC Try.prog Try.f52 x52 [a0, a1, a2] K h = D52 a0 a1 a2 K h := by kernel_rfl
theorem D52_ok : fnOk Try.prog Try.f52 x52 3 = true := by kernel_rfl
theorem C52 {a0 a1 a2 : Value} {K : Value → Hp → Prop} {h : Hp} (hh : D52 a0 a1 a2 K h) : CallH Try.prog 52 #[a0, a1, a2] K h :=
  callH_of mixed Try.func52 x52 [a0, a1, a2] D52_ok (D52_eq a0 a1 a2 K h ▸ hh)

/- 53: (*treadmill/page.bySize).Pop; slots: 0 h, 1 h, 3 l, 4 x -/
def x53 : Ann := (.seq (.reg [] [(0, [])]) (.seq (.reg [] [(0, []), (1, []), (2, []), (3, [])]) (.seq (.reg [] [(0, []), (1, []), (2, []), (3, []), (4, []), (5, []), (6, []), (7, [])]) (.seq (.reg [] [(0, []), (1, []), (2, []), (3, []), (4, []), (5, []), (6, []), (7, [])]) (.seq (.reg [] [(0, []), (1, []), (2, [])]) .leaf)))))
def D53 (a0 : Value) (K : Value → Hp → Prop) (h : Hp) : Prop :=
  vP (nilV a0) fun v6 =>
  vP (ld1 v6 h) fun v7 =>
  vP (lenV v7) fun v10 =>
  vP (binV .sub v10 (Value.int .i64 1)) fun v11 =>
  vP (iaS 2 v7 v11) fun v12 =>
  vP (ldN 2 v12 h) fun v13 =>
  vA (some (Obj.cells #[(Value.int .i64 0), (Value.int .i64 0)] 34 (0, 0), ptrV)) (fun v4 h1 =>
  stN 2 v4 v13 (fun _ h2 =>
  vP (lenV v7) fun v17 =>
  vP (binV .sub v17 (Value.int .i64 1)) fun v18 =>
  vP (slV 2 v7 none (some v18) none) fun v19 =>
  vP (nilV a0) fun v20 =>
  st1 v20 v19 (fun _ h3 =>
  vP (ldN 2 v4 h3) fun v21 =>
  vP (some (Value.iface 34 v21)) fun v22 =>
  K v22 h3) h2) h1) h
theorem D53_eq (a0 : Value) (K : Value → Hp → Prop) (h : Hp) : fnVC Try.prog Try.f53 x53 [a0] K h = D53 a0 K h := by kernel_rfl
theorem D53_ok : fnOk Try.prog Try.f53 x53 1 = true := by kernel_rfl
theorem C53 {a0 : Value} {K : Value → Hp → Prop} {h : Hp} (hh : D53 a0 K h) : CallH Try.prog 53 #[a0] K h :=
  callH_of mixed Try.func53 x53 [a0] D53_ok (D53_eq a0 K h ▸ hh)

/- 54: (*treadmill/page.bySize).Push; slots: 0 h, 1 x, 2 h, 3 x -/
def x54 : Ann := (.reg [0, 0, 2, 6, 0, 16, 48, 126, 255, 511] [(0, []), (1, []), (2, []), (4, []), (5, []), (3, []), (6, []), (7, []), (8, []), (9, [])])
def D54 (a0 a1 : Value) (K : Value → Hp → Prop) (h : Hp) : Prop :=
  vP (nilV a0) fun v6 =>
  vP (taV 34 (Value.agg #[(Value.int .i64 0), (Value.int .i64 0)]) false a1) fun v9 =>
  vP (ld1 v6 h) fun v7 =>
  vA ((bldV #[(Value.int .i64 0), (Value.int .i64 0)] [(0, 2, v9)]).map fun c => (Obj.cells c 34 (0, 0), fun r => Value.slice (some ⟨r, 0, none⟩) 1 1)) (fun v10 h1 =>
  apW Try.prog #[48, 48] 48 v7 v10 (fun v11 h2 =>
  vP (nilV a0) fun v12 =>
  st1 v12 v11 (fun _ h3 =>
  K (Value.tuple #[]) h3) h2) h1) h
theorem D54_eq (a0 a1 : Value) (K : Value → Hp → Prop) (h : Hp) : fnVC Try.prog Try.f54 x54 [a0, a1] K h = D54 a0 a1 K h := by kernel_rfl
theorem D54_ok : fnOk Try.prog Try.f54 x54 2 = true := by kernel_rfl
theorem C54 {a0 a1 : Value} {K : Value → Hp → Prop} {h : Hp} (hh : D54 a0 a1 K h) : CallH Try.prog 54 #[a0, a1] K h :=
  callH_of mixed Try.func54 x54 [a0, a1] D54_ok (D54_eq a0 a1 K h ▸ hh)

/- 14: treadmill/treadmilllaw5.told; slots: 1 p, 2 a, 3 e, 4 b, 5 f, 6 g, 7 h, 8 l -/
def x14 : Ann := (.seq (.reg [] [(0, [])]) (.seq (.reg [] [(0, []), (1, [])]) (.seq (.seq (.reg [] [(0, []), (1, [])]) (.cond (.seq (.reg [] [(0, [])]) .leaf) .leaf)) (.seq (.reg [] [(0, []), (1, []), (2, []), (3, []), (4, []), (5, []), (6, [])]) (.seq (.reg [] [(0, []), (1, []), (2, []), (3, []), (4, []), (5, []), (6, [])]) (.seq (.reg [] [(0, []), (1, []), (2, [])]) (.seq (.reg [] [(0, []), (1, []), (2, [])]) (.seq (.reg [] [(0, []), (1, []), (2, [])]) (.seq (.reg [] [(0, []), (1, []), (2, []), (3, []), (4, []), (5, []), (6, []), (7, []), (8, []), (9, []), (10, []), (11, []), (12, []), (13, []), (14, []), (15, []), (16, []), (17, []), (18, []), (19, []), (20, []), (21, []), (22, []), (23, []), (24, []), (25, []), (26, []), (27, []), (28, []), (29, []), (30, []), (31, []), (32, []), (33, []), (34, []), (35, []), (36, []), (37, []), (38, []), (39, [])]) .leaf)))))))))
def D14 (K : Value → Hp → Prop) (h : Hp) : Prop :=
  CallH Try.prog 8 #[(Value.int .i64 6)] (fun v9 h1 =>
  vP (eqV 4 false v9 (Value.pointer none)) fun v11 =>
  vB v11 (K (Value.bool false) h1)
  (CallH Try.prog 9 #[v9, (Value.int .i64 2)] (fun v14 h2 =>
  vP (exV v14 0) fun v15 =>
  vP (exV v14 1) fun v16 =>
  CallH Try.prog 9 #[v9, (Value.int .i64 9)] (fun v19 h3 =>
  vP (exV v19 0) fun v20 =>
  vP (exV v19 1) fun v21 =>
  CallH Try.prog 11 #[v9, (Value.int .i64 1), (Value.int .i64 2)] (fun v23 h4 =>
  CallH Try.prog 11 #[v9, (Value.int .i64 1), (Value.int .i64 1)] (fun v25 h5 =>
  CallH Try.prog 12 #[v9] (fun v27 h6 =>
  vP (eqV 1 false v15 (Value.int .i64 1)) fun v29 =>
  vP (gdW (gB v29 true) (some v16)) fun v31 =>
  vP (gdW (gB v29 true) (eqV 1 false v31 (Value.int .i64 0))) fun v32 =>
  vP (pickV v29 v32 (Value.bool false)) fun v33 =>
  vP (gdW (gB v33 true) (some v20)) fun v35 =>
  vP (gdW (gB v33 true) (eqV 1 false v35 (Value.int .i64 0))) fun v36 =>
  vP (pickV v33 v36 (Value.bool false)) fun v37 =>
  vP (gdW (gB v37 true) (some v21)) fun v39 =>
  vP (gdW (gB v37 true) (eqV 1 false v39 (Value.int .i64 3))) fun v40 =>
  vP (pickV v37 v40 (Value.bool false)) fun v41 =>
  vP (gdW (gB v41 true) (some v23)) fun v43 =>
  vP (gdW (gB v41 true) (eqV 1 false v43 (Value.int .i64 0))) fun v44 =>
  vP (pickV v41 v44 (Value.bool false)) fun v45 =>
  vP (gdW (gB v45 true) (some v25)) fun v47 =>
  vP (gdW (gB v45 true) (eqV 1 false v47 (Value.int .i64 5))) fun v48 =>
  vP (pickV v45 v48 (Value.bool false)) fun v49 =>
  vP (gdW (gB v49 true) (some v27)) fun v51 =>
  vP (gdW (gB v49 true) (lenV v51)) fun v52 =>
  vP (gdW (gB v49 true) (eqV 1 false v52 (Value.int .i64 1))) fun v53 =>
  vP (pickV v49 v53 (Value.bool false)) fun v54 =>
  vP (gdW (gB v54 true) (some v27)) fun v56 =>
  vP (gdW (gB v54 true) (iaS 2 v56 (Value.int .i64 0))) fun v57 =>
  vP (gdW (gB v54 true) (ldN 2 v57 h6)) fun v58 =>
  vP (gdW (gB v54 true) ((bldV #[(Value.int .i64 0), (Value.int .i64 0)] [(0, 1, (Value.int .i64 1)), (1, 1, (Value.int .i64 5))]).map Value.agg)) fun v59 =>
  vP (gdW (gB v54 true) (eqA [1, 1] false v58 v59)) fun v60 =>
  vP (pickV v54 v60 (Value.bool false)) fun v61 =>
  vP (gdW (gB v61 true) (some v9)) fun v63 =>
  vE (gB v61 true) (CallH Try.prog 13 #[v63]) (fun v64 h7 =>
  vP (gdW (gB v61 true) (eqV 1 false v64 (Value.int .i64 5))) fun v65 =>
  vP (pickV v61 v65 (Value.bool false)) fun v66 =>
  K v66 h7) h6) h5) h4) h3) h2) h1)) h
theorem D14_eq (K : Value → Hp → Prop) (h : Hp) : fnVC Try.prog Try.f14 x14 [] K h = D14  K h := by kernel_rfl
theorem D14_ok : fnOk Try.prog Try.f14 x14 0 = true := by kernel_rfl
theorem C14 {K : Value → Hp → Prop} {h : Hp} (hh : D14  K h) : CallH Try.prog 14 #[] K h :=
  callH_of mixed Try.func14 x14 [] D14_ok (D14_eq  K h ▸ hh)

/- 3: treadmill/treadmilllaw5.PageMerges; slots: 0 n, 1 step, 2 n, 3 step, 5 k, 6 p, 7 i, 8 a, 9 e, 10 d, 11 free, 12 at, 13 i, 14 runs, 15 j, 16 l -/
def x3 : Ann := (.seq (.reg [] [(0, [])]) (.seq (.reg [] [(0, []), (1, []), (2, []), (3, []), (4, []), (5, [])]) (.seq (.reg [] [(0, []), (1, []), (2, [])]) (.seq (.seq (.reg [] [(0, []), (1, [])]) (.cond (.seq (.reg [] [(0, [])]) .leaf) .leaf)) (.seq (.seq (.reg [] [(0, [])]) (.blk (.loop [7] [26, 27, 28, 32, 33, 31, 34, 35, 8, 9, 36, 37, 38, 39, 40, 41, 42, 4, 29, 30, 7] (.seq (.seq (.reg [] [(0, []), (1, []), (2, [])]) (.cond .leaf .leaf)) (.seq (.blk (.seq (.reg [] [(0, []), (1, []), (2, []), (3, []), (4, []), (5, []), (6, [])]) (.seq (.reg [] [(0, []), (1, []), (2, []), (3, []), (4, []), (5, []), (6, [])]) (.cond (.seq (.reg [] [(0, [])]) .leaf) .leaf)))) (.reg [] [(0, []), (1, []), (2, [])])))))) (.seq (.reg [] [(0, []), (1, []), (2, []), (3, []), (4, []), (5, []), (6, []), (7, []), (8, [])]) (.seq (.blk (.loop [10] [51, 52, 53, 54, 55, 56, 57, 10] (.seq (.seq (.reg [] [(0, []), (1, []), (2, []), (3, []), (4, [])]) (.cond .leaf .leaf)) (.blk (.reg [] [(0, []), (1, []), (2, [])]))))) (.seq (.reg [] [(0, []), (1, []), (2, []), (3, [])]) (.seq (.reg [] [(0, [])]) (.seq (.seq (.reg [] [(0, [])]) (.blk (.loop [13, 12] [61, 62, 63, 64, 67, 68, 69, 70, 71, 4, 72, 73, 74, 75, 14, 15, 76, 77, 78, 81, 82, 83, 84, 85, 86, 87, 88, 89, 90, 91, 92, 93, 94, 79, 80, 95, 96, 97, 98, 99, 100, 101, 102, 103, 104, 105, 106, 107, 108, 109, 110, 111, 112, 12, 65, 66, 13] (.seq (.seq (.reg [] [(0, []), (1, []), (2, []), (3, [])]) (.cond .leaf .leaf)) (.seq (.blk (.seq (.seq (.reg [] [(0, []), (1, []), (2, []), (3, []), (4, [])]) (.cond (.seq (.reg [] [(0, [])]) .leaf) .leaf)) (.seq (.reg [] [(0, []), (1, []), (2, []), (3, []), (4, [])]) (.seq (.reg [] [(0, [])]) (.seq (.seq (.reg [] [(0, [])]) (.blk (.loop [15, 14] [76, 77, 78, 81, 82, 83, 84, 85, 86, 87, 88, 89, 90, 91, 92, 93, 94, 14, 79, 80, 15] (.seq (.seq (.reg [] [(0, []), (1, []), (2, [])]) (.cond .leaf .leaf)) (.join [14] [81, 82, 83, 84, 85, 86, 87, 88, 89, 90, 91, 92, 93, 94, 14] (.blk (.seq (.reg [] [(0, []), (1, []), (2, []), (3, []), (4, []), (5, []), (6, []), (7, []), (8, []), (9, []), (10, []), (11, [])]) (.cond (.reg [] [(0, []), (1, []), (2, [])]) .leaf))) (.reg [] [(0, []), (1, []), (2, [])])))))) (.seq (.seq (.reg [] [(0, []), (1, []), (2, []), (3, []), (4, []), (5, []), (6, []), (7, []), (8, []), (9, []), (10, []), (11, [])]) (.cond (.seq (.reg [] [(0, [])]) .leaf) .leaf)) (.reg [] [(0, []), (1, []), (2, []), (3, []), (4, []), (5, []), (6, [])]))))))) (.reg [] [(0, []), (1, []), (2, [])])))))) (.seq (.reg [] [(0, []), (1, []), (2, [])]) (.seq (.reg [] [(0, []), (1, []), (2, []), (3, []), (4, []), (5, []), (6, []), (7, []), (8, []), (9, []), (10, []), (11, []), (12, []), (13, []), (14, []), (15, [])]) .leaf))))))))))))
def D3 (a0 a1 : Value) (K : Value → Hp → Prop) (h : Hp) : Prop :=
  vP (convV .u64 a0) fun v18 =>
  vP (binV .rem v18 (Value.int .u64 60)) fun v19 =>
  vP (convV .i64 v19) fun v20 =>
  vP (binV .add (Value.int .i64 2) v20) fun v21 =>
  CallH Try.prog 8 #[v21] (fun v23 h1 =>
  vP (eqV 4 false v23 (Value.pointer none)) fun v25 =>
  vB v25 (K (Value.bool false) h1)
  (∃ I1 : Nat → List Value → Hp → Prop, (∃ n, I1 n [(Value.int .i64 1)] h1) ∧
  ∀ n1 : Nat, ∀ v7 : Value, ∀ h2 : Hp, I1 n1 [v7] h2 → ∀ g1 : St,
    vP (binV .lss v7 v21) fun v28 =>
    vB v28 (CallH Try.prog 9 #[v23, (Value.int .i64 1)] (fun v33 h3 =>
      vP (exV v33 0) fun v34 =>
      vP (exV v33 1) fun v35 =>
      vP (eqV 1 true v35 (Value.int .i64 0)) fun v37 =>
      vP (gdW (gB v37 false) (some v34)) fun v39 =>
      vP (gdW (gB v37 false) (some v7)) fun v40 =>
      vP (gdW (gB v37 false) (eqV 1 true v39 v40)) fun v41 =>
      vP (pickV v37 (Value.bool true) v41) fun v42 =>
      vB v42 (K (Value.bool false) h3)
      (vP (binV .add v7 (Value.int .i64 1)) fun v30 =>
      ∃ m1, m1 < n1 ∧ I1 m1 [v30] h3)) h2)
    (vP (convV .u64 a1) fun v44 =>
    vP (binV .sub v21 (Value.int .i64 1)) fun v46 =>
    vP (convV .u64 v46) fun v47 =>
    vP (binV .rem v44 v47) fun v48 =>
    vP (convV .i64 v48) fun v49 =>
    vP (binV .add (Value.int .i64 1) v49) fun v50 =>
    ∃ I2 : Nat → List Value → Hp → Prop, (∃ n, I2 n [v50] h2) ∧
    ∀ n2 : Nat, ∀ v10 : Value, ∀ h4 : Hp, I2 n2 [v10] h4 → ∀ g2 : St,
      vP (binV .sub v21 (Value.int .i64 1)) fun v53 =>
      CallH Try.prog 10 #[v10, v53] (fun v54 h5 =>
      vP (eqV 1 true v54 (Value.int .i64 1)) fun v55 =>
      vB v55 (vP (binV .add v10 (Value.int .i64 1)) fun v57 =>
        ∃ m2, m2 < n2 ∧ I2 m2 [v57] h5)
      (vP (binV .add v21 (Value.int .i64 1)) fun v59 =>
      vA (msV 1 1 4 #[(Value.bool false)] v59 v59) (fun v60 h6 =>
      ∃ I3 : Nat → List Value → Hp → Prop, (∃ n, I3 n [(Value.int .i64 0), (Value.int .i64 0)] h6) ∧
      ∀ n3 : Nat, ∀ v13 v12 : Value, ∀ h7 : Hp, I3 n3 [v13, v12] h7 → ∀ g3 : St,
        vP (binV .sub v21 (Value.int .i64 1)) fun v63 =>
        vP (binV .lss v13 v63) fun v64 =>
        vB v64 (vP (binV .add v12 (Value.int .i64 1)) fun v69 =>
          CallH Try.prog 11 #[v23, v69, (Value.int .i64 1)] (fun v70 h8 =>
          vP (eqV 1 true v70 (Value.int .i64 0)) fun v71 =>
          vB v71 (K (Value.bool false) h8)
          (vP (binV .add v12 (Value.int .i64 1)) fun v74 =>
          vP (iaS 1 v60 v74) fun v75 =>
          st1 v75 (Value.bool true) (fun _ h9 =>
          ∃ I4 : Nat → List Value → Hp → Prop, (∃ n, I4 n [(Value.int .i64 1), (Value.int .i64 0)] h9) ∧
          ∀ n4 : Nat, ∀ v15 v14 : Value, ∀ h10 : Hp, I4 n4 [v15, v14] h10 → ∀ g4 : St,
            vP (binV .lss v15 v21) fun v78 =>
            vB v78 (∀ J5 : List Value → Hp → Prop, (∀ v14_1 : Value, ∀ h11 : Hp, (∀ g5 : St,
                vP (binV .add v15 (Value.int .i64 1)) fun v80 =>
                ∃ m4, m4 < n4 ∧ I4 m4 [v80, v14_1] h11) → J5 [v14_1] h11) →
              vP (iaS 1 v60 v15) fun v83 =>
              vP (ld1 v83 h10) fun v84 =>
              vP (gdW (gB v84 true) (some v60)) fun v86 =>
              vP (gdW (gB v84 true) (some v15)) fun v87 =>
              vP (gdW (gB v84 true) (binV .sub v87 (Value.int .i64 1))) fun v88 =>
              vP (gdW (gB v84 true) (iaS 1 v86 v88)) fun v89 =>
              vP (gdW (gB v84 true) (ld1 v89 h10)) fun v90 =>
              vP (gdW (gB v84 true) (unV .not v90)) fun v91 =>
              vP (pickV v84 v91 (Value.bool false)) fun v92 =>
              vB v92 (vP (binV .add v14 (Value.int .i64 1)) fun v94 =>
                J5 [v94] h10)
              (J5 [v14] h10))
            (CallH Try.prog 12 #[v23] (fun v96 h12 =>
            vP (lenV v96) fun v97 =>
            vP (eqV 1 true v97 v14) fun v99 =>
            vP (gdW (gB v99 false) (some v23)) fun v101 =>
            vE (gB v99 false) (CallH Try.prog 13 #[v101]) (fun v102 h13 =>
            vP (gdW (gB v99 false) (some v13)) fun v103 =>
            vP (gdW (gB v99 false) (binV .add v103 (Value.int .i64 1))) fun v104 =>
            vP (gdW (gB v99 false) (eqV 1 true v102 v104)) fun v105 =>
            vP (pickV v99 (Value.bool true) v105) fun v106 =>
            vB v106 (K (Value.bool false) h13)
            (vP (binV .add v12 v10) fun v109 =>
            vP (binV .sub v21 (Value.int .i64 1)) fun v111 =>
            vP (binV .rem v109 v111) fun v112 =>
            vP (binV .add v13 (Value.int .i64 1)) fun v66 =>
            ∃ m3, m3 < n3 ∧ I3 m3 [v66, v112] h13)) h12) h10)) h8)) h7)
        (CallH Try.prog 12 #[v23] (fun v114 h14 =>
        CallH Try.prog 14 #[] (fun v115 h15 =>
        vP (gdW (gB v115 true) (some v114)) fun v117 =>
        vP (gdW (gB v115 true) (lenV v117)) fun v118 =>
        vP (gdW (gB v115 true) (eqV 1 false v118 (Value.int .i64 1))) fun v119 =>
        vP (pickV v115 v119 (Value.bool false)) fun v120 =>
        vP (gdW (gB v120 true) (some v114)) fun v122 =>
        vP (gdW (gB v120 true) (iaS 2 v122 (Value.int .i64 0))) fun v123 =>
        vP (gdW (gB v120 true) (ldN 2 v123 h15)) fun v124 =>
        vP (gdW (gB v120 true) (some v21)) fun v125 =>
        vP (gdW (gB v120 true) (binV .sub v125 (Value.int .i64 1))) fun v126 =>
        vP (gdW (gB v120 true) ((bldV #[(Value.int .i64 0), (Value.int .i64 0)] [(0, 1, (Value.int .i64 1)), (1, 1, v126)]).map Value.agg)) fun v127 =>
        vP (gdW (gB v120 true) (eqA [1, 1] false v124 v127)) fun v128 =>
        vP (pickV v120 v128 (Value.bool false)) fun v129 =>
        K v129 h15) h14) h7)) h5)) h4))) h
theorem D3_eq (a0 a1 : Value) (K : Value → Hp → Prop) (h : Hp) : fnVC Try.prog Try.f3 x3 [a0, a1] K h = D3 a0 a1 K h := by kernel_rfl
theorem D3_ok : fnOk Try.prog Try.f3 x3 2 = true := by kernel_rfl
theorem C3 {a0 a1 : Value} {K : Value → Hp → Prop} {h : Hp} (hh : D3 a0 a1 K h) : CallH Try.prog 3 #[a0, a1] K h :=
  callH_of mixed Try.func3 x3 [a0, a1] D3_ok (D3_eq a0 a1 K h ▸ hh)

/- 4: treadmill/treadmilllaw5.PagePlays; slots: 0 n, 1 ops, 2 n, 3 ops, 5 k, 6 p, 7 x, 8 got, 9 i, 10 o, 11 kind, 12 a, 13 e, 14 b, 15 f, 16 r -/
def x4 : Ann := (.seq (.reg [] [(0, [])]) (.seq (.reg [] [(0, []), (1, [])]) (.join [5] [18, 19, 20, 21, 22, 23, 5] (.seq (.reg [] [(0, []), (1, []), (2, []), (3, []), (4, []), (5, [])]) (.cond (.reg [] [(0, [])]) .leaf)) (.seq (.reg [] [(0, []), (1, []), (2, []), (3, []), (4, []), (5, [])]) (.seq (.seq (.reg [] [(0, []), (1, [])]) (.cond (.seq (.reg [] [(0, [])]) .leaf) .leaf)) (.seq (.reg [] [(0, [])]) (.seq (.seq (.reg [] [(0, [])]) (.blk (.loop [9, 8] [30, 31, 32, 33, 34, 35, 36, 37, 40, 41, 42, 43, 10, 44, 45, 46, 47, 48, 11, 74, 75, 73, 77, 78, 79, 80, 76, 81, 82, 12, 13, 84, 85, 86, 87, 83, 88, 89, 14, 15, 90, 91, 92, 93, 94, 95, 96, 97, 4, 98, 99, 100, 101, 102, 103, 104, 105, 106, 8, 108, 109, 110, 111, 112, 113, 114, 107, 115, 116, 117, 118, 119, 120, 121, 122, 123, 124, 125, 126, 127, 49, 50, 51, 52, 53, 54, 55, 56, 57, 58, 59, 16, 60, 61, 62, 63, 64, 65, 66, 67, 68, 69, 70, 71, 72, 128, 129, 130, 131, 132, 133, 134, 135, 136, 137, 138, 139, 140, 38, 39, 9] (.seq (.seq (.reg [] [(0, []), (1, []), (2, []), (3, []), (4, []), (5, []), (6, []), (7, [])]) (.cond .leaf .leaf)) (.seq (.blk (.seq (.reg [] [(0, []), (1, []), (2, []), (3, []), (4, []), (5, [])]) (.seq (.reg [] [(0, []), (1, []), (2, []), (3, []), (4, []), (5, [])]) (.join [8] [74, 75, 73, 77, 78, 79, 80, 76, 81, 82, 12, 13, 84, 85, 86, 87, 83, 88, 89, 14, 15, 90, 91, 92, 93, 94, 95, 96, 97, 4, 98, 99, 100, 101, 102, 103, 104, 105, 106, 8, 108, 109, 110, 111, 112, 113, 114, 107, 115, 116, 117, 118, 119, 120, 121, 122, 123, 124, 125, 126, 127, 49, 50, 51, 52, 53, 54, 55, 56, 57, 58, 59, 16, 60, 61, 62, 63, 64, 65, 66, 67, 68, 69, 70, 71, 72] (.blk (.seq (.reg [] [(0, []), (1, []), (2, [])]) (.cond (.seq (.reg [] [(0, []), (1, []), (2, []), (3, []), (4, []), (5, []), (6, []), (7, []), (8, [])]) (.seq (.reg [] [(0, []), (1, []), (2, []), (3, []), (4, []), (5, []), (6, []), (7, []), (8, [])]) (.seq (.seq (.reg [] [(0, []), (1, []), (2, []), (3, []), (4, []), (5, []), (6, []), (7, [])]) (.cond (.seq (.reg [] [(0, [])]) .leaf) .leaf)) (.seq (.reg [] [(0, []), (1, [])]) (.cond (.reg [] [(0, []), (1, []), (2, []), (3, []), (4, []), (5, []), (6, []), (7, [])]) .leaf))))) (.seq (.reg [] [(0, []), (1, []), (2, []), (3, []), (4, []), (5, []), (6, []), (7, [])]) (.cond (.seq (.reg [0, 0, 2, 0, 8, 31, 0, 0, 128, 0, 512, 2047, 4095] [(0, []), (1, []), (3, []), (6, []), (7, []), (9, []), (2, []), (4, []), (8, []), (10, []), (5, [10, 8]), (11, []), (12, [])]) (.cond (.seq (.reg [] [(0, [])]) .leaf) .leaf)) (.seq (.reg [] [(0, []), (1, []), (2, []), (3, []), (4, []), (5, []), (6, []), (7, []), (8, []), (9, []), (10, []), (11, []), (12, [])]) (.seq (.reg [0, 0, 2, 0, 8, 31, 0, 0, 128, 0, 512, 2047, 4095] [(0, []), (1, []), (3, []), (6, []), (7, []), (9, []), (2, []), (4, []), (8, []), (10, []), (5, [10, 8]), (11, []), (12, [])]) (.cond (.seq (.reg [] [(0, [])]) .leaf) .leaf)))))))) (.seq (.reg [] [(0, []), (1, []), (2, []), (3, []), (4, []), (5, []), (6, []), (7, []), (8, []), (9, []), (10, []), (11, []), (12, [])]) (.cond (.seq (.reg [] [(0, [])]) .leaf) .leaf)))))) (.reg [] [(0, []), (1, []), (2, [])])))))) (.seq (.reg [] [(0, []), (1, [])]) .leaf))))))))
def D4 (a0 a1 : Value) (K : Value → Hp → Prop) (h : Hp) : Prop :=
  ∀ J1 : List Value → Hp → Prop, (∀ v5 : Value, ∀ h1 : Hp, (∀ g1 : St,
    CallH Try.prog 8 #[v5] (fun v25 h2 =>
    CallH Try.prog 15 #[v5] (fun v27 h3 =>
    vP (eqV 4 false v25 (Value.pointer none)) fun v29 =>
    vB v29 (K (Value.bool false) h3)
    (∃ I2 : Nat → List Value → Hp → Prop, (∃ n, I2 n [(Value.int .i64 0), (Value.slice none 0 0)] h3) ∧
    ∀ n2 : Nat, ∀ v9 v8 : Value, ∀ h4 : Hp, I2 n2 [v9, v8] h4 → ∀ g2 : St,
      vP (lenV a1) fun v32 =>
      vP (binV .lss v9 v32) fun v33 =>
      vP (gdW (gB v33 true) (some v9)) fun v35 =>
      vP (gdW (gB v33 true) (binV .lss v35 (Value.int .i64 60))) fun v36 =>
      vP (pickV v33 v36 (Value.bool false)) fun v37 =>
      vB v37 (vP (iaS 3 a1 v9) fun v42 =>
        vP (ldN 3 v42 h4) fun v43 =>
        vA (some (Obj.cells #[(Value.int .i64 0), (Value.int .i64 0), (Value.int .i64 0)] 40 (0, 0), ptrV)) (fun v10 h5 =>
        stN 3 v10 v43 (fun _ h6 =>
        vP (faV 0 v10) fun v44 =>
        vP (ld1 v44 h6) fun v45 =>
        vP (binV .rem v45 (Value.int .i64 5)) fun v46 =>
        vP (binV .add v46 (Value.int .i64 5)) fun v47 =>
        vP (binV .rem v47 (Value.int .i64 5)) fun v48 =>
        ∀ J3 : List Value → Hp → Prop, (∀ v8_1 : Value, ∀ h7 : Hp, (∀ g3 : St,
          CallH Try.prog 12 #[v25] (fun v129 h8 =>
          CallH Try.prog 19 #[v27] (fun v131 h9 =>
          CallH Try.prog 18 #[v129, v131] (fun v132 h10 =>
          vP (unV .not v132) fun v133 =>
          vP (gdW (gB v133 false) (some v25)) fun v135 =>
          vE (gB v133 false) (CallH Try.prog 13 #[v135]) (fun v136 h11 =>
          vP (gdW (gB v133 false) (some v27)) fun v137 =>
          vE (gB v133 false) (CallH Try.prog 20 #[v137]) (fun v138 h12 =>
          vP (gdW (gB v133 false) (eqV 1 true v136 v138)) fun v139 =>
          vP (pickV v133 (Value.bool true) v139) fun v140 =>
          vB v140 (K (Value.bool false) h12)
          (vP (binV .add v9 (Value.int .i64 1)) fun v39 =>
          ∃ m2, m2 < n2 ∧ I2 m2 [v39, v8_1] h12)) h11) h10) h9) h8) h7) → J3 [v8_1] h7) →
        vP (binV .lss v48 (Value.int .i64 3)) fun v75 =>
        vB v75 (vP (faV 2 v10) fun v78 =>
          vP (ld1 v78 h6) fun v79 =>
          CallH Try.prog 9 #[v25, v79] (fun v80 h13 =>
          vP (exV v80 0) fun v81 =>
          vP (exV v80 1) fun v82 =>
          vP (faV 2 v10) fun v85 =>
          vP (ld1 v85 h13) fun v86 =>
          CallH Try.prog 16 #[v27, v86] (fun v87 h14 =>
          vP (exV v87 0) fun v88 =>
          vP (exV v87 1) fun v89 =>
          vP (eqV 1 true v81 v88) fun v92 =>
          vP (gdW (gB v92 false) (some v82)) fun v94 =>
          vP (gdW (gB v92 false) (some v89)) fun v95 =>
          vP (gdW (gB v92 false) (eqV 1 true v94 v95)) fun v96 =>
          vP (pickV v92 (Value.bool true) v96) fun v97 =>
          vB v97 (K (Value.bool false) h14)
          (vP (eqV 1 false v89 (Value.int .i64 0)) fun v99 =>
          vB v99 (vP (faV 2 v10) fun v102 =>
            vP (ld1 v102 h14) fun v103 =>
            vP ((bldV #[(Value.int .i64 0), (Value.int .i64 0)] [(0, 1, v88), (1, 1, v103)]).map Value.agg) fun v104 =>
            vA ((bldV #[(Value.int .i64 0), (Value.int .i64 0)] [(0, 2, v104)]).map fun c => (Obj.cells c 34 (0, 0), fun r => Value.slice (some ⟨r, 0, none⟩) 1 1)) (fun v105 h15 =>
            apW Try.prog #[29, 29] 29 v8 v105 (fun v106 h16 =>
            J3 [v106] h16) h15) h14)
          (J3 [v8] h14))) h13) h6)
        (vP (eqV 1 false v48 (Value.int .i64 3)) fun v109 =>
        vP (gdW (gB v109 false) (some v8)) fun v111 =>
        vP (gdW (gB v109 false) (lenV v111)) fun v112 =>
        vP (gdW (gB v109 false) (eqV 1 false v112 (Value.int .i64 0))) fun v113 =>
        vP (pickV v109 (Value.bool true) v113) fun v114 =>
        vB v114 (vP (faV 1 v10) fun v116 =>
          vP (faV 2 v10) fun v118 =>
          vP (faV 1 v10) fun v122 =>
          vP (faV 2 v10) fun v124 =>
          vP (ld1 v116 h6) fun v117 =>
          vP (ld1 v118 h6) fun v119 =>
          vP (ld1 v122 h6) fun v123 =>
          vP (ld1 v124 h6) fun v125 =>
          CallH Try.prog 11 #[v25, v117, v119] (fun v120 h17 =>
          (ld1 v124 h17) = some v125 ∧ ((ld1 v122 h17) = some v123 ∧ (CallH Try.prog 17 #[v27, v123, v125] (fun v126 h18 =>
          vP (eqV 1 true v120 v126) fun v127 =>
          vB v127 (K (Value.bool false) h18)
          (J3 [v8] h18)) h17))) h6)
        (vP (faV 1 v10) fun v50 =>
        vP (ld1 v50 h6) fun v51 =>
        vP (convV .u64 v51) fun v52 =>
        vP (lenV v8) fun v54 =>
        vP (convV .u64 v54) fun v55 =>
        vP (binV .rem v52 v55) fun v56 =>
        vP (convV .i64 v56) fun v57 =>
        vP (iaS 2 v8 v57) fun v58 =>
        vP (ldN 2 v58 h6) fun v59 =>
        vA (some (Obj.cells #[(Value.int .i64 0), (Value.int .i64 0)] 34 (0, 0), ptrV)) (fun v16 h19 =>
        stN 2 v16 v59 (fun _ h20 =>
        vP (faV 0 v16) fun v61 =>
        vP (faV 1 v16) fun v63 =>
        vP (faV 0 v16) fun v67 =>
        vP (faV 1 v16) fun v69 =>
        vP (ld1 v61 h20) fun v62 =>
        vP (ld1 v63 h20) fun v64 =>
        vP (ld1 v67 h20) fun v68 =>
        vP (ld1 v69 h20) fun v70 =>
        CallH Try.prog 11 #[v25, v62, v64] (fun v65 h21 =>
        (ld1 v69 h21) = some v70 ∧ ((ld1 v67 h21) = some v68 ∧ (CallH Try.prog 17 #[v27, v68, v70] (fun v71 h22 =>
        vP (eqV 1 true v65 v71) fun v72 =>
        vB v72 (K (Value.bool false) h22)
        (J3 [v8] h22)) h21))) h20) h19) h6))) h5) h4)
      (CallH Try.prog 14 #[] (fun v141 h23 =>
      K v141 h23) h4))) h2) h1) → J1 [v5] h1) →
  vP (binV .gtr a0 (Value.int .i64 200)) fun v19 =>
  vP (gdW (gB v19 false) (some a0)) fun v21 =>
  vP (gdW (gB v19 false) (binV .lss v21 (Value.int .i64 (-200)))) fun v22 =>
  vP (pickV v19 (Value.bool true) v22) fun v23 =>
  vB v23 (J1 [(Value.int .i64 200)] h)
  (J1 [a0] h)
theorem D4_eq (a0 a1 : Value) (K : Value → Hp → Prop) (h : Hp) : fnVC Try.prog Try.f4 x4 [a0, a1] K h = D4 a0 a1 K h := by kernel_rfl
theorem D4_ok : fnOk Try.prog Try.f4 x4 2 = true := by kernel_rfl
theorem C4 {a0 a1 : Value} {K : Value → Hp → Prop} {h : Hp} (hh : D4 a0 a1 K h) : CallH Try.prog 4 #[a0, a1] K h :=
  callH_of mixed Try.func4 x4 [a0, a1] D4_ok (D4_eq a0 a1 K h ▸ hh)

/- 5: treadmill/treadmilllaw5.PageApart; slots: 0 l, 1 step, 2 l, 3 step, 5 p, 6 own, 7 got, 8 i, 9 k, 10 a, 11 e, 12 j, 13 r, 14 j, 15 k, 16 r, 17 q -/
def x5 : Ann := (.seq (.reg [] [(0, [])]) (.seq (.seq (.reg [] [(0, []), (1, []), (2, [])]) (.cond (.seq (.reg [] [(0, []), (1, [])]) .leaf) .leaf)) (.seq (.reg [] [(0, []), (1, [])]) (.seq (.seq (.reg [] [(0, []), (1, [])]) (.cond (.seq (.reg [] [(0, [])]) .leaf) .leaf)) (.seq (.reg [] [(0, []), (1, [])]) (.seq (.reg [] [(0, [])]) (.seq (.seq (.reg [] [(0, [])]) (.blk (.loop [8, 7] [26, 27, 28, 29, 32, 33, 34, 35, 36, 37, 38, 39, 9, 41, 42, 43, 40, 44, 45, 10, 11, 46, 47, 4, 48, 49, 50, 51, 52, 53, 54, 55, 12, 56, 57, 58, 61, 62, 63, 64, 65, 66, 67, 68, 69, 70, 71, 59, 60, 72, 73, 74, 75, 76, 77, 7, 78, 79, 80, 81, 82, 83, 13, 84, 85, 86, 87, 88, 89, 90, 91, 92, 14, 93, 94, 95, 96, 99, 100, 101, 102, 103, 104, 97, 98, 30, 31, 8] (.seq (.seq (.reg [] [(0, []), (1, []), (2, []), (3, [])]) (.cond .leaf .leaf)) (.join [7] [32, 33, 34, 35, 36, 37, 38, 39, 9, 41, 42, 43, 40, 44, 45, 10, 11, 46, 47, 4, 48, 49, 50, 51, 52, 53, 54, 55, 12, 56, 57, 58, 61, 62, 63, 64, 65, 66, 67, 68, 69, 70, 71, 59, 60, 72, 73, 74, 75, 76, 77, 7, 78, 79, 80, 81, 82, 83, 13, 84, 85, 86, 87, 88, 89, 90, 91, 92, 14, 93, 94, 95, 96, 99, 100, 101, 102, 103, 104, 97, 98] (.blk (.seq (.reg [] [(0, []), (1, []), (2, []), (3, []), (4, []), (5, []), (6, []), (7, []), (8, [])]) (.seq (.reg [] [(0, []), (1, []), (2, []), (3, []), (4, []), (5, []), (6, []), (7, [])]) (.seq (.seq (.reg [] [(0, []), (1, [])]) (.cond (.seq (.reg [] [(0, [])]) .leaf) .leaf)) (.seq (.seq (.reg [] [(0, []), (1, []), (2, []), (3, []), (4, []), (5, []), (6, []), (7, [])]) (.cond (.seq (.reg [] [(0, [])]) .leaf) .leaf)) (.seq (.seq (.reg [] [(0, [])]) (.blk (.loop [12] [56, 57, 58, 61, 62, 63, 64, 65, 66, 4, 67, 68, 69, 70, 71, 59, 60, 12] (.seq (.seq (.reg [] [(0, []), (1, []), (2, [])]) (.cond .leaf .leaf)) (.seq (.blk (.seq (.seq (.reg [] [(0, []), (1, []), (2, []), (3, []), (4, []), (5, [])]) (.cond (.seq (.reg [] [(0, [])]) .leaf) .leaf)) (.reg [] [(0, []), (1, []), (2, []), (3, []), (4, []), (5, [])]))) (.reg [] [(0, []), (1, []), (2, [])])))))) (.seq (.reg [] [(0, []), (1, []), (2, []), (3, []), (4, []), (5, []), (6, [])]) (.seq (.reg [] [(0, []), (1, []), (2, [])]) (.cond (.seq (.reg [] [(0, []), (1, []), (2, []), (3, []), (4, [])]) (.seq (.reg [] [(0, []), (1, []), (2, [])]) (.seq (.seq (.reg [] [(0, []), (1, []), (2, []), (3, []), (4, []), (5, []), (6, [])]) (.cond (.seq (.reg [] [(0, [])]) .leaf) .leaf)) (.seq (.reg [] [(0, [])]) (.blk (.loop [14] [93, 94, 95, 96, 99, 100, 101, 102, 103, 104, 97, 98, 14] (.seq (.seq (.reg [] [(0, []), (1, []), (2, []), (3, [])]) (.cond .leaf .leaf)) (.seq (.blk (.reg [] [(0, []), (1, []), (2, []), (3, []), (4, []), (5, []), (6, [])])) (.reg [] [(0, []), (1, []), (2, [])]))))))))) .leaf))))))))) (.reg [] [(0, []), (1, []), (2, [])])))))) (.seq (.blk (.loop [7] [105, 106, 107, 108, 109, 110, 111, 112, 113, 114, 15, 115, 116, 117, 118, 16, 119, 120, 121, 122, 123, 124, 125, 126, 127, 128, 7, 129, 130, 131, 132, 133, 134, 135, 136, 137, 138, 139, 140, 141, 142, 143, 144, 4] (.seq (.seq (.reg [] [(0, []), (1, []), (2, [])]) (.cond .leaf .leaf)) (.blk (.seq (.reg [] [(0, []), (1, []), (2, []), (3, []), (4, []), (5, []), (6, []), (7, [])]) (.seq (.reg [] [(0, []), (1, []), (2, []), (3, []), (4, []), (5, [])]) (.seq (.reg [0, 0, 0, 6, 15, 0, 0, 64, 224, 511, 1023] [(1, []), (2, []), (3, []), (5, []), (6, []), (7, []), (8, []), (0, []), (4, []), (9, []), (10, [])]) (.seq (.reg [] [(0, []), (1, []), (2, []), (3, []), (4, []), (5, []), (6, []), (7, []), (8, []), (9, []), (10, []), (11, []), (12, []), (13, []), (14, []), (15, [])]) (.cond (.seq (.reg [] [(0, [])]) .leaf) .leaf))))))))) (.seq (.reg [] [(0, []), (1, []), (2, [])]) (.seq (.reg [] [(0, []), (1, []), (2, []), (3, []), (4, []), (5, []), (6, []), (7, []), (8, []), (9, []), (10, []), (11, []), (12, []), (13, [])]) .leaf))))))))))
def D5 (a0 a1 : Value) (K : Value → Hp → Prop) (h : Hp) : Prop :=
  vP (lenV a0) fun v19 =>
  vP (binV .gtr v19 (Value.int .i64 40)) fun v20 =>
  vB v20 (CallH Try.prog 14 #[] (fun v21 h1 =>
    K v21 h1) h)
  (CallH Try.prog 8 #[(Value.int .i64 400)] (fun v22 h2 =>
  vP (eqV 4 false v22 (Value.pointer none)) fun v24 =>
  vB v24 (K (Value.bool false) h2)
  (vA (msV 1 1 4 #[(Value.bool false)] (Value.int .i64 400) (Value.int .i64 400)) (fun v25 h3 =>
  ∃ I1 : Nat → List Value → Hp → Prop, (∃ n, I1 n [(Value.int .i64 0), (Value.slice none 0 0)] h3) ∧
  ∀ n1 : Nat, ∀ v8 v7 : Value, ∀ h4 : Hp, I1 n1 [v8, v7] h4 → ∀ g1 : St,
    vP (lenV a0) fun v28 =>
    vP (binV .lss v8 v28) fun v29 =>
    vB v29 (∀ J2 : List Value → Hp → Prop, (∀ v7_1 : Value, ∀ h5 : Hp, (∀ g2 : St,
        vP (binV .add v8 (Value.int .i64 1)) fun v31 =>
        ∃ m1, m1 < n1 ∧ I1 m1 [v31, v7_1] h5) → J2 [v7_1] h5) →
      vP (iaS 1 a0 v8) fun v34 =>
      vP (ld1 v34 h4) fun v35 =>
      vP (convV .u64 v35) fun v36 =>
      vP (binV .rem v36 (Value.int .u64 9)) fun v37 =>
      vP (convV .i64 v37) fun v38 =>
      vP (binV .add (Value.int .i64 1) v38) fun v39 =>
      CallH Try.prog 9 #[v22, v39] (fun v43 h6 =>
      vP (exV v43 0) fun v44 =>
      vP (exV v43 1) fun v45 =>
      vP (eqV 1 true v45 (Value.int .i64 0)) fun v47 =>
      vB v47 (K (Value.bool false) h6)
      (vP (binV .lss v44 (Value.int .i64 1)) fun v49 =>
      vP (gdW (gB v49 false) (some v44)) fun v51 =>
      vP (gdW (gB v49 false) (some v39)) fun v52 =>
      vP (gdW (gB v49 false) (binV .add v51 v52)) fun v53 =>
      vP (gdW (gB v49 false) (binV .gtr v53 (Value.int .i64 400))) fun v54 =>
      vP (pickV v49 (Value.bool true) v54) fun v55 =>
      vB v55 (K (Value.bool false) h6)
      (∃ I3 : Nat → List Value → Hp → Prop, (∃ n, I3 n [(Value.int .i64 0)] h6) ∧
      ∀ n3 : Nat, ∀ v12 : Value, ∀ h7 : Hp, I3 n3 [v12] h7 → ∀ g3 : St,
        vP (binV .lss v12 v39) fun v58 =>
        vB v58 (vP (binV .add v44 v12) fun v64 =>
          vP (iaS 1 v25 v64) fun v65 =>
          vP (ld1 v65 h7) fun v66 =>
          vB v66 (K (Value.bool false) h7)
          (vP (binV .add v44 v12) fun v70 =>
          vP (iaS 1 v25 v70) fun v71 =>
          st1 v71 (Value.bool true) (fun _ h8 =>
          vP (binV .add v12 (Value.int .i64 1)) fun v60 =>
          ∃ m3, m3 < n3 ∧ I3 m3 [v60] h8) h7))
        (vP ((bldV #[(Value.int .i64 0), (Value.int .i64 0)] [(0, 1, v44), (1, 1, v39)]).map Value.agg) fun v75 =>
        vA ((bldV #[(Value.int .i64 0), (Value.int .i64 0)] [(0, 2, v75)]).map fun c => (Obj.cells c 34 (0, 0), fun r => Value.slice (some ⟨r, 0, none⟩) 1 1)) (fun v76 h9 =>
        apW Try.prog #[29, 29] 29 v7 v76 (fun v77 h10 =>
        vP (binV .rem v8 (Value.int .i64 5)) fun v79 =>
        vP (eqV 1 false v79 (Value.int .i64 4)) fun v80 =>
        vB v80 (vP (iaS 2 v77 (Value.int .i64 0)) fun v82 =>
          vP (ldN 2 v82 h10) fun v83 =>
          vA (some (Obj.cells #[(Value.int .i64 0), (Value.int .i64 0)] 34 (0, 0), ptrV)) (fun v13 h11 =>
          stN 2 v13 v83 (fun _ h12 =>
          vP (slV 2 v77 (some (Value.int .i64 1)) none none) fun v85 =>
          vP (faV 0 v13) fun v87 =>
          vP (ld1 v87 h12) fun v88 =>
          vP (faV 1 v13) fun v89 =>
          vP (ld1 v89 h12) fun v90 =>
          CallH Try.prog 11 #[v22, v88, v90] (fun v91 h13 =>
          vP (eqV 1 true v91 (Value.int .i64 0)) fun v92 =>
          vB v92 (K (Value.bool false) h13)
          (∃ I4 : Nat → List Value → Hp → Prop, (∃ n, I4 n [(Value.int .i64 0)] h13) ∧
          ∀ n4 : Nat, ∀ v14 : Value, ∀ h14 : Hp, I4 n4 [v14] h14 → ∀ g4 : St,
            vP (faV 1 v13) fun v94 =>
            vP (ld1 v94 h14) fun v95 =>
            vP (binV .lss v14 v95) fun v96 =>
            vB v96 (vP (faV 0 v13) fun v100 =>
              vP (ld1 v100 h14) fun v101 =>
              vP (binV .add v101 v14) fun v103 =>
              vP (iaS 1 v25 v103) fun v104 =>
              st1 v104 (Value.bool false) (fun _ h15 =>
              vP (binV .add v14 (Value.int .i64 1)) fun v98 =>
              ∃ m4, m4 < n4 ∧ I4 m4 [v98] h15) h14)
            (J2 [v85] h14))) h12) h11) h10)
        (J2 [v77] h10)) h9) h7)))) h4)
    (∃ I5 : Nat → List Value → Hp → Prop, (∃ n, I5 n [v7] h4) ∧
    ∀ n5 : Nat, ∀ v7_2 : Value, ∀ h16 : Hp, I5 n5 [v7_2] h16 → ∀ g5 : St,
      vP (lenV v7_2) fun v106 =>
      vP (binV .gtr v106 (Value.int .i64 0)) fun v107 =>
      vB v107 (vP (convV .u64 a1) fun v109 =>
        vP (lenV v7_2) fun v111 =>
        vP (convV .u64 v111) fun v112 =>
        vP (binV .rem v109 v112) fun v113 =>
        vP (convV .i64 v113) fun v114 =>
        vP (iaS 2 v7_2 v114) fun v117 =>
        vP (ldN 2 v117 h16) fun v118 =>
        vA (some (Obj.cells #[(Value.int .i64 0), (Value.int .i64 0)] 34 (0, 0), ptrV)) (fun v16 h17 =>
        stN 2 v16 v118 (fun _ h18 =>
        vP (slV 2 v7_2 none (some v114) none) fun v122 =>
        vP (binV .add v114 (Value.int .i64 1)) fun v126 =>
        vP (slV 2 v7_2 (some v126) none none) fun v127 =>
        vA ((bldV #[] []).map fun c => (Obj.cells c 34 (0, 0), fun r => Value.slice (some ⟨r, 0, none⟩) 0 0)) (fun v119 h19 =>
        apW Try.prog #[29, 29] 29 v119 v122 (fun v123 h20 =>
        apW Try.prog #[29, 29] 29 v123 v127 (fun v128 h21 =>
        vP (faV 0 v16) fun v130 =>
        vP (ld1 v130 h21) fun v131 =>
        vP (faV 1 v16) fun v132 =>
        vP (ld1 v132 h21) fun v133 =>
        CallH Try.prog 11 #[v22, v131, v133] (fun v134 h22 =>
        vP (eqV 1 true v134 (Value.int .i64 0)) fun v135 =>
        vP (gdW (gB v135 false) (some v22)) fun v137 =>
        vP (gdW (gB v135 false) (faV 0 v16)) fun v138 =>
        vP (gdW (gB v135 false) (ld1 v138 h22)) fun v139 =>
        vP (gdW (gB v135 false) (faV 1 v16)) fun v140 =>
        vP (gdW (gB v135 false) (ld1 v140 h22)) fun v141 =>
        vE (gB v135 false) (CallH Try.prog 11 #[v137, v139, v141]) (fun v142 h23 =>
        vP (gdW (gB v135 false) (eqV 1 true v142 (Value.int .i64 5))) fun v143 =>
        vP (pickV v135 (Value.bool true) v143) fun v144 =>
        vB v144 (K (Value.bool false) h23)
        (∃ m5, m5 < n5 ∧ I5 m5 [v128] h23)) h22) h21) h20) h19) h18) h17) h16)
      (CallH Try.prog 12 #[v22] (fun v146 h24 =>
      CallH Try.prog 14 #[] (fun v147 h25 =>
      vP (gdW (gB v147 true) (some v146)) fun v149 =>
      vP (gdW (gB v147 true) (lenV v149)) fun v150 =>
      vP (gdW (gB v147 true) (eqV 1 false v150 (Value.int .i64 1))) fun v151 =>
      vP (pickV v147 v151 (Value.bool false)) fun v152 =>
      vP (gdW (gB v152 true) (some v146)) fun v154 =>
      vP (gdW (gB v152 true) (iaS 2 v154 (Value.int .i64 0))) fun v155 =>
      vP (gdW (gB v152 true) (ldN 2 v155 h25)) fun v156 =>
      vP (gdW (gB v152 true) ((bldV #[(Value.int .i64 0), (Value.int .i64 0)] [(0, 1, (Value.int .i64 1)), (1, 1, (Value.int .i64 399))]).map Value.agg)) fun v157 =>
      vP (gdW (gB v152 true) (eqA [1, 1] false v156 v157)) fun v158 =>
      vP (pickV v152 v158 (Value.bool false)) fun v159 =>
      K v159 h25) h24) h16))) h2)) h)
theorem D5_eq (a0 a1 : Value) (K : Value → Hp → Prop) (h : Hp) : fnVC Try.prog Try.f5 x5 [a0, a1] K h = D5 a0 a1 K h := by kernel_rfl
theorem D5_ok : fnOk Try.prog Try.f5 x5 2 = true := by kernel_rfl
theorem C5 {a0 a1 : Value} {K : Value → Hp → Prop} {h : Hp} (hh : D5 a0 a1 K h) : CallH Try.prog 5 #[a0, a1] K h :=
  callH_of mixed Try.func5 x5 [a0, a1] D5_ok (D5_eq a0 a1 K h ▸ hh)

/- 6: treadmill/treadmilllaw5.PageBest; slots: 0 l, 1 k, 2 l, 3 k, 5 p, 6 _, 7 e, 8 at, 9 best, 10 w, 11 i, 12 n, 13 left, 14 a, 15 e -/
def x6 : Ann := (.seq (.reg [] [(0, [])]) (.seq (.seq (.reg [] [(0, []), (1, []), (2, []), (3, []), (4, []), (5, []), (6, []), (7, [])]) (.cond (.seq (.reg [] [(0, []), (1, [])]) .leaf) .leaf)) (.seq (.reg [] [(0, []), (1, [])]) (.seq (.seq (.reg [] [(0, []), (1, [])]) (.cond (.seq (.reg [] [(0, [])]) .leaf) .leaf)) (.seq (.seq (.reg [] [(0, []), (1, []), (2, []), (3, []), (4, []), (5, []), (6, [])]) (.seq (.reg [] [(0, []), (1, [])]) (.cond (.seq (.reg [] [(0, [])]) .leaf) .leaf))) (.seq (.reg [] [(0, []), (1, []), (2, []), (3, [])]) (.seq (.reg [] [(0, []), (1, []), (2, []), (3, []), (4, []), (5, [])]) (.seq (.seq (.reg [] [(0, [])]) (.blk (.loop [11, 8] [41, 42, 43, 44, 47, 48, 49, 50, 51, 52, 53, 54, 12, 55, 56, 57, 58, 59, 4, 60, 61, 62, 63, 64, 65, 66, 67, 68, 69, 70, 71, 72, 73, 74, 75, 76, 77, 78, 79, 80, 8, 45, 46, 11] (.seq (.seq (.reg [] [(0, []), (1, []), (2, []), (3, [])]) (.cond .leaf .leaf)) (.seq (.blk (.seq (.reg [] [(0, []), (1, []), (2, []), (3, []), (4, []), (5, []), (6, []), (7, []), (8, [])]) (.seq (.seq (.reg [] [(0, []), (1, []), (2, []), (3, []), (4, [])]) (.cond (.seq (.reg [] [(0, [])]) .leaf) .leaf)) (.join [] [60, 61, 62, 63, 64, 65, 66, 67, 68, 69, 70, 71, 72, 73, 74, 75, 76] (.seq (.reg [] [(0, []), (1, []), (2, []), (3, []), (4, []), (5, []), (6, []), (7, []), (8, []), (9, []), (10, []), (11, []), (12, []), (13, [])]) (.cond (.reg [] [(0, []), (1, []), (2, []), (3, [])]) .leaf)) (.reg [] [(0, []), (1, []), (2, []), (3, []), (4, [])]))))) (.reg [] [(0, []), (1, []), (2, [])])))))) (.seq (.reg [] [(0, []), (1, []), (2, [])]) (.seq (.reg [] [(0, []), (1, []), (2, []), (3, []), (4, []), (5, []), (6, []), (7, [])]) (.seq (.seq (.reg [] [(0, []), (1, []), (2, [])]) (.cond (.seq (.reg [] [(0, []), (1, []), (2, []), (3, []), (4, []), (5, []), (6, []), (7, []), (8, []), (9, []), (10, []), (11, []), (12, []), (13, []), (14, []), (15, [])]) .leaf) .leaf)) (.seq (.reg [] [(0, []), (1, []), (2, []), (3, []), (4, []), (5, []), (6, []), (7, []), (8, []), (9, []), (10, []), (11, []), (12, []), (13, []), (14, []), (15, []), (16, []), (17, []), (18, []), (19, [])]) .leaf))))))))))))
def D6 (a0 a1 : Value) (K : Value → Hp → Prop) (h : Hp) : Prop :=
  vP (lenV a0) fun v17 =>
  vP (eqV 1 false v17 (Value.int .i64 0)) fun v18 =>
  vP (gdW (gB v18 false) (some a0)) fun v20 =>
  vP (gdW (gB v18 false) (lenV v20)) fun v21 =>
  vP (gdW (gB v18 false) (binV .gtr v21 (Value.int .i64 10))) fun v22 =>
  vP (pickV v18 (Value.bool true) v22) fun v23 =>
  vB v23 (CallH Try.prog 14 #[] (fun v24 h1 =>
    K v24 h1) h)
  (CallH Try.prog 8 #[(Value.int .i64 120)] (fun v25 h2 =>
  vP (eqV 4 false v25 (Value.pointer none)) fun v27 =>
  vB v27 (K (Value.bool false) h2)
  (CallH Try.prog 9 #[v25, (Value.int .i64 119)] (fun v30 h3 =>
  vP (exV v30 0) fun v31 =>
  vP (exV v30 1) fun v32 =>
  vP (eqV 1 true v32 (Value.int .i64 0)) fun v34 =>
  vB v34 (K (Value.bool false) h3)
  (vP ((bldV #[(Value.int .i64 0), (Value.int .i64 0)] []).map Value.agg) fun v35 =>
  vA (some (Obj.cells #[(Value.int .i64 0), (Value.int .i64 0)] 34 (0, 0), ptrV)) (fun v9 h4 =>
  stN 2 v9 v35 (fun _ h5 =>
  vP (convV .u64 a1) fun v37 =>
  vP (binV .rem v37 (Value.int .u64 9)) fun v38 =>
  vP (convV .i64 v38) fun v39 =>
  vP (binV .add (Value.int .i64 1) v39) fun v40 =>
  ∃ I1 : Nat → List Value → Hp → Prop, (∃ n, I1 n [(Value.int .i64 0), (Value.int .i64 2)] h5) ∧
  ∀ n1 : Nat, ∀ v11 v8 : Value, ∀ h6 : Hp, I1 n1 [v11, v8] h6 → ∀ g1 : St,
    vP (lenV a0) fun v43 =>
    vP (binV .lss v11 v43) fun v44 =>
    vB v44 (vP (iaS 1 a0 v11) fun v49 =>
      vP (ld1 v49 h6) fun v50 =>
      vP (convV .u64 v50) fun v51 =>
      vP (binV .rem v51 (Value.int .u64 9)) fun v52 =>
      vP (convV .i64 v52) fun v53 =>
      vP (binV .add (Value.int .i64 1) v53) fun v54 =>
      CallH Try.prog 11 #[v25, v8, v54] (fun v58 h7 =>
      vP (eqV 1 true v58 (Value.int .i64 0)) fun v59 =>
      vB v59 (K (Value.bool false) h7)
      (∀ J2 : List Value → Hp → Prop, (∀ h8 : Hp, (∀ g2 : St,
        vP (binV .add v8 v54) fun v79 =>
        vP (binV .add v79 (Value.int .i64 1)) fun v80 =>
        vP (binV .add v11 (Value.int .i64 1)) fun v46 =>
        ∃ m1, m1 < n1 ∧ I1 m1 [v46, v80] h8) → J2 [] h8) →
      vP (binV .geq v54 v40) fun v62 =>
      vP (gdW (gB v62 true) (faV 1 v9)) fun v64 =>
      vP (gdW (gB v62 true) (ld1 v64 h7)) fun v65 =>
      vP (gdW (gB v62 true) (eqV 1 false v65 (Value.int .i64 0))) fun v66 =>
      vP (gdW (gB v62 true) (some v66)) fun v67 =>
      vP (gdW (gB v67 false) (some v54)) fun v68 =>
      vP (gdW (gB v67 false) (faV 1 v9)) fun v69 =>
      vP (gdW (gB v67 false) (ld1 v69 h7)) fun v70 =>
      vP (gdW (gB v67 false) (binV .lss v68 v70)) fun v71 =>
      vP (gdW (gB v62 true) (pickV v67 (Value.bool true) v71)) fun v72 =>
      vP (pickV v62 v72 (Value.bool false)) fun v73 =>
      vB v73 (vP ((bldV #[(Value.int .i64 0), (Value.int .i64 0)] [(0, 1, v8), (1, 1, v54)]).map Value.agg) fun v76 =>
        stN 2 v9 v76 (fun _ h9 =>
        J2 [] h9) h7)
      (J2 [] h7))) h6)
    (CallH Try.prog 13 #[v25] (fun v82 h10 =>
    CallH Try.prog 9 #[v25, v40] (fun v86 h11 =>
    vP (exV v86 0) fun v87 =>
    vP (exV v86 1) fun v88 =>
    vP (faV 1 v9) fun v89 =>
    vP (ld1 v89 h11) fun v90 =>
    vP (eqV 1 false v90 (Value.int .i64 0)) fun v91 =>
    vB v91 (CallH Try.prog 14 #[] (fun v92 h12 =>
      vP (gdW (gB v92 true) (some v88)) fun v94 =>
      vP (gdW (gB v92 true) (eqV 1 false v94 (Value.int .i64 3))) fun v95 =>
      vP (pickV v92 v95 (Value.bool false)) fun v96 =>
      vP (gdW (gB v96 true) (some v87)) fun v98 =>
      vP (gdW (gB v96 true) (eqV 1 false v98 (Value.int .i64 0))) fun v99 =>
      vP (pickV v96 v99 (Value.bool false)) fun v100 =>
      vP (gdW (gB v100 true) (some v25)) fun v102 =>
      vE (gB v100 true) (CallH Try.prog 13 #[v102]) (fun v103 h13 =>
      vP (gdW (gB v100 true) (some v82)) fun v104 =>
      vP (gdW (gB v100 true) (eqV 1 false v103 v104)) fun v105 =>
      vP (pickV v100 v105 (Value.bool false)) fun v106 =>
      K v106 h13) h12) h11)
    (CallH Try.prog 14 #[] (fun v107 h14 =>
    vP (gdW (gB v107 true) (some v88)) fun v109 =>
    vP (gdW (gB v107 true) (eqV 1 false v109 (Value.int .i64 0))) fun v110 =>
    vP (pickV v107 v110 (Value.bool false)) fun v111 =>
    vP (gdW (gB v111 true) (some v87)) fun v113 =>
    vP (gdW (gB v111 true) (faV 0 v9)) fun v114 =>
    vP (gdW (gB v111 true) (ld1 v114 h14)) fun v115 =>
    vP (gdW (gB v111 true) (eqV 1 false v113 v115)) fun v116 =>
    vP (pickV v111 v116 (Value.bool false)) fun v117 =>
    vP (gdW (gB v117 true) (some v25)) fun v119 =>
    vE (gB v117 true) (CallH Try.prog 13 #[v119]) (fun v120 h15 =>
    vP (gdW (gB v117 true) (some v82)) fun v121 =>
    vP (gdW (gB v117 true) (some v40)) fun v122 =>
    vP (gdW (gB v117 true) (binV .sub v121 v122)) fun v123 =>
    vP (gdW (gB v117 true) (eqV 1 false v120 v123)) fun v124 =>
    vP (pickV v117 v124 (Value.bool false)) fun v125 =>
    K v125 h15) h14) h11)) h10) h6)) h4) h3)) h2)) h)
theorem D6_eq (a0 a1 : Value) (K : Value → Hp → Prop) (h : Hp) : fnVC Try.prog Try.f6 x6 [a0, a1] K h = D6 a0 a1 K h := by kernel_rfl
theorem D6_ok : fnOk Try.prog Try.f6 x6 2 = true := by kernel_rfl
theorem C6 {a0 a1 : Value} {K : Value → Hp → Prop} {h : Hp} (hh : D6 a0 a1 K h) : CallH Try.prog 6 #[a0, a1] K h :=
  callH_of mixed Try.func6 x6 [a0, a1] D6_ok (D6_eq a0 a1 K h ▸ hh)

/- 7: treadmill/treadmilllaw5.PageLefts; slots: 0 n, 1 l, 2 n, 3 l, 5 k, 6 p, 7 out, 8 i, 9 w, 10 a, 11 e, 12 r, 13 sum, 14 j, 15 nobody, 16 _, 17 e -/
def x7 : Ann := (.seq (.reg [] [(0, [])]) (.seq (.seq (.reg [] [(0, []), (1, []), (2, [])]) (.cond (.seq (.reg [] [(0, []), (1, [])]) .leaf) .leaf)) (.seq (.reg [] [(0, []), (1, []), (2, []), (3, []), (4, []), (5, [])]) (.seq (.reg [] [(0, []), (1, []), (2, [])]) (.seq (.seq (.reg [] [(0, []), (1, [])]) (.cond (.seq (.reg [] [(0, [])]) .leaf) .leaf)) (.seq (.reg [] [(0, [])]) (.seq (.seq (.reg [] [(0, [])]) (.blk (.loop [8, 7] [31, 32, 33, 34, 37, 38, 39, 40, 41, 42, 43, 44, 9, 46, 47, 48, 45, 49, 50, 10, 11, 51, 52, 53, 54, 55, 7, 56, 57, 58, 59, 60, 61, 62, 63, 4, 64, 65, 66, 67, 68, 69, 70, 12, 13, 14, 71, 72, 73, 74, 77, 78, 79, 80, 81, 82, 83, 84, 85, 86, 87, 88, 89, 90, 91, 92, 93, 94, 95, 96, 97, 98, 99, 100, 101, 102, 103, 104, 105, 106, 107, 108, 109, 110, 111, 112, 113, 114, 115, 116, 117, 118, 119, 120, 121, 122, 123, 124, 125, 126, 127, 128, 129, 130, 131, 132, 133, 134, 135, 136, 137, 138, 139, 140, 141, 142, 143, 144, 145, 146, 147, 148, 75, 76, 149, 150, 151, 152, 153, 154, 155, 156, 157, 158, 159, 160, 35, 36, 8] (.seq (.seq (.reg [] [(0, []), (1, []), (2, []), (3, [])]) (.cond .leaf .leaf)) (.seq (.blk (.seq (.reg [] [(0, []), (1, []), (2, []), (3, []), (4, []), (5, []), (6, []), (7, []), (8, [])]) (.seq (.reg [] [(0, []), (1, []), (2, []), (3, []), (4, []), (5, []), (6, []), (7, [])]) (.join [7] [51, 52, 53, 54, 55, 7, 56, 57, 58, 59, 60, 61, 62, 63, 4, 64, 65, 66, 67, 68] (.seq (.reg [] [(0, []), (1, [])]) (.cond (.seq (.reg [] [(0, []), (1, []), (2, []), (3, [])]) (.seq (.reg [] [(0, []), (1, []), (2, [])]) (.cond (.seq (.seq (.reg [] [(0, []), (1, []), (2, []), (3, []), (4, [])]) (.cond (.seq (.reg [] [(0, [])]) .leaf) .leaf)) (.reg [] [(0, []), (1, []), (2, []), (3, [])])) .leaf))) (.seq (.reg [] [(0, []), (1, [])]) (.cond (.seq (.reg [] [(0, [])]) .leaf) .leaf)))) (.seq (.reg [] [(0, []), (1, []), (2, [])]) (.seq (.reg [] [(0, [])]) (.seq (.seq (.reg [] [(0, [])]) (.blk (.loop [14, 13] [71, 72, 73, 74, 77, 78, 79, 80, 81, 82, 83, 13, 84, 85, 86, 87, 88, 89, 90, 91, 92, 93, 94, 95, 96, 97, 98, 99, 100, 101, 102, 103, 104, 105, 106, 107, 108, 109, 110, 111, 112, 113, 114, 115, 116, 117, 118, 119, 120, 121, 122, 123, 124, 125, 126, 127, 128, 129, 130, 131, 132, 133, 134, 135, 136, 137, 4, 138, 139, 140, 141, 142, 143, 144, 145, 146, 147, 148, 75, 76, 14] (.seq (.seq (.reg [] [(0, []), (1, []), (2, []), (3, [])]) (.cond .leaf .leaf)) (.seq (.blk (.seq (.reg [] [(0, []), (1, []), (2, []), (3, []), (4, []), (5, []), (6, []), (7, [])]) (.seq (.seq (.reg [0, 0, 3, 7, 15, 31, 63, 127, 127, 511, 1023, 2047, 4095, 8191, 16383, 32767, 32767, 131071, 262143, 524287, 32767, 32767, 3178495, 7372799, 15761407, 33554431, 32767, 134217727, 268435455, 536870911, 1073741823, 2147483647, 4294967295, 8589934591, 8589934591, 34359738367, 68719476735, 137438953471, 8589934591, 8589934591, 558345748479, 1932735283199, 4131758538751, 8529805049855, 8589934591, 8589934591, 35192962023423, 123153892245503, 263891380600831, 545366357311487, 1125633618870271, 2251799813685247, 4503599627370495, 9007199254740991] [(0, []), (1, []), (2, []), (3, []), (4, []), (5, []), (6, []), (7, []), (8, []), (9, []), (10, []), (11, []), (12, []), (13, []), (14, []), (15, []), (16, []), (17, []), (18, []), (20, []), (21, []), (22, []), (23, []), (26, []), (19, []), (24, []), (25, []), (27, []), (28, []), (29, []), (30, []), (31, []), (32, []), (33, []), (34, []), (35, []), (36, []), (38, []), (39, []), (40, []), (41, []), (42, []), (44, []), (45, []), (46, []), (47, []), (48, []), (37, []), (43, []), (49, []), (50, []), (51, []), (52, []), (53, [])]) (.cond (.seq (.reg [] [(0, [])]) .leaf) .leaf)) (.seq (.reg [] [(0, []), (1, []), (2, []), (3, []), (4, []), (5, []), (6, []), (7, []), (8, []), (9, []), (10, [])]) (.cond (.seq (.reg [] [(0, [])]) .leaf) .leaf))))) (.reg [] [(0, []), (1, []), (2, [])])))))) (.seq (.reg [] [(0, []), (1, []), (2, []), (3, []), (4, []), (5, []), (6, []), (7, []), (8, []), (9, []), (10, []), (11, [])]) (.cond (.seq (.reg [] [(0, [])]) .leaf) .leaf))))))))) (.reg [] [(0, []), (1, []), (2, [])])))))) (.seq (.reg [] [(0, [])]) (.seq (.reg [] [(0, []), (1, []), (2, []), (3, []), (4, []), (5, []), (6, [])]) (.seq (.reg [] [(0, []), (1, []), (2, []), (3, []), (4, []), (5, []), (6, []), (7, []), (8, []), (9, []), (10, []), (11, []), (12, []), (13, []), (14, []), (15, []), (16, []), (17, []), (18, []), (19, []), (20, []), (21, [])]) .leaf))))))))))
def D7 (a0 a1 : Value) (K : Value → Hp → Prop) (h : Hp) : Prop :=
  vP (lenV a1) fun v19 =>
  vP (binV .gtr v19 (Value.int .i64 50)) fun v20 =>
  vB v20 (CallH Try.prog 14 #[] (fun v21 h1 =>
    K v21 h1) h)
  (vP (convV .u64 a0) fun v23 =>
  vP (binV .rem v23 (Value.int .u64 100)) fun v24 =>
  vP (convV .i64 v24) fun v25 =>
  vP (binV .add (Value.int .i64 1) v25) fun v26 =>
  CallH Try.prog 8 #[v26] (fun v28 h2 =>
  vP (eqV 4 false v28 (Value.pointer none)) fun v30 =>
  vB v30 (K (Value.bool false) h2)
  (∃ I1 : Nat → List Value → Hp → Prop, (∃ n, I1 n [(Value.int .i64 0), (Value.int .i64 0)] h2) ∧
  ∀ n1 : Nat, ∀ v8 v7 : Value, ∀ h3 : Hp, I1 n1 [v8, v7] h3 → ∀ g1 : St,
    vP (lenV a1) fun v33 =>
    vP (binV .lss v8 v33) fun v34 =>
    vB v34 (vP (iaS 1 a1 v8) fun v39 =>
      vP (ld1 v39 h3) fun v40 =>
      vP (convV .u64 v40) fun v41 =>
      vP (binV .rem v41 (Value.int .u64 12)) fun v42 =>
      vP (convV .i64 v42) fun v43 =>
      vP (binV .add (Value.int .i64 1) v43) fun v44 =>
      CallH Try.prog 9 #[v28, v44] (fun v48 h4 =>
      vP (exV v48 0) fun v49 =>
      vP (exV v48 1) fun v50 =>
      ∀ J2 : List Value → Hp → Prop, (∀ v7_1 : Value, ∀ h5 : Hp, (∀ g2 : St,
        CallH Try.prog 12 #[v28] (fun v70 h6 =>
        ∃ I3 : Nat → List Value → Hp → Prop, (∃ n, I3 n [(Value.int .i64 0), (Value.int .i64 0)] h6) ∧
        ∀ n3 : Nat, ∀ v14 v13 : Value, ∀ h7 : Hp, I3 n3 [v14, v13] h7 → ∀ g3 : St,
          vP (lenV v70) fun v73 =>
          vP (binV .lss v14 v73) fun v74 =>
          vB v74 (vP (iaS 2 v70 v14) fun v80 =>
            vP (faV 1 v80) fun v81 =>
            vP (ld1 v81 h7) fun v82 =>
            vP (binV .add v13 v82) fun v83 =>
            vP (iaS 2 v70 v14) fun v86 =>
            vP (faV 1 v86) fun v87 =>
            vP (ld1 v87 h7) fun v88 =>
            vP (binV .lss v88 (Value.int .i64 1)) fun v89 =>
            vP (gdW (gB v89 false) (some v70)) fun v91 =>
            vP (gdW (gB v89 false) (some v14)) fun v92 =>
            vP (gdW (gB v89 false) (iaS 2 v91 v92)) fun v93 =>
            vP (gdW (gB v89 false) (faV 0 v93)) fun v94 =>
            vP (gdW (gB v89 false) (ld1 v94 h7)) fun v95 =>
            vP (gdW (gB v89 false) (binV .lss v95 (Value.int .i64 1))) fun v96 =>
            vP (pickV v89 (Value.bool true) v96) fun v97 =>
            vP (gdW (gB v97 false) (some v70)) fun v99 =>
            vP (gdW (gB v97 false) (some v14)) fun v100 =>
            vP (gdW (gB v97 false) (iaS 2 v99 v100)) fun v101 =>
            vP (gdW (gB v97 false) (faV 0 v101)) fun v102 =>
            vP (gdW (gB v97 false) (some v70)) fun v104 =>
            vP (gdW (gB v97 false) (some v14)) fun v105 =>
            vP (gdW (gB v97 false) (iaS 2 v104 v105)) fun v106 =>
            vP (gdW (gB v97 false) (faV 1 v106)) fun v107 =>
            vP (gdW (gB v97 false) (some v26)) fun v110 =>
            vP (gdW (gB v97 false) (ld1 v102 h7)) fun v103 =>
            vP (gdW (gB v97 false) (ld1 v107 h7)) fun v108 =>
            vP (gdW (gB v97 false) (binV .add v103 v108)) fun v109 =>
            vP (gdW (gB v97 false) (binV .gtr v109 v110)) fun v111 =>
            vP (pickV v97 (Value.bool true) v111) fun v112 =>
            vP (gdW (gB v112 false) (some v14)) fun v114 =>
            vP (gdW (gB v112 false) (binV .gtr v114 (Value.int .i64 0))) fun v115 =>
            vP (gdW (gB v112 false) (some v115)) fun v116 =>
            vP (gdW (gB v116 true) (some v70)) fun v117 =>
            vP (gdW (gB v116 true) (some v14)) fun v118 =>
            vP (gdW (gB v116 true) (iaS 2 v117 v118)) fun v119 =>
            vP (gdW (gB v116 true) (faV 0 v119)) fun v120 =>
            vP (gdW (gB v116 true) (some v70)) fun v122 =>
            vP (gdW (gB v116 true) (some v14)) fun v123 =>
            vP (gdW (gB v116 true) (binV .sub v123 (Value.int .i64 1))) fun v124 =>
            vP (gdW (gB v116 true) (iaS 2 v122 v124)) fun v125 =>
            vP (gdW (gB v116 true) (faV 0 v125)) fun v126 =>
            vP (gdW (gB v116 true) (some v70)) fun v128 =>
            vP (gdW (gB v116 true) (some v14)) fun v129 =>
            vP (gdW (gB v116 true) (binV .sub v129 (Value.int .i64 1))) fun v130 =>
            vP (gdW (gB v116 true) (iaS 2 v128 v130)) fun v131 =>
            vP (gdW (gB v116 true) (faV 1 v131)) fun v132 =>
            vP (gdW (gB v116 true) (ld1 v120 h7)) fun v121 =>
            vP (gdW (gB v116 true) (ld1 v126 h7)) fun v127 =>
            vP (gdW (gB v116 true) (ld1 v132 h7)) fun v133 =>
            vP (gdW (gB v116 true) (binV .add v127 v133)) fun v134 =>
            vP (gdW (gB v116 true) (binV .leq v121 v134)) fun v135 =>
            vP (gdW (gB v112 false) (pickV v116 v135 (Value.bool false))) fun v136 =>
            vP (pickV v112 (Value.bool true) v136) fun v137 =>
            vB v137 (K (Value.bool false) h7)
            (vP (eqV 1 true v50 (Value.int .i64 0)) fun v139 =>
            vP (gdW (gB v139 true) (some v70)) fun v141 =>
            vP (gdW (gB v139 true) (some v14)) fun v142 =>
            vP (gdW (gB v139 true) (iaS 2 v141 v142)) fun v143 =>
            vP (gdW (gB v139 true) (faV 1 v143)) fun v144 =>
            vP (gdW (gB v139 true) (ld1 v144 h7)) fun v145 =>
            vP (gdW (gB v139 true) (some v44)) fun v146 =>
            vP (gdW (gB v139 true) (binV .geq v145 v146)) fun v147 =>
            vP (pickV v139 v147 (Value.bool false)) fun v148 =>
            vB v148 (K (Value.bool false) h7)
            (vP (binV .add v14 (Value.int .i64 1)) fun v76 =>
            ∃ m3, m3 < n3 ∧ I3 m3 [v76, v83] h7)))
          (CallH Try.prog 13 #[v28] (fun v151 h8 =>
          vP (eqV 1 true v13 v151) fun v152 =>
          vP (gdW (gB v152 false) (some v13)) fun v154 =>
          vP (gdW (gB v152 false) (some v7_1)) fun v155 =>
          vP (gdW (gB v152 false) (binV .add v154 v155)) fun v156 =>
          vP (gdW (gB v152 false) (some v26)) fun v157 =>
          vP (gdW (gB v152 false) (binV .sub v157 (Value.int .i64 1))) fun v158 =>
          vP (gdW (gB v152 false) (eqV 1 true v156 v158)) fun v159 =>
          vP (pickV v152 (Value.bool true) v159) fun v160 =>
          vB v160 (K (Value.bool false) h8)
          (vP (binV .add v8 (Value.int .i64 1)) fun v36 =>
          ∃ m1, m1 < n1 ∧ I1 m1 [v36, v7_1] h8)) h7)) h5) → J2 [v7_1] h5) →
      vP (eqV 1 false v50 (Value.int .i64 0)) fun v52 =>
      vB v52 (vP (binV .add v7 v44) fun v55 =>
        vP (binV .rem v8 (Value.int .i64 3)) fun v57 =>
        vP (eqV 1 false v57 (Value.int .i64 2)) fun v58 =>
        vB v58 (CallH Try.prog 11 #[v28, v49, v44] (fun v62 h9 =>
          vP (eqV 1 true v62 (Value.int .i64 0)) fun v63 =>
          vB v63 (K (Value.bool false) h9)
          (vP (binV .sub v55 v44) fun v66 =>
          J2 [v66] h9)) h4)
        (J2 [v55] h4))
      (vP (eqV 1 true v50 (Value.int .i64 3)) fun v68 =>
      vB v68 (K (Value.bool false) h4)
      (J2 [v7] h4))) h3)
    (CallH Try.prog 9 #[(Value.pointer none), (Value.int .i64 1)] (fun v163 h10 =>
    vP (exV v163 0) fun v164 =>
    vP (exV v163 1) fun v165 =>
    CallH Try.prog 14 #[] (fun v166 h11 =>
    vP (gdW (gB v166 true) (some v165)) fun v168 =>
    vP (gdW (gB v166 true) (eqV 1 false v168 (Value.int .i64 1))) fun v169 =>
    vP (pickV v166 v169 (Value.bool false)) fun v170 =>
    vP (gdW (gB v170 true) (some (Value.pointer none))) fun v172 =>
    vE (gB v170 true) (CallH Try.prog 11 #[v172, (Value.int .i64 1), (Value.int .i64 1)]) (fun v173 h12 =>
    vP (gdW (gB v170 true) (eqV 1 false v173 (Value.int .i64 1))) fun v174 =>
    vP (pickV v170 v174 (Value.bool false)) fun v175 =>
    vP (gdW (gB v175 true) (some (Value.pointer none))) fun v177 =>
    vE (gB v175 true) (CallH Try.prog 13 #[v177]) (fun v178 h13 =>
    vP (gdW (gB v175 true) (eqV 1 false v178 (Value.int .i64 0))) fun v179 =>
    vP (pickV v175 v179 (Value.bool false)) fun v180 =>
    vP (gdW (gB v180 true) (some (Value.pointer none))) fun v182 =>
    vE (gB v180 true) (CallH Try.prog 12 #[v182]) (fun v183 h14 =>
    vP (gdW (gB v180 true) (lenV v183)) fun v184 =>
    vP (gdW (gB v180 true) (eqV 1 false v184 (Value.int .i64 0))) fun v185 =>
    vP (pickV v180 v185 (Value.bool false)) fun v186 =>
    K v186 h14) h13) h12) h11) h10) h3))) h)
theorem D7_eq (a0 a1 : Value) (K : Value → Hp → Prop) (h : Hp) : fnVC Try.prog Try.f7 x7 [a0, a1] K h = D7 a0 a1 K h := by kernel_rfl
theorem D7_ok : fnOk Try.prog Try.f7 x7 2 = true := by kernel_rfl
theorem C7 {a0 a1 : Value} {K : Value → Hp → Prop} {h : Hp} (hh : D7 a0 a1 K h) : CallH Try.prog 7 #[a0, a1] K h :=
  callH_of mixed Try.func7 x7 [a0, a1] D7_ok (D7_eq a0 a1 K h ▸ hh)

end Go.Proofs
