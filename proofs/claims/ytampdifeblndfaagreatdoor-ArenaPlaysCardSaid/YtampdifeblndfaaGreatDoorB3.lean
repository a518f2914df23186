/-
  Texts of the proof, in one file: PgD, Pg1, Pg2, Pg3, Pg4, Pg5, Pg6, PgP.
-/
import Derived.Test.YtampdifeblndfaaGreatDoorB2
import Derived.Test.YtampdifeblndfaaGreatDoorProg
set_option linter.unusedVariables false
set_option linter.unusedSimpArgs false
/-
  The conditions of some functions, as the printer wrote them out of the dump; the kernel checks that each is the function's own.
-/
set_option maxRecDepth 100000
namespace Go.Proofs
open Go.Sl
theorem mixed : Tryz.prog.follows .mixedOrders = true := by kernel_rfl
def x30 : Ann := (.seq (.reg [] [(0, [])]) (.seq (.reg [] [(0, []), (1, []), (2, []), (3, []), (4, []), (5, [])]) (.join [] [9, 10, 11, 12, 13, 14, 15, 16, 17, 18, 19, 20, 21, 22, 23] (.seq (.reg [] [(0, []), (1, []), (2, []), (3, []), (4, [])]) (.cond (.reg [] [(0, []), (1, []), (2, []), (3, []), (4, []), (5, []), (6, []), (7, []), (8, []), (9, []), (10, [])]) .leaf)) (.seq (.reg [] [(0, []), (1, [])]) .leaf))))
def D30 (a0 : Value) (K : Value → Hp → Prop) (h : Hp) : Prop :=
  vP (max2V a0 (Value.int .i64 1)) fun v5 =>
  vP (min2V v5 (Value.int .i64 262144)) fun v6 =>
  vP ((bldV #[(Value.int .i64 0), (Value.slice none 0 0)] [(0, 1, v6)]).map Value.agg) fun v7 =>
  vA (some (Obj.cells (Value.cells v7) 89 (0, 0), ptrV)) (fun v8 h1 =>
  ∀ J1 : List Value → Hp → Prop, (∀ h2 : Hp, (∀ g1 : St,
    K v8 h2) → J1 [] h2) →
  vP (nilV v8) fun v10 =>
  vP (faV 0 v10) fun v11 =>
  vP (ld1 v11 h1) fun v12 =>
  vP (binV .gtr v12 (Value.int .i64 1)) fun v13 =>
  vB v13 (vP (nilV v8) fun v16 =>
    vP (faV 0 v16) fun v17 =>
    vP (ld1 v17 h1) fun v18 =>
    vP (binV .sub v18 (Value.int .i64 1)) fun v19 =>
    vP ((bldV #[(Value.int .i64 0), (Value.int .i64 0)] [(0, 1, (Value.int .i64 1)), (1, 1, v19)]).map Value.agg) fun v20 =>
    vA ((bldV #[(Value.int .i64 0), (Value.int .i64 0)] [(0, 2, v20)]).map fun c => (Obj.cells c 91 (0, 0), fun r => Value.slice (some ⟨r, 0, none⟩) 1 1)) (fun v21 h3 =>
    vP (nilV v8) fun v22 =>
    vP (faV 1 v22) fun v23 =>
    st1 v23 v21 (fun _ h4 =>
    J1 [] h4) h3) h1)
  (J1 [] h1)) h
theorem D30_eq (a0 : Value) (K : Value → Hp → Prop) (h : Hp) : fnVC Tryz.prog Tryz.f30 x30 [a0] K h = D30 a0 K h := by kernel_rfl
theorem D30_ok : fnOk Tryz.prog Tryz.f30 x30 1 = true := by kernel_rfl
theorem C30 {a0 : Value} {K : Value → Hp → Prop} {h : Hp} (hh : D30 a0 K h) : CallH Tryz.prog 30 #[a0] K h :=
  callH_of mixed Tryz.func30 x30 [a0] D30_ok (D30_eq a0 K h ▸ hh)
def x32 : Ann := (.seq (.reg [] [(0, []), (1, [])]) (.seq (.seq (.reg [] [(0, []), (1, []), (2, []), (3, []), (4, []), (5, [])]) (.cond (.seq (.reg [] [(0, []), (1, [])]) .leaf) .leaf)) (.seq (.reg [] [(0, [])]) (.seq (.seq (.reg [] [(0, []), (1, []), (2, []), (3, []), (4, []), (5, [])]) (.blk (.loop [22] [23, 24, 25, 8, 26, 27, 28, 29, 30, 31, 32, 33, 34, 22] (.seq (.reg [] [(0, [])]) (.seq (.cond .leaf .leaf) (.join [] [24, 25, 8, 26, 27, 28, 29, 30, 31, 32, 33] (.blk (.seq (.reg [] [(0, []), (1, []), (2, []), (3, [])]) (.seq (.reg [] [(0, []), (1, []), (2, []), (3, [])]) (.cond (.reg [] [(0, []), (1, []), (2, []), (3, [])]) .leaf)))) (.reg [] [(0, []), (1, [])]))))))) (.seq (.seq (.reg [] [(0, []), (1, []), (2, [])]) (.cond (.seq (.reg [] [(0, []), (1, [])]) .leaf) .leaf)) (.seq (.reg [] [(0, []), (1, []), (2, []), (3, []), (4, [])]) (.seq (.reg [0, 1, 3, 7, 0, 31, 63] [(0, []), (1, []), (2, []), (3, []), (4, []), (5, []), (6, [])]) (.join [] [47, 48, 49, 50, 51, 52, 53, 54, 55, 56, 57, 58, 59, 60, 61, 62, 63, 64, 65, 66, 67, 68, 69, 70, 71, 72, 73, 74, 75, 76] (.seq (.reg [] [(0, []), (1, []), (2, []), (3, [])]) (.cond (.reg [] [(0, []), (1, []), (2, []), (3, []), (4, []), (5, []), (6, []), (7, []), (8, []), (9, []), (10, []), (11, [])]) (.reg [0, 1, 3, 7, 0, 0, 32, 0, 224, 0, 512, 0, 3584, 8160, 16383, 32767] [(0, []), (1, []), (2, []), (4, []), (5, []), (7, []), (9, []), (11, []), (3, []), (6, []), (8, []), (10, []), (12, []), (13, []), (14, []), (15, [])]))) (.seq (.reg [] [(0, []), (1, []), (2, []), (3, [])]) .leaf)))))))))
def D32 (a0 a1 : Value) (K : Value → Hp → Prop) (h : Hp) : Prop :=
  vP (eqV 4 false a0 (Value.pointer none)) fun v12 =>
  vP (gdW (gB v12 false) (some a1)) fun v14 =>
  vP (gdW (gB v12 false) (binV .lss v14 (Value.int .i64 1))) fun v15 =>
  vP (pickV v12 (Value.bool true) v15) fun v16 =>
  vB v16 (K (Value.tuple #[(Value.int .i64 0), (Value.int .i64 1)]) h)
  (vA (some (Obj.cells #[(Value.slice none 0 0)] 94 (0, 0), ptrV)) (fun v6 h1 =>
  vP (nilV a0) fun v18 =>
  vP (faV 1 v18) fun v19 =>
  vP (ld1 v19 h1) fun v20 =>
  vP (lenV v20) fun v21 =>
  ∃ I1 : Nat → List Value → Hp → Prop, (∃ n, I1 n [(Value.int .i64 0)] h1) ∧
  ∀ n1 : Nat, ∀ v22 : Value, ∀ h2 : Hp, I1 n1 [v22] h2 → ∀ g1 : St,
    vP (binV .lss v22 v21) fun v23 =>
    vB v23 (∀ J2 : List Value → Hp → Prop, (∀ h3 : Hp, (∀ g2 : St,
        vP (binV .add v22 (Value.int .i64 1)) fun v34 =>
        ∃ m1, m1 < n1 ∧ I1 m1 [v34] h3) → J2 [] h3) →
      vP (iaS 2 v20 v22) fun v24 =>
      vP (ldN 2 v24 h2) fun v25 =>
      vA (some (Obj.cells #[(Value.int .i64 0), (Value.int .i64 0)] 91 (0, 0), ptrV)) (fun v8 h4 =>
      stN 2 v8 v25 (fun _ h5 =>
      vP (faV 1 v8) fun v26 =>
      vP (ld1 v26 h5) fun v27 =>
      vP (binV .geq v27 a1) fun v29 =>
      vB v29 (vP (some (Value.iface 96 v6)) fun v30 =>
        vP (ldN 2 v8 h5) fun v31 =>
        vP (some (Value.iface 91 v31)) fun v32 =>
        CallH Tryz.prog 70 #[v30, v32] (fun v33 h6 =>
        J2 [] h6) h5)
      (J2 [] h5)) h4) h2)
    (vP (ld1 v6 h2) fun v35 =>
    vP (lenV v35) fun v36 =>
    vP (eqV 1 false v36 (Value.int .i64 0)) fun v37 =>
    vB v37 (K (Value.tuple #[(Value.int .i64 0), (Value.int .i64 3)]) h2)
    (vP (some (Value.iface 96 v6)) fun v38 =>
    CallH Tryz.prog 71 #[v38] (fun v39 h7 =>
    vP (taV 91 (Value.agg #[(Value.int .i64 0), (Value.int .i64 0)]) false v39) fun v40 =>
    vA (some (Obj.cells #[(Value.int .i64 0), (Value.int .i64 0)] 91 (0, 0), ptrV)) (fun v9 h8 =>
    stN 2 v9 v40 (fun _ h9 =>
    vP (nilV a0) fun v42 =>
    vP (faV 1 v42) fun v43 =>
    vP (ld1 v43 h9) fun v44 =>
    vP (ldN 2 v9 h9) fun v45 =>
    CallH Tryz.prog 72 #[v44, v45] (fun v46 h10 =>
    ∀ J3 : List Value → Hp → Prop, (∀ h11 : Hp, (∀ g3 : St,
      vP (faV 0 v9) fun v77 =>
      vP (ld1 v77 h11) fun v78 =>
      K (Value.tuple #[v78, (Value.int .i64 0)]) h11) → J3 [] h11) →
    vP (faV 1 v9) fun v47 =>
    vP (ld1 v47 h10) fun v48 =>
    vP (eqV 1 false v48 a1) fun v50 =>
    vB v50 (vP (nilV a0) fun v53 =>
      vP (faV 1 v53) fun v54 =>
      vP (ld1 v54 h10) fun v55 =>
      vP (binV .add v46 (Value.int .i64 1)) fun v58 =>
      CallH Tryz.prog 73 #[v55, v46, v58] (fun v59 h12 =>
      vP (nilV a0) fun v60 =>
      vP (faV 1 v60) fun v61 =>
      st1 v61 v59 (fun _ h13 =>
      J3 [] h13) h12) h10)
    (vP (nilV a0) fun v63 =>
    vP (faV 1 v63) fun v64 =>
    vP (faV 0 v9) fun v67 =>
    vP (faV 1 v9) fun v71 =>
    vP (ld1 v64 h10) fun v65 =>
    vP (ld1 v67 h10) fun v68 =>
    vP (binV .add v68 a1) fun v70 =>
    vP (ld1 v71 h10) fun v72 =>
    vP (binV .sub v72 a1) fun v74 =>
    vP ((bldV #[(Value.int .i64 0), (Value.int .i64 0)] [(0, 1, v70), (1, 1, v74)]).map Value.agg) fun v75 =>
    vP (iaS 2 v65 v46) fun v76 =>
    stN 2 v76 v75 (fun _ h14 =>
    J3 [] h14) h10)) h9) h8) h7) h2))) h)
theorem D32_eq (a0 a1 : Value) (K : Value → Hp → Prop) (h : Hp) : fnVC Tryz.prog Tryz.f32 x32 [a0, a1] K h = D32 a0 a1 K h := by kernel_rfl
theorem D32_ok : fnOk Tryz.prog Tryz.f32 x32 2 = true := by kernel_rfl
theorem C32 {a0 a1 : Value} {K : Value → Hp → Prop} {h : Hp} (hh : D32 a0 a1 K h) : CallH Tryz.prog 32 #[a0, a1] K h :=
  callH_of mixed Tryz.func32 x32 [a0, a1] D32_ok (D32_eq a0 a1 K h ▸ hh)
def x43 : Ann := (.seq (.reg [] [(0, [])]) (.seq (.seq (.reg [] [(0, []), (1, []), (2, []), (3, []), (4, []), (5, []), (6, []), (7, []), (8, []), (9, []), (10, []), (11, []), (12, []), (13, []), (14, []), (15, []), (16, []), (17, []), (18, []), (19, []), (20, []), (21, []), (22, []), (23, []), (24, []), (25, []), (26, []), (27, []), (28, [])]) (.cond (.seq (.reg [] [(0, [])]) .leaf) .leaf)) (.seq (.reg [] [(0, [])]) (.seq (.blk (.loop [7] [37, 38, 39, 40, 41, 42, 43, 44, 45, 46, 47, 48, 49, 50, 51, 52, 53, 54, 55, 56, 57, 7] (.seq (.seq (.reg [] [(0, []), (1, []), (2, []), (3, []), (4, []), (5, []), (6, []), (7, []), (8, []), (9, []), (10, []), (11, []), (12, []), (13, []), (14, []), (15, []), (16, []), (17, []), (18, [])]) (.cond .leaf .leaf)) (.blk (.reg [] [(0, []), (1, []), (2, [])]))))) (.seq (.seq (.reg [0, 1, 3, 7, 15, 31, 63, 7, 135, 511, 1023, 2047, 7, 4103, 12295, 28679, 7, 65543, 258055, 520199, 1044487, 2097151, 7, 8388607, 16777215, 33554431, 67108863, 67108863, 201326591, 469762047, 1006632959, 2080374783, 4294967295, 8589934591, 17179869183, 34359738367, 68719476735, 137438953471, 17179869183, 549755813887, 1099511627775, 2199023255551, 17179869183, 17179869183, 13211319402495, 35184372088831, 70368744177663, 140737488355327] [(0, []), (1, []), (2, []), (3, []), (4, []), (5, []), (7, []), (8, []), (12, []), (13, []), (14, []), (16, []), (17, []), (22, []), (6, []), (9, []), (10, []), (11, []), (15, []), (18, []), (19, []), (20, []), (21, []), (23, []), (24, []), (25, []), (26, []), (27, []), (28, []), (29, []), (30, []), (31, []), (32, []), (33, []), (34, []), (35, []), (36, []), (38, []), (42, []), (43, []), (44, []), (37, []), (39, []), (40, []), (41, []), (45, []), (46, []), (47, [])]) (.cond (.seq (.reg [] [(0, [])]) .leaf) .leaf)) (.seq (.reg [] [(0, []), (1, []), (2, []), (3, []), (4, []), (5, []), (6, []), (7, []), (8, []), (9, []), (10, []), (11, []), (12, []), (13, [])]) (.seq (.reg [] [(0, []), (1, []), (2, [])]) (.seq (.reg [] [(0, []), (1, []), (2, []), (3, [])]) (.seq (.reg [] [(0, [])]) .leaf)))))))))
def D43 (a0 a1 a2 : Value) (K : Value → Hp → Prop) (h : Hp) : Prop :=
  vP (eqV 4 false a0 (Value.pointer none)) fun v9 =>
  vP (gdW (gB v9 false) (some a2)) fun v11 =>
  vP (gdW (gB v9 false) (binV .lss v11 (Value.int .i64 1))) fun v12 =>
  vP (pickV v9 (Value.bool true) v12) fun v13 =>
  vP (gdW (gB v13 false) (some a1)) fun v15 =>
  vP (gdW (gB v13 false) (binV .lss v15 (Value.int .i64 1))) fun v16 =>
  vP (pickV v13 (Value.bool true) v16) fun v17 =>
  vP (gdW (gB v17 false) (some a1)) fun v19 =>
  vP (gdW (gB v17 false) (some a0)) fun v20 =>
  vP (gdW (gB v17 false) (nilV v20)) fun v21 =>
  vP (gdW (gB v17 false) (faV 0 v21)) fun v22 =>
  vP (gdW (gB v17 false) (ld1 v22 h)) fun v23 =>
  vP (gdW (gB v17 false) (binV .sub v23 (Value.int .i64 1))) fun v24 =>
  vP (gdW (gB v17 false) (binV .gtr v19 v24)) fun v25 =>
  vP (pickV v17 (Value.bool true) v25) fun v26 =>
  vP (gdW (gB v26 false) (some a2)) fun v28 =>
  vP (gdW (gB v26 false) (some a0)) fun v29 =>
  vP (gdW (gB v26 false) (nilV v29)) fun v30 =>
  vP (gdW (gB v26 false) (faV 0 v30)) fun v31 =>
  vP (gdW (gB v26 false) (ld1 v31 h)) fun v32 =>
  vP (gdW (gB v26 false) (some a1)) fun v33 =>
  vP (gdW (gB v26 false) (binV .sub v32 v33)) fun v34 =>
  vP (gdW (gB v26 false) (binV .gtr v28 v34)) fun v35 =>
  vP (pickV v26 (Value.bool true) v35) fun v36 =>
  vB v36 (K (Value.int .i64 1) h)
  (∃ I1 : Nat → List Value → Hp → Prop, (∃ n, I1 n [(Value.int .i64 0)] h) ∧
  ∀ n1 : Nat, ∀ v7 : Value, ∀ h1 : Hp, I1 n1 [v7] h1 → ∀ g1 : St,
    vP (nilV a0) fun v39 =>
    vP (faV 1 v39) fun v40 =>
    vP (ld1 v40 h1) fun v41 =>
    vP (lenV v41) fun v42 =>
    vP (binV .lss v7 v42) fun v43 =>
    vP (gdW (gB v43 true) (some a0)) fun v45 =>
    vP (gdW (gB v43 true) (nilV v45)) fun v46 =>
    vP (gdW (gB v43 true) (faV 1 v46)) fun v47 =>
    vP (gdW (gB v43 true) (ld1 v47 h1)) fun v48 =>
    vP (gdW (gB v43 true) (some v7)) fun v49 =>
    vP (gdW (gB v43 true) (iaS 2 v48 v49)) fun v50 =>
    vP (gdW (gB v43 true) (faV 0 v50)) fun v51 =>
    vP (gdW (gB v43 true) (ld1 v51 h1)) fun v52 =>
    vP (gdW (gB v43 true) (some a1)) fun v53 =>
    vP (gdW (gB v43 true) (binV .lss v52 v53)) fun v54 =>
    vP (pickV v43 v54 (Value.bool false)) fun v55 =>
    vB v55 (vP (binV .add v7 (Value.int .i64 1)) fun v57 =>
      ∃ m1, m1 < n1 ∧ I1 m1 [v57] h1)
    (vP (binV .gtr v7 (Value.int .i64 0)) fun v59 =>
    vP (gdW (gB v59 true) (some a0)) fun v61 =>
    vP (gdW (gB v59 true) (nilV v61)) fun v62 =>
    vP (gdW (gB v59 true) (faV 1 v62)) fun v63 =>
    vP (gdW (gB v59 true) (some v7)) fun v65 =>
    vP (gdW (gB v59 true) (binV .sub v65 (Value.int .i64 1))) fun v66 =>
    vP (gdW (gB v59 true) (some a0)) fun v70 =>
    vP (gdW (gB v59 true) (nilV v70)) fun v71 =>
    vP (gdW (gB v59 true) (faV 1 v71)) fun v72 =>
    vP (gdW (gB v59 true) (some v7)) fun v74 =>
    vP (gdW (gB v59 true) (binV .sub v74 (Value.int .i64 1))) fun v75 =>
    vP (gdW (gB v59 true) (some a1)) fun v80 =>
    vP (gdW (gB v59 true) (ld1 v63 h1)) fun v64 =>
    vP (gdW (gB v59 true) (iaS 2 v64 v66)) fun v67 =>
    vP (gdW (gB v59 true) (faV 0 v67)) fun v68 =>
    vP (gdW (gB v59 true) (ld1 v68 h1)) fun v69 =>
    vP (gdW (gB v59 true) (ld1 v72 h1)) fun v73 =>
    vP (gdW (gB v59 true) (iaS 2 v73 v75)) fun v76 =>
    vP (gdW (gB v59 true) (faV 1 v76)) fun v77 =>
    vP (gdW (gB v59 true) (ld1 v77 h1)) fun v78 =>
    vP (gdW (gB v59 true) (binV .add v69 v78)) fun v79 =>
    vP (gdW (gB v59 true) (binV .gtr v79 v80)) fun v81 =>
    vP (pickV v59 v81 (Value.bool false)) fun v82 =>
    vP (gdW (gB v82 false) (some v7)) fun v84 =>
    vP (gdW (gB v82 false) (some a0)) fun v85 =>
    vP (gdW (gB v82 false) (nilV v85)) fun v86 =>
    vP (gdW (gB v82 false) (faV 1 v86)) fun v87 =>
    vP (gdW (gB v82 false) (ld1 v87 h1)) fun v88 =>
    vP (gdW (gB v82 false) (lenV v88)) fun v89 =>
    vP (gdW (gB v82 false) (binV .lss v84 v89)) fun v90 =>
    vP (gdW (gB v82 false) (some v90)) fun v91 =>
    vP (gdW (gB v91 true) (some a0)) fun v92 =>
    vP (gdW (gB v91 true) (nilV v92)) fun v93 =>
    vP (gdW (gB v91 true) (faV 1 v93)) fun v94 =>
    vP (gdW (gB v91 true) (some v7)) fun v96 =>
    vP (gdW (gB v91 true) (some a1)) fun v100 =>
    vP (gdW (gB v91 true) (some a2)) fun v101 =>
    vP (gdW (gB v91 true) (binV .add v100 v101)) fun v102 =>
    vP (gdW (gB v91 true) (ld1 v94 h1)) fun v95 =>
    vP (gdW (gB v91 true) (iaS 2 v95 v96)) fun v97 =>
    vP (gdW (gB v91 true) (faV 0 v97)) fun v98 =>
    vP (gdW (gB v91 true) (ld1 v98 h1)) fun v99 =>
    vP (gdW (gB v91 true) (binV .lss v99 v102)) fun v103 =>
    vP (gdW (gB v82 false) (pickV v91 v103 (Value.bool false))) fun v104 =>
    vP (pickV v82 (Value.bool true) v104) fun v105 =>
    vB v105 (K (Value.int .i64 5) h1)
    (vP (nilV a0) fun v108 =>
    vP (faV 1 v108) fun v109 =>
    vP (ld1 v109 h1) fun v110 =>
    vP ((bldV #[(Value.int .i64 0), (Value.int .i64 0)] [(0, 1, a1), (1, 1, a2)]).map Value.agg) fun v114 =>
    vA ((bldV #[(Value.int .i64 0), (Value.int .i64 0)] [(0, 2, v114)]).map fun c => (Obj.cells c 91 (0, 0), fun r => Value.slice (some ⟨r, 0, none⟩) 1 1)) (fun v115 h2 =>
    CallH Tryz.prog 82 #[v110, v7, v115] (fun v116 h3 =>
    vP (nilV a0) fun v117 =>
    vP (faV 1 v117) fun v118 =>
    st1 v118 v116 (fun _ h4 =>
    CallH Tryz.prog 83 #[a0, v7] (fun v121 h5 =>
    vP (binV .sub v7 (Value.int .i64 1)) fun v124 =>
    CallH Tryz.prog 83 #[a0, v124] (fun v125 h6 =>
    K (Value.int .i64 0) h6) h5) h4) h3) h2) h1)))
theorem D43_eq (a0 a1 a2 : Value) (K : Value → Hp → Prop) (h : Hp) : fnVC Tryz.prog Tryz.f43 x43 [a0, a1, a2] K h = D43 a0 a1 a2 K h := by kernel_rfl
theorem D43_ok : fnOk Tryz.prog Tryz.f43 x43 3 = true := by kernel_rfl
theorem C43 {a0 a1 a2 : Value} {K : Value → Hp → Prop} {h : Hp} (hh : D43 a0 a1 a2 K h) : CallH Tryz.prog 43 #[a0, a1, a2] K h :=
  callH_of mixed Tryz.func43 x43 [a0, a1, a2] D43_ok (D43_eq a0 a1 a2 K h ▸ hh)
def x38 : Ann := (.seq (.reg [] [(0, [])]) (.seq (.reg [] [(0, [])]) (.seq (.seq (.reg [] [(0, []), (1, []), (2, []), (3, [])]) (.blk (.loop [9, 3] [10, 11, 12, 5, 13, 14, 15, 16, 3, 17, 9] (.seq (.reg [] [(0, [])]) (.seq (.cond .leaf .leaf) (.seq (.blk (.seq (.reg [] [(0, []), (1, []), (2, []), (3, [])]) (.reg [] [(0, []), (1, []), (2, []), (3, []), (4, [])]))) (.reg [] [(0, []), (1, [])]))))))) (.seq (.reg [] [(0, []), (1, [])]) .leaf))))
def D38 (a0 : Value) (K : Value → Hp → Prop) (h : Hp) : Prop :=
  CallH Tryz.prog 78 #[a0] (fun v7 h1 =>
  vP (lenV v7) fun v8 =>
  ∃ I1 : Nat → List Value → Hp → Prop, (∃ n, I1 n [(Value.int .i64 0), (Value.int .i64 0)] h1) ∧
  ∀ n1 : Nat, ∀ v9 v3 : Value, ∀ h2 : Hp, I1 n1 [v9, v3] h2 → ∀ g1 : St,
    vP (binV .lss v9 v8) fun v10 =>
    vB v10 (vP (iaS 2 v7 v9) fun v11 =>
      vP (ldN 2 v11 h2) fun v12 =>
      vA (some (Obj.cells #[(Value.int .i64 0), (Value.int .i64 0)] 91 (0, 0), ptrV)) (fun v5 h3 =>
      stN 2 v5 v12 (fun _ h4 =>
      vP (faV 1 v5) fun v14 =>
      vP (ld1 v14 h4) fun v15 =>
      vP (binV .add v3 v15) fun v16 =>
      vP (binV .add v9 (Value.int .i64 1)) fun v17 =>
      ∃ m1, m1 < n1 ∧ I1 m1 [v17, v16] h4) h3) h2)
    (K v3 h2)) h
theorem D38_eq (a0 : Value) (K : Value → Hp → Prop) (h : Hp) : fnVC Tryz.prog Tryz.f38 x38 [a0] K h = D38 a0 K h := by kernel_rfl
theorem D38_ok : fnOk Tryz.prog Tryz.f38 x38 1 = true := by kernel_rfl
theorem C38 {a0 : Value} {K : Value → Hp → Prop} {h : Hp} (hh : D38 a0 K h) : CallH Tryz.prog 38 #[a0] K h :=
  callH_of mixed Tryz.func38 x38 [a0] D38_ok (D38_eq a0 K h ▸ hh)
def x78 : Ann := (.seq (.reg [] [(0, [])]) (.seq (.seq (.reg [] [(0, []), (1, [])]) (.cond (.seq (.reg [] [(0, [])]) .leaf) .leaf)) (.seq (.reg [] [(0, []), (1, []), (2, []), (3, []), (4, []), (5, [])]) .leaf)))
def D78 (a0 : Value) (K : Value → Hp → Prop) (h : Hp) : Prop :=
  vP (eqV 4 false a0 (Value.pointer none)) fun v4 =>
  vB v4 (K (Value.slice none 0 0) h)
  (vP (nilV a0) fun v6 =>
  vP (faV 1 v6) fun v7 =>
  vP (ld1 v7 h) fun v8 =>
  CallH Tryz.prog 105 #[v8] (fun v9 h1 =>
  K v9 h1) h)
theorem D78_eq (a0 : Value) (K : Value → Hp → Prop) (h : Hp) : fnVC Tryz.prog Tryz.f78 x78 [a0] K h = D78 a0 K h := by kernel_rfl
theorem D78_ok : fnOk Tryz.prog Tryz.f78 x78 1 = true := by kernel_rfl
theorem C78 {a0 : Value} {K : Value → Hp → Prop} {h : Hp} (hh : D78 a0 K h) : CallH Tryz.prog 78 #[a0] K h :=
  callH_of mixed Tryz.func78 x78 [a0] D78_ok (D78_eq a0 K h ▸ hh)
def x83 : Ann := (.seq (.seq (.reg [0, 1, 3, 7, 15, 7, 39, 103, 231, 487, 1023, 2047, 4095, 8191, 16383, 32767, 65535, 8191, 262143, 524287, 1048575, 8191, 2105343, 6299647, 14688255, 8191, 65019903, 132128767, 266346495, 536870911, 8191, 1073750015, 3221233663, 7516200959, 8191, 17179877375, 67645743103, 136365219839, 273804173311, 549755813887, 1099511627775] [(0, []), (1, []), (2, []), (3, []), (4, []), (5, []), (6, []), (7, []), (8, []), (9, []), (10, []), (11, []), (12, []), (13, []), (14, []), (15, []), (17, []), (21, []), (22, []), (23, []), (25, []), (30, []), (31, []), (32, []), (34, []), (35, []), (16, []), (18, []), (19, []), (20, []), (24, []), (26, []), (27, []), (28, []), (29, []), (33, []), (36, []), (37, []), (38, []), (39, []), (40, [])]) (.cond .leaf .leaf)) (.seq (.reg [0, 1, 3, 7, 0, 0, 32, 96, 224, 0, 992, 2016, 4064, 0, 8192, 24576, 57344, 0, 131072, 516096, 1040384, 2088960, 4194272, 8388607, 16777215, 33554431] [(0, []), (1, []), (2, []), (4, []), (5, []), (6, []), (7, []), (9, []), (13, []), (14, []), (15, []), (17, []), (18, []), (3, []), (8, []), (10, []), (11, []), (12, []), (16, []), (19, []), (20, []), (21, []), (22, []), (23, []), (24, []), (25, [])]) (.reg [] [(0, []), (1, []), (2, []), (3, []), (4, []), (5, []), (6, []), (7, []), (8, []), (9, []), (10, []), (11, []), (12, [])])))
def D83 (a0 a1 : Value) (K : Value → Hp → Prop) (h : Hp) : Prop :=
  vP (binV .lss a1 (Value.int .i64 0)) fun v5 =>
  vP (gdW (gB v5 false) (some a1)) fun v7 =>
  vP (gdW (gB v5 false) (binV .add v7 (Value.int .i64 1))) fun v8 =>
  vP (gdW (gB v5 false) (some a0)) fun v9 =>
  vP (gdW (gB v5 false) (nilV v9)) fun v10 =>
  vP (gdW (gB v5 false) (faV 1 v10)) fun v11 =>
  vP (gdW (gB v5 false) (ld1 v11 h)) fun v12 =>
  vP (gdW (gB v5 false) (lenV v12)) fun v13 =>
  vP (gdW (gB v5 false) (binV .geq v8 v13)) fun v14 =>
  vP (pickV v5 (Value.bool true) v14) fun v15 =>
  vP (gdW (gB v15 false) (some a0)) fun v17 =>
  vP (gdW (gB v15 false) (nilV v17)) fun v18 =>
  vP (gdW (gB v15 false) (faV 1 v18)) fun v19 =>
  vP (gdW (gB v15 false) (some a1)) fun v21 =>
  vP (gdW (gB v15 false) (some a0)) fun v25 =>
  vP (gdW (gB v15 false) (nilV v25)) fun v26 =>
  vP (gdW (gB v15 false) (faV 1 v26)) fun v27 =>
  vP (gdW (gB v15 false) (some a1)) fun v29 =>
  vP (gdW (gB v15 false) (some a0)) fun v34 =>
  vP (gdW (gB v15 false) (nilV v34)) fun v35 =>
  vP (gdW (gB v15 false) (faV 1 v35)) fun v36 =>
  vP (gdW (gB v15 false) (some a1)) fun v38 =>
  vP (gdW (gB v15 false) (binV .add v38 (Value.int .i64 1))) fun v39 =>
  vP (gdW (gB v15 false) (ld1 v19 h)) fun v20 =>
  vP (gdW (gB v15 false) (iaS 2 v20 v21)) fun v22 =>
  vP (gdW (gB v15 false) (faV 0 v22)) fun v23 =>
  vP (gdW (gB v15 false) (ld1 v23 h)) fun v24 =>
  vP (gdW (gB v15 false) (ld1 v27 h)) fun v28 =>
  vP (gdW (gB v15 false) (iaS 2 v28 v29)) fun v30 =>
  vP (gdW (gB v15 false) (faV 1 v30)) fun v31 =>
  vP (gdW (gB v15 false) (ld1 v31 h)) fun v32 =>
  vP (gdW (gB v15 false) (binV .add v24 v32)) fun v33 =>
  vP (gdW (gB v15 false) (ld1 v36 h)) fun v37 =>
  vP (gdW (gB v15 false) (iaS 2 v37 v39)) fun v40 =>
  vP (gdW (gB v15 false) (faV 0 v40)) fun v41 =>
  vP (gdW (gB v15 false) (ld1 v41 h)) fun v42 =>
  vP (gdW (gB v15 false) (eqV 1 true v33 v42)) fun v43 =>
  vP (pickV v15 (Value.bool true) v43) fun v44 =>
  vB v44 (K (Value.tuple #[]) h)
  (vP (nilV a0) fun v46 =>
  vP (faV 1 v46) fun v47 =>
  vP (nilV a0) fun v51 =>
  vP (faV 1 v51) fun v52 =>
  vP (nilV a0) fun v59 =>
  vP (faV 1 v59) fun v60 =>
  vP (binV .add a1 (Value.int .i64 1)) fun v63 =>
  vP (ld1 v47 h) fun v48 =>
  vP (ld1 v52 h) fun v53 =>
  vP (iaS 2 v53 a1) fun v55 =>
  vP (faV 1 v55) fun v56 =>
  vP (ld1 v56 h) fun v57 =>
  vP (ld1 v60 h) fun v61 =>
  vP (iaS 2 v61 v63) fun v64 =>
  vP (faV 1 v64) fun v65 =>
  vP (ld1 v65 h) fun v66 =>
  vP (binV .add v57 v66) fun v67 =>
  vP (iaS 2 v48 a1) fun v68 =>
  vP (faV 1 v68) fun v69 =>
  st1 v69 v67 (fun _ h1 =>
  vP (nilV a0) fun v72 =>
  vP (faV 1 v72) fun v73 =>
  vP (ld1 v73 h1) fun v74 =>
  vP (binV .add a1 (Value.int .i64 1)) fun v76 =>
  vP (binV .add a1 (Value.int .i64 2)) fun v78 =>
  CallH Tryz.prog 73 #[v74, v76, v78] (fun v79 h2 =>
  vP (nilV a0) fun v80 =>
  vP (faV 1 v80) fun v81 =>
  st1 v81 v79 (fun _ h3 =>
  K (Value.tuple #[]) h3) h2) h1) h)
theorem D83_eq (a0 a1 : Value) (K : Value → Hp → Prop) (h : Hp) : fnVC Tryz.prog Tryz.f83 x83 [a0, a1] K h = D83 a0 a1 K h := by kernel_rfl
theorem D83_ok : fnOk Tryz.prog Tryz.f83 x83 2 = true := by kernel_rfl
theorem C83 {a0 a1 : Value} {K : Value → Hp → Prop} {h : Hp} (hh : D83 a0 a1 K h) : CallH Tryz.prog 83 #[a0, a1] K h :=
  callH_of mixed Tryz.func83 x83 [a0, a1] D83_ok (D83_eq a0 a1 K h ▸ hh)
def x105 : Ann := (.seq (.reg [] [(0, [])]) (.seq (.seq (.reg [] [(0, []), (1, [])]) (.cond (.seq (.reg [] [(0, [])]) .leaf) .leaf)) (.seq (.reg [] [(0, []), (1, []), (2, []), (3, [])]) .leaf)))
def D105 (a0 : Value) (K : Value → Hp → Prop) (h : Hp) : Prop :=
  vP (eqV 5 false a0 (Value.slice none 0 0)) fun v4 =>
  vB v4 (K (Value.slice none 0 0) h)
  (vA ((bldV #[] []).map fun c => (Obj.cells c 91 (0, 0), fun r => Value.slice (some ⟨r, 0, none⟩) 0 0)) (fun v5 h1 =>
  apW Tryz.prog #[87, 87] 87 v5 a0 (fun v7 h2 =>
  K v7 h2) h1) h)
theorem D105_eq (a0 : Value) (K : Value → Hp → Prop) (h : Hp) : fnVC Tryz.prog Tryz.f105 x105 [a0] K h = D105 a0 K h := by kernel_rfl
theorem D105_ok : fnOk Tryz.prog Tryz.f105 x105 1 = true := by kernel_rfl
theorem C105 {a0 : Value} {K : Value → Hp → Prop} {h : Hp} (hh : D105 a0 K h) : CallH Tryz.prog 105 #[a0] K h :=
  callH_of mixed Tryz.func105 x105 [a0] D105_ok (D105_eq a0 K h ▸ hh)
def x72 : Ann := (.seq (.reg [] [(0, []), (1, [])]) (.seq (.seq (.reg [] [(0, []), (1, []), (2, [])]) (.blk (.loop [8] [9, 10, 5, 11, 12, 13, 14, 15, 16, 17, 4, 18, 8] (.seq (.reg [] [(0, [])]) (.seq (.cond .leaf .leaf) (.seq (.blk (.seq (.reg [] [(0, []), (1, [])]) (.seq (.reg [0, 0, 0, 6, 14, 31] [(1, []), (2, []), (3, []), (0, []), (4, []), (5, [])]) (.cond (.seq (.reg [] [(0, []), (1, [])]) .leaf) .leaf)))) (.reg [] [(0, []), (1, [])]))))))) (.seq (.reg [] [(0, [])]) .leaf)))
def D72 (a0 a1 : Value) (K : Value → Hp → Prop) (h : Hp) : Prop :=
  vA (some (Obj.cells (Value.cells a1) 91 (0, 0), ptrV)) (fun v3 h1 =>
  vP (lenV a0) fun v7 =>
  ∃ I1 : Nat → List Value → Hp → Prop, (∃ n, I1 n [(Value.int .i64 0)] h1) ∧
  ∀ n1 : Nat, ∀ v8 : Value, ∀ h2 : Hp, I1 n1 [v8] h2 → ∀ g1 : St,
    vP (binV .lss v8 v7) fun v9 =>
    vB v9 (vP (iaS 2 a0 v8) fun v14 =>
      vP (ldN 2 v3 h2) fun v11 =>
      vP (ldN 2 v14 h2) fun v15 =>
      vP (eqA [1, 1] false v11 v15) fun v16 =>
      vB v16 (K v8 h2)
      (vP (binV .add v8 (Value.int .i64 1)) fun v18 =>
      ∃ m1, m1 < n1 ∧ I1 m1 [v18] h2))
    (K (Value.int .i64 (-1)) h2)) h
theorem D72_eq (a0 a1 : Value) (K : Value → Hp → Prop) (h : Hp) : fnVC Tryz.prog Tryz.f72 x72 [a0, a1] K h = D72 a0 a1 K h := by kernel_rfl
theorem D72_ok : fnOk Tryz.prog Tryz.f72 x72 2 = true := by kernel_rfl
theorem C72 {a0 a1 : Value} {K : Value → Hp → Prop} {h : Hp} (hh : D72 a0 a1 K h) : CallH Tryz.prog 72 #[a0, a1] K h :=
  callH_of mixed Tryz.func72 x72 [a0, a1] D72_ok (D72_eq a0 a1 K h ▸ hh)
def x73 : Ann := (.seq (.reg [] [(0, [])]) (.seq (.reg [] [(0, []), (1, []), (2, []), (3, []), (4, []), (5, [])]) (.seq (.seq (.reg [] [(0, []), (1, []), (2, [])]) (.cond (.seq (.reg [] [(0, []), (1, [])]) .leaf) .leaf)) (.seq (.reg [] [(0, []), (1, []), (2, [])]) (.seq (.reg [0, 0, 3, 0, 0, 24, 63, 127] [(0, []), (1, []), (2, []), (3, []), (4, []), (5, []), (6, []), (7, [])]) (.seq (.reg [] [(0, []), (1, []), (2, []), (3, []), (4, []), (5, [])]) (.seq (.reg [] [(0, []), (1, [])]) .leaf)))))))
def D73 (a0 a1 a2 : Value) (K : Value → Hp → Prop) (h : Hp) : Prop :=
  vP (lenV a0) fun v12 =>
  vP (slV 2 a0 (some a1) (some a2) (some v12)) fun v13 =>
  vP (eqV 1 false a1 a2) fun v16 =>
  vB v16 (K a0 h)
  (vP (lenV a0) fun v19 =>
  vP (slV 2 a0 none (some a1) none) fun v22 =>
  vP (slV 2 a0 (some a2) none none) fun v25 =>
  apW Tryz.prog #[87, 87] 87 v22 v25 (fun v26 h1 =>
  vP (lenV v26) fun v29 =>
  vP (slV 2 v26 (some v29) (some v19) none) fun v31 =>
  clW Tryz.prog #[87] 0 v31 (fun _ h2 =>
  K v26 h2) h1) h)
theorem D73_eq (a0 a1 a2 : Value) (K : Value → Hp → Prop) (h : Hp) : fnVC Tryz.prog Tryz.f73 x73 [a0, a1, a2] K h = D73 a0 a1 a2 K h := by kernel_rfl
theorem D73_ok : fnOk Tryz.prog Tryz.f73 x73 3 = true := by kernel_rfl
theorem C73 {a0 a1 a2 : Value} {K : Value → Hp → Prop} {h : Hp} (hh : D73 a0 a1 a2 K h) : CallH Tryz.prog 73 #[a0, a1, a2] K h :=
  callH_of mixed Tryz.func73 x73 [a0, a1, a2] D73_ok (D73_eq a0 a1 a2 K h ▸ hh)
def x82 : Ann := (.seq (.reg [] [(0, [])]) (.seq (.reg [] [(0, []), (1, []), (2, [])]) (.seq (.reg [] [(0, []), (1, []), (2, [])]) (.seq (.seq (.reg [] [(0, []), (1, [])]) (.cond (.seq (.reg [] [(0, []), (1, [])]) .leaf) .leaf)) (.seq (.reg [] [(0, []), (1, []), (2, [])]) (.seq (.seq (.reg [] [(0, []), (1, []), (2, [])]) (.cond (.seq (.reg [] [(0, []), (1, []), (2, []), (3, [])]) .leaf) .leaf)) (.seq (.seq (.reg [] [(0, []), (1, []), (2, []), (3, []), (4, []), (5, [])]) (.cond (.seq (.reg [] [(0, []), (1, []), (2, []), (3, []), (4, []), (5, []), (6, []), (7, []), (8, []), (9, [])]) (.seq (.reg [] [(0, []), (1, []), (2, []), (3, []), (4, [])]) (.seq (.reg [0, 0, 0, 6, 15, 0, 0, 96, 255] [(0, []), (1, []), (2, []), (3, []), (4, []), (5, []), (6, []), (7, []), (8, [])]) (.seq (.reg [] [(0, []), (1, [])]) .leaf)))) .leaf)) (.seq (.reg [] [(0, []), (1, []), (2, []), (3, []), (4, []), (5, [])]) (.seq (.seq (.reg [] [(0, []), (1, []), (2, []), (3, []), (4, []), (5, []), (6, []), (7, [])]) (.cond (.seq (.reg [0, 0, 0, 6, 15, 0, 0, 96, 255] [(0, []), (1, []), (2, []), (3, []), (4, []), (5, []), (6, []), (7, []), (8, [])]) (.seq (.reg [] [(0, []), (1, []), (2, []), (3, []), (4, [])]) (.seq (.reg [] [(0, []), (1, [])]) .leaf))) .leaf)) (.seq (.reg [] [(0, []), (1, []), (2, []), (3, []), (4, [])]) (.seq (.reg [] [(0, []), (1, []), (2, []), (3, []), (4, [])]) (.seq (.reg [] [(0, []), (1, [])]) .leaf))))))))))))
def D82 (a0 a1 a2 : Value) (K : Value → Hp → Prop) (h : Hp) : Prop :=
  vP (slV 2 a0 (some a1) none none) fun v12 =>
  vP (lenV a2) fun v14 =>
  vP (eqV 1 false v14 (Value.int .i64 0)) fun v16 =>
  vB v16 (K a0 h)
  (vP (lenV a0) fun v19 =>
  vP (eqV 1 false a1 v19) fun v22 =>
  vB v22 (apW Tryz.prog #[87, 87] 87 a0 a2 (fun v25 h1 =>
    K v25 h1) h)
  (vP (binV .add v19 v14) fun v28 =>
  vP (capV a0) fun v30 =>
  vP (binV .gtr v28 v30) fun v31 =>
  vB v31 (vP (slV 2 a0 none (some a1) none) fun v34 =>
    vP (binV .add v19 v14) fun v37 =>
    vP (binV .sub v37 a1) fun v39 =>
    apW Tryz.prog #[87, 3] 87 v34 v39 (fun v40 h2 =>
    vP (slV 2 v40 (some a1) none none) fun v43 =>
    cpW Tryz.prog #[87, 87] 3 v43 a2 (fun v45 h3 =>
    vP (binV .add a1 v14) fun v49 =>
    vP (slV 2 v40 (some v49) none none) fun v50 =>
    vP (slV 2 a0 (some a1) none none) fun v53 =>
    cpW Tryz.prog #[87, 87] 3 v50 v53 (fun v54 h4 =>
    K v40 h4) h3) h2) h)
  (vP (binV .add v19 v14) fun v59 =>
  vP (slV 2 a0 none (some v59) none) fun v60 =>
  vP (binV .add a1 v14) fun v65 =>
  vP (slV 2 v60 (some v65) none none) fun v66 =>
  exW Tryz.prog 108 #[a2, v66] (fun v67 h5 =>
  vP (unV .not v67) fun v68 =>
  vB v68 (vP (binV .add a1 v14) fun v72 =>
    vP (slV 2 v60 (some v72) none none) fun v73 =>
    vP (slV 2 v60 (some a1) none none) fun v76 =>
    cpW Tryz.prog #[87, 87] 3 v73 v76 (fun v77 h6 =>
    vP (slV 2 v60 (some a1) none none) fun v80 =>
    cpW Tryz.prog #[87, 87] 3 v80 a2 (fun v82 h7 =>
    K v60 h7) h6) h5)
  (vP (slV 2 v60 (some v19) none none) fun v86 =>
  cpW Tryz.prog #[87, 87] 3 v86 a2 (fun v88 h8 =>
  vP (slV 2 v60 (some a1) none none) fun v91 =>
  CallH Tryz.prog 109 #[v91, v14] (fun v93 h9 =>
  K v60 h9) h8) h5)) h)))
theorem D82_eq (a0 a1 a2 : Value) (K : Value → Hp → Prop) (h : Hp) : fnVC Tryz.prog Tryz.f82 x82 [a0, a1, a2] K h = D82 a0 a1 a2 K h := by kernel_rfl
theorem D82_ok : fnOk Tryz.prog Tryz.f82 x82 3 = true := by kernel_rfl
theorem C82 {a0 a1 a2 : Value} {K : Value → Hp → Prop} {h : Hp} (hh : D82 a0 a1 a2 K h) : CallH Tryz.prog 82 #[a0, a1, a2] K h :=
  callH_of mixed Tryz.func82 x82 [a0, a1, a2] D82_ok (D82_eq a0 a1 a2 K h ▸ hh)
def x70 : Ann := (.seq (.reg [] [(0, []), (1, []), (2, [])]) (.reg [] [(0, []), (1, []), (2, []), (3, []), (4, [])]))
def D70 (a0 a1 : Value) (K : Value → Hp → Prop) (h : Hp) : Prop :=
  ivW Tryz.prog a0 "Push" #[a1] (fun v6 h1 =>
  ivW Tryz.prog a0 "Len" #[] (fun v9 h2 =>
  vP (binV .sub v9 (Value.int .i64 1)) fun v10 =>
  CallH Tryz.prog 102 #[a0, v10] (fun v11 h3 =>
  K (Value.tuple #[]) h3) h2) h1) h
theorem D70_eq (a0 a1 : Value) (K : Value → Hp → Prop) (h : Hp) : fnVC Tryz.prog Tryz.f70 x70 [a0, a1] K h = D70 a0 a1 K h := by kernel_rfl
theorem D70_ok : fnOk Tryz.prog Tryz.f70 x70 2 = true := by kernel_rfl
theorem C70 {a0 a1 : Value} {K : Value → Hp → Prop} {h : Hp} (hh : D70 a0 a1 K h) : CallH Tryz.prog 70 #[a0, a1] K h :=
  callH_of mixed Tryz.func70 x70 [a0, a1] D70_ok (D70_eq a0 a1 K h ▸ hh)
def x71 : Ann := (.seq (.reg [] [(0, [])]) (.seq (.reg [] [(0, []), (1, []), (2, []), (3, [])]) (.seq (.reg [] [(0, []), (1, []), (2, [])]) (.seq (.reg [] [(0, []), (1, []), (2, [])]) (.seq (.reg [] [(0, []), (1, []), (2, [])]) .leaf)))))
def D71 (a0 : Value) (K : Value → Hp → Prop) (h : Hp) : Prop :=
  ivW Tryz.prog a0 "Len" #[] (fun v5 h1 =>
  vP (binV .sub v5 (Value.int .i64 1)) fun v6 =>
  ivW Tryz.prog a0 "Swap" #[(Value.int .i64 0), v6] (fun v9 h2 =>
  CallH Tryz.prog 103 #[a0, (Value.int .i64 0), v6] (fun v12 h3 =>
  ivW Tryz.prog a0 "Pop" #[] (fun v14 h4 =>
  K v14 h4) h3) h2) h1) h
theorem D71_eq (a0 : Value) (K : Value → Hp → Prop) (h : Hp) : fnVC Tryz.prog Tryz.f71 x71 [a0] K h = D71 a0 K h := by kernel_rfl
theorem D71_ok : fnOk Tryz.prog Tryz.f71 x71 1 = true := by kernel_rfl
theorem C71 {a0 : Value} {K : Value → Hp → Prop} {h : Hp} (hh : D71 a0 K h) : CallH Tryz.prog 71 #[a0] K h :=
  callH_of mixed Tryz.func71 x71 [a0] D71_ok (D71_eq a0 K h ▸ hh)
def x102 : Ann := (.blk (.loop [1] [5, 6, 7, 4, 8, 9, 10, 11, 12, 13, 14, 15, 16, 17, 18, 19, 20, 21, 22, 1] (.blk (.seq (.reg [] [(0, []), (1, []), (2, []), (3, [])]) (.seq (.seq (.reg [] [(0, []), (1, []), (2, []), (3, []), (4, []), (5, []), (6, []), (7, []), (8, []), (9, [])]) (.cond .leaf .leaf)) (.seq (.reg [] [(0, []), (1, []), (2, []), (3, [])]) (.reg [] [(0, []), (1, [])])))))))
def D102 (a0 a1 : Value) (K : Value → Hp → Prop) (h : Hp) : Prop :=
  ∃ I1 : Nat → List Value → Hp → Prop, (∃ n, I1 n [a1] h) ∧
  ∀ n1 : Nat, ∀ v1 : Value, ∀ h1 : Hp, I1 n1 [v1] h1 → ∀ g1 : St,
    vP (binV .sub v1 (Value.int .i64 1)) fun v6 =>
    vP (binV .quo v6 (Value.int .i64 2)) fun v7 =>
    vP (eqV 1 false v7 v1) fun v10 =>
    vP (gdW (gB v10 false) (some a0)) fun v12 =>
    vP (gdW (gB v10 false) (some v1)) fun v13 =>
    vP (gdW (gB v10 false) (some v7)) fun v14 =>
    vE (gB v10 false) (ivW Tryz.prog v12 "Less" #[v13, v14]) (fun v15 h2 =>
    vP (gdW (gB v10 false) (unV .not v15)) fun v16 =>
    vP (pickV v10 (Value.bool true) v16) fun v17 =>
    vB v17 (K (Value.tuple #[]) h2)
    (ivW Tryz.prog a0 "Swap" #[v7, v1] (fun v21 h3 =>
    ∃ m1, m1 < n1 ∧ I1 m1 [v7] h3) h2)) h1
theorem D102_eq (a0 a1 : Value) (K : Value → Hp → Prop) (h : Hp) : fnVC Tryz.prog Tryz.f102 x102 [a0, a1] K h = D102 a0 a1 K h := by kernel_rfl
theorem D102_ok : fnOk Tryz.prog Tryz.f102 x102 2 = true := by kernel_rfl
theorem C102 {a0 a1 : Value} {K : Value → Hp → Prop} {h : Hp} (hh : D102 a0 a1 K h) : CallH Tryz.prog 102 #[a0, a1] K h :=
  callH_of mixed Tryz.func102 x102 [a0, a1] D102_ok (D102_eq a0 a1 K h ▸ hh)
def x103 : Ann := (.seq (.reg [] [(0, [])]) (.seq (.reg [] [(0, []), (1, [])]) (.join [7] [12, 13, 14, 8, 15, 16, 17, 18, 19, 20, 21, 22, 9, 23, 24, 10, 25, 26, 27, 28, 29, 30, 31, 32, 33, 34, 35, 36, 37, 38, 39, 40, 41, 42, 43, 44, 7] (.blk (.loop [7] [12, 13, 14, 8, 15, 16, 17, 18, 19, 20, 21, 22, 9, 23, 24, 10, 25, 26, 27, 28, 29, 30, 31, 32, 33, 34, 35, 36, 37, 38, 39, 40, 41, 42, 43, 44, 7] (.blk (.seq (.reg [] [(0, []), (1, []), (2, []), (3, [])]) (.seq (.seq (.reg [] [(0, []), (1, []), (2, []), (3, []), (4, []), (5, []), (6, [])]) (.cond .leaf .leaf)) (.seq (.reg [] [(0, []), (1, [])]) (.join [9] [23, 24, 10, 25, 26, 27, 28, 29, 30, 31, 32, 33, 34, 9] (.seq (.reg [] [(0, []), (1, []), (2, [])]) (.seq (.reg [] [(0, []), (1, []), (2, []), (3, []), (4, []), (5, []), (6, []), (7, []), (8, [])]) (.cond (.reg [] [(0, []), (1, [])]) .leaf))) (.seq (.seq (.reg [] [(0, []), (1, []), (2, []), (3, []), (4, [])]) (.cond .leaf .leaf)) (.seq (.reg [] [(0, []), (1, []), (2, []), (3, [])]) (.reg [] [(0, []), (1, [])])))))))))) (.seq (.reg [] [(0, []), (1, []), (2, []), (3, [])]) .leaf))))
def D103 (a0 a1 a2 : Value) (K : Value → Hp → Prop) (h : Hp) : Prop :=
  ∀ J1 : List Value → Hp → Prop, (∀ v7 : Value, ∀ h1 : Hp, (∀ g1 : St,
    vP (binV .gtr v7 a1) fun v47 =>
    K v47 h1) → J1 [v7] h1) →
  ∃ I2 : Nat → List Value → Hp → Prop, (∃ n, I2 n [a1] h) ∧
  ∀ n2 : Nat, ∀ v7_1 : Value, ∀ h2 : Hp, I2 n2 [v7_1] h2 → ∀ g2 : St,
    vP (binV .mul (Value.int .i64 2) v7_1) fun v13 =>
    vP (binV .add v13 (Value.int .i64 1)) fun v14 =>
    vP (binV .geq v14 a2) fun v17 =>
    vP (gdW (gB v17 false) (some v14)) fun v19 =>
    vP (gdW (gB v17 false) (binV .lss v19 (Value.int .i64 0))) fun v20 =>
    vP (pickV v17 (Value.bool true) v20) fun v21 =>
    vB v21 (J1 [v7_1] h2)
    (∀ J3 : List Value → Hp → Prop, (∀ v9 : Value, ∀ h3 : Hp, (∀ g3 : St,
      ivW Tryz.prog a0 "Less" #[v9, v7_1] (fun v38 h4 =>
      vP (unV .not v38) fun v39 =>
      vB v39 (J1 [v7_1] h4)
      (ivW Tryz.prog a0 "Swap" #[v7_1, v9] (fun v43 h5 =>
      ∃ m2, m2 < n2 ∧ I2 m2 [v9] h5) h4)) h3) → J3 [v9] h3) →
    vP (binV .add v14 (Value.int .i64 1)) fun v24 =>
    vP (binV .lss v24 a2) fun v27 =>
    vP (gdW (gB v27 true) (some a0)) fun v29 =>
    vP (gdW (gB v27 true) (some v24)) fun v30 =>
    vP (gdW (gB v27 true) (some v14)) fun v31 =>
    vE (gB v27 true) (ivW Tryz.prog v29 "Less" #[v30, v31]) (fun v32 h6 =>
    vP (pickV v27 v32 (Value.bool false)) fun v33 =>
    vB v33 (J3 [v24] h6)
    (J3 [v14] h6)) h2)
theorem D103_eq (a0 a1 a2 : Value) (K : Value → Hp → Prop) (h : Hp) : fnVC Tryz.prog Tryz.f103 x103 [a0, a1, a2] K h = D103 a0 a1 a2 K h := by kernel_rfl
theorem D103_ok : fnOk Tryz.prog Tryz.f103 x103 3 = true := by kernel_rfl
theorem C103 {a0 a1 a2 : Value} {K : Value → Hp → Prop} {h : Hp} (hh : D103 a0 a1 a2 K h) : CallH Tryz.prog 103 #[a0, a1, a2] K h :=
  callH_of mixed Tryz.func103 x103 [a0, a1, a2] D103_ok (D103_eq a0 a1 a2 K h ▸ hh)
def x109 : Ann := (.reg [] [(0, []), (1, []), (2, []), (3, []), (4, []), (5, [])])
def D109 (a0 a1 : Value) (K : Value → Hp → Prop) (h : Hp) : Prop :=
  vP (lenV a0) fun v6 =>
  vP (binV .sub v6 a1) fun v8 =>
  CallH Tryz.prog 115 #[a0, v8] (fun v9 h1 =>
  K (Value.tuple #[]) h1) h
theorem D109_eq (a0 a1 : Value) (K : Value → Hp → Prop) (h : Hp) : fnVC Tryz.prog Tryz.f109 x109 [a0, a1] K h = D109 a0 a1 K h := by kernel_rfl
theorem D109_ok : fnOk Tryz.prog Tryz.f109 x109 2 = true := by kernel_rfl
theorem C109 {a0 a1 : Value} {K : Value → Hp → Prop} {h : Hp} (hh : D109 a0 a1 K h) : CallH Tryz.prog 109 #[a0, a1] K h :=
  callH_of mixed Tryz.func109 x109 [a0, a1] D109_ok (D109_eq a0 a1 K h ▸ hh)
def x115 : Ann := (.seq (.reg [] [(0, []), (1, []), (2, []), (3, [])]) (.seq (.reg [] [(0, []), (1, []), (2, []), (3, [])]) (.reg [] [(0, []), (1, [])])))
def D115 (a0 a1 : Value) (K : Value → Hp → Prop) (h : Hp) : Prop :=
  vP (slV 2 a0 none (some a1) none) fun v6 =>
  CallH Tryz.prog 127 #[v6] (fun v7 h1 =>
  vP (slV 2 a0 (some a1) none none) fun v10 =>
  CallH Tryz.prog 127 #[v10] (fun v11 h2 =>
  CallH Tryz.prog 127 #[a0] (fun v13 h3 =>
  K (Value.tuple #[]) h3) h2) h1) h
theorem D115_eq (a0 a1 : Value) (K : Value → Hp → Prop) (h : Hp) : fnVC Tryz.prog Tryz.f115 x115 [a0, a1] K h = D115 a0 a1 K h := by kernel_rfl
theorem D115_ok : fnOk Tryz.prog Tryz.f115 x115 2 = true := by kernel_rfl
theorem C115 {a0 a1 : Value} {K : Value → Hp → Prop} {h : Hp} (hh : D115 a0 a1 K h) : CallH Tryz.prog 115 #[a0, a1] K h :=
  callH_of mixed Tryz.func115 x115 [a0, a1] D115_ok (D115_eq a0 a1 K h ▸ hh)
def x127 : Ann := (.seq (.reg [] [(0, []), (1, []), (2, []), (3, []), (4, [])]) (.blk (.loop [3, 2] [7, 8, 9, 14, 15, 16, 17, 18, 19, 20, 21, 22, 23, 24, 25, 26, 27, 10, 11, 12, 13, 2, 3] (.seq (.seq (.reg [] [(0, []), (1, []), (2, [])]) (.cond .leaf .leaf)) (.seq (.blk (.reg [0, 0, 0, 0, 0, 0, 48, 112, 0, 0, 768, 1792, 4083, 8179, 16383, 32767] [(0, []), (1, []), (2, []), (3, []), (4, []), (5, []), (6, []), (8, []), (9, []), (10, []), (7, []), (11, []), (12, []), (13, []), (14, []), (15, [])])) (.reg [] [(0, []), (1, []), (2, []), (3, []), (4, []), (5, [])]))))))
def D127 (a0 : Value) (K : Value → Hp → Prop) (h : Hp) : Prop :=
  vP (lenV a0) fun v5 =>
  vP (binV .sub v5 (Value.int .i64 1)) fun v6 =>
  ∃ I1 : Nat → List Value → Hp → Prop, (∃ n, I1 n [v6, (Value.int .i64 0)] h) ∧
  ∀ n1 : Nat, ∀ v3 v2 : Value, ∀ h1 : Hp, I1 n1 [v3, v2] h1 → ∀ g1 : St,
    vP (binV .lss v2 v3) fun v9 =>
    vB v9 (vP (iaS 2 a0 v3) fun v20 =>
      vP (iaS 2 a0 v2) fun v24 =>
      vP (ldN 2 v20 h1) fun v21 =>
      vP (ldN 2 v24 h1) fun v25 =>
      vP (iaS 2 a0 v2) fun v26 =>
      stN 2 v26 v21 (fun _ h2 =>
      vP (iaS 2 a0 v3) fun v27 =>
      stN 2 v27 v25 (fun _ h3 =>
      vP (binV .add v2 (Value.int .i64 1)) fun v11 =>
      vP (binV .sub v3 (Value.int .i64 1)) fun v13 =>
      ∃ m1, m1 < n1 ∧ I1 m1 [v13, v11] h3) h2) h1)
    (K (Value.tuple #[]) h1)
theorem D127_eq (a0 : Value) (K : Value → Hp → Prop) (h : Hp) : fnVC Tryz.prog Tryz.f127 x127 [a0] K h = D127 a0 K h := by kernel_rfl
theorem D127_ok : fnOk Tryz.prog Tryz.f127 x127 1 = true := by kernel_rfl
theorem C127 {a0 : Value} {K : Value → Hp → Prop} {h : Hp} (hh : D127 a0 K h) : CallH Tryz.prog 127 #[a0] K h :=
  callH_of mixed Tryz.func127 x127 [a0] D127_ok (D127_eq a0 K h ▸ hh)
def x151 : Ann := (.seq (.reg [] [(0, [])]) (.seq (.reg [] [(0, []), (1, []), (2, [])]) .leaf))
def D151 (a0 : Value) (K : Value → Hp → Prop) (h : Hp) : Prop :=
  vP (lenV a0) fun v4 =>
  K v4 h
theorem D151_eq (a0 : Value) (K : Value → Hp → Prop) (h : Hp) : fnVC Tryz.prog Tryz.f151 x151 [a0] K h = D151 a0 K h := by kernel_rfl
theorem D151_ok : fnOk Tryz.prog Tryz.f151 x151 1 = true := by kernel_rfl
theorem C151 {a0 : Value} {K : Value → Hp → Prop} {h : Hp} (hh : D151 a0 K h) : CallH Tryz.prog 151 #[a0] K h :=
  callH_of mixed Tryz.func151 x151 [a0] D151_ok (D151_eq a0 K h ▸ hh)
def x152 : Ann := (.seq (.reg [] [(0, [])]) (.seq (.reg [0, 0, 3, 7, 15, 0, 0, 96, 224, 480, 1023, 2047, 4095, 4095, 16383, 32767, 65535, 4095, 4095, 397311, 921599, 1970175, 4194303, 8388607, 16777215, 16777215, 67108863, 134217727, 268435455, 16777215, 16777215, 1627389951, 3774873599, 8069840895, 17179869183, 34359738367, 68719476735, 137438953471] [(0, []), (1, []), (2, []), (3, []), (5, []), (6, []), (7, []), (8, []), (4, []), (9, []), (10, []), (11, []), (12, []), (13, []), (14, []), (15, []), (17, []), (18, []), (19, []), (20, []), (16, []), (21, []), (22, []), (23, []), (24, []), (25, []), (26, []), (27, []), (29, []), (30, []), (31, []), (32, []), (28, []), (33, []), (34, []), (35, []), (36, []), (37, [])]) .leaf))
def D152 (a0 a1 a2 : Value) (K : Value → Hp → Prop) (h : Hp) : Prop :=
  vP (iaS 2 a0 a1) fun v9 =>
  vP (faV 1 v9) fun v10 =>
  vP (iaS 2 a0 a2) fun v14 =>
  vP (faV 1 v14) fun v15 =>
  vP (ld1 v10 h) fun v11 =>
  vP (ld1 v15 h) fun v16 =>
  vP (binV .lss v11 v16) fun v17 =>
  vP (gdW (gB v17 false) (some a0)) fun v19 =>
  vP (gdW (gB v17 false) (some a1)) fun v20 =>
  vP (gdW (gB v17 false) (iaS 2 v19 v20)) fun v21 =>
  vP (gdW (gB v17 false) (faV 1 v21)) fun v22 =>
  vP (gdW (gB v17 false) (some a0)) fun v24 =>
  vP (gdW (gB v17 false) (some a2)) fun v25 =>
  vP (gdW (gB v17 false) (iaS 2 v24 v25)) fun v26 =>
  vP (gdW (gB v17 false) (faV 1 v26)) fun v27 =>
  vP (gdW (gB v17 false) (ld1 v22 h)) fun v23 =>
  vP (gdW (gB v17 false) (ld1 v27 h)) fun v28 =>
  vP (gdW (gB v17 false) (eqV 1 false v23 v28)) fun v29 =>
  vP (gdW (gB v17 false) (some v29)) fun v30 =>
  vP (gdW (gB v30 true) (some a0)) fun v31 =>
  vP (gdW (gB v30 true) (some a1)) fun v32 =>
  vP (gdW (gB v30 true) (iaS 2 v31 v32)) fun v33 =>
  vP (gdW (gB v30 true) (faV 0 v33)) fun v34 =>
  vP (gdW (gB v30 true) (some a0)) fun v36 =>
  vP (gdW (gB v30 true) (some a2)) fun v37 =>
  vP (gdW (gB v30 true) (iaS 2 v36 v37)) fun v38 =>
  vP (gdW (gB v30 true) (faV 0 v38)) fun v39 =>
  vP (gdW (gB v30 true) (ld1 v34 h)) fun v35 =>
  vP (gdW (gB v30 true) (ld1 v39 h)) fun v40 =>
  vP (gdW (gB v30 true) (binV .lss v35 v40)) fun v41 =>
  vP (gdW (gB v17 false) (pickV v30 v41 (Value.bool false))) fun v42 =>
  vP (pickV v17 (Value.bool true) v42) fun v43 =>
  K v43 h
theorem D152_eq (a0 a1 a2 : Value) (K : Value → Hp → Prop) (h : Hp) : fnVC Tryz.prog Tryz.f152 x152 [a0, a1, a2] K h = D152 a0 a1 a2 K h := by kernel_rfl
theorem D152_ok : fnOk Tryz.prog Tryz.f152 x152 3 = true := by kernel_rfl
theorem C152 {a0 a1 a2 : Value} {K : Value → Hp → Prop} {h : Hp} (hh : D152 a0 a1 a2 K h) : CallH Tryz.prog 152 #[a0, a1, a2] K h :=
  callH_of mixed Tryz.func152 x152 [a0, a1, a2] D152_ok (D152_eq a0 a1 a2 K h ▸ hh)
def x153 : Ann := (.reg [0, 0, 0, 0, 0, 0, 48, 112, 0, 0, 768, 1792, 4083, 8179, 16383, 32767] [(0, []), (1, []), (2, []), (3, []), (4, []), (5, []), (6, []), (8, []), (9, []), (10, []), (7, []), (11, []), (12, []), (13, []), (14, []), (15, [])])
def D153 (a0 a1 a2 : Value) (K : Value → Hp → Prop) (h : Hp) : Prop :=
  vP (iaS 2 a0 a2) fun v12 =>
  vP (iaS 2 a0 a1) fun v16 =>
  vP (ldN 2 v12 h) fun v13 =>
  vP (ldN 2 v16 h) fun v17 =>
  vP (iaS 2 a0 a1) fun v18 =>
  stN 2 v18 v13 (fun _ h1 =>
  vP (iaS 2 a0 a2) fun v19 =>
  stN 2 v19 v17 (fun _ h2 =>
  K (Value.tuple #[]) h2) h1) h
theorem D153_eq (a0 a1 a2 : Value) (K : Value → Hp → Prop) (h : Hp) : fnVC Tryz.prog Tryz.f153 x153 [a0, a1, a2] K h = D153 a0 a1 a2 K h := by kernel_rfl
theorem D153_ok : fnOk Tryz.prog Tryz.f153 x153 3 = true := by kernel_rfl
theorem C153 {a0 a1 a2 : Value} {K : Value → Hp → Prop} {h : Hp} (hh : D153 a0 a1 a2 K h) : CallH Tryz.prog 153 #[a0, a1, a2] K h :=
  callH_of mixed Tryz.func153 x153 [a0, a1, a2] D153_ok (D153_eq a0 a1 a2 K h ▸ hh)
def x154 : Ann := (.seq (.reg [] [(0, [])]) (.seq (.reg [] [(0, []), (1, []), (2, []), (3, [])]) (.seq (.reg [] [(0, []), (1, []), (2, []), (3, []), (4, []), (5, []), (6, []), (7, [])]) (.seq (.reg [] [(0, []), (1, []), (2, []), (3, []), (4, []), (5, []), (6, []), (7, [])]) (.seq (.reg [] [(0, []), (1, []), (2, [])]) .leaf)))))
def D154 (a0 : Value) (K : Value → Hp → Prop) (h : Hp) : Prop :=
  vP (nilV a0) fun v6 =>
  vP (ld1 v6 h) fun v7 =>
  vP (lenV v7) fun v10 =>
  vP (binV .sub v10 (Value.int .i64 1)) fun v11 =>
  vP (iaS 2 v7 v11) fun v12 =>
  vP (ldN 2 v12 h) fun v13 =>
  vA (some (Obj.cells #[(Value.int .i64 0), (Value.int .i64 0)] 91 (0, 0), ptrV)) (fun v4 h1 =>
  stN 2 v4 v13 (fun _ h2 =>
  vP (lenV v7) fun v17 =>
  vP (binV .sub v17 (Value.int .i64 1)) fun v18 =>
  vP (slV 2 v7 none (some v18) none) fun v19 =>
  vP (nilV a0) fun v20 =>
  st1 v20 v19 (fun _ h3 =>
  vP (ldN 2 v4 h3) fun v21 =>
  vP (some (Value.iface 91 v21)) fun v22 =>
  K v22 h3) h2) h1) h
theorem D154_eq (a0 : Value) (K : Value → Hp → Prop) (h : Hp) : fnVC Tryz.prog Tryz.f154 x154 [a0] K h = D154 a0 K h := by kernel_rfl
theorem D154_ok : fnOk Tryz.prog Tryz.f154 x154 1 = true := by kernel_rfl
theorem C154 {a0 : Value} {K : Value → Hp → Prop} {h : Hp} (hh : D154 a0 K h) : CallH Tryz.prog 154 #[a0] K h :=
  callH_of mixed Tryz.func154 x154 [a0] D154_ok (D154_eq a0 K h ▸ hh)
def x155 : Ann := (.reg [0, 0, 2, 6, 0, 16, 48, 126, 255, 511] [(0, []), (1, []), (2, []), (4, []), (5, []), (3, []), (6, []), (7, []), (8, []), (9, [])])
def D155 (a0 a1 : Value) (K : Value → Hp → Prop) (h : Hp) : Prop :=
  vP (nilV a0) fun v6 =>
  vP (taV 91 (Value.agg #[(Value.int .i64 0), (Value.int .i64 0)]) false a1) fun v9 =>
  vP (ld1 v6 h) fun v7 =>
  vA ((bldV #[(Value.int .i64 0), (Value.int .i64 0)] [(0, 2, v9)]).map fun c => (Obj.cells c 91 (0, 0), fun r => Value.slice (some ⟨r, 0, none⟩) 1 1)) (fun v10 h1 =>
  apW Tryz.prog #[94, 94] 94 v7 v10 (fun v11 h2 =>
  vP (nilV a0) fun v12 =>
  st1 v12 v11 (fun _ h3 =>
  K (Value.tuple #[]) h3) h2) h1) h
theorem D155_eq (a0 a1 : Value) (K : Value → Hp → Prop) (h : Hp) : fnVC Tryz.prog Tryz.f155 x155 [a0, a1] K h = D155 a0 a1 K h := by kernel_rfl
theorem D155_ok : fnOk Tryz.prog Tryz.f155 x155 2 = true := by kernel_rfl
theorem C155 {a0 a1 : Value} {K : Value → Hp → Prop} {h : Hp} (hh : D155 a0 a1 K h) : CallH Tryz.prog 155 #[a0, a1] K h :=
  callH_of mixed Tryz.func155 x155 [a0, a1] D155_ok (D155_eq a0 a1 K h ▸ hh)
def x48 : Ann := (.seq (.reg [] [(0, [])]) (.seq (.reg [] [(0, []), (1, []), (2, []), (3, []), (4, []), (5, []), (6, [])]) (.seq (.seq (.reg [] [(0, [])]) (.blk (.loop [4] [11, 12, 13, 14, 15, 16, 17, 20, 21, 22, 23, 24, 25, 18, 19, 4] (.seq (.seq (.reg [] [(0, []), (1, []), (2, []), (3, []), (4, []), (5, []), (6, [])]) (.cond .leaf .leaf)) (.seq (.blk (.reg [] [(0, []), (1, []), (2, []), (3, []), (4, []), (5, []), (6, [])])) (.reg [] [(0, []), (1, []), (2, [])])))))) (.seq (.reg [] [(0, []), (1, [])]) .leaf))))
def D48 (a0 : Value) (K : Value → Hp → Prop) (h : Hp) : Prop :=
  vP (min2V a0 (Value.int .i64 262144)) fun v6 =>
  vP (max2V (Value.int .i64 1) v6) fun v7 =>
  vA (msV 1 1 4 #[(Value.bool false)] v7 v7) (fun v8 h1 =>
  vP ((bldV #[(Value.slice none 0 0)] [(0, 1, v8)]).map Value.agg) fun v9 =>
  vA (some (Obj.cells (Value.cells v9) 83 (0, 0), ptrV)) (fun v10 h2 =>
  ∃ I1 : Nat → List Value → Hp → Prop, (∃ n, I1 n [(Value.int .i64 1)] h2) ∧
  ∀ n1 : Nat, ∀ v4 : Value, ∀ h3 : Hp, I1 n1 [v4] h3 → ∀ g1 : St,
    vP (nilV v10) fun v13 =>
    vP (faV 0 v13) fun v14 =>
    vP (ld1 v14 h3) fun v15 =>
    vP (lenV v15) fun v16 =>
    vP (binV .lss v4 v16) fun v17 =>
    vB v17 (vP (nilV v10) fun v21 =>
      vP (faV 0 v21) fun v22 =>
      vP (ld1 v22 h3) fun v23 =>
      vP (iaS 1 v23 v4) fun v25 =>
      st1 v25 (Value.bool true) (fun _ h4 =>
      vP (binV .add v4 (Value.int .i64 1)) fun v19 =>
      ∃ m1, m1 < n1 ∧ I1 m1 [v19] h4) h3)
    (K v10 h3)) h1) h
theorem D48_eq (a0 : Value) (K : Value → Hp → Prop) (h : Hp) : fnVC Tryz.prog Tryz.f48 x48 [a0] K h = D48 a0 K h := by kernel_rfl
theorem D48_ok : fnOk Tryz.prog Tryz.f48 x48 1 = true := by kernel_rfl
theorem C48 {a0 : Value} {K : Value → Hp → Prop} {h : Hp} (hh : D48 a0 K h) : CallH Tryz.prog 48 #[a0] K h :=
  callH_of mixed Tryz.func48 x48 [a0] D48_ok (D48_eq a0 K h ▸ hh)
def x91 : Ann := (.seq (.reg [] [(0, []), (1, [])]) (.seq (.seq (.reg [] [(0, []), (1, [])]) (.cond (.seq (.reg [] [(0, []), (1, [])]) .leaf) .leaf)) (.seq (.reg [] [(0, []), (1, []), (2, [])]) (.seq (.reg [] [(0, [])]) (.seq (.seq (.reg [] [(0, [])]) (.blk (.loop [8, 7] [14, 15, 16, 17, 20, 21, 22, 23, 24, 25, 26, 27, 28, 29, 30, 31, 32, 33, 34, 35, 36, 37, 38, 39, 40, 41, 42, 43, 44, 7, 18, 19, 8] (.seq (.seq (.reg [] [(0, []), (1, []), (2, []), (3, [])]) (.cond .leaf .leaf)) (.join [7] [20, 21, 22, 23, 24, 25, 26, 27, 28, 29, 30, 31, 32, 33, 34, 35, 36, 37, 38, 39, 40, 41, 42, 43, 44, 7] (.blk (.seq (.reg [0, 0, 3, 7, 15, 0, 63, 127, 255, 511, 1023, 2047, 2047, 8191, 16383, 32767, 2047, 2047, 198655, 460799, 985087, 2097151, 4194303, 8388607] [(0, []), (1, []), (2, []), (3, []), (5, []), (4, []), (6, []), (7, []), (8, []), (9, []), (10, []), (11, []), (12, []), (13, []), (14, []), (16, []), (17, []), (18, []), (19, []), (15, []), (20, []), (21, []), (22, []), (23, [])]) (.cond (.reg [] [(0, []), (1, [])]) .leaf))) (.reg [] [(0, []), (1, []), (2, [])])))))) (.seq (.seq (.reg [] [(0, []), (1, [])]) (.cond (.seq (.reg [] [(0, []), (1, [])]) .leaf) .leaf)) (.seq (.seq (.reg [] [(0, [])]) (.blk (.loop [9] [47, 48, 49, 52, 53, 54, 55, 56, 57, 58, 59, 60, 61, 62, 63, 50, 51, 9] (.seq (.seq (.reg [] [(0, []), (1, []), (2, [])]) (.cond .leaf .leaf)) (.seq (.blk (.reg [0, 1, 3, 7, 0, 0, 48, 112, 240, 0, 1008, 2047, 4095] [(0, []), (1, []), (2, []), (4, []), (5, []), (6, []), (7, []), (9, []), (3, []), (8, []), (10, []), (11, []), (12, [])])) (.reg [] [(0, []), (1, []), (2, [])])))))) (.seq (.reg [] [(0, []), (1, []), (2, []), (3, []), (4, []), (5, []), (6, [])]) .leaf))))))))
def D91 (a0 a1 : Value) (K : Value → Hp → Prop) (h : Hp) : Prop :=
  vP (binV .lss a1 (Value.int .i64 1)) fun v11 =>
  vB v11 (K (Value.tuple #[(Value.int .i64 0), (Value.int .i64 1)]) h)
  (CallH Tryz.prog 113 #[a0] (fun v13 h1 =>
  ∃ I1 : Nat → List Value → Hp → Prop, (∃ n, I1 n [(Value.int .i64 0), (Value.int .i64 (-1))] h1) ∧
  ∀ n1 : Nat, ∀ v8 v7 : Value, ∀ h2 : Hp, I1 n1 [v8, v7] h2 → ∀ g1 : St,
    vP (lenV v13) fun v16 =>
    vP (binV .lss v8 v16) fun v17 =>
    vB v17 (∀ J2 : List Value → Hp → Prop, (∀ v7_1 : Value, ∀ h3 : Hp, (∀ g2 : St,
        vP (binV .add v8 (Value.int .i64 1)) fun v19 =>
        ∃ m1, m1 < n1 ∧ I1 m1 [v19, v7_1] h3) → J2 [v7_1] h3) →
      vP (iaS 2 v13 v8) fun v22 =>
      vP (faV 1 v22) fun v23 =>
      vP (ld1 v23 h2) fun v24 =>
      vP (binV .geq v24 a1) fun v26 =>
      vP (gdW (gB v26 true) (some v7)) fun v28 =>
      vP (gdW (gB v26 true) (binV .lss v28 (Value.int .i64 0))) fun v29 =>
      vP (gdW (gB v26 true) (some v29)) fun v30 =>
      vP (gdW (gB v30 false) (some v13)) fun v31 =>
      vP (gdW (gB v30 false) (some v8)) fun v32 =>
      vP (gdW (gB v30 false) (iaS 2 v31 v32)) fun v33 =>
      vP (gdW (gB v30 false) (faV 1 v33)) fun v34 =>
      vP (gdW (gB v30 false) (some v13)) fun v36 =>
      vP (gdW (gB v30 false) (some v7)) fun v37 =>
      vP (gdW (gB v30 false) (iaS 2 v36 v37)) fun v38 =>
      vP (gdW (gB v30 false) (faV 1 v38)) fun v39 =>
      vP (gdW (gB v30 false) (ld1 v34 h2)) fun v35 =>
      vP (gdW (gB v30 false) (ld1 v39 h2)) fun v40 =>
      vP (gdW (gB v30 false) (binV .lss v35 v40)) fun v41 =>
      vP (gdW (gB v26 true) (pickV v30 (Value.bool true) v41)) fun v42 =>
      vP (pickV v26 v42 (Value.bool false)) fun v43 =>
      vB v43 (J2 [v8] h2)
      (J2 [v7] h2))
    (vP (binV .lss v7 (Value.int .i64 0)) fun v46 =>
    vB v46 (K (Value.tuple #[(Value.int .i64 0), (Value.int .i64 3)]) h2)
    (∃ I3 : Nat → List Value → Hp → Prop, (∃ n, I3 n [(Value.int .i64 0)] h2) ∧
    ∀ n3 : Nat, ∀ v9 : Value, ∀ h4 : Hp, I3 n3 [v9] h4 → ∀ g3 : St,
      vP (binV .lss v9 a1) fun v49 =>
      vB v49 (vP (nilV a0) fun v53 =>
        vP (faV 0 v53) fun v54 =>
        vP (iaS 2 v13 v7) fun v58 =>
        vP (faV 0 v58) fun v59 =>
        vP (ld1 v54 h4) fun v55 =>
        vP (ld1 v59 h4) fun v60 =>
        vP (binV .add v60 v9) fun v62 =>
        vP (iaS 1 v55 v62) fun v63 =>
        st1 v63 (Value.bool false) (fun _ h5 =>
        vP (binV .add v9 (Value.int .i64 1)) fun v51 =>
        ∃ m3, m3 < n3 ∧ I3 m3 [v51] h5) h4)
      (vP (iaS 2 v13 v7) fun v66 =>
      vP (faV 0 v66) fun v67 =>
      vP (ld1 v67 h4) fun v68 =>
      K (Value.tuple #[v68, (Value.int .i64 0)]) h4)))) h)
theorem D91_eq (a0 a1 : Value) (K : Value → Hp → Prop) (h : Hp) : fnVC Tryz.prog Tryz.f91 x91 [a0, a1] K h = D91 a0 a1 K h := by kernel_rfl
theorem D91_ok : fnOk Tryz.prog Tryz.f91 x91 2 = true := by kernel_rfl
theorem C91 {a0 a1 : Value} {K : Value → Hp → Prop} {h : Hp} (hh : D91 a0 a1 K h) : CallH Tryz.prog 91 #[a0, a1] K h :=
  callH_of mixed Tryz.func91 x91 [a0, a1] D91_ok (D91_eq a0 a1 K h ▸ hh)
def x94 : Ann := (.seq (.reg [] [(0, [])]) (.seq (.seq (.reg [] [(0, []), (1, []), (2, []), (3, []), (4, []), (5, []), (6, []), (7, []), (8, []), (9, []), (10, []), (11, []), (12, []), (13, []), (14, []), (15, []), (16, []), (17, []), (18, []), (19, []), (20, []), (21, []), (22, []), (23, []), (24, []), (25, [])]) (.cond (.seq (.reg [] [(0, [])]) .leaf) .leaf)) (.seq (.seq (.reg [] [(0, [])]) (.blk (.loop [7] [35, 36, 37, 40, 41, 42, 43, 44, 45, 46, 47, 48, 6, 38, 39, 7] (.seq (.seq (.reg [] [(0, []), (1, []), (2, [])]) (.cond .leaf .leaf)) (.seq (.blk (.seq (.reg [] [(0, []), (1, []), (2, []), (3, []), (4, []), (5, []), (6, []), (7, []), (8, [])]) (.cond (.seq (.reg [] [(0, [])]) .leaf) .leaf))) (.reg [] [(0, []), (1, []), (2, [])])))))) (.seq (.seq (.reg [] [(0, [])]) (.blk (.loop [8] [49, 50, 51, 54, 55, 56, 57, 58, 59, 60, 61, 52, 53, 8] (.seq (.seq (.reg [] [(0, []), (1, []), (2, [])]) (.cond .leaf .leaf)) (.seq (.blk (.reg [] [(0, []), (1, []), (2, []), (3, []), (4, []), (5, []), (6, []), (7, []), (8, [])])) (.reg [] [(0, []), (1, []), (2, [])])))))) (.seq (.reg [] [(0, [])]) .leaf)))))
def D94 (a0 a1 a2 : Value) (K : Value → Hp → Prop) (h : Hp) : Prop :=
  vP (binV .lss a2 (Value.int .i64 1)) fun v10 =>
  vP (gdW (gB v10 false) (some a1)) fun v12 =>
  vP (gdW (gB v10 false) (binV .lss v12 (Value.int .i64 1))) fun v13 =>
  vP (pickV v10 (Value.bool true) v13) fun v14 =>
  vP (gdW (gB v14 false) (some a1)) fun v16 =>
  vP (gdW (gB v14 false) (some a0)) fun v17 =>
  vP (gdW (gB v14 false) (nilV v17)) fun v18 =>
  vP (gdW (gB v14 false) (faV 0 v18)) fun v19 =>
  vP (gdW (gB v14 false) (ld1 v19 h)) fun v20 =>
  vP (gdW (gB v14 false) (lenV v20)) fun v21 =>
  vP (gdW (gB v14 false) (binV .geq v16 v21)) fun v22 =>
  vP (pickV v14 (Value.bool true) v22) fun v23 =>
  vP (gdW (gB v23 false) (some a2)) fun v25 =>
  vP (gdW (gB v23 false) (some a0)) fun v26 =>
  vP (gdW (gB v23 false) (nilV v26)) fun v27 =>
  vP (gdW (gB v23 false) (faV 0 v27)) fun v28 =>
  vP (gdW (gB v23 false) (ld1 v28 h)) fun v29 =>
  vP (gdW (gB v23 false) (lenV v29)) fun v30 =>
  vP (gdW (gB v23 false) (some a1)) fun v31 =>
  vP (gdW (gB v23 false) (binV .sub v30 v31)) fun v32 =>
  vP (gdW (gB v23 false) (binV .gtr v25 v32)) fun v33 =>
  vP (pickV v23 (Value.bool true) v33) fun v34 =>
  vB v34 (K (Value.int .i64 1) h)
  (∃ I1 : Nat → List Value → Hp → Prop, (∃ n, I1 n [(Value.int .i64 0)] h) ∧
  ∀ n1 : Nat, ∀ v7 : Value, ∀ h1 : Hp, I1 n1 [v7] h1 → ∀ g1 : St,
    vP (binV .lss v7 a2) fun v37 =>
    vB v37 (vP (nilV a0) fun v41 =>
      vP (faV 0 v41) fun v42 =>
      vP (ld1 v42 h1) fun v43 =>
      vP (binV .add a1 v7) fun v46 =>
      vP (iaS 1 v43 v46) fun v47 =>
      vP (ld1 v47 h1) fun v48 =>
      vB v48 (K (Value.int .i64 5) h1)
      (vP (binV .add v7 (Value.int .i64 1)) fun v39 =>
      ∃ m1, m1 < n1 ∧ I1 m1 [v39] h1))
    (∃ I2 : Nat → List Value → Hp → Prop, (∃ n, I2 n [(Value.int .i64 0)] h1) ∧
    ∀ n2 : Nat, ∀ v8 : Value, ∀ h2 : Hp, I2 n2 [v8] h2 → ∀ g2 : St,
      vP (binV .lss v8 a2) fun v51 =>
      vB v51 (vP (nilV a0) fun v55 =>
        vP (faV 0 v55) fun v56 =>
        vP (ld1 v56 h2) fun v57 =>
        vP (binV .add a1 v8) fun v60 =>
        vP (iaS 1 v57 v60) fun v61 =>
        st1 v61 (Value.bool true) (fun _ h3 =>
        vP (binV .add v8 (Value.int .i64 1)) fun v53 =>
        ∃ m2, m2 < n2 ∧ I2 m2 [v53] h3) h2)
      (K (Value.int .i64 0) h2)))
theorem D94_eq (a0 a1 a2 : Value) (K : Value → Hp → Prop) (h : Hp) : fnVC Tryz.prog Tryz.f94 x94 [a0, a1, a2] K h = D94 a0 a1 a2 K h := by kernel_rfl
theorem D94_ok : fnOk Tryz.prog Tryz.f94 x94 3 = true := by kernel_rfl
theorem C94 {a0 a1 a2 : Value} {K : Value → Hp → Prop} {h : Hp} (hh : D94 a0 a1 a2 K h) : CallH Tryz.prog 94 #[a0, a1, a2] K h :=
  callH_of mixed Tryz.func94 x94 [a0, a1, a2] D94_ok (D94_eq a0 a1 a2 K h ▸ hh)
def x113 : Ann := (.seq (.reg [] [(0, [])]) (.seq (.reg [] [(0, [])]) (.seq (.seq (.reg [] [(0, [])]) (.blk (.loop [4, 3] [5, 6, 7, 8, 9, 10, 11, 14, 15, 16, 17, 18, 19, 20, 21, 22, 23, 24, 25, 26, 27, 28, 29, 30, 31, 32, 33, 34, 35, 36, 37, 38, 39, 40, 41, 42, 43, 44, 45, 46, 47, 48, 3, 12, 13, 4] (.seq (.seq (.reg [] [(0, []), (1, []), (2, []), (3, []), (4, []), (5, []), (6, [])]) (.cond .leaf .leaf)) (.join [3] [14, 15, 16, 17, 18, 19, 20, 21, 22, 23, 24, 25, 26, 27, 28, 29, 30, 31, 32, 33, 34, 35, 36, 37, 38, 39, 40, 41, 42, 43, 44, 45, 46, 47, 48, 3] (.blk (.seq (.seq (.reg [] [(0, []), (1, []), (2, []), (3, []), (4, []), (5, []), (6, []), (7, [])]) (.cond .leaf .leaf)) (.seq (.reg [] [(0, []), (1, []), (2, []), (3, []), (4, []), (5, []), (6, []), (7, []), (8, []), (9, []), (10, []), (11, [])]) (.cond (.reg [] [(0, []), (1, []), (2, []), (3, []), (4, []), (5, []), (6, []), (7, []), (8, []), (9, []), (10, [])]) (.reg [] [(0, []), (1, []), (2, []), (3, []), (4, []), (5, [])]))))) (.reg [] [(0, []), (1, []), (2, [])])))))) (.seq (.reg [] [(0, []), (1, [])]) .leaf))))
def D113 (a0 : Value) (K : Value → Hp → Prop) (h : Hp) : Prop :=
  ∃ I1 : Nat → List Value → Hp → Prop, (∃ n, I1 n [(Value.int .i64 0), (Value.slice none 0 0)] h) ∧
  ∀ n1 : Nat, ∀ v4 v3 : Value, ∀ h1 : Hp, I1 n1 [v4, v3] h1 → ∀ g1 : St,
    vP (nilV a0) fun v7 =>
    vP (faV 0 v7) fun v8 =>
    vP (ld1 v8 h1) fun v9 =>
    vP (lenV v9) fun v10 =>
    vP (binV .lss v4 v10) fun v11 =>
    vB v11 (∀ J2 : List Value → Hp → Prop, (∀ v3_1 : Value, ∀ h2 : Hp, (∀ g2 : St,
        vP (binV .add v4 (Value.int .i64 1)) fun v13 =>
        ∃ m1, m1 < n1 ∧ I1 m1 [v13, v3_1] h2) → J2 [v3_1] h2) →
      vP (nilV a0) fun v15 =>
      vP (faV 0 v15) fun v16 =>
      vP (ld1 v16 h1) fun v17 =>
      vP (iaS 1 v17 v4) fun v19 =>
      vP (ld1 v19 h1) fun v20 =>
      vP (unV .not v20) fun v21 =>
      vB v21 (J2 [v3] h1)
      (vP (binV .gtr v4 (Value.int .i64 0)) fun v23 =>
      vP (gdW (gB v23 true) (some a0)) fun v25 =>
      vP (gdW (gB v23 true) (nilV v25)) fun v26 =>
      vP (gdW (gB v23 true) (faV 0 v26)) fun v27 =>
      vP (gdW (gB v23 true) (ld1 v27 h1)) fun v28 =>
      vP (gdW (gB v23 true) (some v4)) fun v29 =>
      vP (gdW (gB v23 true) (binV .sub v29 (Value.int .i64 1))) fun v30 =>
      vP (gdW (gB v23 true) (iaS 1 v28 v30)) fun v31 =>
      vP (gdW (gB v23 true) (ld1 v31 h1)) fun v32 =>
      vP (pickV v23 v32 (Value.bool false)) fun v33 =>
      vB v33 (vP (lenV v3) fun v36 =>
        vP (binV .sub v36 (Value.int .i64 1)) fun v37 =>
        vP (iaS 2 v3 v37) fun v38 =>
        vP (faV 1 v38) fun v39 =>
        vP (ld1 v39 h1) fun v40 =>
        vP (binV .add v40 (Value.int .i64 1)) fun v41 =>
        vP (iaS 2 v3 v37) fun v42 =>
        vP (faV 1 v42) fun v43 =>
        st1 v43 v41 (fun _ h3 =>
        J2 [v3] h3) h1)
      (vP ((bldV #[(Value.int .i64 0), (Value.int .i64 0)] [(0, 1, v4), (1, 1, (Value.int .i64 1))]).map Value.agg) fun v46 =>
      vA ((bldV #[(Value.int .i64 0), (Value.int .i64 0)] [(0, 2, v46)]).map fun c => (Obj.cells c 91 (0, 0), fun r => Value.slice (some ⟨r, 0, none⟩) 1 1)) (fun v47 h4 =>
      apW Tryz.prog #[87, 87] 87 v3 v47 (fun v48 h5 =>
      J2 [v48] h5) h4) h1)))
    (K v3 h1)
theorem D113_eq (a0 : Value) (K : Value → Hp → Prop) (h : Hp) : fnVC Tryz.prog Tryz.f113 x113 [a0] K h = D113 a0 K h := by kernel_rfl
theorem D113_ok : fnOk Tryz.prog Tryz.f113 x113 1 = true := by kernel_rfl
theorem C113 {a0 : Value} {K : Value → Hp → Prop} {h : Hp} (hh : D113 a0 K h) : CallH Tryz.prog 113 #[a0] K h :=
  callH_of mixed Tryz.func113 x113 [a0] D113_ok (D113_eq a0 K h ▸ hh)
def x25 : Ann := (.seq (.reg [] [(0, [])]) (.seq (.reg [] [(0, [])]) (.seq (.seq (.reg [] [(0, [])]) (.blk (.loop [4, 3] [5, 6, 7, 8, 9, 10, 11, 14, 15, 16, 17, 18, 19, 20, 21, 22, 3, 12, 13, 4] (.seq (.seq (.reg [] [(0, []), (1, []), (2, []), (3, []), (4, []), (5, []), (6, [])]) (.cond .leaf .leaf)) (.join [3] [14, 15, 16, 17, 18, 19, 20, 21, 22, 3] (.blk (.seq (.reg [] [(0, []), (1, []), (2, []), (3, []), (4, []), (5, []), (6, [])]) (.cond (.reg [] [(0, []), (1, []), (2, [])]) .leaf))) (.reg [] [(0, []), (1, []), (2, [])])))))) (.seq (.reg [] [(0, []), (1, [])]) .leaf))))
def D25 (a0 : Value) (K : Value → Hp → Prop) (h : Hp) : Prop :=
  ∃ I1 : Nat → List Value → Hp → Prop, (∃ n, I1 n [(Value.int .i64 0), (Value.int .i64 0)] h) ∧
  ∀ n1 : Nat, ∀ v4 v3 : Value, ∀ h1 : Hp, I1 n1 [v4, v3] h1 → ∀ g1 : St,
    vP (nilV a0) fun v7 =>
    vP (faV 0 v7) fun v8 =>
    vP (ld1 v8 h1) fun v9 =>
    vP (lenV v9) fun v10 =>
    vP (binV .lss v4 v10) fun v11 =>
    vB v11 (∀ J2 : List Value → Hp → Prop, (∀ v3_1 : Value, ∀ h2 : Hp, (∀ g2 : St,
        vP (binV .add v4 (Value.int .i64 1)) fun v13 =>
        ∃ m1, m1 < n1 ∧ I1 m1 [v13, v3_1] h2) → J2 [v3_1] h2) →
      vP (nilV a0) fun v15 =>
      vP (faV 0 v15) fun v16 =>
      vP (ld1 v16 h1) fun v17 =>
      vP (iaS 1 v17 v4) fun v19 =>
      vP (ld1 v19 h1) fun v20 =>
      vB v20 (vP (binV .add v3 (Value.int .i64 1)) fun v22 =>
        J2 [v22] h1)
      (J2 [v3] h1))
    (K v3 h1)
theorem D25_eq (a0 : Value) (K : Value → Hp → Prop) (h : Hp) : fnVC Tryz.prog Tryz.f25 x25 [a0] K h = D25 a0 K h := by kernel_rfl
theorem D25_ok : fnOk Tryz.prog Tryz.f25 x25 1 = true := by kernel_rfl
theorem C25 {a0 : Value} {K : Value → Hp → Prop} {h : Hp} (hh : D25 a0 K h) : CallH Tryz.prog 25 #[a0] K h :=
  callH_of mixed Tryz.func25 x25 [a0] D25_ok (D25_eq a0 K h ▸ hh)
end Go.Proofs

/-
  Page: contracts of the small functions.
-/
set_option maxRecDepth 100000
namespace Go.Proofs
open Go.Sl
abbrev Run := Int × Int
def run (r : Run) : Value := .agg #[.int .i64 r.1, .int .i64 r.2]
theorem eqA_run (a b : Run) : eqA [1, 1] false (run a) (run b) = some (.bool (decide (a = b))) := by
  obtain ⟨a1, a2⟩ := a
  obtain ⟨b1, b2⟩ := b
  have e : eqL [1, 1] [.int .i64 a1, .int .i64 a2] [.int .i64 b1, .int .i64 b2] = some (decide (a1 = b1) && decide (a2 = b2)) := by
    simp only [eqL, eqS, if_true, Bool.and_true]
    rfl
  show Option.map _ (eqL [1, 1] [.int .i64 a1, .int .i64 a2] [.int .i64 b1, .int .i64 b2]) = _
  rw [e]
  simp only [Option.map_some, Prod.mk.injEq, Bool.decide_and]
theorem ld_run {sv : Value} {l : List Run} {i : Nat} {a : Run} {h : Hp} {F : Asrt} (hh : (SL enc2 91 sv l * F) h) (hi : l[i]? = some a) {k : IntKind} {x : Int} (hx : x = i) :
    ∃ p, iaS 2 sv (.int k x) = some p ∧ ldN 2 p h = some (run a) := by
  subst hx
  have hlt := (List.getElem?_eq_some_iff.1 hi).1
  rcases SL_elim enc2 hh with ⟨rfl, rfl, _⟩ | ⟨r, cap, post, rfl, h1, h1', h2, hp⟩
  · simp at hlt
  · refine ⟨_, ia_mk (by omega) (by omega), ?_⟩
    rw [Int.toNat_natCast, Nat.zero_add]
    have hb := pt_get hp
    have hsz : i * 2 + 2 ≤ (enc2.arr l post).size := by
      rw [Enc.arr_size]
      show i * 2 + 2 ≤ l.length * 2 + post.length
      omega
    rw [ldN_mk hb hsz]
    have := enc2.arr_elem (post := post) hi
    rw [show (enc2.arr l post).extract (i * 2) (i * 2 + 2) = _ from this]
    rfl
def idxI (l : List Run) (r : Run) : Int := if r ∈ l then (l.idxOf r : Int) else -1
theorem index_tr (sv : Value) (l : List Run) (a : Run) : Tr Tryz.prog 72 #[sv, run a] (SL enc2 91 sv l) (fun v => pr (v = .int .i64 (idxI l a)) * SL enc2 91 sv l) := by
  refine Tr.of fun h hh => C72 ?_
  unfold D72
  refine vA_new hh fun r h1 hh1 => ?_
  have hlen : lenV sv = some (.int .i64 l.length) := SL_len enc2 (F := pt r (Obj.cells (Value.cells (run a)) 91 (0, 0)) * tt) (h := h1) (asr (by ac_rfl) hh1)
  simp only [hlen, vP_some]
  refine ⟨fun n xs h' => ∃ k : Nat, xs = [.int .i64 k] ∧ k ≤ l.length ∧ n = l.length - k ∧ (∀ j, j < k → l[j]? ≠ some a) ∧ (pt r (Obj.cells (Value.cells (run a)) 91 (0, 0)) * (SL enc2 91 sv l * tt)) h',
    ⟨_, 0, rfl, by omega, rfl, by simp, hh1⟩, ?_⟩
  rintro n v8 h2 ⟨k, hxs, hk, hn, hno, hh2⟩ _
  obtain rfl : v8 = .int .i64 k := by simpa using hxs
  simp only [bin_lss, vP_some, vB_dec]
  have hS : (SL enc2 91 sv l * (pt r (Obj.cells (Value.cells (run a)) 91 (0, 0)) * tt)) h2 := asr (by ac_rfl) hh2
  by_cases hlt : k < l.length
  · have hL := SL_lt enc2 hS
    rw [if_pos (by omega)]
    obtain ⟨p, hp1, hp2⟩ := ld_run (k := .i64) (x := (k : Int)) hS (List.getElem?_eq_getElem hlt) rfl
    have hr : ldN 2 (ptrV r) h2 = some (run a) := ldN_mk (off := 0) (pt_get hh2) (by simp [run, Value.cells])
    simp only [hp1, hp2, hr, vP_some, eqA_run, vB_dec]
    by_cases hq : a = l[k]
    · rw [if_pos hq]
      refine asr (P := pr (Value.int .i64 k = .int .i64 (idxI l a)) * SL enc2 91 sv l * tt) rfl ?_
      rw [star_assoc, pr_star]
      refine ⟨?_, to_tt hS⟩
      unfold idxI
      have hm : a ∈ l := hq ▸ List.getElem_mem hlt
      rw [if_pos hm]
      have h3 : l.idxOf a = k := by
        have h4 : l.idxOf a < l.length := List.idxOf_lt_length_of_mem hm
        have h5 : l[l.idxOf a] = a := List.getElem_idxOf h4
        rcases Nat.lt_trichotomy (l.idxOf a) k with h6 | h6 | h6
        · exact absurd (by rw [List.getElem?_eq_getElem h4, h5]) (hno _ h6)
        · exact h6
        · have h7 := List.not_of_lt_findIdx (p := (· == a)) (xs := l) (i := k) h6
          simp at h7
          exact absurd hq.symm h7
      rw [h3]
    · rw [if_neg hq, bin_add (by omega), vP_some]
      refine ⟨l.length - (k + 1), by omega, k + 1, by simp, by omega, rfl, fun j hj => ?_, hh2⟩
      by_cases hjk : j = k
      · subst hjk
        rw [List.getElem?_eq_getElem hlt]
        simpa using fun e => hq e.symm
      · exact hno j (by omega)
  · rw [if_neg (by omega)]
    rw [star_assoc, pr_star]
    refine ⟨?_, to_tt hS⟩
    unfold idxI
    rw [if_neg]
    intro hm
    obtain ⟨j, hj, e⟩ := List.getElem_of_mem hm
    exact hno j (by omega) (by rw [List.getElem?_eq_getElem hj, e])
theorem elRun : ElOk Tryz.prog 87 91 2 16 := elB_ok (by kernel_rfl)
theorem niRuns : noInt Tryz.prog 87 := noInt_sl (e := 91) (by kernel_rfl)
theorem arr_tail {α : Type} (e : Enc α) (l : List α) (post : List Value) (k : Nat) (hk : k ≤ l.length) : e.arr l post = e.arr (l.take k) (e.cs (l.drop k) ++ post) := by
  unfold Enc.arr
  rw [← List.append_assoc, ← e.cs_append, List.take_append_drop]
theorem del_tr (sv : Value) (l : List Run) (i j : Nat) (hij : i ≤ j) (hj : j ≤ l.length) :
    Tr Tryz.prog 73 #[sv, .int .i64 i, .int .i64 j] (SL enc2 91 sv l) (fun v => SL enc2 91 v (l.take i ++ l.drop j)) := by
  refine Tr.of fun h hh => C73 ?_
  unfold D73
  have hlen := SL_len enc2 hh
  obtain ⟨ii, z, okk, hsz, _, hz⟩ := elRun.ok
  have ok := okk #[87, 87] rfl
  have ok1 := okk #[87] rfl
  by_cases heq : i = j
  · subst heq
    rw [List.take_append_drop]
    rcases SL_elim enc2 hh with ⟨rfl, rfl, hF⟩ | ⟨r, cap, post, rfl, h2, h3, h4, hp⟩
    · simp only [List.length_nil, Nat.le_zero] at hj
      subst hj
      simp only [hlen, List.length_nil, Int.natCast_zero, slN_ftm, vP_some, eq_int, vB_dec, if_true]
      exact hh
    · simp only [hlen, vP_some, sl_ftm hij hj h2, eq_int, vB_dec, if_true]
      exact hh
  · rcases SL_elim enc2 hh with ⟨rfl, rfl, hF⟩ | ⟨r, cap, post, rfl, h2, h3, h4, hp⟩
    · exfalso; simp at hj; omega
    · have hne : ¬ (i : Int) = (j : Int) := by omega
      simp only [hlen, vP_some, sl_ftm hij hj h2, eq_int, vB_dec, if_neg hne, sl_to (show i ≤ cap by omega), sl_from (show j ≤ l.length by omega)]
      have ht : (l.drop j).take (l.length - j) = l.drop j := List.take_of_length_le (by simp)
      have hsrc : srcOf ii.size (l.length - j) (.slice (some ⟨r, cut 0 j 2 cap, none⟩) (l.length - j) (cap - j)) h = some (enc2.cs (l.drop j)).toArray := by
        rw [hsz, ← ht]
        exact src_part enc2 (i := j) (n := l.length - j) (cap := l.length - j) (cc := cap) (xc := cap - j) (pt_get hp) (by omega) h2
      refine apW_fit ok rfl (d := .slice 91) (by kernel_rfl) (fun k e => by cases e) hp (by omega) hsrc (enc2.cs_one _) (by rw [enc2.cs_size, hsz, List.length_drop]; rfl) (by rw [enc2.arr_size, hsz]; show 0 + (i + (l.length - j)) * 2 ≤ l.length * 2 + post.length; omega) ?_
      intro h1 hp1
      rw [Nat.zero_add, hsz] at hp1
      have hput : putL (enc2.arr l post) (i * 2) (enc2.cs (l.drop j)) = enc2.arr (l.take i ++ l.drop j) (enc2.cs (l.drop (i + (l.length - j))) ++ post) := by
        have := enc2.arr_put (l := l) (m := l.drop j) (post := post) (i := i) (by simp; omega)
        rw [show enc2.sz = 2 from rfl] at this
        rw [this, List.length_drop, arr_tail enc2 _ post (i + (l.length - j)) (by simp; omega)]
        congr 1
        · rw [List.take_append_of_le_length (by simp; omega), List.take_of_length_le (by simp; omega)]
        · congr 2
          rw [List.drop_append_of_le_length (by simp; omega), List.drop_of_length_le (l := l.take i ++ l.drop j) (by simp; omega), List.nil_append]
      rw [show (enc2.cs (l.drop j)).toArray.toList = enc2.cs (l.drop j) from rfl, hput] at hp1
      have hl2 : (l.take i ++ l.drop j).length = i + (l.length - j) := by simp; omega
      simp only [len_mk, vP_some]
      rw [sl_ft (by omega) h2, vP_some]
      have hcut : cut 0 (i + (l.length - j)) 2 cap = (i + (l.length - j)) * 2 := by
        unfold cut; rw [if_neg (by omega), Nat.zero_add]
      rw [hcut]
      refine clW_mk ok1 hp1 hz (by
        rw [enc2.arr_size, hsz, hl2, List.length_append, enc2.cs_length, List.length_drop]
        show _ ≤ _ * 2 + (_ * 2 + _)
        omega) ?_
      intro zs h2' hzs hp2
      have hz2 : putL (enc2.arr (l.take i ++ l.drop j) (enc2.cs (l.drop (i + (l.length - j))) ++ post)) ((i + (l.length - j)) * 2) zs.toList = enc2.arr (l.take i ++ l.drop j) (zs.toList ++ post) := by
        unfold Enc.arr
        have hcl : (enc2.cs (l.take i ++ l.drop j)).length = (i + (l.length - j)) * 2 := by rw [enc2.cs_length, hl2]; rfl
        have hzl : zs.toList.length = (l.length - (i + (l.length - j))) * 2 := by rw [Array.length_toList (xs := zs), hzs, hsz]
        have hdl : (enc2.cs (l.drop (i + (l.length - j)))).length = (l.length - (i + (l.length - j))) * 2 := by rw [enc2.cs_length, List.length_drop]; rfl
        rw [putL_toArray _ _ _ (by rw [List.length_append, List.length_append, hcl, hdl, hzl]; omega)]
        generalize enc2.cs (l.take i ++ l.drop j) = X at *
        generalize enc2.cs (l.drop (i + (l.length - j))) = Y at *
        generalize zs.toList = Z at *
        rw [← hcl, List.take_left, show X.length + Z.length = (X ++ Y).length by rw [List.length_append]; omega, ← List.append_assoc, List.drop_left, List.append_assoc]
      rw [hz2] at hp2
      refine SL_intro enc2 hl2.symm (by omega) h3 (post := zs.toList ++ post) ?_ hp2
      rw [hl2, List.length_append, Array.length_toList (xs := zs), hzs, hsz]
      show _ * 2 ≤ _
      have : (cap - l.length) * 2 ≤ post.length := h4
      omega
theorem ovlRun : ovlOk Tryz.prog 108 87 91 2 :=
  ⟨_, rfl, by kernel_rfl, by kernel_rfl, by kernel_rfl, by kernel_rfl, by kernel_rfl, by kernel_rfl, by kernel_rfl⟩
theorem ins_tr (sv : Value) (l : List Run) (i : Nat) (a : Run) (rx : Nat) (hi : i ≤ l.length) (hb : l.length ≤ 1073741824) :
    Tr Tryz.prog 82 #[sv, .int .i64 i, .slice (some ⟨rx, 0, none⟩) 1 1] (SL enc2 91 sv l * pt rx (.cells (enc2.arr [a] []) 91 (0, 0))) (fun v => SL enc2 91 v (l.take i ++ a :: l.drop i)) := by
  refine Tr.of fun h hh => C82 ?_
  unfold D82
  rw [star_assoc] at hh
  have hlen := SL_len enc2 hh
  obtain ⟨ii, z, okk, hsz, hby, hz⟩ := elRun.ok
  have h10 : ¬ ((1 : Nat) : Int) = 0 := by omega
  have hpx : (pt rx (.cells (enc2.arr [a] []) 91 (0, 0)) * (SL enc2 91 sv l * tt)) h := asr (by ac_rfl) hh
  have hsrcx : ∀ {F : Asrt} {h : Hp}, (pt rx (.cells (enc2.arr [a] []) 91 (0, 0)) * F) h → srcOf 2 1 (.slice (some ⟨rx, 0, none⟩) 1 1) h = some (enc2.cs [a]).toArray := fun q => src_all enc2 (l := [a]) (pt_get q) (by simp) 1
  by_cases heq : i = l.length
  · subst heq
    have key : apW Tryz.prog #[87, 87] 87 sv (.slice (some ⟨rx, 0, none⟩) 1 1) (fun v h' => (SL enc2 91 v (l.take l.length ++ a :: l.drop l.length) * tt) h') h := by
      refine ap_SL (F := pt rx (.cells (enc2.arr [a] []) 91 (0, 0))) elRun rfl rfl niRuns rfl (by omega) hh (hsrcx hpx) rfl (by simp only [List.length_singleton]; omega) ?_
      intro v h' hk
      rw [List.take_length, List.drop_length]
      exact to_tt hk
    rcases SL_elim enc2 hh with ⟨rfl, rfl, hF⟩ | ⟨r, cap, post, rfl, h2, h3, h4, hp⟩
    · simp only [hlen, List.length_nil, Int.natCast_zero, slN_from, vP_some, eq_int, vB_dec, if_true, len_mk, if_neg h10]
      exact key
    · simp only [hlen, vP_some, sl_from hi, eq_int, vB_dec, if_true, len_mk, if_neg h10]
      exact key
  · rcases SL_elim enc2 hh with ⟨rfl, rfl, hF⟩ | ⟨r, cap, post, rfl, h2, h3, h4, hp⟩
    · exfalso; simp only [List.length_nil] at hi heq; omega
    · have hne : ¬ (i : Int) = (l.length : Int) := by omega
      simp only [hlen, vP_some, sl_from hi, eq_int, vB_dec, if_neg hne, if_neg h10, len_mk, cap_mk]
      rw [bin_add (by omega), vP_some, bin_gtr, vP_some, vB_dec, show (l.length : Int) + ((1 : Nat) : Int) = ((l.length + 1 : Nat) : Int) by omega]
      have hrx : r ≠ rx := pt_ne hp
      by_cases hcap : cap < l.length + 1
      · rw [if_pos (by omega)]
        rw [sl_to (by omega), vP_some, vP_some, bin_sub (by omega), vP_some, show ((l.length + 1 : Nat) : Int) - (i : Int) = ((l.length + 1 - i : Nat) : Int) by omega]
        have hold : srcOf ii.size i (.slice (some ⟨r, 0, none⟩) i cap) h = some (enc2.cs (l.take i)).toArray := by
          rw [hsz]; exact src_all enc2 (pt_get hp) hi i
        refine apW_zero (okk _ rfl) rfl (k := .i64) (by kernel_rfl) hp (by omega) (by rw [hby]; omega) (by omega) hold ?_
        intro cap' r' spare h1 hc1 hc2 hsp hp1
        have e1 : (enc2.cs (l.take i)).toArray ++ spare = enc2.arr (l.take i) spare.toList := by
          apply Array.ext'; simp [Enc.arr]
        rw [e1] at hp1
        have hl1 : (l.take i).length = i := by simp; omega
        have hspl : spare.toList.length = (cap' - i) * 2 := by rw [Array.length_toList (xs := spare), hsp, hsz]
        rw [sl_from (by omega), vP_some]
        have hcut : cut 0 i 2 cap' = i * 2 := by unfold cut; rw [if_neg (by omega), Nat.zero_add]
        rw [hcut]
        have hq : min 1 (i + (l.length + 1 - i) - i) = 1 := by omega
        have e2 : putL (enc2.arr (l.take i) spare.toList) (i * 2) (enc2.cs [a]) = enc2.arr (l.take i ++ [a]) (spare.toList.drop 2) := by
          have := enc2.arr_app (l := l.take i) (m := [a]) (post := spare.toList) (by rw [hspl]; show 1 * 2 ≤ _; omega)
          rw [hl1] at this
          exact this
        refine cpW_mk (okk #[87, 87] rfl).at0 (okk #[87, 87] rfl).sl (okk #[87, 87] rfl).info hp1 (new := (enc2.cs [a]).toArray) ?_ (enc2.cs_one [a]) ?_ ?_
        · rw [hq, hsz]
          exact hsrcx (F := pt r' (Obj.cells (enc2.arr (l.take i) spare.toList) 91 (0, 0)) * (pt r (Obj.cells (enc2.arr l post) 91 (0, 0)) * tt)) (asr (by ac_rfl) hp1)
        · rw [enc2.arr_size, enc2.cs_size, hl1, hspl]; show i * 2 + 1 * 2 ≤ i * 2 + _; omega
        intro h2' hp2
        rw [show (enc2.cs [a]).toArray.toList = enc2.cs [a] from rfl, e2] at hp2
        rw [bin_add (by omega), vP_some, show (i : Int) + ((1 : Nat) : Int) = ((i + 1 : Nat) : Int) by omega, sl_from (by omega), vP_some]
        have hcut : cut 0 (i + 1) 2 cap' = (i + 1) * 2 := by unfold cut; rw [if_neg (by omega), Nat.zero_add]
        rw [hcut]
        have hl2 : (l.take i ++ [a]).length = i + 1 := by simp; omega
        have hq : min (l.length - i) (i + (l.length + 1 - i) - (i + 1)) = l.length - i := by omega
        have e3 : putL (enc2.arr (l.take i ++ [a]) (spare.toList.drop 2)) ((i + 1) * 2) (enc2.cs (l.drop i)) = enc2.arr (l.take i ++ [a] ++ l.drop i) ((spare.toList.drop 2).drop ((l.length - i) * 2)) := by
          have := enc2.arr_app (l := l.take i ++ [a]) (m := l.drop i) (post := spare.toList.drop 2) (by rw [List.length_drop, List.length_drop, hspl]; show _ * 2 ≤ _; omega)
          rw [hl2, List.length_drop] at this
          exact this
        refine cpW_mk (okk #[87, 87] rfl).at0 (okk #[87, 87] rfl).sl (okk #[87, 87] rfl).info hp2 (new := (enc2.cs (l.drop i)).toArray) ?_ (enc2.cs_one _) ?_ ?_
        · rw [hq, hsz]
          have hpr : (pt r (Obj.cells (enc2.arr l post) 91 (0, 0)) * (pt r' (Obj.cells (enc2.arr (l.take i ++ [a]) (spare.toList.drop 2)) 91 (0, 0)) * (pt rx (.cells (enc2.arr [a] []) 91 (0, 0)) * tt))) h2' := asr (by ac_rfl) hp2
          have := src_part enc2 (i := i) (n := l.length - i) (cap := l.length - i) (cc := cap) (xc := cap - i) (pt_get hpr) (by omega) h2
          rw [List.take_of_length_le (l := l.drop i) (by simp)] at this
          exact this
        · rw [enc2.arr_size, enc2.cs_size, hl2, List.length_drop, List.length_drop, hspl]; show (i + 1) * 2 + _ * 2 ≤ (i + 1) * 2 + _; omega
        intro h3' hp3
        rw [show (enc2.cs (l.drop i)).toArray.toList = enc2.cs (l.drop i) from rfl, e3] at hp3
        have e4 : l.take i ++ a :: l.drop i = l.take i ++ [a] ++ l.drop i := by simp
        rw [e4]
        have hl3 : (l.take i ++ [a] ++ l.drop i).length = l.length + 1 := by simp; omega
        refine SL_intro enc2 (by rw [hl3]; omega) (by omega) hc2 ?_ (to_tt hp3)
        rw [hl3, List.length_drop, List.length_drop, hspl]
        show _ * 2 ≤ _
        omega
      · rw [if_neg (by omega)]
        rw [vP_some, sl_to (by omega), vP_some, bin_add (by omega), vP_some, show (i : Int) + ((1 : Nat) : Int) = ((i + 1 : Nat) : Int) by omega, sl_from (by omega), vP_some]
        have hcut : cut 0 (i + 1) 2 cap = (i + 1) * 2 := by unfold cut; rw [if_neg (by omega), Nat.zero_add]
        have hcut' : cut 0 i 2 cap = i * 2 := by unfold cut; rw [if_neg (by omega), Nat.zero_add]
        rw [hcut]
        refine exW_ovl (a := ⟨rx, 0, none⟩) (b := ⟨r, (i + 1) * 2, none⟩) ovlRun (c := enc2.arr [a] []) (d := enc2.arr l post) (pt_get hpx) (pt_get hp) (fun e => hrx e.symm) ?_
        rw [not_bool, vP_some, Bool.not_false, vB_true, vP_some, sl_from (by omega), vP_some, sl_from (by omega), vP_some, hcut, hcut']
        have hl1 : (l.take (i + 1)).length = i + 1 := by simp; omega
        have hpost : (cap - l.length) * 2 ≤ post.length := h4
        have hq : min (l.length + 1 - i) (l.length + 1 - (i + 1)) = l.length - i := by omega
        have e2 : putL (enc2.arr l post) ((i + 1) * 2) (enc2.cs (l.drop i)) = enc2.arr (l.take (i + 1) ++ l.drop i) ((enc2.cs (l.drop (i + 1)) ++ post).drop ((l.length - i) * 2)) := by
          have := enc2.arr_app (l := l.take (i + 1)) (m := l.drop i) (post := enc2.cs (l.drop (i + 1)) ++ post) (by rw [List.length_drop, List.length_append, enc2.cs_length, List.length_drop]; show _ * 2 ≤ _ * 2 + _; omega)
          rw [hl1, List.length_drop] at this
          rw [arr_tail enc2 l post (i + 1) (by omega)]
          exact this
        refine cpW_mk (okk #[87, 87] rfl).at0 (okk #[87, 87] rfl).sl (okk #[87, 87] rfl).info hp (new := (enc2.cs (l.drop i)).toArray) ?_ (enc2.cs_one _) ?_ ?_
        · rw [hq, hsz]
          have := src_part enc2 (i := i) (n := l.length - i) (cap := l.length + 1 - i) (cc := cap) (xc := cap - i) (pt_get hp) (by omega) h2
          rw [List.take_of_length_le (l := l.drop i) (by simp), show cut 0 i enc2.sz cap = i * 2 from hcut'] at this
          exact this
        · rw [enc2.arr_size, enc2.cs_size, List.length_drop]; show (i + 1) * 2 + _ * 2 ≤ _ * 2 + _; omega
        intro h2' hp2
        rw [show (enc2.cs (l.drop i)).toArray.toList = enc2.cs (l.drop i) from rfl, e2] at hp2
        have hl2 : (l.take (i + 1) ++ l.drop i).length = l.length + 1 := by simp; omega
        have e3 : putL (enc2.arr (l.take (i + 1) ++ l.drop i) ((enc2.cs (l.drop (i + 1)) ++ post).drop ((l.length - i) * 2))) (i * 2) (enc2.cs [a]) = enc2.arr (l.take i ++ a :: l.drop i) ((enc2.cs (l.drop (i + 1)) ++ post).drop ((l.length - i) * 2)) := by
          have := enc2.arr_put (l := l.take (i + 1) ++ l.drop i) (m := [a]) (post := (enc2.cs (l.drop (i + 1)) ++ post).drop ((l.length - i) * 2)) (i := i) (by rw [hl2]; simp; omega)
          rw [show i * enc2.sz = i * 2 from rfl] at this
          rw [this]
          congr 1
          rw [List.take_append_of_le_length (by omega), List.take_take, List.length_singleton, List.drop_append_of_le_length (by omega), List.drop_of_length_le (l := l.take (i + 1)) (by omega)]
          simp [Nat.min_eq_left]
        have hq1 : min 1 (l.length + 1 - i) = 1 := by omega
        refine cpW_mk (okk #[87, 87] rfl).at0 (okk #[87, 87] rfl).sl (okk #[87, 87] rfl).info hp2 (new := (enc2.cs [a]).toArray) ?_ (enc2.cs_one [a]) ?_ ?_
        · rw [hq1, hsz]
          exact hsrcx (F := pt r (Obj.cells (enc2.arr (l.take (i + 1) ++ l.drop i) ((enc2.cs (l.drop (i + 1)) ++ post).drop ((l.length - i) * 2))) 91 (0, 0)) * tt) (asr (by ac_rfl) hp2)
        · rw [enc2.arr_size, enc2.cs_size, hl2]; show i * 2 + 1 * 2 ≤ _ * 2 + _; omega
        intro h3' hp3
        rw [show (enc2.cs [a]).toArray.toList = enc2.cs [a] from rfl, e3] at hp3
        have hl3 : (l.take i ++ a :: l.drop i).length = l.length + 1 := by simp; omega
        refine SL_intro enc2 hl3.symm (by omega) h3 ?_ (to_tt hp3)
        rw [hl3, List.length_drop, List.length_append, enc2.cs_length, List.length_drop]
        show _ * 2 ≤ _ * 2 + _ - _
        omega
end Go.Proofs

/-
  Page: clone, Runs, Left, join.
-/
set_option maxRecDepth 100000
namespace Go.Proofs
open Go.Sl
theorem clone_tr (sv : Value) (l : List Run) (hb : l.length ≤ 1073741824) :
    Tr Tryz.prog 105 #[sv] (SL enc2 91 sv l) (fun v => SL enc2 91 v l * SL enc2 91 sv l) := by
  refine Tr.of fun h hh => C105 ?_
  unfold D105
  rcases SL_elim enc2 hh with ⟨rfl, rfl, hF⟩ | ⟨r, cap, post, rfl, h2, h3, h4, hp⟩
  · simp only [eq_nil_slice, vP_some, vB_true]
    rw [star_assoc]
    exact SL_nil enc2 hh
  · simp only [eq_slice_nil, vP_some, vB_false]
    refine vA_new hh fun r1 h1 hh1 => ?_
    have hS : (SL enc2 91 (.slice (some ⟨r1, 0, none⟩) 0 0) [] * (SL enc2 91 (.slice (some ⟨r, 0, none⟩) l.length cap) l * tt)) h1 := SL_intro enc2 (post := []) rfl (by simp) (by simp) (by simp) hh1
    have hS2 : (SL enc2 91 (.slice (some ⟨r, 0, none⟩) l.length cap) l * (SL enc2 91 (.slice (some ⟨r1, 0, none⟩) 0 0) [] * tt)) h1 := asr (by ac_rfl) hS
    have hsrc := src_SL enc2 (n := l.length) hS2 (Nat.le_refl _)
    rw [List.take_length] at hsrc
    refine ap_SL elRun rfl rfl niRuns rfl (by omega) hS hsrc rfl (by simp; omega) ?_
    intro v h' hk
    rw [star_assoc]
    exact hk
def PG (a : Nat) (n : Int) (l : List Run) : Asrt := ex fun sv => pt a (.cells #[.int .i64 n, sv] 89 (0, 0)) * SL enc2 91 sv l
abbrev pv (a : Nat) : Value := .pointer (some ⟨a, 0, none⟩)
theorem PG_elim {a : Nat} {n : Int} {l : List Run} {F : Asrt} {h : Hp} (hh : (PG a n l * F) h) : ∃ sv, (pt a (.cells #[.int .i64 n, sv] 89 (0, 0)) * (SL enc2 91 sv l * F)) h := by
  obtain ⟨sv, q⟩ := ex_star.1 hh
  exact ⟨sv, asr (star_assoc _ _ _) q⟩
theorem PG_intro {a : Nat} {n : Int} {l : List Run} {sv : Value} {F : Asrt} {h : Hp} (hh : (pt a (.cells #[.int .i64 n, sv] 89 (0, 0)) * (SL enc2 91 sv l * F)) h) : (PG a n l * F) h :=
  ex_star.2 ⟨sv, asr (star_assoc _ _ _).symm hh⟩
theorem pg_ld {a : Nat} {n : Int} {sv : Value} {F : Asrt} {h : Hp} (hh : (pt a (.cells #[.int .i64 n, sv] 89 (0, 0)) * F) h) :
    ld1 (.pointer (some ⟨a, 0 + 0, none⟩)) h = some (.int .i64 n) ∧ ld1 (.pointer (some ⟨a, 0 + 1, none⟩)) h = some sv := ⟨ld1_mk (pt_get hh) rfl, ld1_mk (pt_get hh) rfl⟩
theorem runs_tr (a : Nat) (n : Int) (l : List Run) (hb : l.length ≤ 1073741824) : Tr Tryz.prog 78 #[pv a] (PG a n l) (fun v => SL enc2 91 v l * PG a n l) := by
  refine Tr.of fun h hh => C78 ?_
  unfold D78
  obtain ⟨sv, hp⟩ := PG_elim hh
  simp only [pv, eq_ptr_nil, nil_ptr, fa_mk, vP_some, vB_false, (pg_ld hp).2]
  refine (clone_tr sv l hb).use (F := pt a (.cells #[.int .i64 n, sv] 89 (0, 0)) * tt) (asr (by ac_rfl) hp) fun v h1 hp1 => ?_
  rw [star_assoc]
  have : (PG a n l * (SL enc2 91 v l * tt)) h1 := PG_intro (sv := sv) (asr (by ac_rfl) hp1)
  exact asr (by ac_rfl) this
def leftS (l : List Run) : Int := (l.map (·.2)).sum
theorem leftS_nonneg : ∀ (l : List Run), (∀ r ∈ l, 0 ≤ r.2) → 0 ≤ leftS l
  | [], _ => by simp [leftS]
  | a :: l, h => by
    have := leftS_nonneg l fun r hr => h r (by simp [hr])
    have := h a (by simp)
    simp only [leftS, List.map_cons, List.sum_cons] at *
    omega
theorem leftS_take_succ {l : List Run} {k : Nat} (hk : k < l.length) : leftS (l.take (k + 1)) = leftS (l.take k) + l[k].2 := by
  rw [List.take_succ_eq_append_getElem hk]
  simp only [leftS, List.map_append, List.sum_append, List.map_cons, List.map_nil, List.sum_cons, List.sum_nil, Int.add_zero]
theorem leftS_take_le {l : List Run} (h : ∀ r ∈ l, 0 ≤ r.2) (k : Nat) : 0 ≤ leftS (l.take k) ∧ leftS (l.take k) ≤ leftS l := by
  have h1 := leftS_nonneg (l.take k) fun r hr => h r (List.mem_of_mem_take hr)
  have h2 := leftS_nonneg (l.drop k) fun r hr => h r (List.mem_of_mem_drop hr)
  have h3 : leftS l = leftS (l.take k) + leftS (l.drop k) := by
    conv => lhs; rw [← List.take_append_drop k l]
    simp only [leftS, List.map_append, List.sum_append]
  omega
theorem left_tr (a : Nat) (n : Int) (l : List Run) (hb : l.length ≤ 1073741824) (h0 : ∀ r ∈ l, 0 ≤ r.2) (hs : leftS l ≤ 1073741824) :
    Tr Tryz.prog 38 #[pv a] (PG a n l) (fun v => pr (v = .int .i64 (leftS l)) * PG a n l) := by
  refine Tr.of fun h hh => C38 ?_
  unfold D38
  refine (runs_tr a n l hb).use hh fun sv h1 hp1 => ?_
  have hS : (SL enc2 91 sv l * (PG a n l * tt)) h1 := asr (by ac_rfl) hp1
  simp only [SL_len enc2 hS, vP_some]
  refine ⟨fun m xs h' => ∃ k : Nat, xs = [.int .i64 k, .int .i64 (leftS (l.take k))] ∧ k ≤ l.length ∧ m = l.length - k ∧ (SL enc2 91 sv l * (PG a n l * tt)) h',
    ⟨_, 0, by simp [leftS], by omega, rfl, hS⟩, ?_⟩
  rintro m v9 v3 h2 ⟨k, hxs, hk, hm, hh2⟩ _
  obtain ⟨rfl, rfl⟩ : v9 = .int .i64 k ∧ v3 = .int .i64 (leftS (l.take k)) := by simpa using hxs
  have hL := SL_lt enc2 hh2
  simp only [bin_lss, vP_some, vB_dec]
  by_cases hlt : k < l.length
  · rw [if_pos (by omega)]
    obtain ⟨p, hp1, hp2⟩ := ld_run (k := .i64) (x := (k : Int)) hh2 (List.getElem?_eq_getElem hlt) rfl
    simp only [hp1, hp2, vP_some]
    refine vA_new hh2 fun r h3 hh3 => ?_
    refine stN_mk hh3 rfl rfl (by simp) fun h4 hh4 => ?_
    have e : ld1 (.pointer (some ⟨r, 0 + 1, none⟩)) h4 = some (.int .i64 l[k].2) := ld1_mk (pt_get hh4) rfl
    have hq := leftS_take_le h0 (k + 1)
    have hq' := leftS_take_le h0 k
    rw [leftS_take_succ hlt] at hq
    simp only [ptrV, fa_mk, vP_some, e]
    rw [bin_add (by omega), vP_some, bin_add (by omega), vP_some]
    refine ⟨l.length - (k + 1), by omega, k + 1, by rw [leftS_take_succ hlt]; simp, by omega, rfl, ?_⟩
    have hh5 : (SL enc2 91 sv l * (PG a n l * (tt * pt r (Obj.cells (putL #[.int .i64 0, .int .i64 0] 0 (Value.cells (run l[k])).toList) 91 (0, 0))))) h4 := asr (by ac_rfl) hh4
    exact star_right (fun _ q => star_right (fun _ _ => trivial) q) hh5
  · rw [if_neg (by omega)]
    have : k = l.length := by omega
    subst this
    rw [List.take_length, star_assoc, pr_star]
    refine ⟨rfl, ?_⟩
    exact to_tt (Q := SL enc2 91 sv l * tt) (asr (by ac_rfl) hh2)
end Go.Proofs

/-
  Page: the heap's methods.
-/
set_option maxRecDepth 100000
namespace Go.Proofs
open Go.Sl
theorem el {E : Nat} {sv : Value} {l : List Run} {i : Nat} {a : Run} {F : Asrt} {h : Hp} (hh : (SL enc2 E sv l * F) h) (hi : l[i]? = some a) (k : IntKind) :
    ∃ r, iaS 2 sv (.int k (i : Int)) = some (.pointer (some ⟨r, i * 2, none⟩)) ∧
      ld1 (.pointer (some ⟨r, i * 2 + 0, none⟩)) h = some (.int .i64 a.1) ∧ ld1 (.pointer (some ⟨r, i * 2 + 1, none⟩)) h = some (.int .i64 a.2) ∧
      ldN 2 (.pointer (some ⟨r, i * 2, none⟩)) h = some (run a) ∧
      (∀ b K, (∀ h', (SL enc2 E sv (l.set i b) * F) h' → K undef h') → stN 2 (.pointer (some ⟨r, i * 2, none⟩)) (run b) K h) ∧
      (∀ x K, (∀ h', (SL enc2 E sv (l.set i (a.1, x)) * F) h' → K undef h') → st1 (.pointer (some ⟨r, i * 2 + 1, none⟩)) (.int .i64 x) K h) ∧
      (∀ x K, (∀ h', (SL enc2 E sv (l.set i (x, a.2)) * F) h' → K undef h') → st1 (.pointer (some ⟨r, i * 2 + 0, none⟩)) (.int .i64 x) K h) := by
  obtain ⟨hlt, ha⟩ := List.getElem?_eq_some_iff.1 hi
  rcases SL_elim enc2 hh with ⟨rfl, rfl, _⟩ | ⟨r, cap, post, rfl, h1, h1', h2, hp⟩
  · simp at hlt
  · have hb := pt_get hp
    have hsz : (enc2.arr l post).size = l.length * 2 + post.length := enc2.arr_size l post
    have hc0 := enc2.arr_cell (post := post) (j := 0) hi (by decide)
    have hc1 := enc2.arr_cell (post := post) (j := 1) hi (by decide)
    have hii : ∀ b, SL enc2 E (.slice (some ⟨r, 0, none⟩) l.length cap) (l.set i b) = SL enc2 E (.slice (some ⟨r, 0, none⟩) l.length cap) (l.set i b) := fun _ => rfl
    have key : ∀ b (h' : Hp), (pt r (.cells (enc2.arr (l.set i b) post) E (0, 0)) * F) h' → (SL enc2 E (.slice (some ⟨r, 0, none⟩) l.length cap) (l.set i b) * F) h' := fun b h' q =>
      SL_intro enc2 (by simp) (by simpa using h1) h1' (by simpa using h2) q
    refine ⟨r, ?_, ?_, ?_, ?_, ?_, ?_, ?_⟩
    · have := ia_mk (sz := 2) (b := r) (off := 0) (cap := cap) (k := k) (n := (i : Int)) (len := l.length) (by omega) (by omega)
      rwa [Int.toNat_natCast, Nat.zero_add] at this
    · exact ld1_mk hb hc0
    · exact ld1_mk hb hc1
    · rw [ldN_mk hb (by rw [hsz]; omega)]
      have := enc2.arr_elem (post := post) hi
      rw [show (enc2.arr l post).extract (i * 2) (i * 2 + 2) = _ from this]
      rfl
    · intro b K hk
      refine stN_mk hp rfl rfl (by rw [hsz]; omega) fun h' hp' => hk h' (key b h' ?_)
      have := enc2.arr_set (post := post) b hlt
      rw [show i * enc2.sz = i * 2 from rfl] at this
      rw [← this]
      exact hp'
    · intro x K hk
      refine st1_mk hp rfl (by rw [hsz]; omega) fun h' hp' => hk h' (key _ h' ?_)
      have := enc2.arr_set1 (post := post) (j := 1) (b := (a.1, x)) (v := .int .i64 x) hi (by decide) rfl
      rw [show i * enc2.sz = i * 2 from rfl] at this
      rw [← this]
      exact hp'
    · intro x K hk
      refine st1_mk hp rfl (by rw [hsz]; omega) fun h' hp' => hk h' (key _ h' ?_)
      have := enc2.arr_set1 (post := post) (j := 0) (b := (x, a.2)) (v := .int .i64 x) hi (by decide) rfl
      rw [show i * enc2.sz = i * 2 from rfl] at this
      rw [← this]
      exact hp'
theorem elBy : ElOk Tryz.prog 94 91 2 16 := elB_ok (by kernel_rfl)
theorem niBy : noInt Tryz.prog 94 := noInt_sl (e := 91) (by kernel_rfl)
def BH (a : Nat) (l : List Run) : Asrt := ex fun sv => pt a (.cells #[sv] 94 (0, 0)) * SL enc2 91 sv l
theorem BH_elim {a : Nat} {l : List Run} {F : Asrt} {h : Hp} (hh : (BH a l * F) h) : ∃ sv, (pt a (.cells #[sv] 94 (0, 0)) * (SL enc2 91 sv l * F)) h := by
  obtain ⟨sv, q⟩ := ex_star.1 hh
  exact ⟨sv, asr (star_assoc _ _ _) q⟩
theorem BH_intro {a : Nat} {l : List Run} {sv : Value} {F : Asrt} {h : Hp} (hh : (pt a (.cells #[sv] 94 (0, 0)) * (SL enc2 91 sv l * F)) h) : (BH a l * F) h :=
  ex_star.2 ⟨sv, asr (star_assoc _ _ _).symm hh⟩
def lt (a b : Run) : Bool := decide (a.2 < b.2) || (decide (a.2 = b.2) && decide (a.1 < b.1))
theorem len_tr (sv : Value) (l : List Run) : Tr Tryz.prog 151 #[sv] (SL enc2 91 sv l) (fun v => pr (v = .int .i64 l.length) * SL enc2 91 sv l) := by
  refine Tr.of fun h hh => C151 ?_
  unfold D151
  rw [SL_len enc2 hh, vP_some]
  exact ret rfl hh
theorem less_tr (sv : Value) (l : List Run) (i j : Nat) (a b : Run) (hi : l[i]? = some a) (hj : l[j]? = some b) :
    Tr Tryz.prog 152 #[sv, .int .i64 i, .int .i64 j] (SL enc2 91 sv l) (fun v => pr (v = .bool (lt a b)) * SL enc2 91 sv l) := by
  refine Tr.of fun h hh => C152 ?_
  unfold D152
  obtain ⟨r, e1, e2, e3, _⟩ := el hh hi .i64
  obtain ⟨r', e1', e2', e3', _⟩ := el hh hj .i64
  have key : ∀ v, v = lt a b → (pr (Value.bool v = .bool (lt a b)) * SL enc2 91 sv l * tt) h := fun v e => by
    rw [star_assoc, pr_star]
    exact ⟨by rw [e], hh⟩
  by_cases h1 : a.2 < b.2
  · have d1 : decide (a.2 < b.2) = true := decide_eq_true h1
    simp only [vP_some, vB_true, vB_false, vB_dec, gdW_true, gdW_false, gB_true, gB_false, gB_undef, ptrV, pickV_true, pickV_false, vE_true, vE_false, bin_add, bin_sub, bin_lss, bin_leq, bin_gtr, bin_geq, eq_int, ne_int, eq_ptr_nil, ne_ptr_nil, eq_nil_nil, ne_nil_nil, eq_slice_nil, eq_nil_slice, not_bool, nil_ptr, fa_mk, len_mk, cap_mk, decide_true, decide_false, decide_eq_true, decide_eq_false, if_true, if_false, Bool.not_true, Bool.not_false, Bool.false_eq_true, e1, e1', e3, e3', d1]
    exact key true (by simp [lt, h1])
  · have d1 : decide (a.2 < b.2) = false := decide_eq_false h1
    by_cases h2 : a.2 = b.2
    · have d2 : decide (a.2 = b.2) = true := decide_eq_true h2
      simp only [vP_some, vB_true, vB_false, vB_dec, gdW_true, gdW_false, gB_true, gB_false, gB_undef, ptrV, pickV_true, pickV_false, vE_true, vE_false, bin_add, bin_sub, bin_lss, bin_leq, bin_gtr, bin_geq, eq_int, ne_int, eq_ptr_nil, ne_ptr_nil, eq_nil_nil, ne_nil_nil, eq_slice_nil, eq_nil_slice, not_bool, nil_ptr, fa_mk, len_mk, cap_mk, decide_true, decide_false, decide_eq_true, decide_eq_false, if_true, if_false, Bool.not_true, Bool.not_false, Bool.false_eq_true, e1, e1', e2, e2', e3, e3', d1, d2]
      exact key (decide (a.1 < b.1)) (by simp [lt, h2])
    · have d2 : decide (a.2 = b.2) = false := decide_eq_false h2
      simp only [vP_some, vB_true, vB_false, vB_dec, gdW_true, gdW_false, gB_true, gB_false, gB_undef, ptrV, pickV_true, pickV_false, vE_true, vE_false, bin_add, bin_sub, bin_lss, bin_leq, bin_gtr, bin_geq, eq_int, ne_int, eq_ptr_nil, ne_ptr_nil, eq_nil_nil, ne_nil_nil, eq_slice_nil, eq_nil_slice, not_bool, nil_ptr, fa_mk, len_mk, cap_mk, decide_true, decide_false, decide_eq_true, decide_eq_false, if_true, if_false, Bool.not_true, Bool.not_false, Bool.false_eq_true, e1, e1', e3, e3', d1, d2]
      exact key false (by simp [lt, h1, h2])
def swp (l : List Run) (i j : Nat) : List Run :=
  match l[i]?, l[j]? with
  | some a, some b => (l.set i b).set j a
  | _, _ => l
theorem swp_length (l : List Run) (i j : Nat) : (swp l i j).length = l.length := by
  unfold swp; split <;> simp
theorem swap_tr (sv : Value) (l : List Run) (i j : Nat) (hi : i < l.length) (hj : j < l.length) :
    Tr Tryz.prog 153 #[sv, .int .i64 i, .int .i64 j] (SL enc2 91 sv l) (fun _ => SL enc2 91 sv (swp l i j)) := by
  refine Tr.of fun h hh => C153 ?_
  unfold D153
  have hi' := List.getElem?_eq_getElem hi
  have hj' := List.getElem?_eq_getElem hj
  obtain ⟨r, e1, e2, e3, e4, e5, _⟩ := el hh hi' .i64
  obtain ⟨r', e1', e2', e3', e4', _⟩ := el hh hj' .i64
  simp only [e1, e1', vP_some, e4, e4']
  refine e5 _ _ fun h1 hh1 => ?_
  have hj2 : j < (l.set i l[j]).length := by simpa using hj
  obtain ⟨r2, g1, _, _, _, g5, _⟩ := el hh1 (List.getElem?_eq_getElem hj2) .i64
  rw [g1] at e1'
  cases e1'
  refine g5 _ _ fun h2 hh2 => ?_
  unfold swp
  rw [hi', hj']
  exact hh2
theorem pop_tr (a : Nat) (l : List Run) (x : Run) :
    Tr Tryz.prog 154 #[pv a] (BH a (l ++ [x])) (fun v => pr (v = .iface 91 (run x)) * BH a l) := by
  refine Tr.of fun h hh => C154 ?_
  unfold D154
  obtain ⟨sv, hp⟩ := BH_elim hh
  have hS : (SL enc2 91 sv (l ++ [x]) * (pt a (.cells #[sv] 94 (0, 0)) * tt)) h := asr (by ac_rfl) hp
  have hL := SL_lt enc2 hS
  have hlen := SL_len enc2 hS
  rw [List.length_append, List.length_singleton] at hL hlen
  have hx : (l ++ [x])[l.length]? = some x := by simp
  obtain ⟨r, e1, _, _, e4, _⟩ := el hS hx .i64
  have hl1 : ld1 (.pointer (some ⟨a, 0, none⟩)) h = some sv := ld1_mk (pt_get hp) rfl
  simp only [pv, nil_ptr, vP_some, hl1, hlen]
  rw [bin_sub (by omega), vP_some, show ((l.length + 1 : Nat) : Int) - 1 = (l.length : Int) by omega, e1, vP_some, e4, vP_some]
  refine vA_new hp fun r1 h1 hh1 => ?_
  refine stN_mk hh1 rfl rfl (by simp) fun h2 hh2 => ?_
  rcases SL_elim enc2 hS with ⟨_, hq, _⟩ | ⟨rr, cap, post, rfl, g1, g2, g3, hp3⟩
  · simp at hq
  · rw [List.length_append, List.length_singleton] at g1
    simp only [vP_some]
    rw [sl_to (by omega), vP_some]
    have hh3 : (pt a (.cells #[.slice (some ⟨rr, 0, none⟩) (l ++ [x]).length cap] 94 (0, 0)) * (SL enc2 91 (.slice (some ⟨rr, 0, none⟩) (l ++ [x]).length cap) (l ++ [x]) * (pt r1 (.cells (putL #[.int .i64 0, .int .i64 0] 0 (Value.cells (run x)).toList) 91 (0, 0)) * tt))) h2 := asr (by ac_rfl) hh2
    refine st1_mk hh3 rfl (by simp) fun h3 hh4 => ?_
    have hr1 : (pt r1 (.cells (putL #[.int .i64 0, .int .i64 0] 0 (Value.cells (run x)).toList) 91 (0, 0)) * (pt a (.cells (Array.setIfInBounds #[.slice (some ⟨rr, 0, none⟩) (l ++ [x]).length cap] 0 (.slice (some ⟨rr, 0, none⟩) l.length cap)) 94 (0, 0)) * (SL enc2 91 (.slice (some ⟨rr, 0, none⟩) (l ++ [x]).length cap) (l ++ [x]) * tt))) h3 := asr (by ac_rfl) hh4
    have hl2 : ldN 2 (.pointer (some ⟨r1, 0, none⟩)) h3 = some (run x) := ldN_mk (pt_get hr1) (by simp [putL_size])
    simp only [ptrV, hl2, vP_some]
    refine ret (by trivial) (BH_intro (sv := .slice (some ⟨rr, 0, none⟩) l.length cap) ?_)
    have hS4 : (SL enc2 91 (.slice (some ⟨rr, 0, none⟩) (l ++ [x]).length cap) (l ++ [x]) * (pt a (.cells #[.slice (some ⟨rr, 0, none⟩) l.length cap] 94 (0, 0)) * tt)) h3 :=
      star_right (fun _ q => star_right (fun _ _ => trivial) q) (asr (by ac_rfl) hh4 : (SL enc2 91 (.slice (some ⟨rr, 0, none⟩) (l ++ [x]).length cap) (l ++ [x]) * (pt a (.cells #[.slice (some ⟨rr, 0, none⟩) l.length cap] 94 (0, 0)) * (pt r1 (.cells (putL #[.int .i64 0, .int .i64 0] 0 (Value.cells (run x)).toList) 91 (0, 0)) * tt))) h3)
    rcases SL_elim enc2 hS4 with ⟨hq, _, _⟩ | ⟨rr', cap', post', hq, k1, k2, k3, hp5⟩
    · cases hq
    · cases hq
      refine asr (by ac_rfl) (SL_intro enc2 (l := l) (post := enc2.enc x ++ post') rfl (by omega) g2 ?_ ?_ : (SL enc2 91 (.slice (some ⟨rr, 0, none⟩) l.length cap) l * (pt a (.cells #[.slice (some ⟨rr, 0, none⟩) l.length cap] 94 (0, 0)) * tt)) h3)
      · rw [List.length_append, List.length_singleton] at k3
        rw [List.length_append]
        show _ * 2 ≤ 2 + _
        have : (cap - (l.length + 1)) * 2 ≤ post'.length := k3
        omega
      · have : enc2.arr (l ++ [x]) post' = enc2.arr l (enc2.enc x ++ post') := by
          unfold Enc.arr
          rw [enc2.cs_append, List.append_assoc]
          simp [Enc.cs]
        rw [← this]
        exact hp5
theorem push_tr (a : Nat) (l : List Run) (x : Run) (hb : l.length ≤ 1073741824) :
    Tr Tryz.prog 155 #[pv a, .iface 91 (run x)] (BH a l) (fun _ => BH a (l ++ [x])) := by
  refine Tr.of fun h hh => C155 ?_
  unfold D155
  obtain ⟨sv, hp⟩ := BH_elim hh
  have hl1 : ld1 (.pointer (some ⟨a, 0, none⟩)) h = some sv := ld1_mk (pt_get hp) rfl
  have hta : taV 91 (Value.agg #[.int .i64 0, .int .i64 0]) false (.iface 91 (run x)) = some (run x) := rfl
  have hbl : bldV #[.int .i64 0, .int .i64 0] [(0, 2, run x)] = some (enc2.arr [x] []) := rfl
  simp only [pv, nil_ptr, vP_some, hta, hl1, hbl, Option.map_some]
  refine vA_new hp fun r1 h1 hh1 => ?_
  have hS : (SL enc2 91 sv l * (pt a (.cells #[sv] 94 (0, 0)) * pt r1 (.cells (enc2.arr [x] []) 91 (0, 0)) * tt)) h1 := asr (by ac_rfl) hh1
  refine ap_SL (m := [x]) elBy rfl rfl niBy rfl (by omega) hS (src_all enc2 (l := [x]) (n := 1) (pt_get hh1) (Nat.le_refl 1) 1) rfl (by simp only [List.length_singleton]; omega) ?_
  intro v h2 hh2
  have h3 : (pt a (.cells #[sv] 94 (0, 0)) * (SL enc2 91 v (l ++ [x]) * (pt r1 (.cells (enc2.arr [x] []) 91 (0, 0)) * tt))) h2 := asr (by ac_rfl) hh2
  refine st1_mk h3 (SL_one enc2 hh2) (by simp) fun h4 hh4 => ?_
  refine BH_intro (sv := v) ?_
  exact star_right (fun _ q => star_right (fun _ _ => trivial) q) hh4
end Go.Proofs

/-
  Page: container/heap.
-/
set_option maxRecDepth 100000
namespace Go.Proofs
open Go.Sl
abbrev bi (a : Nat) : Value := .iface 96 (pv a)
theorem iv_len {a : Nat} {l : List Run} {F : Asrt} {K : Value → Hp → Prop} {h : Hp} (hh : (BH a l * F) h) (hk : ∀ h', (BH a l * F) h' → K (.int .i64 l.length) h') : ivW Tryz.prog (bi a) "Len" #[] K h := by
  obtain ⟨sv, hp⟩ := BH_elim hh
  refine iv_val (f := 151) (e := 94) (rv := sv) (by kernel_rfl) (by kernel_rfl) (by kernel_rfl) (by kernel_rfl) (ld1_mk (pt_get hp) rfl) ?_
  show CallH Tryz.prog 151 #[sv] K h
  refine (len_tr sv l).use (F := pt a (.cells #[sv] 94 (0, 0)) * F) (asr (by ac_rfl) hp) fun v h' hv => ?_
  rw [star_assoc, pr_star] at hv
  rw [hv.1]
  exact hk h' (BH_intro (asr (by ac_rfl) hv.2))
theorem iv_less {a : Nat} {l : List Run} {i j : Nat} {x y : Run} {F : Asrt} {K : Value → Hp → Prop} {h : Hp} (hh : (BH a l * F) h) (hi : l[i]? = some x) (hj : l[j]? = some y) (hk : ∀ h', (BH a l * F) h' → K (.bool (lt x y)) h') :
    ivW Tryz.prog (bi a) "Less" #[.int .i64 i, .int .i64 j] K h := by
  obtain ⟨sv, hp⟩ := BH_elim hh
  refine iv_val (f := 152) (e := 94) (rv := sv) (by kernel_rfl) (by kernel_rfl) (by kernel_rfl) (by kernel_rfl) (ld1_mk (pt_get hp) rfl) ?_
  show CallH Tryz.prog 152 #[sv, .int .i64 i, .int .i64 j] K h
  refine (less_tr sv l i j x y hi hj).use (F := pt a (.cells #[sv] 94 (0, 0)) * F) (asr (by ac_rfl) hp) fun v h' hv => ?_
  rw [star_assoc, pr_star] at hv
  rw [hv.1]
  exact hk h' (BH_intro (asr (by ac_rfl) hv.2))
theorem iv_swap {a : Nat} {l : List Run} {i j : Nat} {F : Asrt} {K : Value → Hp → Prop} {h : Hp} (hh : (BH a l * F) h) (hi : i < l.length) (hj : j < l.length) (hk : ∀ v h', (BH a (swp l i j) * F) h' → K v h') :
    ivW Tryz.prog (bi a) "Swap" #[.int .i64 i, .int .i64 j] K h := by
  obtain ⟨sv, hp⟩ := BH_elim hh
  refine iv_val (f := 153) (e := 94) (rv := sv) (by kernel_rfl) (by kernel_rfl) (by kernel_rfl) (by kernel_rfl) (ld1_mk (pt_get hp) rfl) ?_
  show CallH Tryz.prog 153 #[sv, .int .i64 i, .int .i64 j] K h
  refine (swap_tr sv l i j hi hj).use (F := pt a (.cells #[sv] 94 (0, 0)) * F) (asr (by ac_rfl) hp) fun v h' hv => ?_
  exact hk v h' (BH_intro (asr (by ac_rfl) hv))
theorem iv_push {a : Nat} {l : List Run} {x : Run} {F : Asrt} {K : Value → Hp → Prop} {h : Hp} (hh : (BH a l * F) h) (hb : l.length ≤ 1073741824) (hk : ∀ v h', (BH a (l ++ [x]) * F) h' → K v h') :
    ivW Tryz.prog (bi a) "Push" #[.iface 91 (run x)] K h := by
  refine iv_ptr (f := 155) (e := 94) (by kernel_rfl) (by kernel_rfl) (by kernel_rfl) ?_
  show CallH Tryz.prog 155 #[pv a, .iface 91 (run x)] K h
  exact (push_tr a l x hb).use hh fun v h' hv => hk v h' hv
theorem iv_pop {a : Nat} {l : List Run} {x : Run} {F : Asrt} {K : Value → Hp → Prop} {h : Hp} (hh : (BH a (l ++ [x]) * F) h) (hk : ∀ h', (BH a l * F) h' → K (.iface 91 (run x)) h') :
    ivW Tryz.prog (bi a) "Pop" #[] K h := by
  refine iv_ptr (f := 154) (e := 94) (by kernel_rfl) (by kernel_rfl) (by kernel_rfl) ?_
  show CallH Tryz.prog 154 #[pv a] K h
  refine (pop_tr a l x).use hh fun v h' hv => ?_
  rw [star_assoc, pr_star] at hv
  rw [hv.1]
  exact hk h' hv.2
theorem lt_iff (a b : Run) : lt a b = true ↔ a.2 < b.2 ∨ (a.2 = b.2 ∧ a.1 < b.1) := by simp [lt]
theorem nlt_iff (a b : Run) : lt a b = false ↔ ¬ (a.2 < b.2 ∨ (a.2 = b.2 ∧ a.1 < b.1)) := by rw [← lt_iff]; simp
theorem lt_of_lt_nlt {x r y : Run} (h1 : lt x r = true) (h2 : lt y r = false) : lt x y = true ∧ lt y x = false := by
  rw [lt_iff] at *
  rw [nlt_iff] at *
  omega
theorem nlt_self (x : Run) : lt x x = false := by rw [nlt_iff]; omega
theorem swp_get {l : List Run} {i j : Nat} {a b : Run} (hi : l[i]? = some a) (hj : l[j]? = some b) (k : Nat) :
    (swp l i j)[k]? = if k = j then some a else if k = i then some b else l[k]? := by
  have h1 := (List.getElem?_eq_some_iff.1 hi).1
  have h2 := (List.getElem?_eq_some_iff.1 hj).1
  unfold swp
  rw [hi, hj]
  simp only [List.getElem?_set, List.length_set]
  by_cases e1 : k = j
  · subst e1
    rw [if_pos rfl, if_pos rfl, if_pos h2]
  · rw [if_neg e1, if_neg (fun e => e1 e.symm)]
    by_cases e2 : k = i
    · subst e2
      rw [if_pos rfl, if_pos rfl, if_pos h1]
    · rw [if_neg e2, if_neg (fun e => e2 e.symm)]
theorem swp_mem {l : List Run} {i j : Nat} (hi : i < l.length) (hj : j < l.length) (y : Run) : y ∈ swp l i j ↔ y ∈ l := by
  have hi' := List.getElem?_eq_getElem hi
  have hj' := List.getElem?_eq_getElem hj
  constructor
  · intro h
    obtain ⟨k, hk⟩ := List.getElem?_of_mem h
    rw [swp_get hi' hj'] at hk
    split at hk
    · cases hk; exact List.getElem_mem hi
    · split at hk
      · cases hk; exact List.getElem_mem hj
      · exact List.mem_of_getElem? hk
  · intro h
    obtain ⟨k, hk⟩ := List.getElem?_of_mem h
    by_cases e1 : k = i
    · subst e1
      refine List.mem_of_getElem? (i := j) ?_
      rw [swp_get hi' hj', if_pos rfl, ← hi', hk]
    · by_cases e2 : k = j
      · subst e2
        refine List.mem_of_getElem? (i := i) ?_
        rw [swp_get hi' hj']
        rw [if_neg (fun e => e1 e.symm), if_pos rfl, ← hj', hk]
      · refine List.mem_of_getElem? (i := k) ?_
        rw [swp_get hi' hj', if_neg e2, if_neg e1, hk]
def Rt (l : List Run) : Prop := ∃ r, l[0]? = some r ∧ ∀ y ∈ l, lt y r = false
theorem up_tr (a : Nat) (l0 : List Run) (x : Run) (hb : l0.length ≤ 1073741824) (h0 : l0 = [] ∨ Rt l0) :
    Tr Tryz.prog 102 #[bi a, .int .i64 l0.length] (BH a (l0 ++ [x])) (fun _ => ex fun l' => pr ((∀ y, y ∈ l' ↔ y ∈ l0 ++ [x]) ∧ l'.length = l0.length + 1 ∧ Rt l') * BH a l') := by
  refine Tr.of fun h hh => C102 ?_
  unfold D102
  refine ⟨fun n xs h' => ∃ (j : Nat) (l' : List Run), xs = [.int .i64 j] ∧ n = j ∧ j < l'.length ∧ l'.length = l0.length + 1 ∧ (∀ k z, l'[k]? = some z → k ≠ j → z ∈ l0) ∧ (∀ y ∈ l0, y ∈ l') ∧ l'[j]? = some x ∧
      (j ≠ 0 → l0 ≠ [] ∧ l'[0]? = l0[0]?) ∧ (j = 0 → ∀ y ∈ l0, lt y x = false) ∧ (BH a l' * tt) h',
    ⟨_, l0.length, l0 ++ [x], rfl, rfl, by simp, by simp, fun k z hk hne => ?_, fun y hy => List.mem_append_left _ hy, by simp, fun hne => ⟨fun e => hne (by rw [e]; rfl), by rw [List.getElem?_append_left (by omega)]⟩,
      fun e y hy => (by rw [List.length_eq_zero_iff.1 e] at hy; cases hy), hh⟩, ?_⟩
  · have hlt := (List.getElem?_eq_some_iff.1 hk).1
    rw [List.length_append, List.length_singleton] at hlt
    rw [List.getElem?_append_left (by omega)] at hk
    exact List.mem_of_getElem? hk
  rintro n v1 h1 ⟨j, l', hxs, rfl, hj, hlen, hmem, hmem', hx, hroot, hz, hh1⟩ _
  obtain rfl : v1 = .int .i64 n := by simpa using hxs
  have hiff : ∀ y, y ∈ l' ↔ y ∈ l0 ++ [x] := fun y => by
    rw [List.mem_append, List.mem_singleton]
    constructor
    · intro hy
      obtain ⟨k, hk⟩ := List.getElem?_of_mem hy
      by_cases e : k = n
      · subst e; rw [hx] at hk; cases hk; exact .inr rfl
      · exact .inl (hmem k y hk e)
    · rintro (hy | rfl)
      · exact hmem' y hy
      · exact List.mem_of_getElem? hx
  have done : ∀ h', (BH a l' * tt) h' → Rt l' → ((ex fun l' => pr ((∀ y, y ∈ l' ↔ y ∈ l0 ++ [x]) ∧ l'.length = l0.length + 1 ∧ Rt l') * BH a l') * tt) h' := fun h' q hr =>
    ex_star.2 ⟨l', ret ⟨hiff, hlen, hr⟩ q⟩
  rw [bin_sub (by omega), vP_some]
  by_cases hj0 : n = 0
  · subst hj0
    rw [show binV .quo (.int .i64 (((0 : Nat) : Int) - 1)) (.int .i64 2) = some (.int .i64 0) from rfl]
    simp only [vP_some, eq_int, gB_false, gB_true, Int.natCast_zero, decide_true, Bool.not_true, gdW_false, vE_false, pickV_true, vB_true]
    refine done _ hh1 ⟨x, hx, fun y hy => ?_⟩
    rw [hiff, List.mem_append, List.mem_singleton] at hy
    rcases hy with hy | rfl
    · exact hz rfl y hy
    · exact nlt_self _
  · have hdiv : ((n : Int) - 1) / 2 = (((n - 1) / 2 : Nat) : Int) := by omega
    rw [bin_quo (by omega) (by omega) (by omega), hdiv, vP_some]
    have hne : decide ((((n - 1) / 2 : Nat) : Int) = (n : Int)) = false := decide_eq_false (by omega)
    have hp : (n - 1) / 2 < l'.length := by omega
    have hp' := List.getElem?_eq_getElem hp
    simp only [eq_int, vP_some, hne, gB_false, Bool.not_false, gdW_true, vE_true]
    refine iv_less hh1 hx hp' fun h2 hh2 => ?_
    simp only [not_bool, vP_some, pickV_false, vB_bool]
    obtain ⟨hl0, hr0⟩ := hroot hj0
    have h0' := h0.resolve_left hl0
    obtain ⟨r, hr, hall⟩ := h0'
    rw [hr] at hr0
    cases hlt : lt x l'[(n - 1) / 2] with
    | false =>
      rw [Bool.not_false, if_pos rfl]
      refine done _ hh2 ⟨r, hr0, fun y hy => ?_⟩
      rw [hiff, List.mem_append, List.mem_singleton] at hy
      rcases hy with hy | rfl
      · exact hall y hy
      · cases hxr : lt y r with
        | false => rfl
        | true =>
          have := (lt_of_lt_nlt hxr (hall _ (hmem _ _ hp' (by omega)))).1
          rw [hlt] at this; cases this
    | true =>
      rw [Bool.not_true, if_neg (by decide)]
      refine iv_swap hh2 hp hj fun v h3 hh3 => ?_
      refine ⟨(n - 1) / 2, by omega, (n - 1) / 2, swp l' ((n - 1) / 2) n, rfl, rfl, by rw [swp_length]; exact hp, by rw [swp_length]; exact hlen, fun k z hk hne' => ?_, fun y hy => (swp_mem hp hj y).2 (hmem' y hy),
        by rw [swp_get hp' hx, if_neg (by omega), if_pos rfl], fun h00 => ⟨hl0, by rw [swp_get hp' hx, if_neg (by omega), if_neg (by omega), hr0, hr]⟩, fun h00 y hy => ?_, hh3⟩
      · rw [swp_get hp' hx] at hk
        split at hk
        · cases hk; exact hmem _ _ hp' (by omega)
        · exact hmem k z hk (by omega)
      · have : l'[(n - 1) / 2]? = some r := by rw [h00]; exact hr0
        rw [hp'] at this
        cases this
        exact (lt_of_lt_nlt hlt (hall y hy)).2
theorem down_tr (a : Nat) (l : List Run) (n : Nat) (hn : n < l.length) (hb : l.length ≤ 1073741825) :
    Tr Tryz.prog 103 #[bi a, .int .i64 0, .int .i64 n] (BH a l) (fun _ => ex fun l' => pr (l'.length = l.length ∧ l'[n]? = l[n]?) * BH a l') := by
  refine Tr.of fun h hh => C103 ?_
  unfold D103
  intro J1 hJ1
  have done : ∀ (i : Nat) h' l', (BH a l' * tt) h' → l'.length = l.length → l'[n]? = l[n]? → J1 [.int .i64 i] h' := fun i h' l' q hl hq => by
    refine hJ1 _ _ fun _ => ?_
    rw [bin_gtr, vP_some]
    exact ex_star.2 ⟨l', ret ⟨hl, hq⟩ q⟩
  refine ⟨fun m xs h' => ∃ (i : Nat) (l' : List Run), xs = [.int .i64 i] ∧ m = l.length - i ∧ i < l.length ∧ l'.length = l.length ∧ l'[n]? = l[n]? ∧ (BH a l' * tt) h',
    ⟨_, 0, l, rfl, rfl, by omega, rfl, rfl, hh⟩, ?_⟩
  rintro m v7 h2 ⟨i, l', hxs, rfl, hi, hlen, hq, hh2⟩ _
  obtain rfl : v7 = .int .i64 i := by simpa using hxs
  rw [bin_mul (by omega), vP_some, bin_add (by omega), vP_some, bin_geq, vP_some]
  by_cases hge : (n : Int) ≤ 2 * (i : Int) + 1
  · rw [decide_eq_true hge]
    simp only [gB_false, Bool.not_true, gdW_false, vP_some, pickV_true, vB_true]
    exact done i _ l' hh2 hlen hq
  · have h0 : ¬ 2 * (i : Int) + 1 < 0 := by omega
    rw [decide_eq_false hge]
    simp only [gB_false, Bool.not_false, gdW_true, vP_some, bin_lss, pickV_false, vB_dec, if_neg h0]
    have step : ∀ (j : Nat) h', (BH a l' * tt) h' → i < j → j < n → ivW Tryz.prog (bi a) "Less" #[.int .i64 j, .int .i64 i] (fun v38 h4 => vP (unV .not v38) fun v39 => vB v39 (J1 [.int .i64 i] h4)
        (ivW Tryz.prog (bi a) "Swap" #[.int .i64 i, .int .i64 j] (fun _ h5 => ∃ m2, m2 < l.length - i ∧ ∃ (i' : Nat) (l' : List Run), [Value.int .i64 j] = [.int .i64 i'] ∧ m2 = l.length - i' ∧ i' < l.length ∧ l'.length = l.length ∧ l'[n]? = l[n]? ∧ (BH a l' * tt) h5) h4)) h' := fun j h' q hij hjn => by
      have hj' := List.getElem?_eq_getElem (l := l') (i := j) (by omega)
      have hi' := List.getElem?_eq_getElem (l := l') (i := i) (by omega)
      refine iv_less q hj' hi' fun h4 hh4 => ?_
      rw [not_bool, vP_some, vB_bool]
      split
      · exact done i _ l' hh4 hlen hq
      · refine iv_swap hh4 (by omega) (by omega) fun v h5 hh5 => ?_
        refine ⟨l.length - j, by omega, j, swp l' i j, rfl, rfl, by omega, by rw [swp_length, hlen], ?_, hh5⟩
        rw [swp_get hi' hj', if_neg (by omega), if_neg (by omega), hq]
    intro J3 hJ3
    have hJ3' : ∀ (j : Nat) h', (BH a l' * tt) h' → i < j → j < n → J3 [.int .i64 j] h' := fun j h' q hij hjn => hJ3 _ _ fun _ => step j h' q hij hjn
    have c1 : 2 * (i : Int) + 1 = ((2 * i + 1 : Nat) : Int) := by omega
    rw [c1, bin_add (by omega), show ((2 * i + 1 : Nat) : Int) + 1 = ((2 * i + 2 : Nat) : Int) by omega, vP_some, bin_lss, vP_some]
    by_cases h3 : ((2 * i + 2 : Nat) : Int) < n
    · rw [decide_eq_true h3]
      simp only [gB_true, gdW_true, vP_some, vE_true]
      refine iv_less hh2 (List.getElem?_eq_getElem (l := l') (i := 2 * i + 2) (by omega)) (List.getElem?_eq_getElem (l := l') (i := 2 * i + 1) (by omega)) fun h4 hh4 => ?_
      rw [pickV_true, vP_some, vB_bool]
      split
      · exact hJ3' _ _ hh4 (by omega) (by omega)
      · exact hJ3' _ _ hh4 (by omega) (by omega)
    · rw [decide_eq_false h3]
      simp only [gB_true, gdW_false, vP_some, vE_false, pickV_false, vB_false]
      exact hJ3' _ _ hh2 (by omega) (by omega)
theorem push_all_tr (a : Nat) (l0 : List Run) (x : Run) (hb : l0.length < 1073741824) (h0 : l0 = [] ∨ Rt l0) :
    Tr Tryz.prog 70 #[bi a, .iface 91 (run x)] (BH a l0) (fun _ => ex fun l' => pr ((∀ y, y ∈ l' ↔ y ∈ l0 ++ [x]) ∧ l'.length = l0.length + 1 ∧ Rt l') * BH a l') := by
  refine Tr.of fun h hh => C70 ?_
  unfold D70
  refine iv_push hh (by omega) fun v h1 hh1 => ?_
  refine iv_len hh1 fun h2 hh2 => ?_
  rw [List.length_append, List.length_singleton, bin_sub (by omega), vP_some, show ((l0.length + 1 : Nat) : Int) - 1 = (l0.length : Int) by omega]
  exact (up_tr a l0 x (by omega) h0).use hh2 fun v h3 hh3 => hh3
theorem pop_all_tr (a : Nat) (l : List Run) (r : Run) (hb : l.length ≤ 1073741824) (hr : l[0]? = some r) :
    Tr Tryz.prog 71 #[bi a] (BH a l) (fun v => pr (v = .iface 91 (run r)) * ex fun l' => BH a l') := by
  refine Tr.of fun h hh => C71 ?_
  unfold D71
  have h0 := (List.getElem?_eq_some_iff.1 hr).1
  refine iv_len hh fun h1 hh1 => ?_
  rw [bin_sub (by omega), vP_some, show (l.length : Int) - 1 = ((l.length - 1 : Nat) : Int) by omega]
  refine iv_swap (i := 0) hh1 (by omega) (by omega) fun v h2 hh2 => ?_
  have hx := swp_get hr (List.getElem?_eq_getElem (l := l) (i := l.length - 1) (by omega)) (l.length - 1)
  rw [if_pos rfl] at hx
  refine (down_tr a (swp l 0 (l.length - 1)) (l.length - 1) (by rw [swp_length]; omega) (by rw [swp_length]; omega)).use hh2 fun v h3 hh3 => ?_
  obtain ⟨l', hh3⟩ := ex_star.1 hh3
  rw [star_assoc, pr_star, swp_length, hx] at hh3
  obtain ⟨⟨hl, hq⟩, hh3⟩ := hh3
  have hl' : l' = l'.take (l.length - 1) ++ [r] := by
    conv => lhs; rw [← List.take_append_drop (l.length - 1) l']
    congr 1
    obtain ⟨hlt, e⟩ := List.getElem?_eq_some_iff.1 hq
    rw [List.drop_eq_getElem_cons hlt, e, List.drop_of_length_le (by omega)]
  rw [hl'] at hh3
  refine iv_pop hh3 fun h4 hh4 => ?_
  refine ret rfl ?_
  exact ex_star.2 ⟨_, hh4⟩
end Go.Proofs

/-
  Page: join, Alloc, Free, New.
-/
set_option maxRecDepth 100000
namespace Go.Proofs
open Go.Sl
def Bd (B : Int) (l : List Run) : Prop := ∀ r ∈ l, 0 ≤ r.1 ∧ r.1 ≤ B ∧ 0 ≤ r.2 ∧ r.2 ≤ B
def joinS (l : List Run) (i : Int) : List Run :=
  if i < 0 then l else
  match l[i.toNat]?, l[i.toNat + 1]? with
  | some x, some y => if x.1 + x.2 = y.1 then (l.set i.toNat (x.1, x.2 + y.2)).take (i.toNat + 1) ++ (l.set i.toNat (x.1, x.2 + y.2)).drop (i.toNat + 2) else l
  | _, _ => l
theorem join_tr (a : Nat) (n : Int) (l : List Run) (i : Int) (hi : -1 ≤ i ∧ i ≤ 1073741824) {B : Int} (hB : B ≤ 1152921504606846976) (hb : Bd B l) :
    Tr Tryz.prog 83 #[pv a, .int .i64 i] (PG a n l) (fun _ => PG a n (joinS l i)) := by
  refine Tr.of fun h hh => C83 ?_
  unfold D83
  obtain ⟨sv, hp⟩ := PG_elim hh
  have hS : (SL enc2 91 sv l * (pt a (.cells #[.int .i64 n, sv] 89 (0, 0)) * tt)) h := asr (by ac_rfl) hp
  have hld := (pg_ld hp).2
  have hlen := SL_len enc2 hS
  have hL := SL_lt enc2 hS
  by_cases h1 : i < 0
  · have d1 : decide (i < 0) = true := decide_eq_true h1
    simp only [vP_some, vB_true, vB_false, vB_dec, gdW_true, gdW_false, gB_true, gB_false, gB_undef, ptrV, pickV_true, pickV_false, vE_true, vE_false, bin_add, bin_sub, bin_lss, bin_leq, bin_gtr, bin_geq, eq_int, ne_int, eq_ptr_nil, ne_ptr_nil, eq_nil_nil, ne_nil_nil, eq_slice_nil, eq_nil_slice, not_bool, nil_ptr, fa_mk, len_mk, cap_mk, decide_true, decide_false, decide_eq_true, decide_eq_false, if_true, if_false, Bool.not_true, Bool.not_false, Bool.false_eq_true, d1]
    rw [joinS, if_pos h1]
    exact hh
  · obtain ⟨m, rfl⟩ : ∃ m : Nat, i = m := ⟨i.toNat, by omega⟩
    have d1 : decide ((m : Int) < 0) = false := decide_eq_false h1
    have js : joinS l (m : Int) = match l[m]?, l[m + 1]? with
      | some x, some y => if x.1 + x.2 = y.1 then (l.set m (x.1, x.2 + y.2)).take (m + 1) ++ (l.set m (x.1, x.2 + y.2)).drop (m + 2) else l
      | _, _ => l := by rw [joinS, if_neg h1, Int.toNat_natCast]
    have b1 : binV .add (.int .i64 (m : Int)) (.int .i64 1) = some (.int .i64 ((m + 1 : Nat) : Int)) := bin_add (by omega)
    by_cases h2 : l.length ≤ m + 1
    · have d2 : decide ((l.length : Int) ≤ ((m + 1 : Nat) : Int)) = true := decide_eq_true (by omega)
      simp only [vP_some, vB_true, vB_false, gdW_true, gdW_false, gB_true, gB_false, gB_undef, pickV_true, pickV_false, bin_lss, bin_geq, nil_ptr, fa_mk, Bool.not_true, Bool.not_false, pv, d1, b1, d2, hld, hlen]
      have : joinS l (m : Int) = l := by
        rw [js, List.getElem?_eq_none (i := m + 1) (by omega)]
        cases l[m]? <;> rfl
      rw [this]
      exact hh
    · have hm : m < l.length := by omega
      have hm1 : m + 1 < l.length := by omega
      have d2 : decide ((l.length : Int) ≤ ((m + 1 : Nat) : Int)) = false := decide_eq_false (by omega)
      have q0 := List.getElem?_eq_getElem hm
      have q1 := List.getElem?_eq_getElem hm1
      rw [q0, q1] at js
      generalize l[m] = x at *
      generalize l[m + 1] = y at *
      have bx := hb x (List.mem_of_getElem? q0)
      have by' := hb y (List.mem_of_getElem? q1)
      obtain ⟨r, e1, e2, e3, _, _, e6, _⟩ := el hS q0 .i64
      obtain ⟨r', f1, f2, f3, _⟩ := el hS q1 .i64
      have b3 : binV .add (.int .i64 x.1) (.int .i64 x.2) = some (.int .i64 (x.1 + x.2)) := bin_add (by omega)
      simp only [vP_some, vB_true, vB_false, gdW_true, gdW_false, gB_true, gB_false, gB_undef, pickV_true, pickV_false, bin_lss, bin_geq, nil_ptr, fa_mk, Bool.not_true, Bool.not_false, pv, d1, b1, d2, hld, hlen, e1, e2, e3, f1, f2, f3, b3, ne_int]
      by_cases h3 : x.1 + x.2 = y.1
      · have d3 : decide (x.1 + x.2 ≠ y.1) = false := decide_eq_false (by simpa using h3)
        have b4 : binV .add (.int .i64 x.2) (.int .i64 y.2) = some (.int .i64 (x.2 + y.2)) := bin_add (by omega)
        simp only [d3, vB_false, vP_some, b4]
        refine e6 _ _ fun h1' hh1 => ?_
        have hp1 : (pt a (.cells #[.int .i64 n, sv] 89 (0, 0)) * (SL enc2 91 sv (l.set m (x.1, x.2 + y.2)) * tt)) h1' := asr (by ac_rfl) hh1
        have b5 : binV .add (.int .i64 (m : Int)) (.int .i64 2) = some (.int .i64 ((m + 2 : Nat) : Int)) := bin_add (by omega)
        simp only [(pg_ld hp1).2, vP_some, b5]
        refine (del_tr sv (l.set m (x.1, x.2 + y.2)) (m + 1) (m + 2) (by omega) (by simp; omega)).use hh1 fun v h2' hh2 => ?_
        have hp2 : (pt a (.cells #[.int .i64 n, sv] 89 (0, 0)) * (SL enc2 91 v ((l.set m (x.1, x.2 + y.2)).take (m + 1) ++ (l.set m (x.1, x.2 + y.2)).drop (m + 2)) * tt)) h2' := asr (by ac_rfl) hh2
        refine st1_mk hp2 (SL_one enc2 hh2) (by simp) fun h3' hh3 => ?_
        rw [js]
        simp only [if_pos h3]
        exact PG_intro (sv := v) hh3
      · have d3 : decide (x.1 + x.2 ≠ y.1) = true := decide_eq_true h3
        simp only [d3, vB_true]
        rw [js]
        simp only [if_neg h3]
        exact hh
abbrev tup (a b : Int) : Value := .tuple #[.int .i64 a, .int .i64 b]
def AllocR (l : List Run) (k : Int) (v : Value) (l' : List Run) : Prop :=
  (k < 1 ∧ v = tup 0 1 ∧ l' = l) ∨ (1 ≤ k ∧ (∀ r ∈ l, r.2 < k) ∧ v = tup 0 3 ∧ l' = l) ∨
  (1 ≤ k ∧ ∃ (b : Run) (i : Nat), l[i]? = some b ∧ k ≤ b.2 ∧ (∀ y ∈ l, k ≤ y.2 → lt y b = false) ∧ v = tup b.1 0 ∧ l' = if b.2 = k then l.take i ++ l.drop (i + 1) else l.set i (b.1 + k, b.2 - k))
theorem alloc_tr (a : Nat) (n : Int) (l : List Run) (k : Int) {B : Int} (hB : B ≤ 1152921504606846976) (hb : Bd B l) (hlen : l.length ≤ 1073741824) (hk : k ≤ 9223372036854775807) :
    Tr Tryz.prog 32 #[pv a, .int .i64 k] (PG a n l) (fun v => ex fun l' => pr (AllocR l k v l') * PG a n l') := by
  refine Tr.of fun h hh => C32 ?_
  unfold D32
  by_cases hk1 : k < 1
  · have d1 : decide (k < 1) = true := decide_eq_true hk1
    simp only [pv, eq_ptr_nil, vP_some, gB_false, Bool.not_false, gdW_true, bin_lss, d1, pickV_false, vB_true]
    exact ex_star.2 ⟨l, ret (.inl ⟨hk1, rfl, rfl⟩) hh⟩
  · have d1 : decide (k < 1) = false := decide_eq_false hk1
    simp only [pv, eq_ptr_nil, vP_some, gB_false, Bool.not_false, gdW_true, bin_lss, d1, pickV_false, vB_false]
    obtain ⟨sv, hp⟩ := PG_elim hh
    refine vA_new hp fun b h1 hh1 => ?_
    have hS1 : (SL enc2 91 sv l * (pt b (.cells #[.slice none 0 0] 94 (0, 0)) * (pt a (.cells #[.int .i64 n, sv] 89 (0, 0)) * tt))) h1 := asr (by ac_rfl) hh1
    have hP1 : (pt a (.cells #[.int .i64 n, sv] 89 (0, 0)) * (SL enc2 91 sv l * (pt b (.cells #[.slice none 0 0] 94 (0, 0)) * tt))) h1 := asr (by ac_rfl) hh1
    have hL := SL_lt enc2 hS1
    simp only [nil_ptr, fa_mk, vP_some, (pg_ld hP1).2, SL_len enc2 hS1]
    refine ⟨fun m xs h' => ∃ (j : Nat) (hl : List Run), xs = [.int .i64 j] ∧ m = l.length - j ∧ j ≤ l.length ∧ (∀ y, y ∈ hl ↔ y ∈ l.take j ∧ k ≤ y.2) ∧ hl.length ≤ j ∧ (hl = [] ∨ Rt hl) ∧
        (BH b hl * (SL enc2 91 sv l * (pt a (.cells #[.int .i64 n, sv] 89 (0, 0)) * tt))) h',
      ⟨_, 0, [], rfl, rfl, by omega, by simp, by simp, .inl rfl, BH_intro (sv := .slice none 0 0) (asr (by ac_rfl) (SL_nil enc2 (E := 91) hh1))⟩, ?_⟩
    rintro m v22 h2 ⟨j, hl, hxs, rfl, hj, hmem, hhl, hrt, hh2⟩ _
    obtain rfl : v22 = .int .i64 j := by simpa using hxs
    have hS2 : (SL enc2 91 sv l * (BH b hl * (pt a (.cells #[.int .i64 n, sv] 89 (0, 0)) * tt))) h2 := asr (by ac_rfl) hh2
    simp only [bin_lss, vP_some, vB_dec]
    by_cases hjl : j < l.length
    · rw [if_pos (by omega)]
      intro J2 hJ2
      have hJ2' : ∀ (hl' : List Run) h', (∀ y, y ∈ hl' ↔ y ∈ l.take (j + 1) ∧ k ≤ y.2) → hl'.length ≤ j + 1 → (hl' = [] ∨ Rt hl') → (BH b hl' * (SL enc2 91 sv l * (pt a (.cells #[.int .i64 n, sv] 89 (0, 0)) * tt))) h' → J2 [] h' := fun hl' h' g1 g2 g3 g4 => by
        refine hJ2 _ fun _ => ?_
        rw [bin_add (by omega), vP_some]
        exact ⟨l.length - (j + 1), by omega, j + 1, hl', rfl, rfl, by omega, g1, g2, g3, g4⟩
      have q0 := List.getElem?_eq_getElem hjl
      have htk : l.take (j + 1) = l.take j ++ [l[j]] := List.take_succ_eq_append_getElem hjl
      generalize l[j] = x at *
      obtain ⟨r, e1, _, _, e4, _⟩ := el hS2 q0 .i64
      simp only [e1, e4, vP_some]
      refine vA_new hh2 fun r8 h3 hh3 => ?_
      refine stN_mk hh3 rfl rfl (by simp) fun h4 hh4 => ?_
      have e5 : ld1 (.pointer (some ⟨r8, 0 + 1, none⟩)) h4 = some (.int .i64 x.2) := ld1_mk (pt_get hh4) rfl
      have e6 : ldN 2 (.pointer (some ⟨r8, 0, none⟩)) h4 = some (run x) := ldN_mk (pt_get hh4) (by simp [putL_size])
      simp only [ptrV, fa_mk, vP_some, e5, e6, bin_geq, vB_dec]
      have hh5 : (BH b hl * (SL enc2 91 sv l * (pt a (.cells #[.int .i64 n, sv] 89 (0, 0)) * tt))) h4 := by
        have : (BH b hl * (SL enc2 91 sv l * (pt a (.cells #[.int .i64 n, sv] 89 (0, 0)) * (tt * pt r8 (.cells (putL #[.int .i64 0, .int .i64 0] 0 (Value.cells (run x)).toList) 91 (0, 0)))))) h4 := asr (by ac_rfl) hh4
        exact star_right (fun _ q => star_right (fun _ q => star_right (fun _ _ => trivial) q) q) this
      by_cases hkx : k ≤ x.2
      · rw [if_pos hkx]
        refine (push_all_tr b hl x (by omega) hrt).use hh5 fun v h6 hh6 => ?_
        obtain ⟨hl', hh6⟩ := ex_star.1 hh6
        rw [star_assoc, pr_star] at hh6
        obtain ⟨⟨g1, g2, g3⟩, hh6⟩ := hh6
        refine hJ2' hl' _ (fun y => ?_) (by omega) (.inr g3) hh6
        rw [g1, htk, List.mem_append, List.mem_append, List.mem_singleton, hmem]
        constructor
        · rintro (⟨p, q⟩ | rfl)
          · exact ⟨.inl p, q⟩
          · exact ⟨.inr rfl, hkx⟩
        · rintro ⟨p | rfl, q⟩
          · exact .inl ⟨p, q⟩
          · exact .inr rfl
      · rw [if_neg hkx]
        refine hJ2' hl _ (fun y => ?_) (by omega) hrt hh5
        rw [hmem, htk, List.mem_append, List.mem_singleton]
        constructor
        · rintro ⟨p, q⟩; exact ⟨.inl p, q⟩
        · rintro ⟨p | rfl, q⟩
          · exact ⟨p, q⟩
          · exact absurd q hkx
    · rw [if_neg (by omega)]
      have hjl' : j = l.length := by omega
      subst hjl'
      rw [List.take_length] at hmem
      obtain ⟨bv, hBv⟩ := BH_elim hh2
      have e7 : ld1 (.pointer (some ⟨b, 0, none⟩)) h2 = some bv := ld1_mk (pt_get hBv) rfl
      have hBS : (SL enc2 91 bv hl * (pt b (.cells #[bv] 94 (0, 0)) * (SL enc2 91 sv l * (pt a (.cells #[.int .i64 n, sv] 89 (0, 0)) * tt)))) h2 := asr (by ac_rfl) hBv
      simp only [ptrV, e7, SL_len enc2 hBS, vP_some, eq_int, vB_dec]
      by_cases hemp : hl = []
      · subst hemp
        rw [if_pos (by simp)]
        have h9 : (SL enc2 91 sv l * pt a (.cells #[.int .i64 n, sv] 89 (0, 0)) * tt) h2 := drp (asr (by ac_rfl) hh2 : (BH b [] * (SL enc2 91 sv l * pt a (.cells #[.int .i64 n, sv] 89 (0, 0)) * tt)) h2)
        have : (PG a n l * tt) h2 := PG_intro (sv := sv) (asr (by ac_rfl) h9)
        exact ex_star.2 ⟨l, ret (.inr (.inl ⟨by omega, fun r hr => by
          refine Int.not_le.1 fun h => ?_
          exact absurd ((hmem r).2 ⟨hr, h⟩) (by simp), rfl, rfl⟩)) this⟩
      · rw [if_neg (by
          have := List.length_pos_iff.2 hemp
          omega)]
        obtain ⟨best, hb0, hball⟩ := hrt.resolve_left hemp
        obtain ⟨hbl, hbk⟩ := (hmem best).1 (List.mem_of_getElem? hb0)
        refine (pop_all_tr b hl best (by omega) hb0).use hh2 fun v h3 hh3 => ?_
        rw [star_assoc, pr_star] at hh3
        obtain ⟨rfl, hh3⟩ := hh3
        have hta : taV 91 (Value.agg #[.int .i64 0, .int .i64 0]) false (.iface 91 (run best)) = some (run best) := rfl
        rw [hta, vP_some]
        refine vA_new hh3 fun r9 h4 hh4 => ?_
        refine stN_mk hh4 rfl rfl (by simp) fun h5 hh5 => ?_
        have hh6 : (pt a (.cells #[.int .i64 n, sv] 89 (0, 0)) * (SL enc2 91 sv l * (pt r9 (.cells #[.int .i64 best.1, .int .i64 best.2] 91 (0, 0)) * tt))) h5 := by
          have : (pt a (.cells #[.int .i64 n, sv] 89 (0, 0)) * (SL enc2 91 sv l * (pt r9 (.cells #[.int .i64 best.1, .int .i64 best.2] 91 (0, 0)) * (tt * ex fun l' => BH b l')))) h5 := asr (by ac_rfl) hh5
          exact star_right (fun _ q => star_right (fun _ q => star_right (fun _ _ => trivial) q) q) this
        have hpr9 : (pt r9 (.cells #[.int .i64 best.1, .int .i64 best.2] 91 (0, 0)) * (pt a (.cells #[.int .i64 n, sv] 89 (0, 0)) * (SL enc2 91 sv l * tt))) h5 := asr (by ac_rfl) hh6
        have e8 : ldN 2 (.pointer (some ⟨r9, 0, none⟩)) h5 = some (run best) := ldN_mk (pt_get hpr9) (by simp)
        simp only [ptrV, nil_ptr, fa_mk, vP_some, (pg_ld hh6).2, e8]
        refine (index_tr sv l best).use (F := pt a (.cells #[.int .i64 n, sv] 89 (0, 0)) * (pt r9 (.cells #[.int .i64 best.1, .int .i64 best.2] 91 (0, 0)) * tt)) (asr (by ac_rfl) hh6) fun v h7 hh7 => ?_
        rw [star_assoc, pr_star] at hh7
        obtain ⟨rfl, hh7⟩ := hh7
        have hix : idxI l best = (l.idxOf best : Int) := by rw [idxI, if_pos hbl]
        have hil : l.idxOf best < l.length := List.idxOf_lt_length_of_mem hbl
        have hig : l[l.idxOf best]? = some best := by
          rw [List.getElem?_eq_getElem hil, List.getElem_idxOf hil]
        have hpr7 : (pt r9 (.cells #[.int .i64 best.1, .int .i64 best.2] 91 (0, 0)) * (pt a (.cells #[.int .i64 n, sv] 89 (0, 0)) * (SL enc2 91 sv l * tt))) h7 := asr (by ac_rfl) hh7
        have hpa7 : (pt a (.cells #[.int .i64 n, sv] 89 (0, 0)) * (SL enc2 91 sv l * (pt r9 (.cells #[.int .i64 best.1, .int .i64 best.2] 91 (0, 0)) * tt))) h7 := asr (by ac_rfl) hh7
        have e9 : ld1 (.pointer (some ⟨r9, 0 + 1, none⟩)) h7 = some (.int .i64 best.2) := ld1_mk (pt_get hpr7) rfl
        have e10 : ld1 (.pointer (some ⟨r9, 0 + 0, none⟩)) h7 = some (.int .i64 best.1) := ld1_mk (pt_get hpr7) rfl
        intro J3 hJ3
        have hJ3' : ∀ h' l', l' = (if best.2 = k then l.take (l.idxOf best) ++ l.drop (l.idxOf best + 1) else l.set (l.idxOf best) (best.1 + k, best.2 - k)) →
            (PG a n l' * (pt r9 (.cells #[.int .i64 best.1, .int .i64 best.2] 91 (0, 0)) * tt)) h' → J3 [] h' := fun h' l' hl' q => by
          refine hJ3 _ fun _ => ?_
          have hpr : (pt r9 (.cells #[.int .i64 best.1, .int .i64 best.2] 91 (0, 0)) * (PG a n l' * tt)) h' := asr (by ac_rfl) q
          have e11 : ld1 (.pointer (some ⟨r9, 0 + 0, none⟩)) h' = some (.int .i64 best.1) := ld1_mk (pt_get hpr) rfl
          simp only [fa_mk, vP_some, e11]
          refine ex_star.2 ⟨l', ret (.inr (.inr ⟨by omega, best, l.idxOf best, hig, hbk, fun y hy hky => hball y ((hmem y).2 ⟨hy, hky⟩), rfl, hl'⟩)) (star_right (fun _ _ => trivial) q)⟩
        obtain ⟨bb1, bb2, bb3, bb4⟩ := hb best hbl
        simp only [fa_mk, vP_some, e9, eq_int, vB_dec]
        by_cases hq : best.2 = k
        · rw [if_pos hq]
          rw [hix, bin_add (by omega)]
          simp only [vP_some, (pg_ld hpa7).2]
          refine (del_tr sv l (l.idxOf best) (l.idxOf best + 1) (by omega) (by omega)).use hh7 fun v h8 hh8 => ?_
          refine st1_mk (asr (by ac_rfl) hh8 : (pt a (.cells #[.int .i64 n, sv] 89 (0, 0)) * (SL enc2 91 v (l.take (l.idxOf best) ++ l.drop (l.idxOf best + 1)) * (pt r9 (.cells #[.int .i64 best.1, .int .i64 best.2] 91 (0, 0)) * tt))) h8) (SL_one enc2 hh8) (by simp) fun h9 hh9 => ?_
          exact hJ3' h9 _ (by rw [if_pos hq]) (PG_intro (sv := v) hh9)
        · rw [if_neg hq, hix]
          obtain ⟨r, f1, _, _, _, f5, _⟩ := el hh7 hig .i64
          have hbld : bldV #[.int .i64 0, .int .i64 0] [(0, 1, .int .i64 (best.1 + k)), (1, 1, .int .i64 (best.2 - k))] = some #[.int .i64 (best.1 + k), .int .i64 (best.2 - k)] := rfl
          have b6 : binV .add (.int .i64 best.1) (.int .i64 k) = some (.int .i64 (best.1 + k)) := bin_add (by omega)
          have b7 : binV .sub (.int .i64 best.2) (.int .i64 k) = some (.int .i64 (best.2 - k)) := bin_sub (by omega)
          simp only [vP_some, (pg_ld hpa7).2, e9, e10, b6, b7, hbld, Option.map_some, f1]
          refine f5 (best.1 + k, best.2 - k) _ fun h8 hh8 => ?_
          exact hJ3' h8 _ (by rw [if_neg hq]) (PG_intro (sv := sv) (asr (by ac_rfl) hh8))
end Go.Proofs

/-
  Page: New, Free.
-/
set_option maxRecDepth 100000
namespace Go.Proofs
open Go.Sl
def newN (n : Int) : Int := min (max n 1) 262144
def newL (n : Int) : List Run := if 1 < newN n then [(1, newN n - 1)] else []
theorem new_tr (n : Int) : Tr Tryz.prog 30 #[.int .i64 n] emp (fun v => ex fun a => pr (v = pv a) * PG a (newN n) (newL n)) := by
  refine Tr.of fun h hh => C30 ?_
  unfold D30
  rw [emp_star] at hh
  have e1 : max2V (.int .i64 n) (.int .i64 1) = some (.int .i64 (max n 1)) := by
    show some (Value.int .i64 (if 1 > n then 1 else n)) = _
    congr 2; split <;> omega
  have e2 : min2V (.int .i64 (max n 1)) (.int .i64 262144) = some (.int .i64 (newN n)) := by
    show some (Value.int .i64 (if 262144 < max n 1 then 262144 else max n 1)) = _
    unfold newN
    congr 2; split <;> omega
  have e3 : ∀ m, bldV #[.int .i64 0, .slice none 0 0] [(0, 1, .int .i64 m)] = some #[.int .i64 m, .slice none 0 0] := fun m => rfl
  simp only [e1, e2, e3, vP_some, Option.map_some]
  have hN : 1 ≤ newN n ∧ newN n ≤ 262144 := by unfold newN; omega
  unfold newL
  generalize newN n = m at *
  refine vA_new hh fun a h1 hh1 => ?_
  have hh1 : (pt a (.cells #[.int .i64 m, .slice none 0 0] 89 (0, 0)) * tt) h1 := hh1
  intro J1 hJ1
  have hJ1' : ∀ h' sv l, l = (if 1 < m then [(1, m - 1)] else []) → (pt a (.cells #[.int .i64 m, sv] 89 (0, 0)) * (SL enc2 91 sv l * tt)) h' → J1 [] h' := fun h' sv l e q => by
    refine hJ1 _ fun _ => ?_
    refine ex_star.2 ⟨a, ret rfl ?_⟩
    rw [← e]
    exact PG_intro (sv := sv) q
  simp only [ptrV, nil_ptr, fa_mk, vP_some, (pg_ld hh1).1, bin_gtr, vB_dec]
  by_cases hm : 1 < m
  · rw [if_pos hm, bin_sub (by omega), vP_some]
    have e4 : bldV #[.int .i64 0, .int .i64 0] [(0, 1, .int .i64 1), (1, 1, .int .i64 (m - 1))] = some #[.int .i64 1, .int .i64 (m - 1)] := rfl
    have e5 : bldV #[.int .i64 0, .int .i64 0] [(0, 2, .agg #[.int .i64 1, .int .i64 (m - 1)])] = some (enc2.arr [(1, m - 1)] []) := rfl
    simp only [e4, e5, Option.map_some, vP_some]
    refine vA_new hh1 fun r h2 hh2 => ?_
    have hh3 : (pt a (.cells #[.int .i64 m, .slice none 0 0] 89 (0, 0)) * (pt r (.cells (enc2.arr [(1, m - 1)] []) 91 (0, 0)) * tt)) h2 := asr (by ac_rfl) hh2
    refine st1_mk hh3 rfl (by simp) fun h4 hh4 => ?_
    refine hJ1' h4 (.slice (some ⟨r, 0, none⟩) 1 1) [(1, m - 1)] (by rw [if_pos hm]) ?_
    have hh5 : (pt r (.cells (enc2.arr [(1, m - 1)] []) 91 (0, 0)) * (pt a (.cells #[.int .i64 m, .slice (some ⟨r, 0, none⟩) 1 1] 89 (0, 0)) * tt)) h4 := asr (by ac_rfl) hh4
    exact asr (by ac_rfl) (SL_intro enc2 (l := [(1, m - 1)]) (post := []) rfl (by simp) (by omega) (by simp) hh5)
  · rw [if_neg hm]
    exact hJ1' h1 _ [] (by rw [if_neg hm]) (asr (by ac_rfl) (SL_nil enc2 (E := 91) hh1))
def badF (n first k : Int) : Prop := k < 1 ∨ first < 1 ∨ n - 1 < first ∨ n - first < k
def ovF (l : List Run) (p : Nat) (first k : Int) : Prop := (∃ x, 0 < p ∧ l[p - 1]? = some x ∧ first < x.1 + x.2) ∨ ∃ y, l[p]? = some y ∧ y.1 < first + k
def FreeR (l : List Run) (n first k : Int) (v : Value) (l' : List Run) : Prop :=
  (badF n first k ∧ v = .int .i64 1 ∧ l' = l) ∨
  (¬ badF n first k ∧ ∃ p : Nat, p ≤ l.length ∧ (∀ j x, j < p → l[j]? = some x → x.1 < first) ∧ (∀ y, l[p]? = some y → first ≤ y.1) ∧
    ((ovF l p first k ∧ v = .int .i64 5 ∧ l' = l) ∨ (¬ ovF l p first k ∧ v = .int .i64 0 ∧ l' = joinS (joinS (l.take p ++ (first, k) :: l.drop p) p) ((p : Int) - 1))))
theorem joinS_bd {B : Int} {l : List Run} (i : Int) (h0 : 0 ≤ B) (h : Bd B l) : Bd (2 * B) (joinS l i) := by
  have h' : Bd (2 * B) l := fun r hr => by have := h r hr; omega
  unfold joinS
  split
  · exact h'
  · split
    · rename_i x y hx hy
      split
      · intro r hr
        have hr' : r ∈ l.set i.toNat (x.1, x.2 + y.2) := by
          rw [List.mem_append] at hr
          rcases hr with hr | hr
          · exact List.mem_of_mem_take hr
          · exact List.mem_of_mem_drop hr
        rcases List.mem_or_eq_of_mem_set hr' with hr | rfl
        · exact h' r hr
        · have := h x (List.mem_of_getElem? hx)
          have := h y (List.mem_of_getElem? hy)
          simp only
          omega
      · exact h'
    · exact h'
theorem free_ins (a : Nat) (n : Int) (l : List Run) (first k : Int) (p : Nat) {B : Int} (hB : B ≤ 281474976710656) (hb : Bd B l) (hB0 : 0 ≤ B) (hf : 0 ≤ first ∧ first ≤ B) (hk : 0 ≤ k ∧ k ≤ B) (hlen : l.length ≤ 268435456) (hp : p ≤ l.length) (sv : Value) (h : Hp)
    (hh : (pt a (.cells #[.int .i64 n, sv] 89 (0, 0)) * (SL enc2 91 sv l * tt)) h) (K : Value → Hp → Prop) (hK : ∀ h', (PG a n (joinS (joinS (l.take p ++ (first, k) :: l.drop p) p) ((p : Int) - 1)) * tt) h' → K (.int .i64 0) h') :
    vP ((bldV #[(Value.int .i64 0), (Value.int .i64 0)] [(0, 1, .int .i64 first), (1, 1, .int .i64 k)]).map Value.agg) fun v114 =>
    vA ((bldV #[(Value.int .i64 0), (Value.int .i64 0)] [(0, 2, v114)]).map fun c => (Obj.cells c 91 (0, 0), fun r => Value.slice (some ⟨r, 0, none⟩) 1 1)) (fun v115 h2 =>
    CallH Tryz.prog 82 #[sv, .int .i64 p, v115] (fun v116 h3 =>
    st1 (.pointer (some ⟨a, 0 + 1, none⟩)) v116 (fun _ h4 =>
    CallH Tryz.prog 83 #[.pointer (some ⟨a, 0, none⟩), .int .i64 p] (fun v121 h5 =>
    vP (binV .sub (.int .i64 p) (Value.int .i64 1)) fun v124 =>
    CallH Tryz.prog 83 #[.pointer (some ⟨a, 0, none⟩), v124] (fun v125 h6 =>
    K (Value.int .i64 0) h6) h5) h4) h3) h2) h := by
  have e4 : bldV #[.int .i64 0, .int .i64 0] [(0, 1, .int .i64 first), (1, 1, .int .i64 k)] = some #[.int .i64 first, .int .i64 k] := rfl
  have e5 : bldV #[.int .i64 0, .int .i64 0] [(0, 2, .agg #[.int .i64 first, .int .i64 k])] = some (enc2.arr [(first, k)] []) := rfl
  simp only [e4, e5, Option.map_some, vP_some]
  refine vA_new hh fun r h2 hh2 => ?_
  refine (ins_tr sv l p (first, k) r hp (by omega)).use (F := pt a (.cells #[.int .i64 n, sv] 89 (0, 0)) * tt) (asr (by ac_rfl) hh2) fun v h3 hh3 => ?_
  have hh4 : (pt a (.cells #[.int .i64 n, sv] 89 (0, 0)) * (SL enc2 91 v (l.take p ++ (first, k) :: l.drop p) * tt)) h3 := asr (by ac_rfl) hh3
  refine st1_mk hh4 (SL_one enc2 hh3) (by simp) fun h4 hh5 => ?_
  have hb1 : Bd B (l.take p ++ (first, k) :: l.drop p) := fun r hr => by
    rw [List.mem_append, List.mem_cons] at hr
    rcases hr with hr | rfl | hr
    · exact hb r (List.mem_of_mem_take hr)
    · exact ⟨hf.1, hf.2, hk.1, hk.2⟩
    · exact hb r (List.mem_of_mem_drop hr)
  refine (join_tr a n _ p (by omega) (by omega) hb1).use (PG_intro (sv := v) hh5) fun v h5 hh6 => ?_
  rw [bin_sub (by omega), vP_some]
  exact (join_tr a n _ ((p : Int) - 1) (by omega) (B := 2 * B) (by omega) (joinS_bd _ hB0 hb1)).use hh6 fun v h6 hh7 => hK h6 hh7
set_option maxHeartbeats 1000000 in
theorem free_tr (a : Nat) (n : Int) (l : List Run) (first k : Int) {B : Int} (hB : B ≤ 281474976710656) (hb : Bd B l) (hlen : l.length ≤ 268435456) (hn : 0 ≤ n ∧ n ≤ B) (hk : k ≤ 9223372036854775807) :
    Tr Tryz.prog 43 #[pv a, .int .i64 first, .int .i64 k] (PG a n l) (fun v => ex fun l' => pr (FreeR l n first k v l') * PG a n l') := by
  refine Tr.of fun h hh => C43 ?_
  unfold D43
  obtain ⟨sv, hp⟩ := PG_elim hh
  have hld := (pg_ld hp).1
  have bad : badF n first k → ((fun v h' => ((ex fun l' => pr (FreeR l n first k v l') * PG a n l') * tt) h') (.int .i64 1) h) := fun hbad => ex_star.2 ⟨l, ret (.inl ⟨hbad, rfl, rfl⟩) hh⟩
  by_cases h1 : k < 1
  · have d1 : decide (k < 1) = true := decide_eq_true h1
    simp only [vP_some, vB_true, vB_false, vB_dec, gdW_true, gdW_false, gB_true, gB_false, gB_undef, ptrV, pickV_true, pickV_false, vE_true, vE_false, bin_add, bin_sub, bin_lss, bin_leq, bin_gtr, bin_geq, eq_int, ne_int, eq_ptr_nil, ne_ptr_nil, eq_nil_nil, ne_nil_nil, eq_slice_nil, eq_nil_slice, not_bool, nil_ptr, fa_mk, len_mk, cap_mk, decide_true, decide_false, decide_eq_true, decide_eq_false, if_true, if_false, Bool.not_true, Bool.not_false, Bool.false_eq_true, d1]
    exact bad (.inl h1)
  have d1 : decide (k < 1) = false := decide_eq_false h1
  by_cases h2 : first < 1
  · have d2 : decide (first < 1) = true := decide_eq_true h2
    simp only [vP_some, vB_true, vB_false, vB_dec, gdW_true, gdW_false, gB_true, gB_false, gB_undef, ptrV, pickV_true, pickV_false, vE_true, vE_false, bin_add, bin_sub, bin_lss, bin_leq, bin_gtr, bin_geq, eq_int, ne_int, eq_ptr_nil, ne_ptr_nil, eq_nil_nil, ne_nil_nil, eq_slice_nil, eq_nil_slice, not_bool, nil_ptr, fa_mk, len_mk, cap_mk, decide_true, decide_false, decide_eq_true, decide_eq_false, if_true, if_false, Bool.not_true, Bool.not_false, Bool.false_eq_true, d1, d2]
    exact bad (.inr (.inl h2))
  have d2 : decide (first < 1) = false := decide_eq_false h2
  have b1 : binV .sub (.int .i64 n) (.int .i64 1) = some (.int .i64 (n - 1)) := bin_sub (by omega)
  by_cases h3 : n - 1 < first
  · have d3 : decide (n - 1 < first) = true := decide_eq_true h3
    simp only [vP_some, vB_true, gdW_true, gdW_false, gB_true, gB_false, gB_undef, pickV_true, pickV_false, eq_ptr_nil, nil_ptr, fa_mk, bin_lss, bin_gtr, Bool.not_true, Bool.not_false, pv, hld, b1, d1, d2, d3]
    exact bad (.inr (.inr (.inl h3)))
  have d3 : decide (n - 1 < first) = false := decide_eq_false h3
  have b2 : binV .sub (.int .i64 n) (.int .i64 first) = some (.int .i64 (n - first)) := bin_sub (by omega)
  by_cases h4 : n - first < k
  · have d4 : decide (n - first < k) = true := decide_eq_true h4
    simp only [vP_some, vB_true, gdW_true, gdW_false, gB_true, gB_false, gB_undef, pickV_true, pickV_false, eq_ptr_nil, nil_ptr, fa_mk, bin_lss, bin_gtr, Bool.not_true, Bool.not_false, pv, hld, b1, b2, d1, d2, d3, d4]
    exact bad (.inr (.inr (.inr h4)))
  have d4 : decide (n - first < k) = false := decide_eq_false h4
  have nbad : ¬ badF n first k := by unfold badF; omega
  simp only [vP_some, vB_false, gdW_true, gdW_false, gB_true, gB_false, gB_undef, pickV_true, pickV_false, eq_ptr_nil, nil_ptr, fa_mk, bin_lss, bin_gtr, Bool.not_true, Bool.not_false, pv, hld, b1, b2, d1, d2, d3, d4]
  clear bad hld hp sv
  refine ⟨fun m xs h' => ∃ p : Nat, xs = [.int .i64 p] ∧ m = l.length - p ∧ p ≤ l.length ∧ (∀ j x, j < p → l[j]? = some x → x.1 < first) ∧ (PG a n l * tt) h',
    ⟨_, 0, rfl, rfl, by omega, fun j x hj => by omega, hh⟩, ?_⟩
  rintro m v7 h1' ⟨p, hxs, rfl, hp, hlow, hh1⟩ _
  obtain rfl : v7 = .int .i64 p := by simpa using hxs
  obtain ⟨sv, hp1⟩ := PG_elim hh1
  have hS : (SL enc2 91 sv l * (pt a (.cells #[.int .i64 n, sv] 89 (0, 0)) * tt)) h1' := asr (by ac_rfl) hp1
  have hld := (pg_ld hp1).2
  have hsl := SL_len enc2 hS
  have ov : ovF l p first k → (∀ y, l[p]? = some y → first ≤ y.1) → ((ex fun l' => pr (FreeR l n first k (.int .i64 5) l') * PG a n l') * tt) h1' := fun o g =>
    ex_star.2 ⟨l, ret (.inr ⟨nbad, p, hp, hlow, g, .inl ⟨o, rfl, rfl⟩⟩) hh1⟩
  have fin := fun (o : ¬ ovF l p first k) (g : ∀ y, l[p]? = some y → first ≤ y.1) =>
    free_ins a n l first k p hB hb (by omega) (by omega) (by omega) hlen hp sv h1' hp1 (fun v h' => ((ex fun l' => pr (FreeR l n first k v l') * PG a n l') * tt) h') (fun h' q =>
      ex_star.2 ⟨_, ret (.inr ⟨nbad, p, hp, hlow, g, .inr ⟨o, rfl, rfl⟩⟩) q⟩)
  have b3 : binV .add (.int .i64 first) (.int .i64 k) = some (.int .i64 (first + k)) := bin_add (by omega)
  cases hq : l[p]? with
  | none =>
    have hpl : p = l.length := by have := List.getElem?_eq_none_iff.1 hq; omega
    have d5 : decide ((p : Int) < (l.length : Int)) = false := decide_eq_false (by omega)
    have g : ∀ y, l[p]? = some y → first ≤ y.1 := fun y e => by rw [hq] at e; cases e
    by_cases hp0 : p = 0
    · have d6 : decide (0 < (p : Int)) = false := decide_eq_false (by omega)
      simp only [vP_some, vB_true, vB_false, gdW_true, gdW_false, gB_true, gB_false, gB_undef, pickV_true, pickV_false, nil_ptr, fa_mk, bin_lss, bin_gtr, Bool.not_true, Bool.not_false, pv, hld, hsl, d5, d6]
      refine fin ?_ g
      rintro (⟨x, h, _⟩ | ⟨y, e, _⟩)
      · omega
      · rw [hq] at e; cases e
    · have d6 : decide (0 < (p : Int)) = true := decide_eq_true (by omega)
      have b4 : binV .sub (.int .i64 (p : Int)) (.int .i64 1) = some (.int .i64 ((p - 1 : Nat) : Int)) := by rw [bin_sub (by omega), show (p : Int) - 1 = ((p - 1 : Nat) : Int) by omega]
      simp only [b4, vP_some] at fin
      obtain ⟨x, hx⟩ : ∃ x, l[p - 1]? = some x := ⟨_, List.getElem?_eq_getElem (by omega)⟩
      obtain ⟨r, e1, e2, e3, _⟩ := el hS hx .i64
      have bx := hb x (List.mem_of_getElem? hx)
      have b5 : binV .add (.int .i64 x.1) (.int .i64 x.2) = some (.int .i64 (x.1 + x.2)) := bin_add (by omega)
      by_cases ho : first < x.1 + x.2
      · have d7 : decide (first < x.1 + x.2) = true := decide_eq_true ho
        simp only [vP_some, vB_true, vB_false, gdW_true, gdW_false, gB_true, gB_false, gB_undef, pickV_true, pickV_false, nil_ptr, fa_mk, bin_lss, bin_gtr, Bool.not_true, Bool.not_false, pv, hld, hsl, d5, d6, b4, e1, e2, e3, b5, d7]
        exact ov (.inl ⟨x, by omega, hx, ho⟩) g
      · have d7 : decide (first < x.1 + x.2) = false := decide_eq_false ho
        simp only [vP_some, vB_true, vB_false, gdW_true, gdW_false, gB_true, gB_false, gB_undef, pickV_true, pickV_false, nil_ptr, fa_mk, bin_lss, bin_gtr, Bool.not_true, Bool.not_false, pv, hld, hsl, d5, d6, b4, e1, e2, e3, b5, d7]
        refine fin ?_ g
        rintro (⟨x', _, e, h⟩ | ⟨y, e, _⟩)
        · rw [hx] at e; cases e; exact ho h
        · rw [hq] at e; cases e
  | some y =>
    have hpl : p < l.length := (List.getElem?_eq_some_iff.1 hq).1
    have d5 : decide ((p : Int) < (l.length : Int)) = true := decide_eq_true (by omega)
    obtain ⟨ry, f1, f2, f3, _⟩ := el hS hq .i64
    have by' := hb y (List.mem_of_getElem? hq)
    by_cases hy : y.1 < first
    · have d8 : decide (y.1 < first) = true := decide_eq_true hy
      simp only [vP_some, vB_true, vB_false, gdW_true, gdW_false, gB_true, gB_false, gB_undef, pickV_true, pickV_false, nil_ptr, fa_mk, bin_lss, bin_gtr, Bool.not_true, Bool.not_false, pv, hld, hsl, d5, f1, f2, d8]
      rw [bin_add (by omega), vP_some]
      refine ⟨l.length - (p + 1), by omega, p + 1, rfl, rfl, by omega, fun j x hj hx => ?_, hh1⟩
      by_cases hjp : j = p
      · subst hjp; rw [hq] at hx; cases hx; exact hy
      · exact hlow j x (by omega) hx
    · have d8 : decide (y.1 < first) = false := decide_eq_false hy
      have g : ∀ z, l[p]? = some z → first ≤ z.1 := fun z e => by rw [hq] at e; cases e; omega
      have tail : ∀ (c : Prop), (c ↔ ∃ x, 0 < p ∧ l[p - 1]? = some x ∧ first < x.1 + x.2) → ¬ c → (ovF l p first k ↔ y.1 < first + k) := fun c hc hn => by
        unfold ovF
        rw [← hc]
        constructor
        · rintro (h | ⟨z, e, h⟩)
          · exact absurd h hn
          · rw [hq] at e; cases e; exact h
        · exact fun h => .inr ⟨y, hq, h⟩
      by_cases hp0 : p = 0
      · have d6 : decide (0 < (p : Int)) = false := decide_eq_false (by omega)
        have tl := tail False ⟨fun h => h.elim, fun ⟨x, h, _⟩ => by omega⟩ (fun h => h)
        by_cases ho : y.1 < first + k
        · have d9 : decide (y.1 < first + k) = true := decide_eq_true ho
          simp only [vP_some, vB_true, vB_false, gdW_true, gdW_false, gB_true, gB_false, gB_undef, pickV_true, pickV_false, nil_ptr, fa_mk, bin_lss, bin_gtr, Bool.not_true, Bool.not_false, pv, hld, hsl, d5, d6, f1, f2, d8, b3, d9]
          exact ov (tl.2 ho) g
        · have d9 : decide (y.1 < first + k) = false := decide_eq_false ho
          simp only [vP_some, vB_true, vB_false, gdW_true, gdW_false, gB_true, gB_false, gB_undef, pickV_true, pickV_false, nil_ptr, fa_mk, bin_lss, bin_gtr, Bool.not_true, Bool.not_false, pv, hld, hsl, d5, d6, f1, f2, d8, b3, d9]
          exact fin (fun o => ho (tl.1 o)) g
      · have d6 : decide (0 < (p : Int)) = true := decide_eq_true (by omega)
        have b4 : binV .sub (.int .i64 (p : Int)) (.int .i64 1) = some (.int .i64 ((p - 1 : Nat) : Int)) := by rw [bin_sub (by omega), show (p : Int) - 1 = ((p - 1 : Nat) : Int) by omega]
        simp only [b4, vP_some] at fin
        obtain ⟨x, hx⟩ : ∃ x, l[p - 1]? = some x := ⟨_, List.getElem?_eq_getElem (by omega)⟩
        obtain ⟨r, e1, e2, e3, _⟩ := el hS hx .i64
        have bx := hb x (List.mem_of_getElem? hx)
        have b5 : binV .add (.int .i64 x.1) (.int .i64 x.2) = some (.int .i64 (x.1 + x.2)) := bin_add (by omega)
        by_cases ho' : first < x.1 + x.2
        · have d7 : decide (first < x.1 + x.2) = true := decide_eq_true ho'
          simp only [vP_some, vB_true, vB_false, gdW_true, gdW_false, gB_true, gB_false, gB_undef, pickV_true, pickV_false, nil_ptr, fa_mk, bin_lss, bin_gtr, Bool.not_true, Bool.not_false, pv, hld, hsl, d5, d6, b4, e1, e2, e3, b5, d7, f1, f2, d8]
          exact ov (.inl ⟨x, by omega, hx, ho'⟩) g
        · have d7 : decide (first < x.1 + x.2) = false := decide_eq_false ho'
          have tl := tail False ⟨fun h => h.elim, fun ⟨x', _, e, h⟩ => by rw [hx] at e; cases e; exact ho' h⟩ (fun h => h)
          by_cases ho : y.1 < first + k
          · have d9 : decide (y.1 < first + k) = true := decide_eq_true ho
            simp only [vP_some, vB_true, vB_false, gdW_true, gdW_false, gB_true, gB_false, gB_undef, pickV_true, pickV_false, nil_ptr, fa_mk, bin_lss, bin_gtr, Bool.not_true, Bool.not_false, pv, hld, hsl, d5, d6, b4, e1, e2, e3, b5, d7, f1, f2, d8, b3, d9]
            exact ov (tl.2 ho) g
          · have d9 : decide (y.1 < first + k) = false := decide_eq_false ho
            simp only [vP_some, vB_true, vB_false, gdW_true, gdW_false, gB_true, gB_false, gB_undef, pickV_true, pickV_false, nil_ptr, fa_mk, bin_lss, bin_gtr, Bool.not_true, Bool.not_false, pv, hld, hsl, d5, d6, b4, e1, e2, e3, b5, d7, f1, f2, d8, b3, d9]
            exact fin (fun o => ho (tl.1 o)) g
end Go.Proofs

/-
  Page, the plain law: runs that rise and do not touch, and the set of pages that they have.
-/
set_option maxRecDepth 100000
namespace Go.Proofs
open Go.Sl
def WFf (n : Int) : Int → List Run → Prop
  | _, [] => True
  | lo, r :: l => lo < r.1 ∧ 1 ≤ r.2 ∧ r.1 + r.2 ≤ n ∧ WFf n (r.1 + r.2) l
abbrev WF (n : Int) (l : List Run) : Prop := WFf n 0 l
def fr : List Run → Int → Prop
  | [], _ => False
  | r :: l, x => (r.1 ≤ x ∧ x < r.1 + r.2) ∨ fr l x
theorem WFf.mono {n : Int} {lo lo' : Int} (h : lo' ≤ lo) : ∀ {l : List Run}, WFf n lo l → WFf n lo' l
  | [], _ => trivial
  | _ :: _, ⟨a, b, c, d⟩ => ⟨by omega, b, c, d⟩
theorem fr_lo {n : Int} : ∀ {lo : Int} {l : List Run}, WFf n lo l → ∀ x, fr l x → lo < x ∧ x < n
  | _, [], _, _, h => h.elim
  | lo, r :: l, ⟨a, b, c, d⟩, x, h => by
    rcases h with h | h
    · omega
    · have := fr_lo d x h
      omega
theorem WFf_unique {n : Int} : ∀ {lo lo' : Int} {l l' : List Run}, WFf n lo l → WFf n lo' l' → (∀ x, fr l x ↔ fr l' x) → l = l'
  | _, _, [], [], _, _, _ => rfl
  | _, _, [], r :: l, _, ⟨_, b, _, _⟩, h => ((h r.1).2 (.inl ⟨by omega, by omega⟩)).elim
  | _, _, r :: l, [], ⟨_, b, _, _⟩, _, h => ((h r.1).1 (.inl ⟨by omega, by omega⟩)).elim
  | _, _, r :: l, r' :: l', ⟨a, b, c, d⟩, ⟨a', b', c', d'⟩, h => by
    have e1 : r.1 = r'.1 := by
      have h1 := (h r.1).1 (.inl ⟨by omega, by omega⟩)
      have h2 := (h r'.1).2 (.inl ⟨by omega, by omega⟩)
      rcases h1 with h1 | h1
      · rcases h2 with h2 | h2
        · omega
        · have := fr_lo d _ h2; omega
      · have := fr_lo d' _ h1
        rcases h2 with h2 | h2
        · omega
        · have := fr_lo d _ h2; omega
    have e2 : r.2 = r'.2 := by
      rcases Int.lt_trichotomy r.2 r'.2 with q | q | q
      · have h2 := (h (r.1 + r.2)).2 (.inl ⟨by omega, by omega⟩)
        rcases h2 with h2 | h2
        · omega
        · have := fr_lo d _ h2; omega
      · exact q
      · have h2 := (h (r'.1 + r'.2)).1 (.inl ⟨by omega, by omega⟩)
        rcases h2 with h2 | h2
        · omega
        · have := fr_lo d' _ h2; omega
    have e : r = r' := Prod.ext e1 e2
    subst e
    congr 1
    refine WFf_unique d d' fun x => ?_
    constructor
    · intro hx
      have := fr_lo d _ hx
      rcases (h x).1 (.inr hx) with q | q
      · omega
      · exact q
    · intro hx
      have := fr_lo d' _ hx
      rcases (h x).2 (.inr hx) with q | q
      · omega
      · exact q
theorem fr_mem : ∀ {l : List Run} {x : Int}, fr l x ↔ ∃ r ∈ l, r.1 ≤ x ∧ x < r.1 + r.2
  | [], x => by simp [fr]
  | r :: l, x => by
    simp only [fr, List.mem_cons, exists_eq_or_imp]
    rw [fr_mem (l := l)]
theorem WFf_mem {n : Int} : ∀ {lo : Int} {l : List Run}, WFf n lo l → 0 ≤ lo → ∀ r ∈ l, 1 ≤ r.1 ∧ 1 ≤ r.2 ∧ r.1 + r.2 ≤ n
  | lo, s :: l, ⟨a, b, c, d⟩, h, r, hr => by
    rw [List.mem_cons] at hr
    rcases hr with rfl | hr
    · omega
    · exact WFf_mem d (by omega) r hr
theorem WF_bd {n : Int} {l : List Run} (h : WF n l) : Bd n l := fun r hr => by
  have := WFf_mem h (by omega) r hr; omega
theorem leftS_cons (r : Run) (l : List Run) : leftS (r :: l) = r.2 + leftS l := by simp [leftS]
theorem WFf_left {n : Int} : ∀ {lo : Int} {l : List Run}, WFf n lo l → (l.length : Int) ≤ leftS l ∧ (l ≠ [] → leftS l + lo < n)
  | lo, [], _ => by simp [leftS]
  | lo, r :: l, ⟨a, b, c, d⟩ => by
    have := WFf_left d
    rw [leftS_cons, List.length_cons]
    by_cases hl : l = []
    · subst hl; simp [leftS]; omega
    · have := this.2 hl
      refine ⟨by omega, fun _ => by omega⟩
theorem WF_len {n : Int} {l : List Run} (h : WF n l) (hn : 0 ≤ n) : (l.length : Int) ≤ n ∧ leftS l ≤ n ∧ 0 ≤ leftS l := by
  have h1 := WFf_left h
  by_cases hl : l = []
  · subst hl; simp [leftS]; omega
  · have := h1.2 hl
    omega
theorem alloc_erase {n : Int} : ∀ {lo : Int} {l : List Run} {i : Nat} {b : Run}, WFf n lo l → l[i]? = some b →
    WFf n lo (l.take i ++ l.drop (i + 1)) ∧ (∀ x, fr (l.take i ++ l.drop (i + 1)) x ↔ fr l x ∧ ¬ (b.1 ≤ x ∧ x < b.1 + b.2)) ∧ leftS (l.take i ++ l.drop (i + 1)) = leftS l - b.2
  | lo, r :: l, 0, b, ⟨a, p, c, d⟩, hb => by
    cases hb
    refine ⟨?_, fun x => ?_, ?_⟩
    · exact d.mono (by omega)
    · show fr l x ↔ _
      constructor
      · intro h
        have := fr_lo d x h
        exact ⟨.inr h, by omega⟩
      · rintro ⟨h | h, g⟩
        · exact absurd h g
        · exact h
    · show leftS l = _
      rw [leftS_cons]; omega
  | lo, r :: l, i + 1, b, ⟨a, p, c, d⟩, hb => by
    have hb' : l[i]? = some b := by simpa using hb
    obtain ⟨h1, h2, h3⟩ := alloc_erase d hb'
    have hfr : ∀ x, r.1 ≤ x ∧ x < r.1 + r.2 → ¬ (b.1 ≤ x ∧ x < b.1 + b.2) := fun x hx hy => by
      have := fr_lo d x (fr_mem.2 ⟨b, List.mem_of_getElem? hb', hy⟩)
      omega
    refine ⟨⟨a, p, c, h1⟩, fun x => ?_, ?_⟩
    · show (_ ∨ fr (l.take i ++ l.drop (i + 1)) x) ↔ _
      rw [h2]
      constructor
      · rintro (h | ⟨h, g⟩)
        · exact ⟨.inl h, hfr x h⟩
        · exact ⟨.inr h, g⟩
      · rintro ⟨h | h, g⟩
        · exact .inl h
        · exact .inr ⟨h, g⟩
    · show leftS (r :: (l.take i ++ l.drop (i + 1))) = _
      rw [leftS_cons, leftS_cons, h3]; omega
  | lo, [], i, b, _, hb => by simp at hb
theorem alloc_set {n : Int} {k : Int} : ∀ {lo : Int} {l : List Run} {i : Nat} {b : Run}, WFf n lo l → l[i]? = some b → 1 ≤ k → k < b.2 →
    WFf n lo (l.set i (b.1 + k, b.2 - k)) ∧ (∀ x, fr (l.set i (b.1 + k, b.2 - k)) x ↔ fr l x ∧ ¬ (b.1 ≤ x ∧ x < b.1 + k)) ∧ leftS (l.set i (b.1 + k, b.2 - k)) = leftS l - k
  | lo, r :: l, 0, b, ⟨a, p, c, d⟩, hb, hk, hk' => by
    cases hb
    refine ⟨⟨by simp only; omega, by simp only; omega, by simp only; omega, ?_⟩, fun x => ?_, ?_⟩
    · have : r.1 + k + (r.2 - k) = r.1 + r.2 := by omega
      simp only [this]
      exact d
    · show ((r.1 + k ≤ x ∧ x < r.1 + k + (r.2 - k)) ∨ fr l x) ↔ _
      constructor
      · rintro (h | h)
        · exact ⟨.inl (by omega), by omega⟩
        · have := fr_lo d x h
          exact ⟨.inr h, by omega⟩
      · rintro ⟨h | h, g⟩
        · exact .inl (by omega)
        · exact .inr h
    · show leftS ((r.1 + k, r.2 - k) :: l) = _
      rw [leftS_cons, leftS_cons]; simp only; omega
  | lo, r :: l, i + 1, b, ⟨a, p, c, d⟩, hb, hk, hk' => by
    have hb' : l[i]? = some b := by simpa using hb
    obtain ⟨h1, h2, h3⟩ := alloc_set d hb' hk hk'
    have hfr : ∀ x, r.1 ≤ x ∧ x < r.1 + r.2 → ¬ (b.1 ≤ x ∧ x < b.1 + k) := fun x hx hy => by
      have := fr_lo d x (fr_mem.2 ⟨b, List.mem_of_getElem? hb', by omega⟩)
      omega
    refine ⟨⟨a, p, c, h1⟩, fun x => ?_, ?_⟩
    · show (_ ∨ fr (l.set i (b.1 + k, b.2 - k)) x) ↔ _
      rw [h2]
      constructor
      · rintro (h | ⟨h, g⟩)
        · exact ⟨.inl h, hfr x h⟩
        · exact ⟨.inr h, g⟩
      · rintro ⟨h | h, g⟩
        · exact .inl h
        · exact .inr ⟨h, g⟩
    · show leftS (r :: l.set i (b.1 + k, b.2 - k)) = _
      rw [leftS_cons, leftS_cons, h3]; omega
  | lo, [], i, b, _, hb, _, _ => by simp at hb
theorem alloc_law {n : Int} {l l' : List Run} {k : Int} {v : Value} (hw : WF n l) (h : AllocR l k v l') :
    (k < 1 ∧ v = tup 0 1 ∧ l' = l) ∨ (1 ≤ k ∧ (∀ r ∈ l, r.2 < k) ∧ v = tup 0 3 ∧ l' = l) ∨
    (1 ≤ k ∧ ∃ b ∈ l, k ≤ b.2 ∧ (∀ y ∈ l, k ≤ y.2 → lt y b = false) ∧ v = tup b.1 0 ∧ WF n l' ∧ (∀ x, fr l' x ↔ fr l x ∧ ¬ (b.1 ≤ x ∧ x < b.1 + k)) ∧ leftS l' = leftS l - k) := by
  rcases h with h | h | ⟨h1, b, i, h2, h3, h4, h5, h6⟩
  · exact .inl h
  · exact .inr (.inl h)
  · refine .inr (.inr ⟨h1, b, List.mem_of_getElem? h2, h3, h4, h5, ?_⟩)
    by_cases hq : b.2 = k
    · rw [if_pos hq] at h6
      subst h6
      rw [← hq]
      exact alloc_erase hw h2
    · rw [if_neg hq] at h6
      subst h6
      exact alloc_set hw h2 h1 (by omega)
theorem joinS_neg (l : List Run) {i : Int} (h : i < 0) : joinS l i = l := by rw [joinS, if_pos h]
theorem joinS_zero2 (x y : Run) (t : List Run) : joinS (x :: y :: t) 0 = if x.1 + x.2 = y.1 then (x.1, x.2 + y.2) :: t else x :: y :: t := by
  simp [joinS]
theorem joinS_zero1 (x : Run) : joinS [x] 0 = [x] := by simp [joinS]
theorem joinS_zero0 : joinS [] 0 = [] := by simp [joinS]
theorem joinS_succ (r : Run) (X : List Run) (i : Nat) : joinS (r :: X) ((i : Int) + 1) = r :: joinS X (i : Int) := by
  have h1 : ¬ ((i : Int) + 1 < 0) := by omega
  have h2 : ¬ ((i : Int) < 0) := by omega
  have h3 : ((i : Int) + 1).toNat = i + 1 := by omega
  rw [joinS, joinS, if_neg h1, if_neg h2, h3, Int.toNat_natCast]
  simp only [List.getElem?_cons_succ]
  split
  · rename_i x y e1 e2
    split
    · simp
    · rfl
  · rfl
def J (l : List Run) (first k : Int) (p : Nat) : List Run := joinS (joinS (l.take p ++ (first, k) :: l.drop p) p) ((p : Int) - 1)
theorem J_succ (r : Run) (l : List Run) (first k : Int) (p : Nat) : J (r :: l) first k (p + 2) = r :: J l first k (p + 1) := by
  unfold J
  show joinS (joinS (r :: (l.take (p + 1) ++ (first, k) :: l.drop (p + 1))) (((p + 2 : Nat) : Int))) _ = _
  rw [show (((p + 2 : Nat) : Int)) = ((p + 1 : Nat) : Int) + 1 by omega, joinS_succ]
  rw [show ((p + 1 : Nat) : Int) + 1 - 1 = (p : Int) + 1 by omega, joinS_succ]
  rw [show ((p + 1 : Nat) : Int) - 1 = (p : Int) by omega]
theorem J_zero {n : Int} {lo first k : Int} {l : List Run} (hw : WFf n lo l) (h1 : lo < first) (hk : 1 ≤ k) (h2 : ∀ y, l[0]? = some y → first + k ≤ y.1) (h3 : first + k ≤ n) :
    ∃ k' t, joinS ((first, k) :: l) 0 = (first, k') :: t ∧ WFf n lo ((first, k') :: t) ∧ (∀ x, fr ((first, k') :: t) x ↔ fr l x ∨ (first ≤ x ∧ x < first + k)) ∧ leftS ((first, k') :: t) = leftS l + k := by
  cases l with
  | nil =>
    rw [joinS_zero1]
    refine ⟨k, [], rfl, ⟨h1, hk, h3, trivial⟩, fun x => ?_, ?_⟩
    · show (_ ∨ False) ↔ (False ∨ _)
      simp
    · rw [leftS_cons]; simp [leftS]
  | cons y t =>
    obtain ⟨a, b, c, d⟩ := hw
    have h2' := h2 y rfl
    rw [joinS_zero2]
    simp only
    by_cases hq : first + k = y.1
    · rw [if_pos hq]
      refine ⟨k + y.2, t, rfl, ⟨h1, by simp only; omega, by simp only; omega, ?_⟩, fun x => ?_, ?_⟩
      · simp only
        rw [show first + (k + y.2) = y.1 + y.2 by omega]
        exact d
      · show ((first ≤ x ∧ x < first + (k + y.2)) ∨ fr t x) ↔ ((y.1 ≤ x ∧ x < y.1 + y.2) ∨ fr t x) ∨ _
        constructor
        · rintro (h | h)
          · by_cases hx : x < first + k
            · exact .inr (by omega)
            · exact .inl (.inl (by omega))
          · exact .inl (.inr h)
        · rintro ((h | h) | h)
          · exact .inl (by omega)
          · exact .inr h
          · exact .inl (by omega)
      · rw [leftS_cons, leftS_cons]; simp only; omega
    · rw [if_neg hq]
      refine ⟨k, y :: t, rfl, ⟨h1, hk, by simp only; omega, by simp only; omega, b, c, d⟩, fun x => ?_, ?_⟩
      · show ((first ≤ x ∧ x < first + k) ∨ fr (y :: t) x) ↔ _
        exact Or.comm
      · rw [leftS_cons]; simp only; omega
theorem J_law {n : Int} {first k : Int} (hk : 1 ≤ k) (h3 : first + k ≤ n) : ∀ (p : Nat) {lo : Int} {l : List Run}, WFf n lo l → lo < first → p ≤ l.length →
    (∀ y, l[p]? = some y → first + k ≤ y.1) → (∀ x, 0 < p → l[p - 1]? = some x → x.1 + x.2 ≤ first) →
    WFf n lo (J l first k p) ∧ (∀ x, fr (J l first k p) x ↔ fr l x ∨ (first ≤ x ∧ x < first + k)) ∧ leftS (J l first k p) = leftS l + k
  | 0, lo, l, hw, h1, hp, hy, hx => by
    obtain ⟨k', t, e, g1, g2, g3⟩ := J_zero hw h1 hk hy h3
    have : J l first k 0 = (first, k') :: t := by
      unfold J
      rw [joinS_neg _ (by omega)]
      exact e
    rw [this]
    exact ⟨g1, g2, g3⟩
  | 1, lo, l, hw, h1, hp, hy, hx => by
    cases l with
    | nil => simp at hp
    | cons r l =>
      obtain ⟨a, b, c, d⟩ := hw
      have hr := hx r (by omega) rfl
      obtain ⟨k', t, e, g1, g2, g3⟩ := J_zero (lo := r.1 + r.2 - 1) (d.mono (by omega)) (by omega) hk hy h3
      have : J (r :: l) first k 1 = if r.1 + r.2 = first then (r.1, r.2 + k') :: t else r :: (first, k') :: t := by
        unfold J
        show joinS (joinS (r :: (first, k) :: l) (((0 : Nat) : Int) + 1)) 0 = _
        rw [joinS_succ, show ((0 : Nat) : Int) = 0 from rfl, e, joinS_zero2]
      rw [this]
      obtain ⟨q1, q2, q3, q4⟩ := g1
      simp only at q1 q2 q3 q4
      by_cases hq : r.1 + r.2 = first
      · rw [if_pos hq]
        refine ⟨⟨a, by simp only; omega, by simp only; omega, ?_⟩, fun x => ?_, ?_⟩
        · simp only
          rw [show r.1 + (r.2 + k') = first + k' by omega]
          exact q4
        · have := g2 x
          simp only [fr] at this ⊢
          constructor
          · rintro (h | h)
            · by_cases hx : x < r.1 + r.2
              · exact .inl (.inl (by omega))
              · rcases this.1 (.inl (by omega)) with h | h
                · exact .inl (.inr h)
                · exact .inr h
            · rcases this.1 (.inr h) with h | h
              · exact .inl (.inr h)
              · exact .inr h
          · rintro ((h | h) | h)
            · exact .inl (by omega)
            · rcases this.2 (.inl h) with h | h
              · exact .inl (by omega)
              · exact .inr h
            · rcases this.2 (.inr h) with h | h
              · exact .inl (by omega)
              · exact .inr h
        · rw [leftS_cons] at g3 ⊢
          rw [leftS_cons]; simp only at *; omega
      · rw [if_neg hq]
        refine ⟨⟨a, b, c, by simp only; omega, q2, q3, q4⟩, fun x => ?_, ?_⟩
        · show (_ ∨ fr ((first, k') :: t) x) ↔ (_ ∨ fr l x) ∨ _
          rw [g2, or_assoc]
        · rw [leftS_cons, g3, leftS_cons]; omega
  | p + 2, lo, l, hw, h1, hp, hy, hx => by
    cases l with
    | nil => simp at hp
    | cons r l =>
      obtain ⟨a, b, c, d⟩ := hw
      have hp' : p + 1 ≤ l.length := by simpa using hp
      have hpl : p < l.length := by omega
      have h0 := hx l[p] (by omega) (by simp)
      have hlo : r.1 + r.2 < first := by
        have hm := List.getElem_mem hpl
        have h4 : ∀ {lo : Int} {l : List Run}, WFf n lo l → ∀ s ∈ l, lo < s.1 ∧ 1 ≤ s.2 := fun {lo l} hw => by
          induction l generalizing lo with
          | nil => intro s hs; cases hs
          | cons q l ih =>
            obtain ⟨a, b, c, d⟩ := hw
            intro s hs
            rw [List.mem_cons] at hs
            rcases hs with rfl | hs
            · exact ⟨a, b⟩
            · have := ih d s hs; omega
        have := h4 d _ hm
        omega
      obtain ⟨g1, g2, g3⟩ := J_law hk h3 (p + 1) d hlo hp' (fun y e => hy y (by simpa using e)) (fun x _ e => hx x (by omega) (by simpa using e))
      rw [J_succ]
      refine ⟨⟨a, b, c, g1⟩, fun x => ?_, ?_⟩
      · show (_ ∨ fr (J l first k (p + 1)) x) ↔ (_ ∨ fr l x) ∨ _
        rw [g2, or_assoc]
      · rw [leftS_cons, g3, leftS_cons]; omega
theorem free_law {n : Int} {l l' : List Run} {first k : Int} {v : Value} (hw : WF n l) (h : FreeR l n first k v l') :
    (badF n first k ∧ v = .int .i64 1 ∧ l' = l) ∨
    (¬ badF n first k ∧ (∃ x, first ≤ x ∧ x < first + k ∧ fr l x) ∧ v = .int .i64 5 ∧ l' = l) ∨
    (¬ badF n first k ∧ (∀ x, first ≤ x → x < first + k → ¬ fr l x) ∧ v = .int .i64 0 ∧ WF n l' ∧ (∀ x, fr l' x ↔ fr l x ∨ (first ≤ x ∧ x < first + k)) ∧ leftS l' = leftS l + k) := by
  rcases h with h | ⟨hb, p, hp, hlow, hhigh, h⟩
  · exact .inl h
  · have hb' : 1 ≤ k ∧ 1 ≤ first ∧ first ≤ n - 1 ∧ k ≤ n - first := by unfold badF at hb; omega
    have hget : ∀ (j : Nat) x, l[j]? = some x → x ∈ l := fun j x e => List.mem_of_getElem? e
    have hm := WFf_mem hw (by omega)
    rcases h with ⟨ho, rfl, rfl⟩ | ⟨ho, rfl, rfl⟩
    · refine .inr (.inl ⟨hb, ?_, rfl, rfl⟩)
      rcases ho with ⟨x, h1, h2, h3⟩ | ⟨y, h2, h3⟩
      · have := hlow (p - 1) x (by omega) h2
        exact ⟨first, by omega, by omega, fr_mem.2 ⟨x, hget _ x h2, by omega, by omega⟩⟩
      · have := hhigh y h2
        have := hm y (hget _ y h2)
        exact ⟨y.1, by omega, by omega, fr_mem.2 ⟨y, hget _ y h2, by omega, by omega⟩⟩
    · have hy : ∀ y, l[p]? = some y → first + k ≤ y.1 := fun y e => Int.not_lt.1 fun h => ho (.inr ⟨y, e, h⟩)
      have hx : ∀ x, 0 < p → l[p - 1]? = some x → x.1 + x.2 ≤ first := fun x h0 e => Int.not_lt.1 fun h => ho (.inl ⟨x, h0, e, h⟩)
      obtain ⟨g1, g2, g3⟩ := J_law (by omega) (show first + k ≤ n by omega) p hw (by omega) hp hy hx
      refine .inr (.inr ⟨hb, fun z hz1 hz2 hf => ?_, rfl, g1, g2, g3⟩)
      obtain ⟨r, hr, h4, h5⟩ := fr_mem.1 hf
      obtain ⟨j, hj⟩ := List.getElem?_of_mem hr
      have order : ∀ {lo : Int} {l : List Run}, WFf n lo l → ∀ (i j : Nat) s t, l[i]? = some s → l[j]? = some t → i < j → s.1 + s.2 < t.1 := fun {lo l} hw => by
        induction l generalizing lo with
        | nil => intro i j s t hs; simp at hs
        | cons q l ih =>
          obtain ⟨a, b, c, d⟩ := hw
          intro i j s t hs ht hij
          cases j with
          | zero => omega
          | succ j =>
            have ht' : l[j]? = some t := by simpa using ht
            cases i with
            | zero =>
              have : q = s := by simpa using hs
              subst this
              have h6 : ∀ {lo : Int} {l : List Run}, WFf n lo l → ∀ s ∈ l, lo < s.1 := fun {lo l} hw => by
                induction l generalizing lo with
                | nil => intro s hs; cases hs
                | cons q l ih =>
                  obtain ⟨a, b, c, d⟩ := hw
                  intro s hs
                  rw [List.mem_cons] at hs
                  rcases hs with rfl | hs
                  · exact a
                  · have := ih d s hs; omega
              exact h6 d t (List.mem_of_getElem? ht')
            | succ i => exact ih d i j s t (by simpa using hs) ht' (by omega)
      by_cases hjp : j < p
      · have h7 := hlow j r hjp hj
        obtain ⟨x, hxx⟩ : ∃ x, l[p - 1]? = some x := ⟨_, List.getElem?_eq_getElem (by omega)⟩
        have := hx x (by omega) hxx
        by_cases hjp' : j = p - 1
        · subst hjp'; rw [hj] at hxx; cases hxx; omega
        · have := order hw j (p - 1) r x hj hxx (by omega)
          have := hm x (hget _ x hxx)
          omega
      · by_cases hjp' : j = p
        · subst hjp'; have := hy r hj; omega
        · have hlt := (List.getElem?_eq_some_iff.1 hj).1
          obtain ⟨y, hyy⟩ : ∃ y, l[p]? = some y := ⟨_, List.getElem?_eq_getElem (by omega)⟩
          have := hy y hyy
          have := order hw p j y r hyy hj (by omega)
          have := hm y (hget _ y hyy)
          omega
theorem new_wf (n : Int) : WF (newN n) (newL n) ∧ (∀ x, fr (newL n) x ↔ 1 ≤ x ∧ x < newN n) ∧ leftS (newL n) = newN n - 1 := by
  unfold newL
  have : 1 ≤ newN n := by unfold newN; omega
  split
  · rename_i h
    refine ⟨⟨by simp only; omega, by simp only; omega, by simp only; omega, trivial⟩, fun x => ?_, by simp [leftS]⟩
    simp only [fr, or_false]
    omega
  · rename_i h
    refine ⟨trivial, fun x => ⟨fun h => h.elim, fun h => by omega⟩, ?_⟩
    simp only [leftS, List.map_nil, List.sum_nil]; omega
end Go.Proofs
