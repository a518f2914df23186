/-
  The conditions of some functions, as the printer wrote them out of the dump; the kernel checks that each is the function's own.
-/
import Derived.Test.YtdcoflglkfbpcaaVwD4
import Derived.Test.YtdcoflglkfbpcaaProg
set_option linter.unusedVariables false
set_option linter.unusedSimpArgs false
set_option maxRecDepth 100000
namespace Go.Proofs
open Go.Sl
/- 43: slices.Values[[]int,int]; slots: 0 s, 1 s -/
def x43 : Ann := (.seq (.reg [] [(0, []), (1, [])]) (.seq (.reg [] [(0, []), (1, [])]) .leaf))
def D43 (a0 : Value) (K : Value → Hp → Prop) (h : Hp) : Prop :=
  vA (some (Obj.cells (Value.cells a0) 22 (0, 0), ptrV)) (fun v1 h1 =>
  vP (some (Value.func (.func 69) #[] #[v1])) fun v3 =>
  K v3 h1) h
theorem D43_eq (a0 : Value) (K : Value → Hp → Prop) (h : Hp) : fnVC Try.prog Try.f43 x43 [a0] K h = D43 a0 K h := by kernel_rfl
theorem D43_ok : fnOk Try.prog Try.f43 x43 1 = true := by kernel_rfl
theorem C43 {a0 : Value} {K : Value → Hp → Prop} {h : Hp} (hh : D43 a0 K h) : CallH Try.prog 43 #[a0] K h :=
  callH_of mixed Try.func43 x43 [a0] D43_ok (D43_eq a0 K h ▸ hh)

/- 67: slices.Collect[int]; slots: 0 seq, 1 seq -/
def x67 : Ann := (.seq (.reg [] [(0, [])]) (.seq (.reg [] [(0, []), (1, []), (2, [])]) .leaf))
def D67 (a0 : Value) (K : Value → Hp → Prop) (h : Hp) : Prop :=
  CallH Try.prog 83 #[(Value.slice none 0 0), a0] (fun v4 h1 =>
  K v4 h1) h
theorem D67_eq (a0 : Value) (K : Value → Hp → Prop) (h : Hp) : fnVC Try.prog Try.f67 x67 [a0] K h = D67 a0 K h := by kernel_rfl
theorem D67_ok : fnOk Try.prog Try.f67 x67 1 = true := by kernel_rfl
theorem C67 {a0 : Value} {K : Value → Hp → Prop} {h : Hp} (hh : D67 a0 K h) : CallH Try.prog 67 #[a0] K h :=
  callH_of mixed Try.func67 x67 [a0] D67_ok (D67_eq a0 K h ▸ hh)

/- 42: slices.Sorted[int]; slots: 0 seq, 1 seq, 3 s -/
def x42 : Ann := (.seq (.reg [] [(0, [])]) (.seq (.reg [] [(0, []), (1, []), (2, [])]) (.seq (.reg [] [(0, []), (1, [])]) (.seq (.reg [] [(0, []), (1, [])]) .leaf))))
def D42 (a0 : Value) (K : Value → Hp → Prop) (h : Hp) : Prop :=
  CallH Try.prog 67 #[a0] (fun v5 h1 =>
  CallH Try.prog 68 #[v5] (fun v7 h2 =>
  K v5 h2) h1) h
theorem D42_eq (a0 : Value) (K : Value → Hp → Prop) (h : Hp) : fnVC Try.prog Try.f42 x42 [a0] K h = D42 a0 K h := by kernel_rfl
theorem D42_ok : fnOk Try.prog Try.f42 x42 1 = true := by kernel_rfl
theorem C42 {a0 : Value} {K : Value → Hp → Prop} {h : Hp} (hh : D42 a0 K h) : CallH Try.prog 42 #[a0] K h :=
  callH_of mixed Try.func42 x42 [a0] D42_ok (D42_eq a0 K h ▸ hh)

/- 15: treadmill/view.Path; slots: 0 v, 1 addr, 2 v, 3 addr, 5 at, 6 from, 7 level, 8 there, 9 _, 10 a, 11 _, 12 ok, 13 next, 14 _, 15 a, 16 _, 17 b, 18 _, 19 old, 20 _, 21 ok, 22 out, 23 a, 24 ok -/
def x15 : Ann := (.seq (.reg [] [(0, []), (1, [])]) (.blk (.seq (.reg [] [(0, []), (1, []), (2, [])]) (.seq (.reg [] [(0, []), (1, [])]) (.seq (.reg [] [(0, []), (1, []), (2, []), (3, []), (4, [])]) (.seq .leaf (.join [7] [32, 33, 34, 8, 35, 36, 37, 38, 39, 40, 10, 42, 43, 44, 41, 45, 46, 11, 12, 47, 48, 49, 50, 51, 52, 53, 54, 55, 13, 56, 57, 58, 59, 60, 61, 15, 62, 63, 64, 65, 66, 67, 68, 69, 70, 71, 72, 73, 74, 75, 76, 17, 78, 79, 80, 77, 81, 82, 18, 19, 83, 84, 85, 86, 87, 88, 89, 90, 91, 92, 93, 94, 95, 96, 97, 98, 99, 100, 101, 102, 103, 104, 105, 7] (.blk (.loop [7] [32, 33, 34, 8, 35, 36, 37, 38, 39, 40, 10, 42, 43, 44, 41, 45, 46, 11, 12, 47, 48, 49, 50, 51, 52, 53, 54, 55, 13, 56, 57, 58, 59, 60, 61, 15, 62, 63, 64, 65, 66, 67, 68, 69, 70, 71, 72, 73, 74, 75, 76, 17, 78, 79, 80, 77, 81, 82, 18, 19, 83, 84, 85, 86, 87, 88, 89, 90, 91, 92, 93, 94, 95, 96, 97, 98, 99, 100, 101, 102, 103, 104, 105, 7] (.seq (.seq (.reg [] [(0, []), (1, []), (2, [])]) (.cond .leaf .leaf)) (.blk (.seq (.reg [] [(0, [])]) (.seq (.seq (.reg [] [(0, []), (1, []), (2, [])]) (.blk (.loop [37, 8] [38, 39, 40, 10, 42, 43, 44, 41, 45, 46, 11, 12, 47, 48, 49, 50, 51, 8, 52, 53, 54, 55, 37] (.seq (.reg [] [(0, [])]) (.seq (.cond .leaf .leaf) (.seq (.blk (.seq (.reg [] [(0, []), (1, []), (2, [])]) (.join [8] [42, 43, 44, 41, 45, 46, 11, 12, 47, 48, 49, 50, 51, 8] (.seq (.reg [] [(0, []), (1, []), (2, []), (3, []), (4, []), (5, []), (6, []), (7, [])]) (.seq (.reg [] [(0, [])]) (.cond (.reg [] [(0, []), (1, []), (2, []), (3, []), (4, [])]) .leaf))) (.seq (.reg [] [(0, []), (1, []), (2, [])]) (.cond .leaf .leaf))))) (.reg [] [(0, []), (1, [])]))))))) (.seq (.reg [] [(0, [])]) (.seq (.seq (.reg [] [(0, []), (1, []), (2, [])]) (.blk (.loop [13, 58] [59, 60, 61, 15, 62, 63, 64, 65, 66, 67, 68, 69, 70, 71, 72, 73, 74, 75, 76, 17, 78, 79, 80, 77, 81, 82, 18, 19, 83, 84, 85, 86, 87, 88, 89, 90, 91, 92, 93, 94, 95, 96, 97, 98, 99, 100, 101, 102, 13, 103, 104, 58] (.seq (.reg [] [(0, [])]) (.seq (.cond .leaf .leaf) (.seq (.blk (.seq (.reg [] [(0, []), (1, []), (2, [])]) (.seq (.reg [] [(0, []), (1, []), (2, []), (3, []), (4, []), (5, []), (6, []), (7, []), (8, []), (9, []), (10, []), (11, [])]) (.blk (.loop [73, 13] [74, 75, 76, 17, 78, 79, 80, 77, 81, 82, 18, 19, 83, 84, 85, 86, 87, 88, 89, 90, 91, 92, 93, 94, 95, 96, 97, 98, 99, 100, 101, 102, 13, 103, 73] (.seq (.reg [] [(0, [])]) (.seq (.cond .leaf .leaf) (.join [13] [75, 76, 17, 78, 79, 80, 77, 81, 82, 18, 19, 83, 84, 85, 86, 87, 88, 89, 90, 91, 92, 93, 94, 95, 96, 97, 98, 99, 100, 101, 102, 13] (.blk (.seq (.reg [] [(0, []), (1, []), (2, [])]) (.seq (.reg [] [(0, []), (1, []), (2, []), (3, []), (4, []), (5, []), (6, []), (7, [])]) (.seq (.reg [] [(0, []), (1, []), (2, []), (3, []), (4, []), (5, []), (6, []), (7, []), (8, []), (9, []), (10, []), (11, []), (12, [])]) (.cond (.seq (.reg [] [(0, []), (1, []), (2, []), (3, [])]) (.reg [] [(0, []), (1, []), (2, []), (3, []), (4, [])])) .leaf))))) (.reg [] [(0, []), (1, [])]))))))))) (.reg [] [(0, []), (1, [])]))))))) (.reg [] [(0, []), (1, [])]))))))))) (.seq (.seq (.reg [] [(0, []), (1, []), (2, []), (3, []), (4, []), (5, []), (6, []), (7, [])]) (.seq (.reg [] [(0, []), (1, []), (2, []), (3, []), (4, []), (5, []), (6, [])]) (.cond (.seq (.reg [] [(0, [])]) .leaf) .leaf))) (.seq (.reg [] [(0, []), (1, []), (2, [])]) (.seq (.seq (.reg [] [(0, []), (1, []), (2, []), (3, []), (4, []), (5, []), (6, []), (7, [])]) (.blk (.loop [23, 22, 24] [127, 134, 135, 136, 137, 22, 129, 130, 131, 128, 132, 133, 23, 24] (.seq (.seq (.reg [] [(0, [])]) (.cond .leaf .leaf)) (.seq (.blk (.reg [] [(0, []), (1, []), (2, []), (3, []), (4, [])])) (.reg [] [(0, []), (1, []), (2, []), (3, []), (4, []), (5, []), (6, []), (7, [])])))))) (.seq (.reg [] [(0, []), (1, [])]) .leaf)))))))))))
def D15 (a0 a1 : Value) (K : Value → Hp → Prop) (h : Hp) : Prop :=
  vA (some (Obj.cells (Value.cells a0) 26 (0, 0), ptrV)) (fun v2 h1 =>
  vP (ldN 9 v2 h1) fun v25 =>
  CallH Try.prog 41 #[v25] (fun v26 h2 =>
  vA (some (Obj.map #[] 0, fun r => Value.map (some r))) (fun v27 h3 =>
  vP (ldN 9 v2 h3) fun v28 =>
  CallH Try.prog 19 #[v28] (fun v29 h4 =>
  CallH Try.prog 43 #[v29] (fun v30 h5 =>
  CallH Try.prog 42 #[v30] (fun v31 h6 =>
  ∀ J1 : List Value → Hp → Prop, (∀ v7 : Value, ∀ h7 : Hp, (∀ g1 : St,
    vP (lkV Try.prog 51 v26 a1 true h7) fun v109 =>
    vP (exV v109 0) fun v110 =>
    vP (exV v109 1) fun v111 =>
    vP (unV .not v111) fun v113 =>
    vP (gdW (gB v113 false) (some v7)) fun v115 =>
    vP (gdW (gB v113 false) (lenV v115)) fun v116 =>
    vP (gdW (gB v113 false) (eqV 1 false v116 (Value.int .i64 0))) fun v117 =>
    vP (pickV v113 (Value.bool true) v117) fun v118 =>
    vB v118 (K (Value.slice none 0 0) h7)
    (vA ((bldV #[(Value.int .i64 0)] [(0, 1, a1)]).map fun c => (Obj.cells c 3 (0, 0), fun r => Value.slice (some ⟨r, 0, none⟩) 1 1)) (fun v120 h8 =>
    vP (lkV Try.prog 51 v27 a1 true h8) fun v124 =>
    vP (exV v124 0) fun v125 =>
    vP (exV v124 1) fun v126 =>
    ∃ I2 : Nat → List Value → Hp → Prop, (∃ n, I2 n [v125, v120, v126] h8) ∧
    ∀ n2 : Nat, ∀ v23 v22 v24 : Value, ∀ h9 : Hp, I2 n2 [v23, v22, v24] h9 → ∀ g2 : St,
      vB v24 (vA ((bldV #[(Value.int .i64 0)] [(0, 1, v23)]).map fun c => (Obj.cells c 3 (0, 0), fun r => Value.slice (some ⟨r, 0, none⟩) 1 1)) (fun v135 h10 =>
        apW Try.prog #[22, 22] 22 v135 v22 (fun v137 h11 =>
        vP (lkV Try.prog 51 v27 v23 true h11) fun v131 =>
        vP (exV v131 0) fun v132 =>
        vP (exV v131 1) fun v133 =>
        ∃ m2, m2 < n2 ∧ I2 m2 [v132, v137, v133] h11) h10) h9)
      (K v22 h9)) h7)) → J1 [v7] h7) →
  ∃ I3 : Nat → List Value → Hp → Prop, (∃ n, I3 n [v31] h6) ∧
  ∀ n3 : Nat, ∀ v7_1 : Value, ∀ h12 : Hp, I3 n3 [v7_1] h12 → ∀ g3 : St,
    vP (lenV v7_1) fun v33 =>
    vP (binV .gtr v33 (Value.int .i64 0)) fun v34 =>
    vB v34 (vP (lenV v7_1) fun v36 =>
      ∃ I4 : Nat → List Value → Hp → Prop, (∃ n, I4 n [(Value.int .i64 0), (Value.slice none 0 0)] h12) ∧
      ∀ n4 : Nat, ∀ v37 v8 : Value, ∀ h13 : Hp, I4 n4 [v37, v8] h13 → ∀ g4 : St,
        vP (binV .lss v37 v36) fun v38 =>
        vB v38 (vP (iaS 1 v7_1 v37) fun v39 =>
          vP (ld1 v39 h13) fun v40 =>
          ∀ J5 : List Value → Hp → Prop, (∀ v8_1 : Value, ∀ h14 : Hp, (∀ g5 : St,
            vP (eqV 1 false v40 a1) fun v54 =>
            vB v54 (J1 [v7_1] h14)
            (vP (binV .add v37 (Value.int .i64 1)) fun v55 =>
            ∃ m4, m4 < n4 ∧ I4 m4 [v55, v8_1] h14)) → J5 [v8_1] h14) →
          vP (lkV Try.prog 51 v26 v40 true h13) fun v44 =>
          vP (exV v44 0) fun v45 =>
          vP (exV v44 1) fun v46 =>
          vB v46 (vA ((bldV #[(Value.int .i64 0)] [(0, 1, v40)]).map fun c => (Obj.cells c 3 (0, 0), fun r => Value.slice (some ⟨r, 0, none⟩) 1 1)) (fun v50 h15 =>
            apW Try.prog #[22, 22] 22 v8 v50 (fun v51 h16 =>
            J5 [v51] h16) h15) h13)
          (J5 [v8] h13))
        (vP (lenV v8) fun v57 =>
        ∃ I6 : Nat → List Value → Hp → Prop, (∃ n, I6 n [(Value.slice none 0 0), (Value.int .i64 0)] h13) ∧
        ∀ n6 : Nat, ∀ v13 v58 : Value, ∀ h17 : Hp, I6 n6 [v13, v58] h17 → ∀ g6 : St,
          vP (binV .lss v58 v57) fun v59 =>
          vB v59 (vP (iaS 1 v8 v58) fun v60 =>
            vP (ld1 v60 h17) fun v61 =>
            vP (faV 5 v2) fun v62 =>
            vP (ld1 v62 h17) fun v63 =>
            vP (lkV Try.prog 51 v26 v61 false h17) fun v66 =>
            vP (iaS 3 v63 v66) fun v67 =>
            vP (faV 1 v67) fun v68 =>
            vP (ld1 v68 h17) fun v69 =>
            CallH Try.prog 43 #[v69] (fun v70 h18 =>
            CallH Try.prog 42 #[v70] (fun v71 h19 =>
            vP (lenV v71) fun v72 =>
            ∃ I7 : Nat → List Value → Hp → Prop, (∃ n, I7 n [(Value.int .i64 0), v13] h19) ∧
            ∀ n7 : Nat, ∀ v73 v13_1 : Value, ∀ h20 : Hp, I7 n7 [v73, v13_1] h20 → ∀ g7 : St,
              vP (binV .lss v73 v72) fun v74 =>
              vB v74 (∀ J8 : List Value → Hp → Prop, (∀ v13_2 : Value, ∀ h21 : Hp, (∀ g8 : St,
                  vP (binV .add v73 (Value.int .i64 1)) fun v103 =>
                  ∃ m7, m7 < n7 ∧ I7 m7 [v103, v13_2] h21) → J8 [v13_2] h21) →
                vP (iaS 1 v71 v73) fun v75 =>
                vP (ld1 v75 h20) fun v76 =>
                vP (lkV Try.prog 51 v27 v76 true h20) fun v80 =>
                vP (exV v80 0) fun v81 =>
                vP (exV v80 1) fun v82 =>
                vP (eqV 1 true v76 (Value.int .i64 0)) fun v84 =>
                vP (gdW (gB v84 true) (some v82)) fun v86 =>
                vP (gdW (gB v84 true) (unV .not v86)) fun v87 =>
                vP (pickV v84 v87 (Value.bool false)) fun v88 =>
                vP (gdW (gB v88 true) (ldN 9 v2 h20)) fun v90 =>
                vE (gB v88 true) (CallH Try.prog 19 #[v90]) (fun v91 h22 =>
                vP (gdW (gB v88 true) (some v76)) fun v92 =>
                vE (gB v88 true) (CallH Try.prog 44 #[v91, v92]) (fun v93 h23 =>
                vP (gdW (gB v88 true) (unV .not v93)) fun v94 =>
                vP (pickV v88 v94 (Value.bool false)) fun v95 =>
                vB v95 (muW Try.prog 51 v27 v76 v61 (fun _ h24 =>
                  vA ((bldV #[(Value.int .i64 0)] [(0, 1, v76)]).map fun c => (Obj.cells c 3 (0, 0), fun r => Value.slice (some ⟨r, 0, none⟩) 1 1)) (fun v101 h25 =>
                  apW Try.prog #[22, 22] 22 v13_1 v101 (fun v102 h26 =>
                  J8 [v102] h26) h25) h24) h23)
                (J8 [v13_1] h23)) h22) h20)
              (vP (binV .add v58 (Value.int .i64 1)) fun v104 =>
              ∃ m6, m6 < n6 ∧ I6 m6 [v13_1, v104] h20)) h18) h17)
          (∃ m3, m3 < n3 ∧ I3 m3 [v13] h17)))
    (J1 [v7_1] h12)) h5) h4) h3) h2) h1) h
theorem D15_eq (a0 a1 : Value) (K : Value → Hp → Prop) (h : Hp) : fnVC Try.prog Try.f15 x15 [a0, a1] K h = D15 a0 a1 K h := by kernel_rfl
theorem D15_ok : fnOk Try.prog Try.f15 x15 2 = true := by kernel_rfl
theorem C15 {a0 a1 : Value} {K : Value → Hp → Prop} {h : Hp} (hh : D15 a0 a1 K h) : CallH Try.prog 15 #[a0, a1] K h :=
  callH_of mixed Try.func15 x15 [a0, a1] D15_ok (D15_eq a0 a1 K h ▸ hh)

/- 45: treadmill/treadmillref29.names; slots: 0 l, 1 x, 2 l, 3 x -/
def x45 : Ann := (.seq (.reg [] [(0, [])]) (.seq (.reg [] [(0, []), (1, []), (2, []), (3, [])]) .leaf))
def D45 (a0 a1 : Value) (K : Value → Hp → Prop) (h : Hp) : Prop :=
  CallH Try.prog 21 #[a0, a1] (fun v7 h1 =>
  K v7 h1) h
theorem D45_eq (a0 a1 : Value) (K : Value → Hp → Prop) (h : Hp) : fnVC Try.prog Try.f45 x45 [a0, a1] K h = D45 a0 a1 K h := by kernel_rfl
theorem D45_ok : fnOk Try.prog Try.f45 x45 2 = true := by kernel_rfl
theorem C45 {a0 a1 : Value} {K : Value → Hp → Prop} {h : Hp} (hh : D45 a0 a1 K h) : CallH Try.prog 45 #[a0, a1] K h :=
  callH_of mixed Try.func45 x45 [a0, a1] D45_ok (D45_eq a0 a1 K h ▸ hh)

/- 16: treadmill/treadmillref29.Path; slots: 0 v, 1 addr, 2 v, 3 addr, 5 reach, 6 far, 7 d, 8 i, 9 x, 10 s, 11 k, 12 roots, 13 best, 14 i, 15 x, 16 out, 17 s, 18 next, 19 k -/
def x16 : Ann := (.seq (.reg [] [(0, []), (1, [])]) (.seq (.seq (.reg [] [(0, []), (1, []), (2, []), (3, []), (4, []), (5, []), (6, []), (7, []), (8, []), (9, []), (10, []), (11, []), (12, []), (13, []), (14, [])]) (.cond (.seq (.reg [] [(0, [])]) .leaf) .leaf)) (.seq (.reg [] [(0, []), (1, []), (2, [])]) (.seq (.reg [] [(0, []), (1, []), (2, []), (3, []), (4, [])]) (.seq (.seq (.reg [] [(0, [])]) (.blk (.loop [7] [40, 41, 42, 43, 8, 46, 47, 48, 49, 52, 53, 54, 55, 9, 56, 57, 58, 59, 60, 61, 62, 63, 64, 65, 66, 67, 10, 11, 68, 69, 70, 71, 74, 75, 76, 77, 78, 79, 80, 81, 82, 83, 84, 85, 86, 87, 88, 89, 90, 91, 92, 93, 72, 73, 50, 51, 44, 45, 7] (.seq (.seq (.reg [] [(0, []), (1, []), (2, []), (3, [])]) (.cond .leaf .leaf)) (.seq (.blk (.seq (.reg [] [(0, [])]) (.blk (.loop [8] [46, 47, 48, 49, 52, 53, 54, 55, 9, 56, 57, 58, 59, 60, 61, 62, 63, 64, 65, 66, 67, 10, 11, 68, 69, 70, 71, 74, 75, 76, 77, 78, 79, 80, 81, 82, 83, 84, 85, 86, 87, 88, 89, 90, 91, 92, 93, 72, 73, 50, 51, 8] (.seq (.seq (.reg [] [(0, []), (1, []), (2, []), (3, [])]) (.cond .leaf .leaf)) (.join [] [52, 53, 54, 55, 9, 56, 57, 58, 59, 60, 61, 62, 63, 64, 65, 66, 67, 10, 11, 68, 69, 70, 71, 74, 75, 76, 77, 78, 79, 80, 81, 82, 83, 84, 85, 86, 87, 88, 89, 90, 91, 92, 93, 72, 73] (.blk (.seq (.reg [] [(0, []), (1, []), (2, []), (3, []), (4, [])]) (.seq (.seq (.reg [] [(0, []), (1, []), (2, []), (3, [])]) (.cond .leaf .leaf)) (.seq (.reg [0, 1, 0, 0, 12, 31, 63, 127, 255] [(0, []), (3, []), (1, []), (2, []), (4, [1]), (5, []), (6, []), (7, []), (8, [])]) (.seq (.reg [] [(0, [])]) (.blk (.loop [11] [68, 69, 70, 71, 74, 75, 76, 77, 78, 79, 80, 81, 82, 83, 84, 85, 86, 87, 88, 89, 90, 91, 92, 93, 72, 73, 11] (.seq (.seq (.reg [] [(0, []), (1, []), (2, []), (3, [])]) (.cond .leaf .leaf)) (.join [] [74, 75, 76, 77, 78, 79, 80, 81, 82, 83, 84, 85, 86, 87, 88, 89, 90, 91, 92, 93] (.blk (.seq (.reg [] [(0, []), (1, []), (2, []), (3, []), (4, []), (5, []), (6, []), (7, []), (8, []), (9, []), (10, []), (11, []), (12, []), (13, []), (14, []), (15, [])]) (.cond (.reg [] [(0, []), (1, []), (2, []), (3, []), (4, [])]) .leaf))) (.reg [] [(0, []), (1, []), (2, [])])))))))))) (.reg [] [(0, []), (1, []), (2, [])]))))))) (.reg [] [(0, []), (1, []), (2, [])])))))) (.seq (.reg [] [(0, []), (1, []), (2, [])]) (.seq (.reg [] [(0, [])]) (.seq (.seq (.reg [] [(0, [])]) (.blk (.loop [14, 13] [96, 97, 98, 99, 102, 103, 104, 105, 15, 106, 107, 108, 109, 110, 111, 112, 113, 114, 115, 116, 117, 118, 119, 120, 121, 122, 123, 124, 125, 126, 127, 128, 13, 100, 101, 14] (.seq (.seq (.reg [] [(0, []), (1, []), (2, []), (3, [])]) (.cond .leaf .leaf)) (.join [13] [102, 103, 104, 105, 15, 106, 107, 108, 109, 110, 111, 112, 113, 114, 115, 116, 117, 118, 119, 120, 121, 122, 123, 124, 125, 126, 127, 128, 13] (.blk (.seq (.reg [] [(0, []), (1, []), (2, []), (3, []), (4, [])]) (.seq (.reg [] [(0, []), (1, []), (2, []), (3, []), (4, []), (5, []), (6, []), (7, []), (8, []), (9, []), (10, []), (11, []), (12, []), (13, []), (14, []), (15, []), (16, []), (17, []), (18, []), (19, []), (20, []), (21, [])]) (.cond (.reg [] [(0, []), (1, [])]) .leaf)))) (.reg [] [(0, []), (1, []), (2, [])])))))) (.seq (.reg [] [(0, []), (1, []), (2, [])]) (.seq (.blk (.loop [13, 16] [131, 132, 133, 134, 135, 136, 137, 138, 139, 140, 141, 17, 18, 19, 142, 143, 144, 145, 148, 149, 150, 151, 152, 153, 154, 155, 156, 157, 158, 159, 160, 161, 162, 163, 164, 165, 166, 167, 168, 169, 170, 171, 172, 173, 174, 175, 176, 177, 178, 179, 180, 181, 146, 147, 182, 183, 184, 185, 16, 186, 13] (.seq (.seq (.reg [] [(0, []), (1, []), (2, [])]) (.cond .leaf .leaf)) (.blk (.seq (.reg [0, 1, 0, 0, 12, 31, 63, 127, 255] [(0, []), (3, []), (1, []), (2, []), (4, [1]), (5, []), (6, []), (7, []), (8, [])]) (.seq (.reg [] [(0, [])]) (.seq (.seq (.reg [] [(0, [])]) (.blk (.loop [19, 18] [142, 143, 144, 145, 148, 149, 150, 151, 152, 153, 154, 155, 156, 157, 158, 159, 160, 161, 162, 163, 164, 165, 166, 167, 168, 169, 170, 171, 172, 173, 174, 175, 176, 177, 178, 179, 180, 181, 18, 146, 147, 19] (.seq (.seq (.reg [] [(0, []), (1, []), (2, []), (3, [])]) (.cond .leaf .leaf)) (.join [18] [148, 149, 150, 151, 152, 153, 154, 155, 156, 157, 158, 159, 160, 161, 162, 163, 164, 165, 166, 167, 168, 169, 170, 171, 172, 173, 174, 175, 176, 177, 178, 179, 180, 181, 18] (.blk (.seq (.reg [0, 0, 3, 7, 15, 31, 63, 63, 63, 447, 959, 2047, 63, 63, 12351, 28735, 65535, 131071, 262143, 524287, 1048575, 2097151, 4194303, 4194303, 16777215, 33554431, 4194303, 134217727, 268435455, 536870911] [(0, []), (1, []), (2, []), (3, []), (4, []), (5, []), (6, []), (7, []), (8, []), (9, []), (12, []), (13, []), (10, []), (11, []), (14, []), (15, []), (16, []), (17, []), (18, []), (19, []), (20, []), (21, []), (22, []), (23, []), (24, []), (26, []), (25, []), (27, []), (28, []), (29, [])]) (.cond (.reg [] [(0, []), (1, []), (2, []), (3, []), (4, [])]) .leaf))) (.reg [] [(0, []), (1, []), (2, [])])))))) (.seq (.reg [] [(0, []), (1, []), (2, []), (3, []), (4, [])]) (.reg [] [(0, []), (1, [])]))))))))) (.seq (.reg [] [(0, []), (1, [])]) .leaf)))))))))))
def D16 (a0 a1 : Value) (K : Value → Hp → Prop) (h : Hp) : Prop :=
  vA (some (Obj.cells (Value.cells a0) 26 (0, 0), ptrV)) (fun v2 h1 =>
  vP (eqV 1 false a1 (Value.int .i64 0)) fun v21 =>
  vP (gdW (gB v21 false) (ldN 9 v2 h1)) fun v23 =>
  vP (gdW (gB v21 false) (some a1)) fun v24 =>
  vE (gB v21 false) (CallH Try.prog 33 #[v23, v24]) (fun v25 h2 =>
  vP (gdW (gB v21 false) (binV .lss v25 (Value.int .i64 0))) fun v26 =>
  vP (pickV v21 (Value.bool true) v26) fun v27 =>
  vP (gdW (gB v27 false) (ldN 9 v2 h2)) fun v29 =>
  vE (gB v27 false) (CallH Try.prog 35 #[v29]) (fun v30 h3 =>
  vP (gdW (gB v27 false) (some a1)) fun v31 =>
  vE (gB v27 false) (CallH Try.prog 21 #[v30, v31]) (fun v32 h4 =>
  vP (gdW (gB v27 false) (unV .not v32)) fun v33 =>
  vP (pickV v27 (Value.bool true) v33) fun v34 =>
  vB v34 (K (Value.slice none 0 0) h4)
  (vP (ldN 9 v2 h4) fun v35 =>
  CallH Try.prog 35 #[v35] (fun v36 h5 =>
  vA (some (Obj.map #[] 0, fun r => Value.map (some r))) (fun v37 h6 =>
  muW Try.prog 51 v37 a1 (Value.int .i64 1) (fun _ h7 =>
  ∃ I1 : Nat → List Value → Hp → Prop, (∃ n, I1 n [(Value.int .i64 1)] h7) ∧
  ∀ n1 : Nat, ∀ v7 : Value, ∀ h8 : Hp, I1 n1 [v7] h8 → ∀ g1 : St,
    vP (lenV v36) fun v42 =>
    vP (binV .leq v7 v42) fun v43 =>
    vB v43 (∃ I2 : Nat → List Value → Hp → Prop, (∃ n, I2 n [(Value.int .i64 0)] h8) ∧
      ∀ n2 : Nat, ∀ v8 : Value, ∀ h9 : Hp, I2 n2 [v8] h9 → ∀ g2 : St,
        vP (lenV v36) fun v48 =>
        vP (binV .lss v8 v48) fun v49 =>
        vB v49 (∀ J3 : List Value → Hp → Prop, (∀ h10 : Hp, (∀ g3 : St,
            vP (binV .add v8 (Value.int .i64 1)) fun v51 =>
            ∃ m2, m2 < n2 ∧ I2 m2 [v51] h10) → J3 [] h10) →
          vP (iaS 1 v36 v8) fun v54 =>
          vP (ld1 v54 h9) fun v55 =>
          vP (lkV Try.prog 51 v37 v55 false h9) fun v58 =>
          vP (eqV 1 true v58 (Value.int .i64 0)) fun v59 =>
          vB v59 (J3 [] h9)
          (vP (faV 5 v2) fun v60 =>
          vP (ld1 v60 h9) fun v61 =>
          vP (ldN 9 v2 h9) fun v62 =>
          CallH Try.prog 33 #[v62, v55] (fun v64 h11 =>
          (ld1 v60 h11) = some v61 ∧ (vP (iaS 3 v61 v64) fun v65 =>
          vP (faV 1 v65) fun v66 =>
          vP (ld1 v66 h11) fun v67 =>
          ∃ I4 : Nat → List Value → Hp → Prop, (∃ n, I4 n [(Value.int .i64 0)] h11) ∧
          ∀ n4 : Nat, ∀ v11 : Value, ∀ h12 : Hp, I4 n4 [v11] h12 → ∀ g4 : St,
            vP (lenV v67) fun v70 =>
            vP (binV .lss v11 v70) fun v71 =>
            vB v71 (∀ J5 : List Value → Hp → Prop, (∀ h13 : Hp, (∀ g5 : St,
                vP (binV .add v11 (Value.int .i64 1)) fun v73 =>
                ∃ m4, m4 < n4 ∧ I4 m4 [v73] h13) → J5 [] h13) →
              vP (iaS 1 v67 v11) fun v77 =>
              vP (ld1 v77 h12) fun v78 =>
              vP (lkV Try.prog 51 v37 v78 false h12) fun v79 =>
              vP (eqV 1 false v79 v7) fun v81 =>
              vP (gdW (gB v81 true) (some v36)) fun v83 =>
              vP (gdW (gB v81 true) (some v67)) fun v84 =>
              vP (gdW (gB v81 true) (some v11)) fun v85 =>
              vP (gdW (gB v81 true) (iaS 1 v84 v85)) fun v86 =>
              vP (gdW (gB v81 true) (ld1 v86 h12)) fun v87 =>
              vE (gB v81 true) (CallH Try.prog 21 #[v83, v87]) (fun v88 h14 =>
              vP (pickV v81 v88 (Value.bool false)) fun v89 =>
              vB v89 (vP (binV .add v7 (Value.int .i64 1)) fun v93 =>
                muW Try.prog 51 v37 v55 v93 (fun _ h15 =>
                J5 [] h15) h14)
              (J5 [] h14)) h12)
            (J3 [] h12))) h9))
        (vP (binV .add v7 (Value.int .i64 1)) fun v45 =>
        ∃ m1, m1 < n1 ∧ I1 m1 [v45] h9))
    (vP (ldN 9 v2 h8) fun v94 =>
    CallH Try.prog 34 #[v94] (fun v95 h16 =>
    ∃ I6 : Nat → List Value → Hp → Prop, (∃ n, I6 n [(Value.int .i64 0), (Value.int .i64 0)] h16) ∧
    ∀ n6 : Nat, ∀ v14 v13 : Value, ∀ h17 : Hp, I6 n6 [v14, v13] h17 → ∀ g6 : St,
      vP (lenV v36) fun v98 =>
      vP (binV .lss v14 v98) fun v99 =>
      vB v99 (∀ J7 : List Value → Hp → Prop, (∀ v13_1 : Value, ∀ h18 : Hp, (∀ g7 : St,
          vP (binV .add v14 (Value.int .i64 1)) fun v101 =>
          ∃ m6, m6 < n6 ∧ I6 m6 [v101, v13_1] h18) → J7 [v13_1] h18) →
        vP (iaS 1 v36 v14) fun v104 =>
        vP (ld1 v104 h17) fun v105 =>
        CallH Try.prog 45 #[v95, v105] (fun v108 h19 =>
        vP (gdW (gB v108 true) (some v37)) fun v110 =>
        vP (gdW (gB v108 true) (some v105)) fun v111 =>
        vP (gdW (gB v108 true) (lkV Try.prog 51 v110 v111 false h19)) fun v112 =>
        vP (gdW (gB v108 true) (eqV 1 true v112 (Value.int .i64 0))) fun v113 =>
        vP (pickV v108 v113 (Value.bool false)) fun v114 =>
        vP (gdW (gB v114 true) (some v13)) fun v116 =>
        vP (gdW (gB v114 true) (eqV 1 false v116 (Value.int .i64 0))) fun v117 =>
        vP (gdW (gB v114 true) (some v117)) fun v118 =>
        vP (gdW (gB v118 false) (some v37)) fun v119 =>
        vP (gdW (gB v118 false) (some v105)) fun v120 =>
        vP (gdW (gB v118 false) (lkV Try.prog 51 v119 v120 false h19)) fun v121 =>
        vP (gdW (gB v118 false) (some v37)) fun v122 =>
        vP (gdW (gB v118 false) (some v13)) fun v123 =>
        vP (gdW (gB v118 false) (lkV Try.prog 51 v122 v123 false h19)) fun v124 =>
        vP (gdW (gB v118 false) (binV .lss v121 v124)) fun v125 =>
        vP (gdW (gB v114 true) (pickV v118 (Value.bool true) v125)) fun v126 =>
        vP (pickV v114 v126 (Value.bool false)) fun v127 =>
        vB v127 (J7 [v105] h19)
        (J7 [v13] h19)) h17)
      (vA ((bldV #[(Value.int .i64 0)] [(0, 1, v13)]).map fun c => (Obj.cells c 3 (0, 0), fun r => Value.slice (some ⟨r, 0, none⟩) 1 1)) (fun v130 h20 =>
      ∃ I8 : Nat → List Value → Hp → Prop, (∃ n, I8 n [v13, v130] h20) ∧
      ∀ n8 : Nat, ∀ v13_2 v16 : Value, ∀ h21 : Hp, I8 n8 [v13_2, v16] h21 → ∀ g8 : St,
        vP (eqV 1 true v13_2 a1) fun v133 =>
        vB v133 (vP (faV 5 v2) fun v134 =>
          vP (ld1 v134 h21) fun v135 =>
          vP (ldN 9 v2 h21) fun v136 =>
          CallH Try.prog 33 #[v136, v13_2] (fun v138 h22 =>
          (ld1 v134 h22) = some v135 ∧ (vP (iaS 3 v135 v138) fun v139 =>
          vP (faV 1 v139) fun v140 =>
          vP (ld1 v140 h22) fun v141 =>
          ∃ I9 : Nat → List Value → Hp → Prop, (∃ n, I9 n [(Value.int .i64 0), (Value.int .i64 0)] h22) ∧
          ∀ n9 : Nat, ∀ v19 v18 : Value, ∀ h23 : Hp, I9 n9 [v19, v18] h23 → ∀ g9 : St,
            vP (lenV v141) fun v144 =>
            vP (binV .lss v19 v144) fun v145 =>
            vB v145 (∀ J10 : List Value → Hp → Prop, (∀ v18_1 : Value, ∀ h24 : Hp, (∀ g10 : St,
                vP (binV .add v19 (Value.int .i64 1)) fun v147 =>
                ∃ m9, m9 < n9 ∧ I9 m9 [v147, v18_1] h24) → J10 [v18_1] h24) →
              vP (iaS 1 v141 v19) fun v150 =>
              vP (ld1 v150 h23) fun v151 =>
              vP (eqV 1 true v151 (Value.int .i64 0)) fun v152 =>
              vP (gdW (gB v152 true) (some v37)) fun v154 =>
              vP (gdW (gB v152 true) (some v141)) fun v155 =>
              vP (gdW (gB v152 true) (some v19)) fun v156 =>
              vP (gdW (gB v152 true) (iaS 1 v155 v156)) fun v157 =>
              vP (gdW (gB v152 true) (some v37)) fun v160 =>
              vP (gdW (gB v152 true) (some v13_2)) fun v161 =>
              vP (gdW (gB v152 true) (ld1 v157 h23)) fun v158 =>
              vP (gdW (gB v152 true) (lkV Try.prog 51 v154 v158 false h23)) fun v159 =>
              vP (gdW (gB v152 true) (lkV Try.prog 51 v160 v161 false h23)) fun v162 =>
              vP (gdW (gB v152 true) (binV .sub v162 (Value.int .i64 1))) fun v163 =>
              vP (gdW (gB v152 true) (eqV 1 false v159 v163)) fun v164 =>
              vP (pickV v152 v164 (Value.bool false)) fun v165 =>
              vP (gdW (gB v165 true) (some v18)) fun v167 =>
              vP (gdW (gB v165 true) (eqV 1 false v167 (Value.int .i64 0))) fun v168 =>
              vP (gdW (gB v165 true) (some v168)) fun v169 =>
              vP (gdW (gB v169 false) (some v141)) fun v170 =>
              vP (gdW (gB v169 false) (some v19)) fun v171 =>
              vP (gdW (gB v169 false) (iaS 1 v170 v171)) fun v172 =>
              vP (gdW (gB v169 false) (some v18)) fun v174 =>
              vP (gdW (gB v169 false) (ld1 v172 h23)) fun v173 =>
              vP (gdW (gB v169 false) (binV .lss v173 v174)) fun v175 =>
              vP (gdW (gB v165 true) (pickV v169 (Value.bool true) v175)) fun v176 =>
              vP (pickV v165 v176 (Value.bool false)) fun v177 =>
              vB v177 (vP (iaS 1 v141 v19) fun v180 =>
                vP (ld1 v180 h23) fun v181 =>
                J10 [v181] h23)
              (J10 [v18] h23))
            (vA ((bldV #[(Value.int .i64 0)] [(0, 1, v18)]).map fun c => (Obj.cells c 3 (0, 0), fun r => Value.slice (some ⟨r, 0, none⟩) 1 1)) (fun v184 h25 =>
            apW Try.prog #[22, 22] 22 v16 v184 (fun v185 h26 =>
            ∃ m8, m8 < n8 ∧ I8 m8 [v18, v185] h26) h25) h23))) h21)
        (K v16 h21)) h17)) h8)) h6) h5) h4)) h3) h2) h1) h
theorem D16_eq (a0 a1 : Value) (K : Value → Hp → Prop) (h : Hp) : fnVC Try.prog Try.f16 x16 [a0, a1] K h = D16 a0 a1 K h := by kernel_rfl
theorem D16_ok : fnOk Try.prog Try.f16 x16 2 = true := by kernel_rfl
theorem C16 {a0 a1 : Value} {K : Value → Hp → Prop} {h : Hp} (hh : D16 a0 a1 K h) : CallH Try.prog 16 #[a0, a1] K h :=
  callH_of mixed Try.func16 x16 [a0, a1] D16_ok (D16_eq a0 a1 K h ▸ hh)

/- 12: treadmill/treadmilllaw29.own; slots: 0 v, 1 v, 3 i -/
def x12 : Ann := (.seq (.reg [] [(0, []), (1, [])]) (.seq (.seq (.reg [] [(0, [])]) (.blk (.loop [3] [4, 5, 6, 7, 8, 11, 12, 13, 14, 15, 16, 17, 18, 19, 20, 21, 22, 23, 24, 25, 26, 27, 28, 29, 2, 9, 10, 3] (.seq (.seq (.reg [] [(0, []), (1, []), (2, []), (3, []), (4, [])]) (.cond .leaf .leaf)) (.seq (.blk (.seq (.reg [0, 1, 0, 7, 15, 31, 63, 127, 255, 255, 767, 255, 3839, 7935, 16127, 32767, 255, 131071, 262143] [(0, []), (2, []), (1, []), (3, []), (4, []), (5, []), (6, []), (7, []), (9, []), (11, []), (16, []), (8, []), (10, []), (12, []), (13, []), (14, []), (15, []), (17, []), (18, [])]) (.cond (.seq (.reg [] [(0, [])]) .leaf) .leaf))) (.reg [] [(0, []), (1, []), (2, [])])))))) (.seq (.reg [] [(0, [])]) .leaf)))
def D12 (a0 : Value) (K : Value → Hp → Prop) (h : Hp) : Prop :=
  vA (some (Obj.cells (Value.cells a0) 26 (0, 0), ptrV)) (fun v1 h1 =>
  ∃ I1 : Nat → List Value → Hp → Prop, (∃ n, I1 n [(Value.int .i64 0)] h1) ∧
  ∀ n1 : Nat, ∀ v3 : Value, ∀ h2 : Hp, I1 n1 [v3] h2 → ∀ g1 : St,
    vP (faV 5 v1) fun v5 =>
    vP (ld1 v5 h2) fun v6 =>
    vP (lenV v6) fun v7 =>
    vP (binV .lss v3 v7) fun v8 =>
    vB v8 (vP (faV 5 v1) fun v11 =>
      vP (ld1 v11 h2) fun v12 =>
      vP (iaS 3 v12 v3) fun v14 =>
      vP (faV 0 v14) fun v15 =>
      vP (ld1 v15 h2) fun v16 =>
      vP (eqV 1 false v16 (Value.int .i64 0)) fun v17 =>
      vP (gdW (gB v17 false) (faV 5 v1)) fun v20 =>
      vP (gdW (gB v17 false) (some v3)) fun v22 =>
      vP (gdW (gB v17 false) (some v3)) fun v27 =>
      vP (gdW (gB v17 false) (ldN 9 v1 h2)) fun v19 =>
      vP (gdW (gB v17 false) (ld1 v20 h2)) fun v21 =>
      vP (gdW (gB v17 false) (iaS 3 v21 v22)) fun v23 =>
      vP (gdW (gB v17 false) (faV 0 v23)) fun v24 =>
      vP (gdW (gB v17 false) (ld1 v24 h2)) fun v25 =>
      vE (gB v17 false) (CallH Try.prog 33 #[v19, v25]) (fun v26 h3 =>
      vP (gdW (gB v17 false) (eqV 1 true v26 v27)) fun v28 =>
      vP (pickV v17 (Value.bool true) v28) fun v29 =>
      vB v29 (K (Value.bool false) h3)
      (vP (binV .add v3 (Value.int .i64 1)) fun v10 =>
      ∃ m1, m1 < n1 ∧ I1 m1 [v10] h3)) h2)
    (K (Value.bool true) h2)) h
theorem D12_eq (a0 : Value) (K : Value → Hp → Prop) (h : Hp) : fnVC Try.prog Try.f12 x12 [a0] K h = D12 a0 K h := by kernel_rfl
theorem D12_ok : fnOk Try.prog Try.f12 x12 1 = true := by kernel_rfl
theorem C12 {a0 : Value} {K : Value → Hp → Prop} {h : Hp} (hh : D12 a0 K h) : CallH Try.prog 12 #[a0] K h :=
  callH_of mixed Try.func12 x12 [a0] D12_ok (D12_eq a0 K h ▸ hh)

/- 13: treadmill/treadmilllaw29.told; slots: 1 v -/
def x13 : Ann := (.seq (.reg [] [(0, [])]) (.seq (.reg [] [(0, []), (1, []), (2, []), (3, []), (4, []), (5, []), (6, []), (7, []), (8, []), (9, []), (10, [])]) (.seq (.reg [] [(0, []), (1, []), (2, []), (3, []), (4, []), (5, []), (6, []), (7, []), (8, []), (9, []), (10, []), (11, []), (12, []), (13, []), (14, []), (15, []), (16, []), (17, []), (18, []), (19, []), (20, []), (21, []), (22, []), (23, []), (24, []), (25, []), (26, []), (27, []), (28, []), (29, []), (30, []), (31, []), (32, [])]) .leaf)))
def D13 (K : Value → Hp → Prop) (h : Hp) : Prop :=
  vA ((bldV #[(Value.int .i64 0)] [(0, 1, (Value.int .i64 64))]).map fun c => (Obj.cells c 3 (0, 0), fun r => Value.slice (some ⟨r, 0, none⟩) 1 1)) (fun v2 h1 =>
  vA ((bldV #[(Value.int .i64 0), (Value.int .i64 0)] [(0, 1, (Value.int .i64 128)), (1, 1, (Value.int .i64 0))]).map fun c => (Obj.cells c 3 (0, 0), fun r => Value.slice (some ⟨r, 0, none⟩) 2 2)) (fun v3 h2 =>
  vP ((bldV #[(Value.int .i64 0), (Value.slice none 0 0), (Value.bool false)] [(0, 1, (Value.int .i64 64)), (1, 1, v3)]).map Value.agg) fun v4 =>
  vA ((bldV #[(Value.int .i64 0)] [(0, 1, (Value.int .i64 256))]).map fun c => (Obj.cells c 3 (0, 0), fun r => Value.slice (some ⟨r, 0, none⟩) 1 1)) (fun v5 h3 =>
  vP ((bldV #[(Value.int .i64 0), (Value.slice none 0 0), (Value.bool false)] [(0, 1, (Value.int .i64 128)), (1, 1, v5), (2, 1, (Value.bool true))]).map Value.agg) fun v6 =>
  vA ((bldV #[(Value.int .i64 0)] [(0, 1, (Value.int .i64 0))]).map fun c => (Obj.cells c 3 (0, 0), fun r => Value.slice (some ⟨r, 0, none⟩) 1 1)) (fun v7 h4 =>
  vP ((bldV #[(Value.int .i64 0), (Value.slice none 0 0), (Value.bool false)] [(0, 1, (Value.int .i64 192)), (1, 1, v7)]).map Value.agg) fun v8 =>
  vA ((bldV #[(Value.int .i64 0), (Value.slice none 0 0), (Value.bool false), (Value.int .i64 0), (Value.slice none 0 0), (Value.bool false), (Value.int .i64 0), (Value.slice none 0 0), (Value.bool false)] [(0, 3, v4), (3, 3, v6), (6, 3, v8)]).map fun c => (Obj.cells c 30 (0, 0), fun r => Value.slice (some ⟨r, 0, none⟩) 3 3)) (fun v9 h5 =>
  vP ((bldV #[(Value.int .i64 0), (Value.int .i64 0), (Value.int .i64 0), (Value.slice none 0 0), (Value.slice none 0 0), (Value.slice none 0 0), (Value.int .i64 0), (Value.int .i64 0), (Value.int .i64 0)] [(3, 1, v2), (5, 1, v9)]).map Value.agg) fun v10 =>
  vA (some (Obj.cells #[(Value.int .i64 0), (Value.int .i64 0), (Value.int .i64 0), (Value.slice none 0 0), (Value.slice none 0 0), (Value.slice none 0 0), (Value.int .i64 0), (Value.int .i64 0), (Value.int .i64 0)] 26 (0, 0), ptrV)) (fun v1 h6 =>
  stN 9 v1 v10 (fun _ h7 =>
  vP (ldN 9 v1 h7) fun v11 =>
  CallH Try.prog 17 #[v11] (fun v12 h8 =>
  vA ((bldV #[(Value.int .i64 0), (Value.int .i64 0)] [(0, 1, (Value.int .i64 64)), (1, 1, (Value.int .i64 128))]).map fun c => (Obj.cells c 3 (0, 0), fun r => Value.slice (some ⟨r, 0, none⟩) 2 2)) (fun v13 h9 =>
  CallH Try.prog 14 #[v12, v13] (fun v14 h10 =>
  vP (gdW (gB v14 true) (ldN 9 v1 h10)) fun v16 =>
  vE (gB v14 true) (CallH Try.prog 23 #[v16]) (fun v17 h11 =>
  vE (gB v14 true) (vA ((bldV #[(Value.int .i64 0)] [(0, 1, (Value.int .i64 64))]).map fun c => (Obj.cells c 3 (0, 0), fun r => Value.slice (some ⟨r, 0, none⟩) 1 1))) (fun v18 h12 =>
  vE (gB v14 true) (CallH Try.prog 14 #[v17, v18]) (fun v19 h13 =>
  vP (pickV v14 v19 (Value.bool false)) fun v20 =>
  vP (gdW (gB v20 true) (ldN 9 v1 h13)) fun v22 =>
  vE (gB v20 true) (CallH Try.prog 18 #[v22]) (fun v23 h14 =>
  vE (gB v20 true) (vA ((bldV #[(Value.int .i64 0)] [(0, 1, (Value.int .i64 256))]).map fun c => (Obj.cells c 3 (0, 0), fun r => Value.slice (some ⟨r, 0, none⟩) 1 1))) (fun v24 h15 =>
  vE (gB v20 true) (CallH Try.prog 14 #[v23, v24]) (fun v25 h16 =>
  vP (pickV v20 v25 (Value.bool false)) fun v26 =>
  vP (gdW (gB v26 true) (ldN 9 v1 h16)) fun v28 =>
  vE (gB v26 true) (CallH Try.prog 22 #[v28, (Value.int .i64 192)]) (fun v29 h17 =>
  vP (gdW (gB v26 true) (eqV 1 false v29 (Value.int .i64 2))) fun v30 =>
  vP (pickV v26 v30 (Value.bool false)) fun v31 =>
  vP (gdW (gB v31 true) (ldN 9 v1 h17)) fun v33 =>
  vE (gB v31 true) (CallH Try.prog 25 #[v33]) (fun v34 h18 =>
  vP (gdW (gB v31 true) (eqV 1 false v34 (Value.int .i64 4))) fun v35 =>
  vP (pickV v31 v35 (Value.bool false)) fun v36 =>
  vP (gdW (gB v36 true) (ldN 9 v1 h18)) fun v38 =>
  vE (gB v36 true) (CallH Try.prog 15 #[v38, (Value.int .i64 128)]) (fun v39 h19 =>
  vE (gB v36 true) (vA ((bldV #[(Value.int .i64 0), (Value.int .i64 0)] [(0, 1, (Value.int .i64 64)), (1, 1, (Value.int .i64 128))]).map fun c => (Obj.cells c 3 (0, 0), fun r => Value.slice (some ⟨r, 0, none⟩) 2 2))) (fun v40 h20 =>
  vE (gB v36 true) (CallH Try.prog 14 #[v39, v40]) (fun v41 h21 =>
  vP (pickV v36 v41 (Value.bool false)) fun v42 =>
  K v42 h21) h20) h19) h18) h17) h16) h15) h14) h13) h12) h11) h10) h9) h8) h7) h6) h5) h4) h3) h2) h1) h
theorem D13_eq (K : Value → Hp → Prop) (h : Hp) : fnVC Try.prog Try.f13 x13 [] K h = D13  K h := by kernel_rfl
theorem D13_ok : fnOk Try.prog Try.f13 x13 0 = true := by kernel_rfl
theorem C13 {K : Value → Hp → Prop} {h : Hp} (hh : D13  K h) : CallH Try.prog 13 #[] K h :=
  callH_of mixed Try.func13 x13 [] D13_ok (D13_eq  K h ▸ hh)

/- 3: treadmill/treadmilllaw29.ViewPaths; slots: 0 v, 1 addr, 2 which, 3 v, 4 addr, 5 which, 7 n -/
def x3 : Ann := (.seq (.reg [] [(0, []), (1, [])]) (.seq (.seq (.reg [] [(0, []), (1, []), (2, []), (3, []), (4, []), (5, []), (6, []), (7, [])]) (.cond (.seq (.reg [] [(0, []), (1, [])]) .leaf) .leaf)) (.join [1] [17, 18, 19, 7, 20, 21, 22, 23, 24, 25, 26, 27, 28, 29, 30, 31, 32, 33, 34, 35, 36, 37, 1] (.seq (.reg [] [(0, []), (1, []), (2, []), (3, [])]) (.seq (.reg [] [(0, []), (1, []), (2, []), (3, []), (4, []), (5, []), (6, [])]) (.cond (.reg [0, 1, 0, 4, 0, 16, 60, 124, 255, 511, 1023, 2047] [(0, []), (2, []), (3, []), (4, []), (5, []), (6, []), (7, []), (1, []), (8, []), (9, []), (10, []), (11, [])]) .leaf))) (.seq (.reg [0, 1, 3, 3, 15, 3, 3, 127, 255, 511, 1023] [(0, []), (1, []), (3, []), (6, []), (2, []), (5, []), (4, [5]), (7, []), (8, []), (9, []), (10, [])]) .leaf))))
def D3 (a0 a1 a2 : Value) (K : Value → Hp → Prop) (h : Hp) : Prop :=
  vA (some (Obj.cells (Value.cells a0) 26 (0, 0), ptrV)) (fun v3 h1 =>
  vP (ldN 9 v3 h1) fun v8 =>
  CallH Try.prog 11 #[v8] (fun v9 h2 =>
  vP (unV .not v9) fun v10 =>
  vP (gdW (gB v10 false) (ldN 9 v3 h2)) fun v12 =>
  vE (gB v10 false) (CallH Try.prog 12 #[v12]) (fun v13 h3 =>
  vP (gdW (gB v10 false) (unV .not v13)) fun v14 =>
  vP (pickV v10 (Value.bool true) v14) fun v15 =>
  vB v15 (CallH Try.prog 13 #[] (fun v16 h4 =>
    K v16 h4) h3)
  (∀ J1 : List Value → Hp → Prop, (∀ v1 : Value, ∀ h5 : Hp, (∀ g1 : St,
    CallH Try.prog 13 #[] (fun v38 h6 =>
    vP (gdW (gB v38 true) (some v1)) fun v41 =>
    vP (gdW (gB v38 true) (some v1)) fun v44 =>
    vP (gdW (gB v38 true) (ldN 9 v3 h6)) fun v40 =>
    vP (gdW (gB v38 true) (ldN 9 v3 h6)) fun v43 =>
    vE (gB v38 true) (CallH Try.prog 15 #[v40, v41]) (fun v42 h7 =>
    gdW (gB v38 true) (ldN 9 v3 h7) = some v43 ∧ (vE (gB v38 true) (CallH Try.prog 16 #[v43, v44]) (fun v45 h8 =>
    vE (gB v38 true) (CallH Try.prog 14 #[v42, v45]) (fun v46 h9 =>
    vP (pickV v38 v46 (Value.bool false)) fun v47 =>
    K v47 h9) h8) h7)) h6) h5) → J1 [v1] h5) →
  vP (faV 5 v3) fun v17 =>
  vP (ld1 v17 h3) fun v18 =>
  vP (lenV v18) fun v19 =>
  vP (binV .gtr v19 (Value.int .i64 0)) fun v21 =>
  vP (gdW (gB v21 true) (some a2)) fun v23 =>
  vP (gdW (gB v21 true) (binV .and v23 (Value.int .i64 1))) fun v24 =>
  vP (gdW (gB v21 true) (eqV 1 false v24 (Value.int .i64 1))) fun v25 =>
  vP (pickV v21 v25 (Value.bool false)) fun v26 =>
  vB v26 (vP (faV 5 v3) fun v27 =>
    vP (convV .u64 a2) fun v30 =>
    vP (convV .u64 v19) fun v32 =>
    vP (binV .rem v30 v32) fun v33 =>
    vP (convV .i64 v33) fun v34 =>
    vP (ld1 v27 h3) fun v28 =>
    vP (iaS 3 v28 v34) fun v35 =>
    vP (faV 0 v35) fun v36 =>
    vP (ld1 v36 h3) fun v37 =>
    J1 [v37] h3)
  (J1 [a1] h3))) h2) h1) h
theorem D3_eq (a0 a1 a2 : Value) (K : Value → Hp → Prop) (h : Hp) : fnVC Try.prog Try.f3 x3 [a0, a1, a2] K h = D3 a0 a1 a2 K h := by kernel_rfl
theorem D3_ok : fnOk Try.prog Try.f3 x3 3 = true := by kernel_rfl
theorem C3 {a0 a1 a2 : Value} {K : Value → Hp → Prop} {h : Hp} (hh : D3 a0 a1 a2 K h) : CallH Try.prog 3 #[a0, a1, a2] K h :=
  callH_of mixed Try.func3 x3 [a0, a1, a2] D3_ok (D3_eq a0 a1 a2 K h ▸ hh)

/- 4: treadmill/treadmilllaw29.ViewClosed; slots: 0 v, 1 v, 3 reach, 4 lost, 5 roots, 6 ok, 7 i, 8 i, 9 k, 10 j, 11 p, 12 j, 13 at, 14 i -/
def x4 : Ann := (.seq (.reg [] [(0, []), (1, [])]) (.seq (.seq (.reg [] [(0, []), (1, []), (2, []), (3, []), (4, []), (5, []), (6, []), (7, [])]) (.cond (.seq (.reg [] [(0, []), (1, [])]) .leaf) .leaf)) (.seq (.reg [0, 1, 0, 7, 0, 31, 0, 0, 255, 511, 1023] [(0, []), (2, []), (4, []), (1, [4, 2]), (3, [4]), (5, []), (6, []), (7, []), (8, []), (9, []), (10, [])]) (.seq (.reg [] [(0, []), (1, [])]) (.seq (.seq (.reg [] [(0, [])]) (.blk (.loop [7] [31, 32, 33, 34, 37, 38, 39, 40, 41, 42, 43, 44, 45, 46, 47, 48, 49, 50, 2, 35, 36, 7] (.seq (.seq (.reg [] [(0, []), (1, []), (2, []), (3, [])]) (.cond .leaf .leaf)) (.seq (.blk (.seq (.reg [] [(0, []), (1, []), (2, []), (3, []), (4, []), (5, []), (6, []), (7, []), (8, []), (9, []), (10, []), (11, []), (12, []), (13, [])]) (.cond (.seq (.reg [] [(0, [])]) .leaf) .leaf))) (.reg [] [(0, []), (1, []), (2, [])])))))) (.seq (.seq (.reg [] [(0, [])]) (.blk (.loop [8] [51, 52, 53, 54, 57, 58, 59, 60, 61, 62, 9, 63, 64, 65, 66, 67, 68, 69, 70, 71, 72, 73, 74, 75, 76, 77, 78, 79, 80, 81, 82, 83, 84, 2, 10, 85, 86, 87, 88, 89, 90, 91, 92, 93, 96, 97, 98, 99, 100, 101, 102, 103, 104, 105, 106, 107, 94, 95, 108, 109, 110, 111, 112, 113, 11, 114, 115, 116, 117, 118, 119, 120, 121, 122, 123, 124, 125, 126, 127, 128, 129, 130, 131, 132, 133, 134, 135, 136, 137, 138, 139, 140, 141, 142, 143, 144, 12, 145, 146, 147, 148, 151, 152, 153, 154, 155, 156, 157, 13, 158, 159, 160, 161, 162, 163, 164, 165, 166, 167, 168, 169, 170, 171, 172, 173, 174, 175, 176, 177, 178, 179, 180, 149, 150, 55, 56, 8] (.seq (.seq (.reg [] [(0, []), (1, []), (2, []), (3, [])]) (.cond .leaf .leaf)) (.seq (.blk (.seq (.reg [0, 0, 0, 6, 14, 31, 63] [(2, []), (0, []), (1, []), (3, []), (4, []), (5, []), (6, [])]) (.seq (.seq (.reg [0, 1, 3, 7, 7, 23, 55, 127, 255, 511, 1023, 2047, 1023, 8191, 16383, 32767, 1023, 1023, 197631, 459775, 1048575, 2097151] [(0, []), (1, []), (2, []), (3, []), (4, []), (5, []), (6, []), (7, []), (8, []), (9, []), (10, []), (12, []), (17, []), (11, []), (13, []), (14, []), (15, []), (16, []), (18, []), (19, []), (20, []), (21, [])]) (.cond (.seq (.reg [] [(0, [])]) .leaf) .leaf)) (.seq (.seq (.reg [] [(0, [])]) (.blk (.loop [10] [85, 86, 87, 88, 89, 90, 91, 92, 93, 96, 97, 98, 99, 100, 101, 102, 103, 104, 105, 106, 107, 2, 94, 95, 10] (.seq (.seq (.reg [] [(0, []), (1, []), (2, []), (3, []), (4, []), (5, []), (6, []), (7, []), (8, [])]) (.cond .leaf .leaf)) (.seq (.blk (.seq (.reg [] [(0, []), (1, []), (2, []), (3, []), (4, []), (5, []), (6, []), (7, []), (8, []), (9, []), (10, []), (11, [])]) (.cond (.seq (.reg [] [(0, [])]) .leaf) .leaf))) (.reg [] [(0, []), (1, []), (2, [])])))))) (.seq (.reg [0, 0, 0, 6, 14, 31, 63] [(2, []), (0, []), (1, []), (3, []), (4, []), (5, []), (6, [])]) (.seq (.seq (.reg [0, 1, 3, 7, 15, 31, 15, 79, 255, 511, 1023, 2047, 2047, 6143, 14335, 32767, 65535, 2047, 2047, 395263, 919551, 2097151, 4194303, 8388607, 16777215, 16777215, 50331647, 117440511, 268435455, 536870911, 1073741823] [(0, []), (1, []), (2, []), (3, []), (4, []), (5, []), (6, []), (7, []), (8, []), (9, []), (10, []), (11, []), (12, []), (13, []), (14, []), (15, []), (18, []), (16, []), (17, []), (19, []), (20, []), (21, []), (22, []), (23, []), (24, []), (25, []), (26, []), (27, []), (28, []), (29, []), (30, [])]) (.cond (.seq (.reg [] [(0, [])]) .leaf) .leaf)) (.seq (.reg [] [(0, [])]) (.blk (.loop [12] [145, 146, 147, 148, 151, 152, 153, 154, 155, 156, 157, 13, 158, 159, 160, 161, 162, 163, 164, 165, 166, 167, 168, 169, 170, 171, 172, 173, 174, 175, 176, 177, 178, 179, 180, 2, 149, 150, 12] (.seq (.seq (.reg [] [(0, []), (1, []), (2, []), (3, [])]) (.cond .leaf .leaf)) (.seq (.blk (.seq (.reg [0, 0, 0, 4, 14, 30, 63, 127] [(1, []), (2, []), (3, []), (4, []), (0, []), (5, []), (6, []), (7, [])]) (.seq (.reg [0, 1, 3, 7, 7, 23, 55, 127, 255, 511, 1023, 2047, 1023, 8191, 16383, 32767, 1023, 1023, 197631, 459775, 1048575, 2097151, 4194303] [(0, []), (1, []), (2, []), (3, []), (4, []), (5, []), (6, []), (7, []), (8, []), (9, []), (10, []), (12, []), (16, []), (17, []), (18, []), (11, []), (13, []), (14, []), (15, []), (19, []), (20, []), (21, []), (22, [])]) (.cond (.seq (.reg [] [(0, [])]) .leaf) .leaf)))) (.reg [] [(0, []), (1, []), (2, [])])))))))))))) (.reg [] [(0, []), (1, []), (2, [])])))))) (.seq (.seq (.reg [] [(0, [])]) (.blk (.loop [14] [181, 182, 183, 184, 187, 188, 189, 190, 191, 192, 193, 194, 195, 196, 197, 198, 199, 200, 201, 202, 203, 2, 185, 186, 14] (.seq (.seq (.reg [] [(0, []), (1, []), (2, []), (3, [])]) (.cond .leaf .leaf)) (.seq (.blk (.seq (.reg [0, 0, 0, 6, 14, 31, 63, 127, 255, 255, 255, 1791, 3839, 8191, 16383, 32767, 65535] [(2, []), (0, []), (1, []), (3, []), (4, []), (5, []), (6, []), (7, []), (10, []), (8, []), (9, []), (11, []), (12, []), (13, []), (14, []), (15, []), (16, [])]) (.cond (.seq (.reg [] [(0, [])]) .leaf) .leaf))) (.reg [] [(0, []), (1, []), (2, [])])))))) (.seq (.reg [] [(0, []), (1, [])]) .leaf))))))))
def D4 (a0 : Value) (K : Value → Hp → Prop) (h : Hp) : Prop :=
  vA (some (Obj.cells (Value.cells a0) 26 (0, 0), ptrV)) (fun v1 h1 =>
  vP (ldN 9 v1 h1) fun v15 =>
  CallH Try.prog 11 #[v15] (fun v16 h2 =>
  vP (unV .not v16) fun v17 =>
  vP (gdW (gB v17 false) (ldN 9 v1 h2)) fun v19 =>
  vE (gB v17 false) (CallH Try.prog 12 #[v19]) (fun v20 h3 =>
  vP (gdW (gB v17 false) (unV .not v20)) fun v21 =>
  vP (pickV v17 (Value.bool true) v21) fun v22 =>
  vB v22 (CallH Try.prog 13 #[] (fun v23 h4 =>
    K v23 h4) h3)
  (vP (ldN 9 v1 h3) fun v24 =>
  vP (ldN 9 v1 h3) fun v26 =>
  vP (ldN 9 v1 h3) fun v28 =>
  CallH Try.prog 17 #[v24] (fun v25 h5 =>
  (ldN 9 v1 h5) = some v28 ∧ ((ldN 9 v1 h5) = some v26 ∧ (CallH Try.prog 18 #[v26] (fun v27 h6 =>
  (ldN 9 v1 h6) = some v28 ∧ (CallH Try.prog 19 #[v28] (fun v29 h7 =>
  vA (some (Obj.cells #[(Value.slice none 0 0)] 22 (0, 0), ptrV)) (fun v3 h8 =>
  vA (some (Obj.cells #[(Value.slice none 0 0)] 22 (0, 0), ptrV)) (fun v4 h9 =>
  st1 v3 v25 (fun _ h10 =>
  st1 v4 v27 (fun _ h11 =>
  vP (some (Value.func (.func 20) #[] #[v3, v4])) fun v30 =>
  ∃ I1 : Nat → List Value → Hp → Prop, (∃ n, I1 n [(Value.int .i64 0)] h11) ∧
  ∀ n1 : Nat, ∀ v7 : Value, ∀ h12 : Hp, I1 n1 [v7] h12 → ∀ g1 : St,
    vP (lenV v29) fun v33 =>
    vP (binV .lss v7 v33) fun v34 =>
    vB v34 (vP (iaS 1 v29 v7) fun v39 =>
      vP (ld1 v39 h12) fun v40 =>
      vP (eqV 1 false v40 (Value.int .i64 0)) fun v41 =>
      vP (gdW (gB v41 false) (some v30)) fun v43 =>
      vP (gdW (gB v41 false) (some v29)) fun v44 =>
      vP (gdW (gB v41 false) (some v7)) fun v45 =>
      vP (gdW (gB v41 false) (iaS 1 v44 v45)) fun v46 =>
      vP (gdW (gB v41 false) (ld1 v46 h12)) fun v47 =>
      vE (gB v41 false) (cvW Try.prog v43 #[v47]) (fun v48 h13 =>
      vP (gdW (gB v41 false) (unV .not v48)) fun v49 =>
      vP (pickV v41 (Value.bool true) v49) fun v50 =>
      vB v50 (K (Value.bool false) h13)
      (vP (binV .add v7 (Value.int .i64 1)) fun v36 =>
      ∃ m1, m1 < n1 ∧ I1 m1 [v36] h13)) h12)
    (∃ I2 : Nat → List Value → Hp → Prop, (∃ n, I2 n [(Value.int .i64 0)] h12) ∧
    ∀ n2 : Nat, ∀ v8 : Value, ∀ h14 : Hp, I2 n2 [v8] h14 → ∀ g2 : St,
      vP (ld1 v3 h14) fun v52 =>
      vP (lenV v52) fun v53 =>
      vP (binV .lss v8 v53) fun v54 =>
      vB v54 (vP (ldN 9 v1 h14) fun v57 =>
        vP (ld1 v3 h14) fun v58 =>
        vP (iaS 1 v58 v8) fun v60 =>
        vP (ld1 v60 h14) fun v61 =>
        CallH Try.prog 22 #[v57, v61] (fun v62 h15 =>
        vP (binV .lss v62 (Value.int .i64 0)) fun v64 =>
        vP (gdW (gB v64 false) (some v62)) fun v66 =>
        vP (gdW (gB v64 false) (faV 5 v1)) fun v67 =>
        vP (gdW (gB v64 false) (ld1 v67 h15)) fun v68 =>
        vP (gdW (gB v64 false) (lenV v68)) fun v69 =>
        vP (gdW (gB v64 false) (binV .geq v66 v69)) fun v70 =>
        vP (pickV v64 (Value.bool true) v70) fun v71 =>
        vP (gdW (gB v71 false) (faV 5 v1)) fun v73 =>
        vP (gdW (gB v71 false) (some v62)) fun v75 =>
        vP (gdW (gB v71 false) (some v8)) fun v80 =>
        vP (gdW (gB v71 false) (ld1 v73 h15)) fun v74 =>
        vP (gdW (gB v71 false) (iaS 3 v74 v75)) fun v76 =>
        vP (gdW (gB v71 false) (faV 0 v76)) fun v77 =>
        vP (gdW (gB v71 false) (ld1 v77 h15)) fun v78 =>
        vP (gdW (gB v71 false) (ld1 v3 h15)) fun v79 =>
        vP (gdW (gB v71 false) (iaS 1 v79 v80)) fun v81 =>
        vP (gdW (gB v71 false) (ld1 v81 h15)) fun v82 =>
        vP (gdW (gB v71 false) (eqV 1 true v78 v82)) fun v83 =>
        vP (pickV v71 (Value.bool true) v83) fun v84 =>
        vB v84 (K (Value.bool false) h15)
        (∃ I3 : Nat → List Value → Hp → Prop, (∃ n, I3 n [(Value.int .i64 0)] h15) ∧
        ∀ n3 : Nat, ∀ v10 : Value, ∀ h16 : Hp, I3 n3 [v10] h16 → ∀ g3 : St,
          vP (faV 5 v1) fun v86 =>
          vP (ld1 v86 h16) fun v87 =>
          vP (iaS 3 v87 v62) fun v89 =>
          vP (faV 1 v89) fun v90 =>
          vP (ld1 v90 h16) fun v91 =>
          vP (lenV v91) fun v92 =>
          vP (binV .lss v10 v92) fun v93 =>
          vB v93 (vP (faV 5 v1) fun v97 =>
            vP (ld1 v97 h16) fun v98 =>
            vP (iaS 3 v98 v62) fun v100 =>
            vP (faV 1 v100) fun v101 =>
            vP (ld1 v101 h16) fun v102 =>
            vP (iaS 1 v102 v10) fun v104 =>
            vP (ld1 v104 h16) fun v105 =>
            cvW Try.prog v30 #[v105] (fun v106 h17 =>
            vP (unV .not v106) fun v107 =>
            vB v107 (K (Value.bool false) h17)
            (vP (binV .add v10 (Value.int .i64 1)) fun v95 =>
            ∃ m3, m3 < n3 ∧ I3 m3 [v95] h17)) h16)
          (vP (ldN 9 v1 h16) fun v108 =>
          vP (ld1 v3 h16) fun v109 =>
          vP (iaS 1 v109 v8) fun v111 =>
          vP (ld1 v111 h16) fun v112 =>
          CallH Try.prog 15 #[v108, v112] (fun v113 h18 =>
          vP (lenV v113) fun v115 =>
          vP (eqV 1 false v115 (Value.int .i64 0)) fun v116 =>
          vP (gdW (gB v116 false) (some v113)) fun v118 =>
          vP (gdW (gB v116 false) (lenV v118)) fun v119 =>
          vP (gdW (gB v116 false) (ld1 v3 h18)) fun v120 =>
          vP (gdW (gB v116 false) (lenV v120)) fun v121 =>
          vP (gdW (gB v116 false) (binV .gtr v119 v121)) fun v122 =>
          vP (pickV v116 (Value.bool true) v122) fun v123 =>
          vP (gdW (gB v123 false) (some v113)) fun v125 =>
          vP (gdW (gB v123 false) (some v113)) fun v126 =>
          vP (gdW (gB v123 false) (lenV v126)) fun v127 =>
          vP (gdW (gB v123 false) (binV .sub v127 (Value.int .i64 1))) fun v128 =>
          vP (gdW (gB v123 false) (iaS 1 v125 v128)) fun v129 =>
          vP (gdW (gB v123 false) (some v8)) fun v132 =>
          vP (gdW (gB v123 false) (ld1 v129 h18)) fun v130 =>
          vP (gdW (gB v123 false) (ld1 v3 h18)) fun v131 =>
          vP (gdW (gB v123 false) (iaS 1 v131 v132)) fun v133 =>
          vP (gdW (gB v123 false) (ld1 v133 h18)) fun v134 =>
          vP (gdW (gB v123 false) (eqV 1 true v130 v134)) fun v135 =>
          vP (pickV v123 (Value.bool true) v135) fun v136 =>
          vP (gdW (gB v136 false) (some v29)) fun v138 =>
          vP (gdW (gB v136 false) (some v113)) fun v139 =>
          vP (gdW (gB v136 false) (iaS 1 v139 (Value.int .i64 0))) fun v140 =>
          vP (gdW (gB v136 false) (ld1 v140 h18)) fun v141 =>
          vE (gB v136 false) (CallH Try.prog 21 #[v138, v141]) (fun v142 h19 =>
          vP (gdW (gB v136 false) (unV .not v142)) fun v143 =>
          vP (pickV v136 (Value.bool true) v143) fun v144 =>
          vB v144 (K (Value.bool false) h19)
          (∃ I4 : Nat → List Value → Hp → Prop, (∃ n, I4 n [(Value.int .i64 1)] h19) ∧
          ∀ n4 : Nat, ∀ v12 : Value, ∀ h20 : Hp, I4 n4 [v12] h20 → ∀ g4 : St,
            vP (lenV v113) fun v147 =>
            vP (binV .lss v12 v147) fun v148 =>
            vB v148 (vP (binV .sub v12 (Value.int .i64 1)) fun v154 =>
              vP (iaS 1 v113 v154) fun v155 =>
              vP (ldN 9 v1 h20) fun v151 =>
              vP (ld1 v155 h20) fun v156 =>
              CallH Try.prog 22 #[v151, v156] (fun v157 h21 =>
              vP (binV .lss v157 (Value.int .i64 0)) fun v159 =>
              vP (gdW (gB v159 false) (some v157)) fun v161 =>
              vP (gdW (gB v159 false) (faV 5 v1)) fun v162 =>
              vP (gdW (gB v159 false) (ld1 v162 h21)) fun v163 =>
              vP (gdW (gB v159 false) (lenV v163)) fun v164 =>
              vP (gdW (gB v159 false) (binV .geq v161 v164)) fun v165 =>
              vP (pickV v159 (Value.bool true) v165) fun v166 =>
              vP (gdW (gB v166 false) (faV 5 v1)) fun v168 =>
              vP (gdW (gB v166 false) (some v157)) fun v170 =>
              vP (gdW (gB v166 false) (some v113)) fun v174 =>
              vP (gdW (gB v166 false) (some v12)) fun v175 =>
              vP (gdW (gB v166 false) (iaS 1 v174 v175)) fun v176 =>
              vP (gdW (gB v166 false) (ld1 v168 h21)) fun v169 =>
              vP (gdW (gB v166 false) (iaS 3 v169 v170)) fun v171 =>
              vP (gdW (gB v166 false) (faV 1 v171)) fun v172 =>
              vP (gdW (gB v166 false) (ld1 v172 h21)) fun v173 =>
              vP (gdW (gB v166 false) (ld1 v176 h21)) fun v177 =>
              vE (gB v166 false) (CallH Try.prog 21 #[v173, v177]) (fun v178 h22 =>
              vP (gdW (gB v166 false) (unV .not v178)) fun v179 =>
              vP (pickV v166 (Value.bool true) v179) fun v180 =>
              vB v180 (K (Value.bool false) h22)
              (vP (binV .add v12 (Value.int .i64 1)) fun v150 =>
              ∃ m4, m4 < n4 ∧ I4 m4 [v150] h22)) h21) h20)
            (vP (binV .add v8 (Value.int .i64 1)) fun v56 =>
            ∃ m2, m2 < n2 ∧ I2 m2 [v56] h20))) h18) h16))) h14)
      (∃ I5 : Nat → List Value → Hp → Prop, (∃ n, I5 n [(Value.int .i64 0)] h14) ∧
      ∀ n5 : Nat, ∀ v14 : Value, ∀ h23 : Hp, I5 n5 [v14] h23 → ∀ g5 : St,
        vP (ld1 v4 h23) fun v182 =>
        vP (lenV v182) fun v183 =>
        vP (binV .lss v14 v183) fun v184 =>
        vB v184 (vP (ldN 9 v1 h23) fun v187 =>
          vP (ld1 v4 h23) fun v188 =>
          vP (iaS 1 v188 v14) fun v190 =>
          vP (ld1 v190 h23) fun v191 =>
          CallH Try.prog 22 #[v187, v191] (fun v192 h24 =>
          vP (binV .geq v192 (Value.int .i64 0)) fun v193 =>
          vP (gdW (gB v193 false) (some v14)) fun v197 =>
          vP (gdW (gB v193 false) (ldN 9 v1 h24)) fun v195 =>
          vP (gdW (gB v193 false) (ld1 v4 h24)) fun v196 =>
          vP (gdW (gB v193 false) (iaS 1 v196 v197)) fun v198 =>
          vP (gdW (gB v193 false) (ld1 v198 h24)) fun v199 =>
          vE (gB v193 false) (CallH Try.prog 15 #[v195, v199]) (fun v200 h25 =>
          vP (gdW (gB v193 false) (lenV v200)) fun v201 =>
          vP (gdW (gB v193 false) (eqV 1 true v201 (Value.int .i64 0))) fun v202 =>
          vP (pickV v193 (Value.bool true) v202) fun v203 =>
          vB v203 (K (Value.bool false) h25)
          (vP (binV .add v14 (Value.int .i64 1)) fun v186 =>
          ∃ m5, m5 < n5 ∧ I5 m5 [v186] h25)) h24) h23)
        (CallH Try.prog 13 #[] (fun v204 h26 =>
        K v204 h26) h23)))) h10) h9) h8) h7) h6)) h5))) h3)) h2) h1) h
theorem D4_eq (a0 : Value) (K : Value → Hp → Prop) (h : Hp) : fnVC Try.prog Try.f4 x4 [a0] K h = D4 a0 K h := by kernel_rfl
theorem D4_ok : fnOk Try.prog Try.f4 x4 1 = true := by kernel_rfl
theorem C4 {a0 : Value} {K : Value → Hp → Prop} {h : Hp} (hh : D4 a0 K h) : CallH Try.prog 4 #[a0] K h :=
  callH_of mixed Try.func4 x4 [a0] D4_ok (D4_eq a0 K h ▸ hh)

/- 20: treadmill/treadmilllaw29.ViewClosed$1; slots: 0 x, 3 x -/
def x20 : Ann := (.seq (.reg [] [(0, [])]) (.seq (.reg [0, 1, 3, 7, 7, 31, 7, 7, 255, 511, 1023, 2047] [(0, []), (1, []), (2, []), (4, []), (7, []), (3, []), (6, []), (5, [6]), (8, []), (9, []), (10, []), (11, [])]) .leaf))
def D20 (a0 a1 a2 : Value) (K : Value → Hp → Prop) (h : Hp) : Prop :=
  vP (eqV 1 false a0 (Value.int .i64 0)) fun v6 =>
  vP (gdW (gB v6 false) (some a0)) fun v9 =>
  vP (gdW (gB v6 false) (some a0)) fun v12 =>
  vP (gdW (gB v6 false) (ld1 a1 h)) fun v8 =>
  vP (gdW (gB v6 false) (ld1 a2 h)) fun v11 =>
  vE (gB v6 false) (CallH Try.prog 21 #[v8, v9]) (fun v10 h1 =>
  gdW (gB v6 false) (ld1 a2 h1) = some v11 ∧ (vE (gB v6 false) (CallH Try.prog 21 #[v11, v12]) (fun v13 h2 =>
  vP (gdW (gB v6 false) (eqV 2 true v10 v13)) fun v14 =>
  vP (pickV v6 (Value.bool true) v14) fun v15 =>
  K v15 h2) h1)) h
theorem D20_eq (a0 a1 a2 : Value) (K : Value → Hp → Prop) (h : Hp) : fnVC Try.prog Try.f20 x20 [a0, a1, a2] K h = D20 a0 a1 a2 K h := by kernel_rfl
theorem D20_ok : fnOk Try.prog Try.f20 x20 3 = true := by kernel_rfl
theorem C20 {a0 a1 a2 : Value} {K : Value → Hp → Prop} {h : Hp} (hh : D20 a0 a1 a2 K h) : CallH Try.prog 20 #[a0, a1, a2] K h :=
  callH_of mixed Try.func20 x20 [a0, a1, a2] D20_ok (D20_eq a0 a1 a2 K h ▸ hh)

/- 5: treadmill/treadmilllaw29.ViewLess; slots: 0 v, 1 which, 2 slot, 3 v, 4 which, 5 slot, 7 was, 8 w, 9 k, 10 i, 11 o, 12 now, 13 i -/
def x5 : Ann := (.seq (.reg [] [(0, []), (1, [])]) (.seq (.seq (.reg [] [(0, []), (1, []), (2, [])]) (.cond (.seq (.reg [] [(0, []), (1, [])]) .leaf) .leaf)) (.seq (.reg [] [(0, []), (1, []), (2, [])]) (.seq (.reg [] [(0, []), (1, []), (2, [])]) (.seq (.reg [] [(0, []), (1, [])]) (.seq (.reg [] [(0, [])]) (.join [9] [22, 23, 24, 25, 26, 27, 28, 29, 30, 31, 32, 33, 9] (.seq (.reg [] [(0, []), (1, []), (2, []), (3, [])]) (.cond (.reg [] [(0, []), (1, []), (2, []), (3, []), (4, []), (5, []), (6, []), (7, []), (8, [])]) .leaf)) (.seq (.seq (.reg [] [(0, [])]) (.blk (.loop [10] [34, 35, 36, 37, 38, 41, 42, 43, 44, 45, 11, 46, 47, 48, 49, 50, 51, 52, 53, 54, 55, 56, 57, 58, 59, 60, 61, 62, 63, 64, 65, 66, 67, 68, 69, 70, 71, 72, 73, 74, 75, 76, 77, 39, 40, 10] (.seq (.seq (.reg [] [(0, []), (1, []), (2, []), (3, []), (4, [])]) (.cond .leaf .leaf)) (.seq (.blk (.seq (.reg [] [(0, []), (1, []), (2, []), (3, []), (4, []), (5, []), (6, [])]) (.seq (.reg [] [(0, []), (1, [])]) (.seq (.reg [] [(0, []), (1, []), (2, []), (3, []), (4, []), (5, [])]) (.join [] [52, 53, 54, 55, 56, 57, 58, 59, 60, 61, 62, 63, 64, 65, 66, 67, 68, 69, 70, 71] (.seq (.reg [] [(0, []), (1, []), (2, []), (3, []), (4, []), (5, []), (6, []), (7, []), (8, [])]) (.cond (.reg [0, 1, 0, 4, 0, 16, 48, 112, 252, 508, 1023, 2047] [(0, []), (2, []), (3, []), (4, []), (1, []), (5, []), (6, []), (7, []), (8, []), (9, []), (10, []), (11, [])]) .leaf)) (.reg [] [(0, []), (1, []), (2, []), (3, []), (4, []), (5, []), (6, [])])))))) (.reg [] [(0, []), (1, []), (2, [])])))))) (.join [] [78, 79, 80, 81, 82, 83, 84, 85, 86, 87, 88, 89, 90, 91, 92, 93, 94, 95, 96, 97, 98, 99, 100, 101, 102] (.seq (.reg [] [(0, []), (1, []), (2, []), (3, []), (4, []), (5, []), (6, []), (7, []), (8, [])]) (.cond (.seq (.reg [] [(0, []), (1, []), (2, []), (3, []), (4, []), (5, [])]) (.reg [0, 1, 0, 4, 0, 16, 48, 112, 252, 508, 1023, 2047] [(0, []), (2, []), (3, []), (4, []), (1, []), (5, []), (6, []), (7, []), (8, []), (9, []), (10, []), (11, [])])) .leaf)) (.seq (.reg [] [(0, []), (1, []), (2, [])]) (.seq (.seq (.reg [] [(0, [])]) (.blk (.loop [13] [105, 106, 107, 108, 111, 112, 113, 114, 115, 116, 117, 6, 109, 110, 13] (.seq (.seq (.reg [] [(0, []), (1, []), (2, []), (3, [])]) (.cond .leaf .leaf)) (.seq (.blk (.seq (.reg [] [(0, []), (1, []), (2, []), (3, []), (4, []), (5, []), (6, [])]) (.cond (.seq (.reg [] [(0, [])]) .leaf) .leaf))) (.reg [] [(0, []), (1, []), (2, [])])))))) (.seq (.reg [] [(0, []), (1, []), (2, []), (3, []), (4, []), (5, []), (6, []), (7, []), (8, []), (9, []), (10, []), (11, []), (12, []), (13, []), (14, [])]) .leaf))))))))))))
def D5 (a0 a1 a2 : Value) (K : Value → Hp → Prop) (h : Hp) : Prop :=
  vA (some (Obj.cells (Value.cells a0) 26 (0, 0), ptrV)) (fun v3 h1 =>
  vP (ldN 9 v3 h1) fun v14 =>
  CallH Try.prog 11 #[v14] (fun v15 h2 =>
  vP (unV .not v15) fun v16 =>
  vB v16 (CallH Try.prog 13 #[] (fun v17 h3 =>
    K v17 h3) h2)
  (vP (ldN 9 v3 h2) fun v18 =>
  CallH Try.prog 17 #[v18] (fun v19 h4 =>
  vP (ldN 9 v3 h4) fun v20 =>
  vA (some (Obj.cells #[(Value.int .i64 0), (Value.int .i64 0), (Value.int .i64 0), (Value.slice none 0 0), (Value.slice none 0 0), (Value.slice none 0 0), (Value.int .i64 0), (Value.int .i64 0), (Value.int .i64 0)] 26 (0, 0), ptrV)) (fun v8 h5 =>
  stN 9 v8 v20 (fun _ h6 =>
  vP (faV 5 v8) fun v21 =>
  st1 v21 (Value.slice none 0 0) (fun _ h7 =>
  ∀ J1 : List Value → Hp → Prop, (∀ v9 : Value, ∀ h8 : Hp, (∀ g1 : St,
    ∃ I2 : Nat → List Value → Hp → Prop, (∃ n, I2 n [(Value.int .i64 0)] h8) ∧
    ∀ n2 : Nat, ∀ v10 : Value, ∀ h9 : Hp, I2 n2 [v10] h9 → ∀ g2 : St,
      vP (faV 5 v3) fun v35 =>
      vP (ld1 v35 h9) fun v36 =>
      vP (lenV v36) fun v37 =>
      vP (binV .lss v10 v37) fun v38 =>
      vB v38 (vP (faV 5 v3) fun v41 =>
        vP (ld1 v41 h9) fun v42 =>
        vP (iaS 3 v42 v10) fun v44 =>
        vP (ldN 3 v44 h9) fun v45 =>
        vA (some (Obj.cells #[(Value.int .i64 0), (Value.slice none 0 0), (Value.bool false)] 30 (0, 0), ptrV)) (fun v11 h10 =>
        stN 3 v11 v45 (fun _ h11 =>
        vP (faV 2 v11) fun v46 =>
        st1 v46 (Value.bool true) (fun _ h12 =>
        vA ((bldV #[] []).map fun c => (Obj.cells c 3 (0, 0), fun r => Value.slice (some ⟨r, 0, none⟩) 0 0)) (fun v47 h13 =>
        vP (faV 1 v11) fun v48 =>
        vP (ld1 v48 h13) fun v49 =>
        apW Try.prog #[22, 22] 22 v47 v49 (fun v50 h14 =>
        vP (faV 1 v11) fun v51 =>
        st1 v51 v50 (fun _ h15 =>
        ∀ J3 : List Value → Hp → Prop, (∀ h16 : Hp, (∀ g3 : St,
          vP (faV 5 v8) fun v72 =>
          vP (ld1 v72 h16) fun v73 =>
          vP (ldN 3 v11 h16) fun v74 =>
          vA ((bldV #[(Value.int .i64 0), (Value.slice none 0 0), (Value.bool false)] [(0, 3, v74)]).map fun c => (Obj.cells c 30 (0, 0), fun r => Value.slice (some ⟨r, 0, none⟩) 1 1)) (fun v75 h17 =>
          apW Try.prog #[24, 24] 24 v73 v75 (fun v76 h18 =>
          vP (faV 5 v8) fun v77 =>
          st1 v77 v76 (fun _ h19 =>
          vP (binV .add v10 (Value.int .i64 1)) fun v40 =>
          ∃ m2, m2 < n2 ∧ I2 m2 [v40] h19) h18) h17) h16) → J3 [] h16) →
        vP (eqV 1 false v10 v9) fun v54 =>
        vP (gdW (gB v54 true) (faV 1 v11)) fun v56 =>
        vP (gdW (gB v54 true) (ld1 v56 h15)) fun v57 =>
        vP (gdW (gB v54 true) (lenV v57)) fun v58 =>
        vP (gdW (gB v54 true) (binV .gtr v58 (Value.int .i64 0))) fun v59 =>
        vP (pickV v54 v59 (Value.bool false)) fun v60 =>
        vB v60 (vP (faV 1 v11) fun v61 =>
          vP (convV .u64 a2) fun v64 =>
          vP (faV 1 v11) fun v65 =>
          vP (ld1 v61 h15) fun v62 =>
          vP (ld1 v65 h15) fun v66 =>
          vP (lenV v66) fun v67 =>
          vP (convV .u64 v67) fun v68 =>
          vP (binV .rem v64 v68) fun v69 =>
          vP (convV .i64 v69) fun v70 =>
          vP (iaS 1 v62 v70) fun v71 =>
          st1 v71 (Value.int .i64 0) (fun _ h20 =>
          J3 [] h20) h15)
        (J3 [] h15)) h14) h13) h12) h11) h10) h9)
      (∀ J4 : List Value → Hp → Prop, (∀ h21 : Hp, (∀ g4 : St,
        vP (ldN 9 v8 h21) fun v103 =>
        CallH Try.prog 17 #[v103] (fun v104 h22 =>
        ∃ I5 : Nat → List Value → Hp → Prop, (∃ n, I5 n [(Value.int .i64 0)] h22) ∧
        ∀ n5 : Nat, ∀ v13 : Value, ∀ h23 : Hp, I5 n5 [v13] h23 → ∀ g5 : St,
          vP (lenV v104) fun v107 =>
          vP (binV .lss v13 v107) fun v108 =>
          vB v108 (vP (iaS 1 v104 v13) fun v114 =>
            vP (ld1 v114 h23) fun v115 =>
            CallH Try.prog 21 #[v19, v115] (fun v116 h24 =>
            vP (unV .not v116) fun v117 =>
            vB v117 (K (Value.bool false) h24)
            (vP (binV .add v13 (Value.int .i64 1)) fun v110 =>
            ∃ m5, m5 < n5 ∧ I5 m5 [v110] h24)) h23)
          (CallH Try.prog 13 #[] (fun v118 h25 =>
          vP (gdW (gB v118 true) (ldN 9 v8 h25)) fun v120 =>
          vE (gB v118 true) (CallH Try.prog 23 #[v120]) (fun v121 h26 =>
          vP (gdW (gB v118 true) (lenV v121)) fun v122 =>
          vP (gdW (gB v118 true) (eqV 1 false v122 (Value.int .i64 0))) fun v123 =>
          vP (pickV v118 v123 (Value.bool false)) fun v124 =>
          vP (gdW (gB v124 true) (some v104)) fun v126 =>
          vP (gdW (gB v124 true) (lenV v126)) fun v127 =>
          vP (gdW (gB v124 true) (some v19)) fun v128 =>
          vP (gdW (gB v124 true) (lenV v128)) fun v129 =>
          vP (gdW (gB v124 true) (binV .leq v127 v129)) fun v130 =>
          vP (pickV v124 v130 (Value.bool false)) fun v131 =>
          K v131 h26) h25) h23)) h21) → J4 [] h21) →
      vP (faV 3 v3) fun v78 =>
      vP (ld1 v78 h9) fun v79 =>
      vP (lenV v79) fun v80 =>
      vP (binV .gtr v80 (Value.int .i64 0)) fun v81 =>
      vP (gdW (gB v81 true) (some a1)) fun v83 =>
      vP (gdW (gB v81 true) (binV .and v83 (Value.int .i64 1))) fun v84 =>
      vP (gdW (gB v81 true) (eqV 1 false v84 (Value.int .i64 1))) fun v85 =>
      vP (pickV v81 v85 (Value.bool false)) fun v86 =>
      vB v86 (vA ((bldV #[] []).map fun c => (Obj.cells c 3 (0, 0), fun r => Value.slice (some ⟨r, 0, none⟩) 0 0)) (fun v87 h27 =>
        vP (faV 3 v3) fun v88 =>
        vP (ld1 v88 h27) fun v89 =>
        apW Try.prog #[22, 22] 22 v87 v89 (fun v90 h28 =>
        vP (faV 3 v8) fun v91 =>
        st1 v91 v90 (fun _ h29 =>
        vP (faV 3 v8) fun v92 =>
        vP (convV .u64 a2) fun v95 =>
        vP (faV 3 v8) fun v96 =>
        vP (ld1 v92 h29) fun v93 =>
        vP (ld1 v96 h29) fun v97 =>
        vP (lenV v97) fun v98 =>
        vP (convV .u64 v98) fun v99 =>
        vP (binV .rem v95 v99) fun v100 =>
        vP (convV .i64 v100) fun v101 =>
        vP (iaS 1 v93 v101) fun v102 =>
        st1 v102 (Value.int .i64 0) (fun _ h30 =>
        J4 [] h30) h29) h28) h27) h9)
      (J4 [] h9))) → J1 [v9] h8) →
  vP (faV 5 v3) fun v22 =>
  vP (ld1 v22 h7) fun v23 =>
  vP (lenV v23) fun v24 =>
  vP (binV .gtr v24 (Value.int .i64 0)) fun v25 =>
  vB v25 (vP (convV .u64 a1) fun v27 =>
    vP (faV 5 v3) fun v28 =>
    vP (ld1 v28 h7) fun v29 =>
    vP (lenV v29) fun v30 =>
    vP (convV .u64 v30) fun v31 =>
    vP (binV .rem v27 v31) fun v32 =>
    vP (convV .i64 v32) fun v33 =>
    J1 [v33] h7)
  (J1 [(Value.int .i64 0)] h7)) h6) h5) h4) h2)) h1) h
theorem D5_eq (a0 a1 a2 : Value) (K : Value → Hp → Prop) (h : Hp) : fnVC Try.prog Try.f5 x5 [a0, a1, a2] K h = D5 a0 a1 a2 K h := by kernel_rfl
theorem D5_ok : fnOk Try.prog Try.f5 x5 3 = true := by kernel_rfl
theorem C5 {a0 a1 a2 : Value} {K : Value → Hp → Prop} {h : Hp} (hh : D5 a0 a1 a2 K h) : CallH Try.prog 5 #[a0, a1, a2] K h :=
  callH_of mixed Try.func5 x5 [a0, a1, a2] D5_ok (D5_eq a0 a1 a2 K h ▸ hh)

/- 6: treadmill/treadmilllaw29.ViewRoots; slots: 0 globals, 1 stacks, 2 dead, 3 globals, 4 stacks, 5 dead, 7 v, 8 want, 9 add, 10 i, 11 x, 12 i, 13 x -/
def x6 : Ann := (.seq (.reg [] [(0, [])]) (.seq (.seq (.reg [] [(0, []), (1, []), (2, []), (3, []), (4, []), (5, []), (6, []), (7, [])]) (.cond (.seq (.reg [] [(0, []), (1, [])]) .leaf) .leaf)) (.seq (.reg [] [(0, [])]) (.seq (.reg [] [(0, [])]) (.seq (.reg [] [(0, []), (1, [])]) (.seq (.seq (.reg [] [(0, [])]) (.blk (.loop [10] [24, 25, 26, 27, 30, 31, 32, 33, 34, 35, 36, 11, 37, 38, 39, 40, 41, 42, 43, 44, 45, 28, 29, 10] (.seq (.seq (.reg [] [(0, []), (1, []), (2, []), (3, [])]) (.cond .leaf .leaf)) (.seq (.blk (.seq (.reg [] [(0, []), (1, []), (2, []), (3, []), (4, []), (5, []), (6, []), (7, [])]) (.seq (.reg [] [(0, []), (1, []), (2, []), (3, []), (4, []), (5, []), (6, [])]) (.reg [] [(0, []), (1, []), (2, [])])))) (.reg [] [(0, []), (1, []), (2, [])])))))) (.seq (.seq (.reg [] [(0, [])]) (.blk (.loop [12] [46, 47, 48, 49, 52, 53, 54, 55, 56, 57, 58, 59, 60, 61, 62, 63, 64, 65, 66, 67, 68, 69, 70, 71, 72, 73, 74, 75, 76, 77, 78, 79, 80, 13, 81, 82, 83, 84, 85, 86, 87, 88, 89, 90, 91, 92, 93, 94, 95, 96, 97, 98, 99, 100, 101, 102, 103, 104, 105, 106, 107, 50, 51, 12] (.seq (.seq (.reg [] [(0, []), (1, []), (2, []), (3, [])]) (.cond .leaf .leaf)) (.join [] [52, 53, 54, 55, 56, 57, 58, 59, 60, 61, 62, 63, 64, 65, 66, 67, 68, 69, 70, 71, 72, 73, 74, 75, 76, 77, 78, 79, 80, 13, 81, 82, 83, 84, 85, 86, 87, 88, 89, 90, 91, 92, 93, 94, 95, 96, 97, 98, 99, 100, 101, 102, 103, 104, 105, 106, 107] (.blk (.join [] [52, 53, 54, 55, 56, 57, 58, 59, 60, 61, 62, 63, 64, 65, 66, 67, 68, 69, 70, 71, 72, 73] (.seq (.reg [] [(0, []), (1, []), (2, [])]) (.cond (.seq (.reg [] [(0, []), (1, []), (2, []), (3, []), (4, []), (5, []), (6, [])]) (.seq (.reg [] [(0, []), (1, []), (2, []), (3, []), (4, []), (5, []), (6, [])]) (.cond (.reg [] [(0, []), (1, []), (2, []), (3, []), (4, []), (5, []), (6, [])]) .leaf))) .leaf)) (.seq (.reg [] [(0, []), (1, []), (2, []), (3, []), (4, []), (5, []), (6, []), (7, [])]) (.seq (.reg [0, 1, 0, 4, 0, 16, 0, 64, 240, 496, 1008, 0, 2048, 8176, 16383, 32767, 65535] [(0, []), (2, []), (3, []), (4, []), (6, []), (7, []), (11, []), (1, []), (5, []), (8, []), (9, []), (10, []), (12, []), (13, [1]), (14, []), (15, []), (16, [])]) (.seq (.reg [] [(0, []), (1, []), (2, []), (3, []), (4, []), (5, []), (6, []), (7, [])]) (.cond (.reg [] [(0, []), (1, []), (2, [])]) .leaf)))))) (.reg [] [(0, []), (1, []), (2, [])])))))) (.seq (.reg [0, 1, 3, 7, 3, 31, 63, 127, 255, 511, 1023, 2047, 4095, 8191, 16383, 32767, 65535, 16383, 147455, 524287, 1048575, 2097151] [(0, []), (1, []), (2, []), (4, []), (3, [4]), (5, []), (6, []), (7, []), (8, []), (9, []), (10, []), (11, []), (12, []), (13, []), (14, []), (17, []), (18, []), (15, [17]), (16, []), (19, []), (20, []), (21, [])]) .leaf))))))))
def D6 (a0 a1 a2 : Value) (K : Value → Hp → Prop) (h : Hp) : Prop :=
  vP (lenV a0) fun v15 =>
  vP (binV .gtr v15 (Value.int .i64 10)) fun v16 =>
  vP (gdW (gB v16 false) (some a1)) fun v18 =>
  vP (gdW (gB v16 false) (lenV v18)) fun v19 =>
  vP (gdW (gB v16 false) (binV .gtr v19 (Value.int .i64 80))) fun v20 =>
  vP (pickV v16 (Value.bool true) v20) fun v21 =>
  vB v21 (CallH Try.prog 13 #[] (fun v22 h1 =>
    K v22 h1) h)
  (vA (some (Obj.cells #[(Value.int .i64 0), (Value.int .i64 0), (Value.int .i64 0), (Value.slice none 0 0), (Value.slice none 0 0), (Value.slice none 0 0), (Value.int .i64 0), (Value.int .i64 0), (Value.int .i64 0)] 26 (0, 0), ptrV)) (fun v7 h2 =>
  vA (some (Obj.cells #[(Value.slice none 0 0)] 22 (0, 0), ptrV)) (fun v8 h3 =>
  vP (some (Value.func (.func 24) #[] #[v8])) fun v23 =>
  ∃ I1 : Nat → List Value → Hp → Prop, (∃ n, I1 n [(Value.int .i64 0)] h3) ∧
  ∀ n1 : Nat, ∀ v10 : Value, ∀ h4 : Hp, I1 n1 [v10] h4 → ∀ g1 : St,
    vP (lenV a0) fun v26 =>
    vP (binV .lss v10 v26) fun v27 =>
    vB v27 (vP (iaS 1 a0 v10) fun v32 =>
      vP (ld1 v32 h4) fun v33 =>
      vP (convV .u64 v33) fun v34 =>
      vP (binV .rem v34 (Value.int .u64 10)) fun v35 =>
      vP (convV .i64 v35) fun v36 =>
      vP (faV 3 v7) fun v37 =>
      vP (ld1 v37 h4) fun v38 =>
      vA ((bldV #[(Value.int .i64 0)] [(0, 1, v36)]).map fun c => (Obj.cells c 3 (0, 0), fun r => Value.slice (some ⟨r, 0, none⟩) 1 1)) (fun v40 h5 =>
      apW Try.prog #[22, 22] 22 v38 v40 (fun v41 h6 =>
      vP (faV 3 v7) fun v42 =>
      st1 v42 v41 (fun _ h7 =>
      cvW Try.prog v23 #[v36] (fun v45 h8 =>
      vP (binV .add v10 (Value.int .i64 1)) fun v29 =>
      ∃ m1, m1 < n1 ∧ I1 m1 [v29] h8) h7) h6) h5) h4)
    (∃ I2 : Nat → List Value → Hp → Prop, (∃ n, I2 n [(Value.int .i64 0)] h4) ∧
    ∀ n2 : Nat, ∀ v12 : Value, ∀ h9 : Hp, I2 n2 [v12] h9 → ∀ g2 : St,
      vP (lenV a1) fun v48 =>
      vP (binV .lss v12 v48) fun v49 =>
      vB v49 (∀ J3 : List Value → Hp → Prop, (∀ h10 : Hp, (∀ g3 : St,
          vP (binV .add v12 (Value.int .i64 1)) fun v51 =>
          ∃ m2, m2 < n2 ∧ I2 m2 [v51] h10) → J3 [] h10) →
        ∀ J4 : List Value → Hp → Prop, (∀ h11 : Hp, (∀ g4 : St,
          vP (iaS 1 a1 v12) fun v76 =>
          vP (ld1 v76 h11) fun v77 =>
          vP (convV .u64 v77) fun v78 =>
          vP (binV .rem v78 (Value.int .u64 10)) fun v79 =>
          vP (convV .i64 v79) fun v80 =>
          vP (faV 4 v7) fun v81 =>
          vP (binV .quo v12 (Value.int .i64 16)) fun v84 =>
          vP (faV 4 v7) fun v85 =>
          vP (binV .quo v12 (Value.int .i64 16)) fun v88 =>
          vP (ld1 v81 h11) fun v82 =>
          vP (ld1 v85 h11) fun v86 =>
          vP (iaS 3 v86 v88) fun v89 =>
          vP (faV 2 v89) fun v90 =>
          vP (ld1 v90 h11) fun v91 =>
          vA ((bldV #[(Value.int .i64 0)] [(0, 1, v80)]).map fun c => (Obj.cells c 3 (0, 0), fun r => Value.slice (some ⟨r, 0, none⟩) 1 1)) (fun v93 h12 =>
          apW Try.prog #[22, 22] 22 v91 v93 (fun v94 h13 =>
          (ld1 v81 h13) = some v82 ∧ (vP (iaS 3 v82 v84) fun v95 =>
          vP (faV 2 v95) fun v96 =>
          st1 v96 v94 (fun _ h14 =>
          vP (faV 4 v7) fun v97 =>
          vP (ld1 v97 h14) fun v98 =>
          vP (binV .quo v12 (Value.int .i64 16)) fun v100 =>
          vP (iaS 3 v98 v100) fun v101 =>
          vP (faV 0 v101) fun v102 =>
          vP (ld1 v102 h14) fun v103 =>
          vP (eqV 1 true v103 (Value.int .i64 5)) fun v104 =>
          vB v104 (cvW Try.prog v23 #[v80] (fun v107 h15 =>
            J3 [] h15) h14)
          (J3 [] h14)) h13)) h12) h11) → J4 [] h11) →
        vP (binV .rem v12 (Value.int .i64 16)) fun v53 =>
        vP (eqV 1 false v53 (Value.int .i64 0)) fun v54 =>
        vB v54 (vP (faV 4 v7) fun v55 =>
          vP (ld1 v55 h9) fun v56 =>
          vP ((bldV #[(Value.int .i64 0), (Value.int .i64 0), (Value.slice none 0 0)] [(0, 1, (Value.int .i64 1)), (1, 1, (Value.int .i64 (-1)))]).map Value.agg) fun v57 =>
          vA ((bldV #[(Value.int .i64 0), (Value.int .i64 0), (Value.slice none 0 0)] [(0, 3, v57)]).map fun c => (Obj.cells c 41 (0, 0), fun r => Value.slice (some ⟨r, 0, none⟩) 1 1)) (fun v58 h16 =>
          apW Try.prog #[23, 23] 23 v56 v58 (fun v59 h17 =>
          vP (faV 4 v7) fun v60 =>
          st1 v60 v59 (fun _ h18 =>
          vP (binV .quo v12 (Value.int .i64 16)) fun v63 =>
          vP (convV .u64 v63) fun v64 =>
          vP (binV .shr a2 v64) fun v65 =>
          vP (binV .and v65 (Value.int .i64 1)) fun v66 =>
          vP (eqV 1 false v66 (Value.int .i64 1)) fun v67 =>
          vB v67 (vP (faV 4 v7) fun v68 =>
            vP (ld1 v68 h18) fun v69 =>
            vP (binV .quo v12 (Value.int .i64 16)) fun v71 =>
            vP (iaS 3 v69 v71) fun v72 =>
            vP (faV 0 v72) fun v73 =>
            st1 v73 (Value.int .i64 5) (fun _ h19 =>
            J4 [] h19) h18)
          (J4 [] h18)) h17) h16) h9)
        (J4 [] h9))
      (CallH Try.prog 13 #[] (fun v108 h20 =>
      vP (gdW (gB v108 true) (ldN 9 v7 h20)) fun v110 =>
      vP (gdW (gB v108 true) (ld1 v8 h20)) fun v112 =>
      vE (gB v108 true) (CallH Try.prog 19 #[v110]) (fun v111 h21 =>
      gdW (gB v108 true) (ld1 v8 h21) = some v112 ∧ (vE (gB v108 true) (CallH Try.prog 14 #[v111, v112]) (fun v113 h22 =>
      vP (pickV v108 v113 (Value.bool false)) fun v114 =>
      vP (gdW (gB v114 true) (ldN 9 v7 h22)) fun v116 =>
      vE (gB v114 true) (CallH Try.prog 17 #[v116]) (fun v117 h23 =>
      vP (gdW (gB v114 true) (lenV v117)) fun v118 =>
      vP (gdW (gB v114 true) (eqV 1 false v118 (Value.int .i64 0))) fun v119 =>
      vP (pickV v114 v119 (Value.bool false)) fun v120 =>
      vP (gdW (gB v120 true) (ldN 9 v7 h23)) fun v122 =>
      vP (gdW (gB v120 true) (ld1 v8 h23)) fun v125 =>
      vP (gdW (gB v120 true) (lenV v125)) fun v126 =>
      vE (gB v120 true) (CallH Try.prog 18 #[v122]) (fun v123 h24 =>
      gdW (gB v120 true) (ld1 v8 h24) = some v125 ∧ (vP (gdW (gB v120 true) (lenV v123)) fun v124 =>
      vP (gdW (gB v120 true) (eqV 1 false v124 v126)) fun v127 =>
      vP (pickV v120 v127 (Value.bool false)) fun v128 =>
      K v128 h24)) h23) h22) h21)) h20) h9))) h2) h)
theorem D6_eq (a0 a1 a2 : Value) (K : Value → Hp → Prop) (h : Hp) : fnVC Try.prog Try.f6 x6 [a0, a1, a2] K h = D6 a0 a1 a2 K h := by kernel_rfl
theorem D6_ok : fnOk Try.prog Try.f6 x6 3 = true := by kernel_rfl
theorem C6 {a0 a1 a2 : Value} {K : Value → Hp → Prop} {h : Hp} (hh : D6 a0 a1 a2 K h) : CallH Try.prog 6 #[a0, a1, a2] K h :=
  callH_of mixed Try.func6 x6 [a0, a1, a2] D6_ok (D6_eq a0 a1 a2 K h ▸ hh)

/- 24: treadmill/treadmilllaw29.ViewRoots$1; slots: 0 x, 2 x -/
def x24 : Ann := (.seq (.reg [] [(0, []), (1, []), (2, []), (3, []), (4, []), (5, []), (6, []), (7, [])]) (.cond (.reg [] [(0, []), (1, []), (2, []), (3, []), (4, [])]) .leaf))
def D24 (a0 a1 : Value) (K : Value → Hp → Prop) (h : Hp) : Prop :=
  vP (eqV 1 true a0 (Value.int .i64 0)) fun v4 =>
  vP (gdW (gB v4 true) (ld1 a1 h)) fun v6 =>
  vP (gdW (gB v4 true) (some a0)) fun v7 =>
  vE (gB v4 true) (CallH Try.prog 21 #[v6, v7]) (fun v8 h1 =>
  vP (gdW (gB v4 true) (unV .not v8)) fun v9 =>
  vP (pickV v4 v9 (Value.bool false)) fun v10 =>
  vB v10 (vP (ld1 a1 h1) fun v11 =>
    vA ((bldV #[(Value.int .i64 0)] [(0, 1, a0)]).map fun c => (Obj.cells c 3 (0, 0), fun r => Value.slice (some ⟨r, 0, none⟩) 1 1)) (fun v13 h2 =>
    apW Try.prog #[22, 22] 22 v11 v13 (fun v14 h3 =>
    st1 a1 v14 (fun _ h4 =>
    K (Value.tuple #[]) h4) h3) h2) h1)
  (K (Value.tuple #[]) h1)) h
theorem D24_eq (a0 a1 : Value) (K : Value → Hp → Prop) (h : Hp) : fnVC Try.prog Try.f24 x24 [a0, a1] K h = D24 a0 a1 K h := by kernel_rfl
theorem D24_ok : fnOk Try.prog Try.f24 x24 2 = true := by kernel_rfl
theorem C24 {a0 a1 : Value} {K : Value → Hp → Prop} {h : Hp} (hh : D24 a0 a1 K h) : CallH Try.prog 24 #[a0, a1] K h :=
  callH_of mixed Try.func24 x24 [a0, a1] D24_ok (D24_eq a0 a1 K h ▸ hh)

/- 7: treadmill/treadmilllaw29.ViewChains; slots: 0 n, 1 cut, 2 both, 3 n, 4 cut, 5 both, 7 k, 8 c, 9 v, 10 i, 11 o, 12 end, 13 r, 14 want, 15 i, 16 p, 17 size -/
def x7 : Ann := (.seq (.reg [] [(0, [])]) (.seq (.reg [] [(0, []), (1, []), (2, []), (3, []), (4, []), (5, [])]) (.seq (.reg [] [(0, []), (1, []), (2, []), (3, []), (4, []), (5, []), (6, []), (7, []), (8, [])]) (.seq (.reg [] [(0, []), (1, []), (2, []), (3, [])]) (.seq (.seq (.reg [] [(0, [])]) (.blk (.loop [10] [33, 34, 35, 38, 39, 40, 41, 11, 42, 43, 44, 45, 46, 47, 48, 49, 50, 51, 52, 53, 54, 55, 56, 57, 58, 59, 60, 61, 62, 36, 37, 10] (.seq (.seq (.reg [] [(0, []), (1, []), (2, [])]) (.cond .leaf .leaf)) (.seq (.blk (.seq (.reg [] [(0, []), (1, []), (2, []), (3, []), (4, []), (5, [])]) (.join [] [42, 43, 44, 45, 46, 47, 48, 49, 50, 51, 52, 53, 54, 55, 56] (.seq (.reg [] [(0, []), (1, []), (2, []), (3, []), (4, []), (5, []), (6, []), (7, []), (8, []), (9, [])]) (.cond (.reg [] [(0, []), (1, []), (2, []), (3, []), (4, []), (5, [])]) .leaf)) (.reg [] [(0, []), (1, []), (2, []), (3, []), (4, []), (5, []), (6, [])])))) (.reg [] [(0, []), (1, []), (2, [])])))))) (.join [] [63, 64, 65, 66, 67, 68, 69, 70, 71] (.seq (.reg [] [(0, [])]) (.cond (.reg [] [(0, []), (1, []), (2, []), (3, []), (4, []), (5, []), (6, []), (7, []), (8, [])]) .leaf)) (.seq (.reg [] [(0, []), (1, []), (2, []), (3, [])]) (.seq (.reg [] [(0, []), (1, []), (2, [])]) (.seq (.reg [] [(0, []), (1, [])]) (.join [14] [78, 79, 80, 81, 82, 83, 84, 85, 14] (.seq (.reg [] [(0, []), (1, []), (2, []), (3, []), (4, []), (5, [])]) (.cond (.reg [] [(0, []), (1, []), (2, [])]) .leaf)) (.seq (.seq (.reg [] [(0, []), (1, []), (2, []), (3, [])]) (.cond (.seq (.reg [] [(0, [])]) .leaf) .leaf)) (.seq (.seq (.reg [] [(0, [])]) (.blk (.loop [15] [90, 91, 92, 95, 96, 97, 98, 16, 17, 99, 100, 101, 102, 103, 104, 105, 106, 107, 108, 109, 110, 111, 112, 113, 114, 115, 116, 117, 118, 119, 120, 121, 122, 123, 124, 125, 126, 127, 128, 6, 93, 94, 15] (.seq (.seq (.reg [] [(0, []), (1, []), (2, [])]) (.cond .leaf .leaf)) (.seq (.blk (.seq (.reg [] [(0, []), (1, []), (2, []), (3, []), (4, [])]) (.seq (.reg [] [(0, [])]) (.join [17] [99, 100, 101, 102, 103, 17] (.seq (.reg [] [(0, []), (1, []), (2, [])]) (.cond (.reg [] [(0, []), (1, []), (2, [])]) .leaf)) (.join [17] [104, 105, 106, 107, 108, 109, 110, 17] (.seq (.reg [] [(0, []), (1, []), (2, []), (3, []), (4, []), (5, []), (6, [])]) (.cond (.reg [] [(0, [])]) .leaf)) (.seq (.reg [] [(0, []), (1, []), (2, []), (3, []), (4, []), (5, []), (6, []), (7, []), (8, []), (9, []), (10, []), (11, []), (12, []), (13, []), (14, []), (15, []), (16, []), (17, [])]) (.cond (.seq (.reg [] [(0, [])]) .leaf) .leaf))))))) (.reg [] [(0, []), (1, []), (2, [])])))))) (.seq (.reg [] [(0, []), (1, []), (2, []), (3, []), (4, []), (5, []), (6, []), (7, []), (8, []), (9, []), (10, []), (11, []), (12, []), (13, []), (14, [])]) .leaf)))))))))))))
def D7 (a0 a1 a2 : Value) (K : Value → Hp → Prop) (h : Hp) : Prop :=
  vP (convV .u64 a0) fun v19 =>
  vP (binV .rem v19 (Value.int .u64 39)) fun v20 =>
  vP (convV .i64 v20) fun v21 =>
  vP (binV .add (Value.int .i64 2) v21) fun v22 =>
  vP (convV .u64 a1) fun v24 =>
  vP (binV .add v22 (Value.int .i64 5)) fun v26 =>
  vP (convV .u64 v26) fun v27 =>
  vP (binV .rem v24 v27) fun v28 =>
  vP (convV .i64 v28) fun v29 =>
  vP (binV .add (Value.int .i64 1) v29) fun v30 =>
  vA ((bldV #[(Value.int .i64 0)] [(0, 1, (Value.int .i64 64))]).map fun c => (Obj.cells c 3 (0, 0), fun r => Value.slice (some ⟨r, 0, none⟩) 1 1)) (fun v31 h1 =>
  vP ((bldV #[(Value.int .i64 0), (Value.int .i64 0), (Value.int .i64 0), (Value.slice none 0 0), (Value.slice none 0 0), (Value.slice none 0 0), (Value.int .i64 0), (Value.int .i64 0), (Value.int .i64 0)] [(3, 1, v31)]).map Value.agg) fun v32 =>
  vA (some (Obj.cells #[(Value.int .i64 0), (Value.int .i64 0), (Value.int .i64 0), (Value.slice none 0 0), (Value.slice none 0 0), (Value.slice none 0 0), (Value.int .i64 0), (Value.int .i64 0), (Value.int .i64 0)] 26 (0, 0), ptrV)) (fun v9 h2 =>
  stN 9 v9 v32 (fun _ h3 =>
  ∃ I1 : Nat → List Value → Hp → Prop, (∃ n, I1 n [(Value.int .i64 0)] h3) ∧
  ∀ n1 : Nat, ∀ v10 : Value, ∀ h4 : Hp, I1 n1 [v10] h4 → ∀ g1 : St,
    vP (binV .lss v10 v22) fun v35 =>
    vB v35 (vP (binV .add (Value.int .i64 64) v10) fun v39 =>
      vA ((bldV #[(Value.int .i64 0)] [(0, 1, (Value.int .i64 0))]).map fun c => (Obj.cells c 3 (0, 0), fun r => Value.slice (some ⟨r, 0, none⟩) 1 1)) (fun v40 h5 =>
      vP ((bldV #[(Value.int .i64 0), (Value.slice none 0 0), (Value.bool false)] [(0, 1, v39), (1, 1, v40)]).map Value.agg) fun v41 =>
      vA (some (Obj.cells #[(Value.int .i64 0), (Value.slice none 0 0), (Value.bool false)] 30 (0, 0), ptrV)) (fun v11 h6 =>
      stN 3 v11 v41 (fun _ h7 =>
      ∀ J2 : List Value → Hp → Prop, (∀ h8 : Hp, (∀ g2 : St,
        vP (faV 5 v9) fun v57 =>
        vP (ld1 v57 h8) fun v58 =>
        vP (ldN 3 v11 h8) fun v59 =>
        vA ((bldV #[(Value.int .i64 0), (Value.slice none 0 0), (Value.bool false)] [(0, 3, v59)]).map fun c => (Obj.cells c 30 (0, 0), fun r => Value.slice (some ⟨r, 0, none⟩) 1 1)) (fun v60 h9 =>
        apW Try.prog #[24, 24] 24 v58 v60 (fun v61 h10 =>
        vP (faV 5 v9) fun v62 =>
        st1 v62 v61 (fun _ h11 =>
        vP (binV .add v10 (Value.int .i64 1)) fun v37 =>
        ∃ m1, m1 < n1 ∧ I1 m1 [v37] h11) h10) h9) h8) → J2 [] h8) →
      vP (binV .add v10 (Value.int .i64 1)) fun v43 =>
      vP (binV .lss v43 v22) fun v45 =>
      vP (gdW (gB v45 true) (some v10)) fun v47 =>
      vP (gdW (gB v45 true) (binV .add v47 (Value.int .i64 1))) fun v48 =>
      vP (gdW (gB v45 true) (some v30)) fun v49 =>
      vP (gdW (gB v45 true) (eqV 1 true v48 v49)) fun v50 =>
      vP (pickV v45 v50 (Value.bool false)) fun v51 =>
      vB v51 (vP (faV 1 v11) fun v52 =>
        vP (ld1 v52 h7) fun v53 =>
        vP (binV .add (Value.int .i64 65) v10) fun v55 =>
        vP (iaS 1 v53 (Value.int .i64 0)) fun v56 =>
        st1 v56 v55 (fun _ h12 =>
        J2 [] h12) h7)
      (J2 [] h7)) h6) h5) h4)
    (∀ J3 : List Value → Hp → Prop, (∀ h13 : Hp, (∀ g3 : St,
      vP (min2V v30 v22) fun v74 =>
      vP (ldN 9 v9 h13) fun v75 =>
      CallH Try.prog 17 #[v75] (fun v76 h14 =>
      ∀ J4 : List Value → Hp → Prop, (∀ v14 : Value, ∀ h15 : Hp, (∀ g4 : St,
        vP (lenV v76) fun v87 =>
        vP (eqV 1 true v87 v14) fun v89 =>
        vB v89 (K (Value.bool false) h15)
        (∃ I5 : Nat → List Value → Hp → Prop, (∃ n, I5 n [(Value.int .i64 0)] h15) ∧
        ∀ n5 : Nat, ∀ v15 : Value, ∀ h16 : Hp, I5 n5 [v15] h16 → ∀ g5 : St,
          vP (binV .lss v15 v22) fun v92 =>
          vB v92 (vP (ldN 9 v9 h16) fun v95 =>
            vP (binV .add (Value.int .i64 64) v15) fun v97 =>
            CallH Try.prog 15 #[v95, v97] (fun v98 h17 =>
            ∀ J6 : List Value → Hp → Prop, (∀ v17 : Value, ∀ h18 : Hp, (∀ g6 : St,
              ∀ J7 : List Value → Hp → Prop, (∀ v17_1 : Value, ∀ h19 : Hp, (∀ g7 : St,
                vP (lenV v98) fun v112 =>
                vP (eqV 1 true v112 v17_1) fun v114 =>
                vP (gdW (gB v114 false) (some v17_1)) fun v116 =>
                vP (gdW (gB v114 false) (binV .gtr v116 (Value.int .i64 0))) fun v117 =>
                vP (gdW (gB v114 false) (some v117)) fun v118 =>
                vP (gdW (gB v118 true) (some v98)) fun v119 =>
                vP (gdW (gB v118 true) (some v17_1)) fun v120 =>
                vP (gdW (gB v118 true) (binV .sub v120 (Value.int .i64 1))) fun v121 =>
                vP (gdW (gB v118 true) (iaS 1 v119 v121)) fun v122 =>
                vP (gdW (gB v118 true) (ld1 v122 h19)) fun v123 =>
                vP (gdW (gB v118 true) (some v15)) fun v124 =>
                vP (gdW (gB v118 true) (binV .add (Value.int .i64 64) v124)) fun v125 =>
                vP (gdW (gB v118 true) (eqV 1 true v123 v125)) fun v126 =>
                vP (gdW (gB v114 false) (pickV v118 v126 (Value.bool false))) fun v127 =>
                vP (pickV v114 (Value.bool true) v127) fun v128 =>
                vB v128 (K (Value.bool false) h19)
                (vP (binV .add v15 (Value.int .i64 1)) fun v94 =>
                ∃ m5, m5 < n5 ∧ I5 m5 [v94] h19)) → J7 [v17_1] h19) →
              vP (gdW (gB a2 true) (some v15)) fun v106 =>
              vP (gdW (gB a2 true) (some v22)) fun v107 =>
              vP (gdW (gB a2 true) (binV .sub v107 (Value.int .i64 1))) fun v108 =>
              vP (gdW (gB a2 true) (eqV 1 false v106 v108)) fun v109 =>
              vP (pickV a2 v109 (Value.bool false)) fun v110 =>
              vB v110 (J7 [(Value.int .i64 1)] h18)
              (J7 [v17] h18)) → J6 [v17] h18) →
            vP (binV .lss v15 v74) fun v101 =>
            vB v101 (vP (binV .add v15 (Value.int .i64 1)) fun v103 =>
              J6 [v103] h17)
            (J6 [(Value.int .i64 0)] h17)) h16)
          (CallH Try.prog 13 #[] (fun v129 h20 =>
          vP (gdW (gB v129 true) (ldN 9 v9 h20)) fun v131 =>
          vE (gB v129 true) (CallH Try.prog 23 #[v131]) (fun v132 h21 =>
          vP (gdW (gB v129 true) (lenV v132)) fun v133 =>
          vP (gdW (gB v129 true) (some v14)) fun v134 =>
          vP (gdW (gB v129 true) (eqV 1 false v133 v134)) fun v135 =>
          vP (pickV v129 v135 (Value.bool false)) fun v136 =>
          vP (gdW (gB v136 true) (ldN 9 v9 h21)) fun v138 =>
          vE (gB v136 true) (CallH Try.prog 25 #[v138]) (fun v139 h22 =>
          vP (gdW (gB v136 true) (some v22)) fun v140 =>
          vP (gdW (gB v136 true) (eqV 1 false v139 v140)) fun v141 =>
          vP (pickV v136 v141 (Value.bool false)) fun v142 =>
          K v142 h22) h21) h20) h16))) → J4 [v14] h15) →
      vP (gdW (gB a2 true) (some v74)) fun v80 =>
      vP (gdW (gB a2 true) (some v22)) fun v81 =>
      vP (gdW (gB a2 true) (binV .lss v80 v81)) fun v82 =>
      vP (pickV a2 v82 (Value.bool false)) fun v83 =>
      vB v83 (vP (binV .add v74 (Value.int .i64 1)) fun v85 =>
        J4 [v85] h14)
      (J4 [v74] h14)) h13) → J3 [] h13) →
    vB a2 (vP (faV 3 v9) fun v64 =>
      vP (ld1 v64 h4) fun v65 =>
      vP (binV .add (Value.int .i64 64) v22) fun v67 =>
      vP (binV .sub v67 (Value.int .i64 1)) fun v68 =>
      vA ((bldV #[(Value.int .i64 0)] [(0, 1, v68)]).map fun c => (Obj.cells c 3 (0, 0), fun r => Value.slice (some ⟨r, 0, none⟩) 1 1)) (fun v69 h23 =>
      apW Try.prog #[22, 22] 22 v65 v69 (fun v70 h24 =>
      vP (faV 3 v9) fun v71 =>
      st1 v71 v70 (fun _ h25 =>
      J3 [] h25) h24) h23) h4)
    (J3 [] h4))) h2) h1) h
theorem D7_eq (a0 a1 a2 : Value) (K : Value → Hp → Prop) (h : Hp) : fnVC Try.prog Try.f7 x7 [a0, a1, a2] K h = D7 a0 a1 a2 K h := by kernel_rfl
theorem D7_ok : fnOk Try.prog Try.f7 x7 3 = true := by kernel_rfl
theorem C7 {a0 a1 a2 : Value} {K : Value → Hp → Prop} {h : Hp} (hh : D7 a0 a1 a2 K h) : CallH Try.prog 7 #[a0, a1, a2] K h :=
  callH_of mixed Try.func7 x7 [a0, a1, a2] D7_ok (D7_eq a0 a1 a2 K h ▸ hh)

end Go.Proofs
