/-
  ViewLess: the walk.
-/
import Derived.Test.YtdcoflglkfbpcaaVq2
import Derived.Test.YtdcoflglkfbpcaaVb
import Derived.Test.YtdcoflglkfbpcaaV22
set_option linter.unusedVariables false
set_option linter.unusedSimpArgs false
set_option maxRecDepth 100000
set_option maxHeartbeats 2000000
namespace Go.Proofs
open Go.Sl

theorem elObj : ElOk Try.prog 24 30 3 40 := elB_ok (by kernel_rfl)
theorem niObjs : noInt Try.prog 24 := noInt_sl (e := 30) (by kernel_rfl)

theorem SG_slv {E : Nat} {v : Value} {l : List Int} {F : Asrt} {h : Hp} (hh : (SG iE E v l * F) h) : ∃ s : SlV, v = slv s := by
  rcases SG_elim iE hh with ⟨rfl, _⟩ | ⟨r, cap, pre, post, rfl, _⟩
  · exact ⟨(none, 0, 0), rfl⟩
  · exact ⟨(some ⟨r, pre.length, none⟩, l.length, cap), rfl⟩

/-- An object's row, and what its slots are. -/
abbrev Rw := (Int × SlV × Bool) × List Int
def Rw.ob (p : Rw) : Ob := ⟨p.1.1, slv p.1.2.1, p.2, p.1.2.2⟩

theorem rows_ob (L : List Rw) : (L.map (·.1)).map obE.enc = (L.map Rw.ob).map Ob.row := by
  simp only [List.map_map]
  rfl

theorem pt_cst {r E : Nat} {c c' : Array Value} {F : Asrt} {h : Hp} (e : c = c') (q : (pt r (.cells c E (0, 0)) * F) h) : (pt r (.cells c' E (0, 0)) * F) h := e ▸ q

/-- The objects so far. -/
structure LI (w : VW) (G : Hp) (L : List Rw) (i : Nat) : Prop where
  len : L.length = i
  row : ∀ (j : Nat) (p : Rw), L[j]? = some p → ∃ o : Ob, w.objs[j]? = some o ∧ p.1.1 = o.addr ∧ p.1.2.2 = true ∧ ∀ y ∈ p.2, y = 0 ∨ y ∈ o.slots
  ints : ∀ p ∈ L, IntsAt G (slv p.1.2.1) p.2

def lessW (w : VW) (ov : Value) (L : List Rw) (gv : Value) (gl : List Int) : VW := { w with ov := ov, objs := L.map Rw.ob, gv := gv, globals := gl }

theorem LI.less {w : VW} {G : Hp} {L : List Rw} {ov gv : Value} {gl : List Int} (h : LI w G L w.objs.length) (hg : ∀ x ∈ gl, x = 0 ∨ x ∈ w.globals) : LessOf w (lessW w ov L gv gl) := by
  refine ⟨?_, fun i o' ho' => ?_, hg, rfl⟩
  · show (L.map Rw.ob).map Ob.addr = w.objs.map Ob.addr
    apply List.ext_getElem?
    intro j
    rw [List.map_map, List.getElem?_map, List.getElem?_map]
    by_cases hj : j < w.objs.length
    · have hL : L[j]? = some (L[j]'(by rw [h.len]; exact hj)) := List.getElem?_eq_getElem _
      obtain ⟨o, h1, h2, _⟩ := h.row j _ hL
      rw [hL, h1]
      show some _ = some _
      rw [← h2]; rfl
    · rw [List.getElem?_eq_none (by rw [h.len]; omega), List.getElem?_eq_none (by omega)]
      rfl
  · have ho' : (L.map Rw.ob)[i]? = some o' := ho'
    rw [List.getElem?_map] at ho'
    obtain ⟨p, hp, rfl⟩ := Option.map_eq_some_iff.1 ho'
    obtain ⟨o, h1, _, h3, h4⟩ := h.row i p hp
    exact ⟨o, h1, h3, h4⟩

theorem less_small {w w' : VW} (h : LessOf w w') (hs : FewP w) (hsl : ∀ o ∈ w'.objs, o.slots.length ≤ 300) (hgl : w'.globals.length ≤ 40) (ha : ∀ o ∈ w.objs, o.addr ≤ 9223372036854775807) : Small w' := by
  have hl : w'.objs.length = w.objs.length := by have := congrArg List.length h.adr; simpa using this
  refine FewP.small ⟨hsl, by rw [h.gs]; exact hs.stacks, by rw [hl]; exact hs.objs, by rw [h.gs]; exact hs.gs, hgl⟩ fun o ho => ?_
  have h1 : o.addr ∈ w'.objs.map Ob.addr := List.mem_map.2 ⟨o, ho, rfl⟩
  rw [h.adr] at h1
  obtain ⟨o2, h2, h3⟩ := List.mem_map.1 h1
  rw [← h3]
  exact ha o2 h2

theorem own_two {G g1 : Hp} {F : Asrt} {h : Hp} (hh : (own G * (own g1 * F)) h) : ∃ G', (own G' * F) h ∧ (∀ {v xs}, IntsAt G v xs → IntsAt G' v xs) ∧ (∀ {v xs}, IntsAt g1 v xs → IntsAt G' v xs) := by
  obtain ⟨d, h1⟩ := own_join hh
  refine ⟨G.add g1, h1, fun q => q.mono, fun q => ?_⟩
  have : (own g1 * own G) (G.add g1) := by
    have : (own G * own g1) (G.add g1) := ⟨G, g1, d, rfl, rfl, rfl⟩
    exact asr (by ac_rfl) this
  exact own_ints this q

theorem less_tr (g : Hp) (w : VW) (which slot : Int) (hv : VAt g w) (ha : ∀ o ∈ w.objs, o.addr ≤ 9223372036854775807) : Tr Try.prog 5 #[w.val, .int .i64 which, .int .i64 slot] (own g) (fun v => pr (v = .bool true) * own g) := by
  refine Tr.of fun h hh => C5 ?_
  unfold D5
  have hol := hv.objs_len
  have hgl := hv.glob.len
  have hglt := hv.glob.lt
  refine vA_new (o := .cells w.cells 26 (0, 0)) hh fun r3 h1 hh1 => ?_
  have hh1 : (own g * (pt r3 (.cells w.cells 26 (0, 0)) * tt)) h1 := asr (by ac_rfl) hh1
  have lw0 : ∀ {h} {G : Asrt}, (G * (own g * (pt r3 (.cells w.cells 26 (0, 0)) * tt))) h → ldN 9 (.pointer (some ⟨r3, 0, none⟩)) h = some w.val ∧ ld1 (.pointer (some ⟨r3, 0 + 5, none⟩)) h = some w.ov ∧ ld1 (.pointer (some ⟨r3, 0 + 3, none⟩)) h = some w.gv := fun {h G} q => by
    have := vw_ld (r := r3) (w := w) (E := 26) (F := G * (own g * tt)) (asr (by ac_rfl) q)
    exact ⟨this.2.2.2.2.2.2.2.2.2, this.2.2.2.2.2.1, this.2.2.2.1⟩
  have lx : ∀ {h}, (own g * (pt r3 (.cells w.cells 26 (0, 0)) * tt)) h → ldN 9 (.pointer (some ⟨r3, 0, none⟩)) h = some w.val := fun q => (vw_ld (r := r3) (w := w) (E := 26) (F := own g * tt) (asr (by ac_rfl) q)).2.2.2.2.2.2.2.2.2
  have fin : ∀ h', (own g * (pt r3 (.cells w.cells 26 (0, 0)) * tt)) h' → ((pr (Value.bool true = Value.bool true) * own g) * tt) h' := fun h' q => ret rfl (dropL (P := pt r3 (.cells w.cells 26 (0, 0))) (Q := own g) (asr (by ac_rfl) q))
  repeat (with_reducible first | refine vP_so ?_ | refine vB_t ?_ | refine vB_f ?_ | refine vE_tt ?_ | refine vE_ff ?_ | refine vE_tf ?_ | refine vE_ft ?_ | refine vE_u ?_ | refine vP_to (by simp (disch := omega) only [gdW_true, gdW_false, gB_true, gB_false, gB_undef, pickV_true, pickV_false, Bool.not_true, Bool.not_false, Option.map_some, bin_add, bin_sub, bin_mul, bin_quo, bin_rem, lss_t, lss_f, leq_t, leq_f, gtr_t, gtr_f, geq_t, geq_f, eqi_t, eqi_f, nei_t, nei_f, rem_uw, conv_ui, conv_iu, conv_ii, not_bool, nil_ptr, fa_mk, ptrV, len_mk, cap_mk, eq_ptr_nil, ne_ptr_nil, eq_nil_nil, ne_nil_nil, eq_slice_nil, eq_nil_slice, ia_1, lx hh1]; exact so_so) ?_)
  refine use_few (F := pt r3 (.cells w.cells 26 (0, 0))) hv hh1 fun b h2 hb hh2 => ?_
  cases b with
  | false =>
    repeat (with_reducible first | refine vP_so ?_ | refine vB_t ?_ | refine vB_f ?_ | refine vE_tt ?_ | refine vE_ff ?_ | refine vE_tf ?_ | refine vE_ft ?_ | refine vE_u ?_ | refine vP_to (by simp (disch := omega) only [gdW_true, gdW_false, gB_true, gB_false, gB_undef, pickV_true, pickV_false, Bool.not_true, Bool.not_false, Option.map_some, bin_add, bin_sub, bin_mul, bin_quo, bin_rem, lss_t, lss_f, leq_t, leq_f, gtr_t, gtr_f, geq_t, geq_f, eqi_t, eqi_f, nei_t, nei_f, rem_uw, conv_ui, conv_iu, conv_ii, not_bool, nil_ptr, fa_mk, ptrV, len_mk, cap_mk, eq_ptr_nil, ne_ptr_nil, eq_nil_nil, ne_nil_nil, eq_slice_nil, eq_nil_slice, ia_1]; exact so_so) ?_)
    refine use_told29 (F := own g * pt r3 (.cells w.cells 26 (0, 0))) (asr (by ac_rfl) hh2) fun h3 hh3 => ?_
    exact fin h3 (asr (by ac_rfl) hh3)
  | true =>
  have hfew := hb rfl
  have hs := hfew.small ha
  have hN := hs.all
  have hf40 := hfew.objs
  have hg40 := hfew.glob
  repeat (with_reducible first | refine vP_so ?_ | refine vB_t ?_ | refine vB_f ?_ | refine vE_tt ?_ | refine vE_ff ?_ | refine vE_tf ?_ | refine vE_ft ?_ | refine vE_u ?_ | refine vP_to (by simp (disch := omega) only [gdW_true, gdW_false, gB_true, gB_false, gB_undef, pickV_true, pickV_false, Bool.not_true, Bool.not_false, Option.map_some, bin_add, bin_sub, bin_mul, bin_quo, bin_rem, lss_t, lss_f, leq_t, leq_f, gtr_t, gtr_f, geq_t, geq_f, eqi_t, eqi_f, nei_t, nei_f, rem_uw, conv_ui, conv_iu, conv_ii, not_bool, nil_ptr, fa_mk, ptrV, len_mk, cap_mk, eq_ptr_nil, ne_ptr_nil, eq_nil_nil, ne_nil_nil, eq_slice_nil, eq_nil_slice, ia_1, lx hh2]; exact so_so) ?_)
  refine use_reach (F := pt r3 (.cells w.cells 26 (0, 0))) hv hN hh2 fun v19 R h4 hR nR hh4 => ?_
  have hone : w.cells.toList.all Go.Sl.one = true := VW.cells_one hv
  repeat (with_reducible first | refine vP_so ?_ | refine vB_t ?_ | refine vB_f ?_ | refine vE_tt ?_ | refine vE_ff ?_ | refine vE_tf ?_ | refine vE_ft ?_ | refine vE_u ?_ | refine vP_to (by simp (disch := omega) only [gdW_true, gdW_false, gB_true, gB_false, gB_undef, pickV_true, pickV_false, Bool.not_true, Bool.not_false, Option.map_some, bin_add, bin_sub, bin_mul, bin_quo, bin_rem, lss_t, lss_f, leq_t, leq_f, gtr_t, gtr_f, geq_t, geq_f, eqi_t, eqi_f, nei_t, nei_f, rem_uw, conv_ui, conv_iu, conv_ii, not_bool, nil_ptr, fa_mk, ptrV, len_mk, cap_mk, eq_ptr_nil, ne_ptr_nil, eq_nil_nil, ne_nil_nil, eq_slice_nil, eq_nil_slice, ia_1, (lw0 hh4).1]; exact so_so) ?_)
  refine vA_new (f := ptrV) hh4 fun r8 h5 hh5 => ?_
  refine stN_mk (cs := w.cells) hh5 hone rfl (by simp) fun h6 hh6 => ?_
  rw [putL_all (c := #[(Value.int .i64 0), (Value.int .i64 0), (Value.int .i64 0), (Value.slice none 0 0), (Value.slice none 0 0), (Value.slice none 0 0), (Value.int .i64 0), (Value.int .i64 0), (Value.int .i64 0)]) (d := w.cells) rfl] at hh6
  repeat (with_reducible first | refine vP_so ?_ | refine vB_t ?_ | refine vB_f ?_ | refine vE_tt ?_ | refine vE_ff ?_ | refine vE_tf ?_ | refine vE_ft ?_ | refine vE_u ?_ | refine vP_to (by simp (disch := omega) only [gdW_true, gdW_false, gB_true, gB_false, gB_undef, pickV_true, pickV_false, Bool.not_true, Bool.not_false, Option.map_some, bin_add, bin_sub, bin_mul, bin_quo, bin_rem, lss_t, lss_f, leq_t, leq_f, gtr_t, gtr_f, geq_t, geq_f, eqi_t, eqi_f, nei_t, nei_f, rem_uw, conv_ui, conv_iu, conv_ii, not_bool, nil_ptr, fa_mk, ptrV, len_mk, cap_mk, eq_ptr_nil, ne_ptr_nil, eq_nil_nil, ne_nil_nil, eq_slice_nil, eq_nil_slice, ia_1]; exact so_so) ?_)
  refine st1_mk hh6 rfl (by simp [VW.cells]) fun h7 hh7 => ?_
  have hh7 := pt_cst (c' := (lessW w (.slice none 0 0) [] w.gv w.globals).cells) rfl hh7
  obtain ⟨X, hX⟩ : ∃ X : Asrt, X = SG iE 3 v19 R := ⟨_, rfl⟩
  rw [← hX] at hh7
  have hh7 : (SG obE 30 (.slice none 0 0) [] * (own Hp.emp * (pt r8 (.cells (lessW w (.slice none 0 0) [] w.gv w.globals).cells 26 (0, 0)) * (X * (own g * (pt r3 (.cells w.cells 26 (0, 0)) * tt)))))) h7 := SG_nil obE (own_emp hh7)
  intro J1 hJ1
  have lw : ∀ {h} {G : Asrt}, (G * (X * (own g * (pt r3 (.cells w.cells 26 (0, 0)) * tt)))) h → ldN 9 (.pointer (some ⟨r3, 0, none⟩)) h = some w.val ∧ ld1 (.pointer (some ⟨r3, 0 + 5, none⟩)) h = some w.ov ∧ ld1 (.pointer (some ⟨r3, 0 + 3, none⟩)) h = some w.gv := fun {h G} q => lw0 (G := G * X) (asr (by ac_rfl) q)
  have hJ : ∀ k : Int, J1 [.int .i64 k] h7 := fun k => by
    refine hJ1 _ _ fun _ => ?_
    refine ⟨fun m zs h' => ∃ (i : Nat) (ov : Value) (L : List Rw) (G : Hp), zs = [.int .i64 i] ∧ m = w.objs.length - i ∧ i ≤ w.objs.length ∧ LI w G L i ∧ (∀ p ∈ L, p.2.length ≤ 300) ∧
        (SG obE 30 ov (L.map (·.1)) * (own G * (pt r8 (.cells (lessW w ov L w.gv w.globals).cells 26 (0, 0)) * (X * (own g * (pt r3 (.cells w.cells 26 (0, 0)) * tt)))))) h',
      ⟨_, 0, .slice none 0 0, [], Hp.emp, rfl, rfl, by omega, ⟨rfl, by simp, by simp⟩, by simp, hh7⟩, ?_⟩
    rintro m v10 h9 ⟨i, ov, L, G, hzs, rfl, hi, hLI, hL3, hh9⟩ _
    obtain rfl : v10 = .int .i64 i := by simpa using hzs
    have l3 := lw (G := SG obE 30 ov (L.map (·.1)) * (own G * pt r8 (.cells (lessW w ov L w.gv w.globals).cells 26 (0, 0)))) (asr (by ac_rfl) hh9)
    by_cases hil : i < w.objs.length
    · have hoi : w.objs[i]? = some w.objs[i] := List.getElem?_eq_getElem hil
      have hom := List.getElem_mem hil
      have hvw : VAt h9 w := own_vat (F := SG obE 30 ov (L.map (·.1)) * (own G * (pt r8 (.cells (lessW w ov L w.gv w.globals).cells 26 (0, 0)) * (X * (pt r3 (.cells w.cells 26 (0, 0)) * tt))))) (asr (by ac_rfl) hh9) hv
      obtain ⟨b0, q0, e1, _, _, _, e5⟩ := hvw.obj hoi .i64
      generalize w.objs[i] = o at *
      have hsl := hv.slots o hom
      have hsl3 := hfew.slots o hom
      repeat (with_reducible first | refine vP_so ?_ | refine vB_t ?_ | refine vB_f ?_ | refine vE_tt ?_ | refine vE_ff ?_ | refine vE_tf ?_ | refine vE_ft ?_ | refine vE_u ?_ | refine vP_to (by simp (disch := omega) only [gdW_true, gdW_false, gB_true, gB_false, gB_undef, pickV_true, pickV_false, Bool.not_true, Bool.not_false, Option.map_some, bin_add, bin_sub, bin_mul, bin_quo, bin_rem, lss_t, lss_f, leq_t, leq_f, gtr_t, gtr_f, geq_t, geq_f, eqi_t, eqi_f, nei_t, nei_f, rem_uw, conv_ui, conv_iu, conv_ii, not_bool, nil_ptr, fa_mk, ptrV, len_mk, cap_mk, eq_ptr_nil, ne_ptr_nil, eq_nil_nil, ne_nil_nil, eq_slice_nil, eq_nil_slice, ia_1, l3.2.1, hol.1, e1, e5]; exact so_so) ?_)
      refine vA_new (f := ptrV) hh9 fun r11 h10 hh10 => ?_
      refine stN_mk (cs := #[.int .i64 o.addr, o.sv, .bool o.marked]) hh10 (one_ob hsl) rfl (by simp) fun h11 hh11 => ?_
      have hh11 := pt_cst (c' := #[.int .i64 o.addr, o.sv, .bool o.marked]) rfl hh11
      repeat (with_reducible first | refine vP_so ?_ | refine vB_t ?_ | refine vB_f ?_ | refine vE_tt ?_ | refine vE_ff ?_ | refine vE_tf ?_ | refine vE_ft ?_ | refine vE_u ?_ | refine vP_to (by simp (disch := omega) only [gdW_true, gdW_false, gB_true, gB_false, gB_undef, pickV_true, pickV_false, Bool.not_true, Bool.not_false, Option.map_some, bin_add, bin_sub, bin_mul, bin_quo, bin_rem, lss_t, lss_f, leq_t, leq_f, gtr_t, gtr_f, geq_t, geq_f, eqi_t, eqi_f, nei_t, nei_f, rem_uw, conv_ui, conv_iu, conv_ii, not_bool, nil_ptr, fa_mk, ptrV, len_mk, cap_mk, eq_ptr_nil, ne_ptr_nil, eq_nil_nil, ne_nil_nil, eq_slice_nil, eq_nil_slice, ia_1]; exact so_so) ?_)
      refine st1_mk hh11 rfl (by simp) fun h12 hh12 => ?_
      have hh12 := pt_cst (c' := #[.int .i64 o.addr, o.sv, .bool true]) rfl hh12
      have b0 : bldV #[] [] = some #[] := rfl
      rw [b0]
      refine vA_new (f := fun r => .slice (some ⟨r, 0, none⟩) 0 0) hh12 fun r47 h13 hh13 => ?_
      have hh13 : (SG iE 3 (.slice (some ⟨r47, 0, none⟩) 0 0) [] * (pt r11 (.cells #[.int .i64 o.addr, o.sv, .bool true] 30 (0, 0)) * (SG obE 30 ov (L.map (·.1)) * (own G * (pt r8 (.cells (lessW w ov L w.gv w.globals).cells 26 (0, 0)) * (X * (own g * (pt r3 (.cells w.cells 26 (0, 0)) * tt)))))))) h13 := SG_intro iE (pre := []) (post := []) (l := []) rfl rfl (by simp) (by omega) (by simp) hh13
      have l11 : ld1 (.pointer (some ⟨r11, 0 + 1, none⟩)) h13 = some o.sv := ld1_mk (pt_get (asr (by ac_rfl) hh13 : (pt r11 (.cells #[.int .i64 o.addr, o.sv, .bool true] 30 (0, 0)) * (SG iE 3 (.slice (some ⟨r47, 0, none⟩) 0 0) [] * (SG obE 30 ov (L.map (·.1)) * (own G * (pt r8 (.cells (lessW w ov L w.gv w.globals).cells 26 (0, 0)) * (X * (own g * (pt r3 (.cells w.cells 26 (0, 0)) * tt)))))))) h13)) rfl
      have hx13 : IntsAt h13 o.sv o.slots := own_ints (F := SG iE 3 (.slice (some ⟨r47, 0, none⟩) 0 0) [] * (pt r11 (.cells #[.int .i64 o.addr, o.sv, .bool true] 30 (0, 0)) * (SG obE 30 ov (L.map (·.1)) * (own G * (pt r8 (.cells (lessW w ov L w.gv w.globals).cells 26 (0, 0)) * (X * (pt r3 (.cells w.cells 26 (0, 0)) * tt))))))) (asr (by ac_rfl) hh13) hsl
      repeat (with_reducible first | refine vP_so ?_ | refine vB_t ?_ | refine vB_f ?_ | refine vE_tt ?_ | refine vE_ff ?_ | refine vE_tf ?_ | refine vE_ft ?_ | refine vE_u ?_ | refine vP_to (by simp (disch := omega) only [gdW_true, gdW_false, gB_true, gB_false, gB_undef, pickV_true, pickV_false, Bool.not_true, Bool.not_false, Option.map_some, bin_add, bin_sub, bin_mul, bin_quo, bin_rem, lss_t, lss_f, leq_t, leq_f, gtr_t, gtr_f, geq_t, geq_f, eqi_t, eqi_f, nei_t, nei_f, rem_uw, conv_ui, conv_iu, conv_ii, not_bool, nil_ptr, fa_mk, ptrV, len_mk, cap_mk, eq_ptr_nil, ne_ptr_nil, eq_nil_nil, ne_nil_nil, eq_slice_nil, eq_nil_slice, ia_1, l11]; exact so_so) ?_)
      refine ap_ints (F := pt r11 (.cells #[.int .i64 o.addr, o.sv, .bool true] 30 (0, 0)) * (SG obE 30 ov (L.map (·.1)) * (own G * (pt r8 (.cells (lessW w ov L w.gv w.globals).cells 26 (0, 0)) * (X * (own g * pt r3 (.cells w.cells 26 (0, 0)))))))) elInt rfl rfl niInts (by omega) hx13 (asr (by ac_rfl) hh13) (by simp only [List.length_nil]; omega) fun v50 h14 hh14 => ?_
      rw [List.nil_append] at hh14
      have o50 := SG_one iE hh14
      obtain ⟨s, hs50⟩ := SG_slv hh14
      repeat (with_reducible first | refine vP_so ?_ | refine vB_t ?_ | refine vB_f ?_ | refine vE_tt ?_ | refine vE_ff ?_ | refine vE_tf ?_ | refine vE_ft ?_ | refine vE_u ?_ | refine vP_to (by simp (disch := omega) only [gdW_true, gdW_false, gB_true, gB_false, gB_undef, pickV_true, pickV_false, Bool.not_true, Bool.not_false, Option.map_some, bin_add, bin_sub, bin_mul, bin_quo, bin_rem, lss_t, lss_f, leq_t, leq_f, gtr_t, gtr_f, geq_t, geq_f, eqi_t, eqi_f, nei_t, nei_f, rem_uw, conv_ui, conv_iu, conv_ii, not_bool, nil_ptr, fa_mk, ptrV, len_mk, cap_mk, eq_ptr_nil, ne_ptr_nil, eq_nil_nil, ne_nil_nil, eq_slice_nil, eq_nil_slice, ia_1]; exact so_so) ?_)
      refine st1_mk (asr (by ac_rfl) hh14 : (pt r11 (.cells #[.int .i64 o.addr, o.sv, .bool true] 30 (0, 0)) * (SG iE 3 v50 o.slots * (SG obE 30 ov (L.map (·.1)) * (own G * (pt r8 (.cells (lessW w ov L w.gv w.globals).cells 26 (0, 0)) * (X * (own g * (pt r3 (.cells w.cells 26 (0, 0)) * tt)))))))) h14) o50 (by simp) fun h15 hh15 => ?_
      have hh15 := pt_cst (c' := #[.int .i64 o.addr, v50, .bool true]) rfl hh15
      intro J3 hJ3
      have hK : ∀ (xs : List Int) (h' : Hp), (∀ y ∈ xs, y = 0 ∨ y ∈ o.slots) → xs.length ≤ 300 → (pt r11 (.cells #[.int .i64 o.addr, v50, .bool true] 30 (0, 0)) * (SG iE 3 v50 xs * (SG obE 30 ov (L.map (·.1)) * (own G * (pt r8 (.cells (lessW w ov L w.gv w.globals).cells 26 (0, 0)) * (X * (own g * (pt r3 (.cells w.cells 26 (0, 0)) * tt)))))))) h' → J3 [] h' := fun xs h' hxs hxl q => by
        refine hJ3 _ fun _ => ?_
        have l8 := (vw_ld (r := r8) (w := lessW w ov L w.gv w.globals) (E := 26) (asr (by ac_rfl) q : (pt r8 (.cells (lessW w ov L w.gv w.globals).cells 26 (0, 0)) * (pt r11 (.cells #[.int .i64 o.addr, v50, .bool true] 30 (0, 0)) * (SG iE 3 v50 xs * (SG obE 30 ov (L.map (·.1)) * (own G * (X * (own g * (pt r3 (.cells w.cells 26 (0, 0)) * tt)))))))) h')).2.2.2.2.2.1
        have l8 : ld1 (.pointer (some ⟨r8, 0 + 5, none⟩)) h' = some ov := l8
        have l74 : ldN 3 (.pointer (some ⟨r11, 0, none⟩)) h' = some (.agg #[.int .i64 o.addr, v50, .bool true]) := by rw [ldN_mk (pt_get q) (by simp)]; rfl
        have bO : bldV #[(Value.int .i64 0), (Value.slice none 0 0), (Value.bool false)] [(0, 3, .agg #[.int .i64 o.addr, v50, .bool true])] = some #[.int .i64 o.addr, v50, .bool true] := rfl
        repeat (with_reducible first | refine vP_so ?_ | refine vB_t ?_ | refine vB_f ?_ | refine vE_tt ?_ | refine vE_ff ?_ | refine vE_tf ?_ | refine vE_ft ?_ | refine vE_u ?_ | refine vP_to (by simp (disch := omega) only [gdW_true, gdW_false, gB_true, gB_false, gB_undef, pickV_true, pickV_false, Bool.not_true, Bool.not_false, Option.map_some, bin_add, bin_sub, bin_mul, bin_quo, bin_rem, lss_t, lss_f, leq_t, leq_f, gtr_t, gtr_f, geq_t, geq_f, eqi_t, eqi_f, nei_t, nei_f, rem_uw, conv_ui, conv_iu, conv_ii, not_bool, nil_ptr, fa_mk, ptrV, len_mk, cap_mk, eq_ptr_nil, ne_ptr_nil, eq_nil_nil, ne_nil_nil, eq_slice_nil, eq_nil_slice, ia_1, l8, l74]; exact so_so) ?_)
        rw [bO]
        refine vA_new (f := fun r => .slice (some ⟨r, 0, none⟩) 1 1) q fun r75 h17 hh17 => ?_
        refine ap_new obE (l := L.map (·.1)) (m := [(o.addr, s, true)]) (F := pt r11 (.cells #[.int .i64 o.addr, v50, .bool true] 30 (0, 0)) * (SG iE 3 v50 xs * (own G * (pt r8 (.cells (lessW w ov L w.gv w.globals).cells 26 (0, 0)) * (X * (own g * pt r3 (.cells w.cells 26 (0, 0)))))))) elObj rfl rfl niObjs rfl (by omega) (asr (by ac_rfl) hh17) (by rw [hs50]; rfl) rfl (by rw [List.length_map, hLI.len]; simp only [List.length_singleton]; omega) fun v76 h18 hh18 => ?_
        have o76 := SG_one obE hh18
        repeat (with_reducible first | refine vP_so ?_ | refine vB_t ?_ | refine vB_f ?_ | refine vE_tt ?_ | refine vE_ff ?_ | refine vE_tf ?_ | refine vE_ft ?_ | refine vE_u ?_ | refine vP_to (by simp (disch := omega) only [gdW_true, gdW_false, gB_true, gB_false, gB_undef, pickV_true, pickV_false, Bool.not_true, Bool.not_false, Option.map_some, bin_add, bin_sub, bin_mul, bin_quo, bin_rem, lss_t, lss_f, leq_t, leq_f, gtr_t, gtr_f, geq_t, geq_f, eqi_t, eqi_f, nei_t, nei_f, rem_uw, conv_ui, conv_iu, conv_ii, not_bool, nil_ptr, fa_mk, ptrV, len_mk, cap_mk, eq_ptr_nil, ne_ptr_nil, eq_nil_nil, ne_nil_nil, eq_slice_nil, eq_nil_slice, ia_1]; exact so_so) ?_)
        refine st1_mk (asr (by ac_rfl) hh18 : (pt r8 (.cells (lessW w ov L w.gv w.globals).cells 26 (0, 0)) * (SG obE 30 v76 (L.map (·.1) ++ [(o.addr, s, true)]) * (SG iE 3 v50 xs * (own G * (pt r11 (.cells #[.int .i64 o.addr, v50, .bool true] 30 (0, 0)) * (X * (own g * (pt r3 (.cells w.cells 26 (0, 0)) * tt)))))))) h18) o76 (by simp [VW.cells]) fun h19 hh19 => ?_
        have hh19 := pt_cst (c' := (lessW w v76 (L ++ [((o.addr, s, true), xs)]) w.gv w.globals).cells) rfl hh19
        repeat (with_reducible first | refine vP_so ?_ | refine vB_t ?_ | refine vB_f ?_ | refine vE_tt ?_ | refine vE_ff ?_ | refine vE_tf ?_ | refine vE_ft ?_ | refine vE_u ?_ | refine vP_to (by simp (disch := omega) only [gdW_true, gdW_false, gB_true, gB_false, gB_undef, pickV_true, pickV_false, Bool.not_true, Bool.not_false, Option.map_some, bin_add, bin_sub, bin_mul, bin_quo, bin_rem, lss_t, lss_f, leq_t, leq_f, gtr_t, gtr_f, geq_t, geq_f, eqi_t, eqi_f, nei_t, nei_f, rem_uw, conv_ui, conv_iu, conv_ii, not_bool, nil_ptr, fa_mk, ptrV, len_mk, cap_mk, eq_ptr_nil, ne_ptr_nil, eq_nil_nil, ne_nil_nil, eq_slice_nil, eq_nil_slice, ia_1]; exact so_so) ?_)
        obtain ⟨g1, hg1, hh19⟩ := own_pick (A := SG iE 3 v50 xs) (F := own G * (SG obE 30 v76 (L.map (·.1) ++ [(o.addr, s, true)]) * (pt r8 (.cells (lessW w v76 (L ++ [((o.addr, s, true), xs)]) w.gv w.globals).cells 26 (0, 0)) * (pt r11 (.cells #[.int .i64 o.addr, v50, .bool true] 30 (0, 0)) * (X * (own g * (pt r3 (.cells w.cells 26 (0, 0)) * tt))))))) (asr (by ac_rfl) hh19)
        obtain ⟨G', hh19, t1, t2⟩ := own_two (G := G) (g1 := g1) (F := SG obE 30 v76 (L.map (·.1) ++ [(o.addr, s, true)]) * (pt r8 (.cells (lessW w v76 (L ++ [((o.addr, s, true), xs)]) w.gv w.globals).cells 26 (0, 0)) * (pt r11 (.cells #[.int .i64 o.addr, v50, .bool true] 30 (0, 0)) * (X * (own g * (pt r3 (.cells w.cells 26 (0, 0)) * tt)))))) (asr (by ac_rfl) hh19)
        refine ⟨w.objs.length - (i + 1), by omega, i + 1, v76, L ++ [((o.addr, s, true), xs)], G', by simp, rfl, by omega, ⟨by simp [hLI.len], fun j p hp => ?_, fun p hp => ?_⟩, fun p hp => ?_, ?_⟩
        · by_cases hj : j < L.length
          · rw [List.getElem?_append_left hj] at hp
            exact hLI.row j p hp
          · have hjl := (List.getElem?_eq_some_iff.1 hp).1
            have hj : j = L.length := by simp at hjl; omega
            subst hj
            rw [List.getElem?_append_right (Nat.le_refl _), Nat.sub_self] at hp
            cases hp
            exact ⟨o, by rw [hLI.len]; exact hoi, rfl, rfl, hxs⟩
        · rcases List.mem_append.1 hp with hp | hp
          · exact t1 (hLI.ints p hp)
          · obtain rfl := List.mem_singleton.1 hp
            rw [← hs50]
            exact t2 (SG_ints (star_emp hg1))
        · rcases List.mem_append.1 hp with hp | hp
          · exact hL3 p hp
          · obtain rfl := List.mem_singleton.1 hp
            exact hxl
        · rw [List.map_append]
          exact dropL (P := pt r11 (.cells #[.int .i64 o.addr, v50, .bool true] 30 (0, 0))) (Q := SG obE 30 v76 (L.map (·.1) ++ [(o.addr, s, true)]) * (own G' * (pt r8 (.cells (lessW w v76 (L ++ [((o.addr, s, true), xs)]) w.gv w.globals).cells 26 (0, 0)) * (X * (own g * pt r3 (.cells w.cells 26 (0, 0))))))) (asr (by ac_rfl) hh19) |> asr (by ac_rfl)
      have l11' : ld1 (.pointer (some ⟨r11, 0 + 1, none⟩)) h15 = some v50 := ld1_mk (pt_get hh15) rfl
      have hS15 : (SG iE 3 v50 o.slots * (pt r11 (.cells #[.int .i64 o.addr, v50, .bool true] 30 (0, 0)) * (SG obE 30 ov (L.map (·.1)) * (own G * (pt r8 (.cells (lessW w ov L w.gv w.globals).cells 26 (0, 0)) * (X * (own g * (pt r3 (.cells w.cells 26 (0, 0)) * tt)))))))) h15 := asr (by ac_rfl) hh15
      have len50 := SG_len iE hS15
      have same : J3 [] h15 := hK o.slots h15 (fun y hy => .inr hy) hsl3 hh15
      by_cases hik : (i : Int) = k
      · by_cases hl0 : o.slots.length = 0
        · repeat (with_reducible first | refine vP_so ?_ | refine vB_t ?_ | refine vB_f ?_ | refine vE_tt ?_ | refine vE_ff ?_ | refine vE_tf ?_ | refine vE_ft ?_ | refine vE_u ?_ | refine vP_to (by simp (disch := omega) only [gdW_true, gdW_false, gB_true, gB_false, gB_undef, pickV_true, pickV_false, Bool.not_true, Bool.not_false, Option.map_some, bin_add, bin_sub, bin_mul, bin_quo, bin_rem, lss_t, lss_f, leq_t, leq_f, gtr_t, gtr_f, geq_t, geq_f, eqi_t, eqi_f, nei_t, nei_f, rem_uw, conv_ui, conv_iu, conv_ii, not_bool, nil_ptr, fa_mk, ptrV, len_mk, cap_mk, eq_ptr_nil, ne_ptr_nil, eq_nil_nil, ne_nil_nil, eq_slice_nil, eq_nil_slice, ia_1, l11', len50]; exact so_so) ?_)
          exact same
        · have hu := urem_lt (x := slot) (b := (o.slots.length : Int)) (by omega)
          obtain ⟨q, hq⟩ : ∃ q : Nat, urem slot o.slots.length = q := ⟨(urem slot o.slots.length).toNat, by omega⟩
          have hql : q < o.slots.length := by omega
          obtain ⟨pp, f1, _, f3⟩ := el1 hS15 (List.getElem?_eq_getElem hql) .i64
          repeat (with_reducible first | refine vP_so ?_ | refine vB_t ?_ | refine vB_f ?_ | refine vE_tt ?_ | refine vE_ff ?_ | refine vE_tf ?_ | refine vE_ft ?_ | refine vE_u ?_ | refine vP_to (by simp (disch := omega) only [gdW_true, gdW_false, gB_true, gB_false, gB_undef, pickV_true, pickV_false, Bool.not_true, Bool.not_false, Option.map_some, bin_add, bin_sub, bin_mul, bin_quo, bin_rem, lss_t, lss_f, leq_t, leq_f, gtr_t, gtr_f, geq_t, geq_f, eqi_t, eqi_f, nei_t, nei_f, rem_uw, conv_ui, conv_iu, conv_ii, not_bool, nil_ptr, fa_mk, ptrV, len_mk, cap_mk, eq_ptr_nil, ne_ptr_nil, eq_nil_nil, ne_nil_nil, eq_slice_nil, eq_nil_slice, ia_1, l11', len50, conv_u .i64 slot, hq, f1]; exact so_so) ?_)
          refine f3 0 _ fun h20 hh20 => ?_
          refine hK (o.slots.set q 0) h20 (fun y hy => ?_) (by rw [List.length_set]; exact hsl3) (asr (by ac_rfl) hh20)
          rcases List.mem_or_eq_of_mem_set hy with hy | hy
          · exact .inr hy
          · exact .inl hy
      · repeat (with_reducible first | refine vP_so ?_ | refine vB_t ?_ | refine vB_f ?_ | refine vE_tt ?_ | refine vE_ff ?_ | refine vE_tf ?_ | refine vE_ft ?_ | refine vE_u ?_ | refine vP_to (by simp (disch := omega) only [gdW_true, gdW_false, gB_true, gB_false, gB_undef, pickV_true, pickV_false, Bool.not_true, Bool.not_false, Option.map_some, bin_add, bin_sub, bin_mul, bin_quo, bin_rem, lss_t, lss_f, leq_t, leq_f, gtr_t, gtr_f, geq_t, geq_f, eqi_t, eqi_f, nei_t, nei_f, rem_uw, conv_ui, conv_iu, conv_ii, not_bool, nil_ptr, fa_mk, ptrV, len_mk, cap_mk, eq_ptr_nil, ne_ptr_nil, eq_nil_nil, ne_nil_nil, eq_slice_nil, eq_nil_slice, ia_1, l11', len50]; exact so_so) ?_)
        exact same
    · obtain rfl : i = w.objs.length := by omega
      repeat (with_reducible first | refine vP_so ?_ | refine vB_t ?_ | refine vB_f ?_ | refine vE_tt ?_ | refine vE_ff ?_ | refine vE_tf ?_ | refine vE_ft ?_ | refine vE_u ?_ | refine vP_to (by simp (disch := omega) only [gdW_true, gdW_false, gB_true, gB_false, gB_undef, pickV_true, pickV_false, Bool.not_true, Bool.not_false, Option.map_some, bin_add, bin_sub, bin_mul, bin_quo, bin_rem, lss_t, lss_f, leq_t, leq_f, gtr_t, gtr_f, geq_t, geq_f, eqi_t, eqi_f, nei_t, nei_f, rem_uw, conv_ui, conv_iu, conv_ii, not_bool, nil_ptr, fa_mk, ptrV, len_mk, cap_mk, eq_ptr_nil, ne_ptr_nil, eq_nil_nil, ne_nil_nil, eq_slice_nil, eq_nil_slice, ia_1, l3.2.1, hol.1]; exact so_so) ?_)
      intro J4 hJ4
      have hK : ∀ (gv : Value) (gl : List Int) (Y : Asrt) (h' : Hp), (∀ x ∈ gl, x = 0 ∨ x ∈ w.globals) → gl.length ≤ 40 → (∀ {h : Hp} {F : Asrt}, (Y * (own g * F)) h → IntsAt h gv gl) →
          (Y * (SG obE 30 ov (L.map (·.1)) * (own G * (pt r8 (.cells (lessW w ov L gv gl).cells 26 (0, 0)) * (X * (own g * (pt r3 (.cells w.cells 26 (0, 0)) * tt))))))) h' → J4 [] h' := fun gv gl Y h' hgm hgl2 hY q => by
        refine hJ4 _ fun _ => ?_
        have hLess : LessOf w (lessW w ov L gv gl) := hLI.less hgm
        obtain ⟨g2, hg2, q⟩ := own_pick (A := Y * (SG obE 30 ov (L.map (·.1)) * (own G * (pt r8 (.cells (lessW w ov L gv gl).cells 26 (0, 0)) * (X * (own g * pt r3 (.cells w.cells 26 (0, 0)))))))) (F := emp * tt) (asr (by rw [emp_star]; ac_rfl) q)
        have a1 : (Y * (own g * (SG obE 30 ov (L.map (·.1)) * (own G * (pt r8 (.cells (lessW w ov L gv gl).cells 26 (0, 0)) * (X * pt r3 (.cells w.cells 26 (0, 0)))))))) g2 := asr (by ac_rfl) hg2
        have a2 : (SG obE 30 ov (L.map (·.1)) * (Y * (own g * (own G * (pt r8 (.cells (lessW w ov L gv gl).cells 26 (0, 0)) * (X * pt r3 (.cells w.cells 26 (0, 0)))))))) g2 := asr (by ac_rfl) hg2
        have a3 : (own g * (SG obE 30 ov (L.map (·.1)) * (Y * (own G * (pt r8 (.cells (lessW w ov L gv gl).cells 26 (0, 0)) * (X * pt r3 (.cells w.cells 26 (0, 0)))))))) g2 := asr (by ac_rfl) hg2
        have a4 : (own G * (SG obE 30 ov (L.map (·.1)) * (Y * (own g * (pt r8 (.cells (lessW w ov L gv gl).cells 26 (0, 0)) * (X * pt r3 (.cells w.cells 26 (0, 0)))))))) g2 := asr (by ac_rfl) hg2
        have a5 : (pt r8 (.cells (lessW w ov L gv gl).cells 26 (0, 0)) * (own G * (SG obE 30 ov (L.map (·.1)) * (Y * (own g * (X * pt r3 (.cells w.cells 26 (0, 0)))))))) g2 := asr (by ac_rfl) hg2
        have a6 : (X * (pt r8 (.cells (lessW w ov L gv gl).cells 26 (0, 0)) * (own G * (SG obE 30 ov (L.map (·.1)) * (Y * (own g * pt r3 (.cells w.cells 26 (0, 0)))))))) g2 := asr (by ac_rfl) hg2
        rw [hX] at a6
        have iR : IntsAt g2 v19 R := SG_ints a6
        have hvw2 := own_vat a3 hv
        have hv2 : VAt g2 (lessW w ov L gv gl) := by
          refine ⟨hY a1, hvw2.gs, ?_, fun o ho => ?_, hvw2.stacks⟩
          · have := SG_rows obE a2
            rw [rows_ob] at this
            exact this
          · obtain ⟨p, hp, rfl⟩ := List.mem_map.1 ho
            exact own_ints a4 (hLI.ints p hp)
        have hs2 : Small (lessW w ov L gv gl) := less_small hLess hfew (fun o ho => by
          obtain ⟨p, hp, rfl⟩ := List.mem_map.1 ho
          exact hL3 p hp) hgl2 ha
        have hN2 := hs2.all
        have l8 := (vw_ld (r := r8) (w := lessW w ov L gv gl) (E := 26) a5).2.2.2.2.2.2.2.2.2
        have back : ∀ h', (own g2 * (emp * tt)) h' → (own g * (pt r3 (.cells w.cells 26 (0, 0)) * tt)) h' := fun h' q => by
          have q := own_back hg2 q
          exact dropL (P := Y * (SG obE 30 ov (L.map (·.1)) * (own G * (pt r8 (.cells (lessW w ov L gv gl).cells 26 (0, 0)) * X)))) (Q := own g * pt r3 (.cells w.cells 26 (0, 0))) (asr (by rw [emp_star]; ac_rfl) q) |> asr (by ac_rfl)
        clear a1 a2 a3 a4 a5 a6 hg2
        repeat (with_reducible first | refine vP_so ?_ | refine vB_t ?_ | refine vB_f ?_ | refine vE_tt ?_ | refine vE_ff ?_ | refine vE_tf ?_ | refine vE_ft ?_ | refine vE_u ?_ | refine vP_to (by simp (disch := omega) only [gdW_true, gdW_false, gB_true, gB_false, gB_undef, pickV_true, pickV_false, Bool.not_true, Bool.not_false, Option.map_some, bin_add, bin_sub, bin_mul, bin_quo, bin_rem, lss_t, lss_f, leq_t, leq_f, gtr_t, gtr_f, geq_t, geq_f, eqi_t, eqi_f, nei_t, nei_f, rem_uw, conv_ui, conv_iu, conv_ii, not_bool, nil_ptr, fa_mk, ptrV, len_mk, cap_mk, eq_ptr_nil, ne_ptr_nil, eq_nil_nil, ne_nil_nil, eq_slice_nil, eq_nil_slice, ia_1, own_ldN q l8]; exact so_so) ?_)
        refine use_reach hv2 hN2 q fun v104 N h22 hNr nN hh22 => ?_
        have lenN := SG_len iE hh22
        have lenR := iR.len
        have hsub : ∀ x ∈ N, x ∈ R := fun x hx => by
          obtain ⟨h1, h2⟩ := (hNr.2 x).1 hx
          rw [hLess.at] at h2
          exact (hR.2 x).2 ⟨hLess.rch h1, h2⟩
        have hle : N.length ≤ R.length := nodup_len (hNr.1.imp fun h e => by omega) hsub
        refine ⟨fun m zs h' => ∃ j : Nat, zs = [.int .i64 j] ∧ m = N.length - j ∧ j ≤ N.length ∧ h' = h22, ⟨_, 0, rfl, rfl, by omega, rfl⟩, ?_⟩
        rintro m v13 h23 ⟨j, hzs, rfl, hj, rfl⟩ _
        obtain rfl : v13 = .int .i64 j := by simpa using hzs
        by_cases hjl : j < N.length
        · obtain ⟨p, f1, f2, _⟩ := el1 hh22 (List.getElem?_eq_getElem hjl) .i64
          have hx := hsub _ (List.getElem_mem hjl)
          generalize N[j] = x at *
          repeat (with_reducible first | refine vP_so ?_ | refine vB_t ?_ | refine vB_f ?_ | refine vE_tt ?_ | refine vE_ff ?_ | refine vE_tf ?_ | refine vE_ft ?_ | refine vE_u ?_ | refine vP_to (by simp (disch := omega) only [gdW_true, gdW_false, gB_true, gB_false, gB_undef, pickV_true, pickV_false, Bool.not_true, Bool.not_false, Option.map_some, bin_add, bin_sub, bin_mul, bin_quo, bin_rem, lss_t, lss_f, leq_t, leq_f, gtr_t, gtr_f, geq_t, geq_f, eqi_t, eqi_f, nei_t, nei_f, rem_uw, conv_ui, conv_iu, conv_ii, not_bool, nil_ptr, fa_mk, ptrV, len_mk, cap_mk, eq_ptr_nil, ne_ptr_nil, eq_nil_nil, ne_nil_nil, eq_slice_nil, eq_nil_slice, ia_1, lenN, f1, f2]; exact so_so) ?_)
          refine use_has (own_ints (F := SG iE 3 v104 N * (emp * tt)) (asr (by ac_rfl) hh22) iR) ?_
          rw [decide_eq_true hx]
          repeat (with_reducible first | refine vP_so ?_ | refine vB_t ?_ | refine vB_f ?_ | refine vE_tt ?_ | refine vE_ff ?_ | refine vE_tf ?_ | refine vE_ft ?_ | refine vE_u ?_ | refine vP_to (by simp (disch := omega) only [gdW_true, gdW_false, gB_true, gB_false, gB_undef, pickV_true, pickV_false, Bool.not_true, Bool.not_false, Option.map_some, bin_add, bin_sub, bin_mul, bin_quo, bin_rem, lss_t, lss_f, leq_t, leq_f, gtr_t, gtr_f, geq_t, geq_f, eqi_t, eqi_f, nei_t, nei_f, rem_uw, conv_ui, conv_iu, conv_ii, not_bool, nil_ptr, fa_mk, ptrV, len_mk, cap_mk, eq_ptr_nil, ne_ptr_nil, eq_nil_nil, ne_nil_nil, eq_slice_nil, eq_nil_slice, ia_1]; exact so_so) ?_)
          exact ⟨N.length - (j + 1), by omega, j + 1, by simp, rfl, by omega, rfl⟩
        obtain rfl : j = N.length := by omega
        repeat (with_reducible first | refine vP_so ?_ | refine vB_t ?_ | refine vB_f ?_ | refine vE_tt ?_ | refine vE_ff ?_ | refine vE_tf ?_ | refine vE_ft ?_ | refine vE_u ?_ | refine vP_to (by simp (disch := omega) only [gdW_true, gdW_false, gB_true, gB_false, gB_undef, pickV_true, pickV_false, Bool.not_true, Bool.not_false, Option.map_some, bin_add, bin_sub, bin_mul, bin_quo, bin_rem, lss_t, lss_f, leq_t, leq_f, gtr_t, gtr_f, geq_t, geq_f, eqi_t, eqi_f, nei_t, nei_f, rem_uw, conv_ui, conv_iu, conv_ii, not_bool, nil_ptr, fa_mk, ptrV, len_mk, cap_mk, eq_ptr_nil, ne_ptr_nil, eq_nil_nil, ne_nil_nil, eq_slice_nil, eq_nil_slice, ia_1, lenN]; exact so_so) ?_)
        refine use_told29 (F := SG iE 3 v104 N * (own g2 * emp)) (asr (by ac_rfl) hh22) fun h25 hh25 => ?_
        have hh25 : (own g2 * (SG iE 3 v104 N * tt)) h25 := asr (by rw [star_comm (own g2) emp, emp_star]; ac_rfl) hh25
        have l25 := own_ldN hh25 l8
        repeat (with_reducible first | refine vP_so ?_ | refine vB_t ?_ | refine vB_f ?_ | refine vE_tt ?_ | refine vE_ff ?_ | refine vE_tf ?_ | refine vE_ft ?_ | refine vE_u ?_ | refine vP_to (by simp (disch := omega) only [gdW_true, gdW_false, gB_true, gB_false, gB_undef, pickV_true, pickV_false, Bool.not_true, Bool.not_false, Option.map_some, bin_add, bin_sub, bin_mul, bin_quo, bin_rem, lss_t, lss_f, leq_t, leq_f, gtr_t, gtr_f, geq_t, geq_f, eqi_t, eqi_f, nei_t, nei_f, rem_uw, conv_ui, conv_iu, conv_ii, not_bool, nil_ptr, fa_mk, ptrV, len_mk, cap_mk, eq_ptr_nil, ne_ptr_nil, eq_nil_nil, ne_nil_nil, eq_slice_nil, eq_nil_slice, ia_1, l25]; exact so_so) ?_)
        refine use_white (F := SG iE 3 v104 N) hv2 hN2 hh25 fun v121 wl h26 hwl _ hh26 => ?_
        obtain rfl : wl = [] := by
          cases wl with
          | nil => rfl
          | cons x t =>
            obtain ⟨_, k2, o2, e1, e2, e3⟩ := (hwl.2 x).1 (by simp)
            obtain ⟨_, _, e4, _⟩ := hLess.ob k2 o2 e2
            rw [e4] at e3
            cases e3
        have len26 := SG_len iE hh26
        simp only [List.length_nil] at len26
        repeat (with_reducible first | refine vP_so ?_ | refine vB_t ?_ | refine vB_f ?_ | refine vE_tt ?_ | refine vE_ff ?_ | refine vE_tf ?_ | refine vE_ft ?_ | refine vE_u ?_ | refine vP_to (by simp (disch := omega) only [gdW_true, gdW_false, gB_true, gB_false, gB_undef, pickV_true, pickV_false, Bool.not_true, Bool.not_false, Option.map_some, bin_add, bin_sub, bin_mul, bin_quo, bin_rem, lss_t, lss_f, leq_t, leq_f, gtr_t, gtr_f, geq_t, geq_f, eqi_t, eqi_f, nei_t, nei_f, rem_uw, conv_ui, conv_iu, conv_ii, not_bool, nil_ptr, fa_mk, ptrV, len_mk, cap_mk, eq_ptr_nil, ne_ptr_nil, eq_nil_nil, ne_nil_nil, eq_slice_nil, eq_nil_slice, ia_1, len26, lenN, lenR]; exact so_so) ?_)
        exact fin h26 (back h26 (dropL (P := SG iE 3 v121 [] * SG iE 3 v104 N) (Q := own g2) (asr (by ac_rfl) hh26) |> asr (by rw [emp_star])))
      have same : J4 [] h9 := hK w.gv w.globals emp h9 (fun x hx => .inr hx) hg40 (fun q => own_ints (asr (by rw [emp_star]) q) hv.glob) (by rw [emp_star]; exact hh9)
      obtain ⟨c, hc⟩ : ∃ c, binV .and (.int .i64 which) (.int .i64 1) = some (.int .i64 c) := ⟨_, rfl⟩
      by_cases hl0 : w.globals.length = 0
      · repeat (with_reducible first | refine vP_so ?_ | refine vB_t ?_ | refine vB_f ?_ | refine vE_tt ?_ | refine vE_ff ?_ | refine vE_tf ?_ | refine vE_ft ?_ | refine vE_u ?_ | refine vP_to (by simp (disch := omega) only [gdW_true, gdW_false, gB_true, gB_false, gB_undef, pickV_true, pickV_false, Bool.not_true, Bool.not_false, Option.map_some, bin_add, bin_sub, bin_mul, bin_quo, bin_rem, lss_t, lss_f, leq_t, leq_f, gtr_t, gtr_f, geq_t, geq_f, eqi_t, eqi_f, nei_t, nei_f, rem_uw, conv_ui, conv_iu, conv_ii, not_bool, nil_ptr, fa_mk, ptrV, len_mk, cap_mk, eq_ptr_nil, ne_ptr_nil, eq_nil_nil, ne_nil_nil, eq_slice_nil, eq_nil_slice, ia_1, l3.2.2, hgl]; exact so_so) ?_)
        exact same
      · by_cases hc1 : c = 1
        · have b0 : bldV #[] [] = some #[] := rfl
          repeat (with_reducible first | refine vP_so ?_ | refine vB_t ?_ | refine vB_f ?_ | refine vE_tt ?_ | refine vE_ff ?_ | refine vE_tf ?_ | refine vE_ft ?_ | refine vE_u ?_ | refine vP_to (by simp (disch := omega) only [gdW_true, gdW_false, gB_true, gB_false, gB_undef, pickV_true, pickV_false, Bool.not_true, Bool.not_false, Option.map_some, bin_add, bin_sub, bin_mul, bin_quo, bin_rem, lss_t, lss_f, leq_t, leq_f, gtr_t, gtr_f, geq_t, geq_f, eqi_t, eqi_f, nei_t, nei_f, rem_uw, conv_ui, conv_iu, conv_ii, not_bool, nil_ptr, fa_mk, ptrV, len_mk, cap_mk, eq_ptr_nil, ne_ptr_nil, eq_nil_nil, ne_nil_nil, eq_slice_nil, eq_nil_slice, ia_1, l3.2.2, hgl, hc]; exact so_so) ?_)
          rw [b0]
          refine vA_new (f := fun r => .slice (some ⟨r, 0, none⟩) 0 0) hh9 fun r87 h27 hh27 => ?_
          have hh27 : (SG iE 3 (.slice (some ⟨r87, 0, none⟩) 0 0) [] * (SG obE 30 ov (L.map (·.1)) * (own G * (pt r8 (.cells (lessW w ov L w.gv w.globals).cells 26 (0, 0)) * (X * (own g * (pt r3 (.cells w.cells 26 (0, 0)) * tt))))))) h27 := SG_intro iE (pre := []) (post := []) (l := []) rfl rfl (by simp) (by omega) (by simp) hh27
          have l27 := (lw (G := SG iE 3 (.slice (some ⟨r87, 0, none⟩) 0 0) [] * (SG obE 30 ov (L.map (·.1)) * (own G * pt r8 (.cells (lessW w ov L w.gv w.globals).cells 26 (0, 0))))) (asr (by ac_rfl) hh27)).2.2
          have hx27 : IntsAt h27 w.gv w.globals := own_ints (F := SG iE 3 (.slice (some ⟨r87, 0, none⟩) 0 0) [] * (SG obE 30 ov (L.map (·.1)) * (own G * (pt r8 (.cells (lessW w ov L w.gv w.globals).cells 26 (0, 0)) * (X * (pt r3 (.cells w.cells 26 (0, 0)) * tt)))))) (asr (by ac_rfl) hh27) hv.glob
          repeat (with_reducible first | refine vP_so ?_ | refine vB_t ?_ | refine vB_f ?_ | refine vE_tt ?_ | refine vE_ff ?_ | refine vE_tf ?_ | refine vE_ft ?_ | refine vE_u ?_ | refine vP_to (by simp (disch := omega) only [gdW_true, gdW_false, gB_true, gB_false, gB_undef, pickV_true, pickV_false, Bool.not_true, Bool.not_false, Option.map_some, bin_add, bin_sub, bin_mul, bin_quo, bin_rem, lss_t, lss_f, leq_t, leq_f, gtr_t, gtr_f, geq_t, geq_f, eqi_t, eqi_f, nei_t, nei_f, rem_uw, conv_ui, conv_iu, conv_ii, not_bool, nil_ptr, fa_mk, ptrV, len_mk, cap_mk, eq_ptr_nil, ne_ptr_nil, eq_nil_nil, ne_nil_nil, eq_slice_nil, eq_nil_slice, ia_1, l27]; exact so_so) ?_)
          refine ap_ints (F := SG obE 30 ov (L.map (·.1)) * (own G * (pt r8 (.cells (lessW w ov L w.gv w.globals).cells 26 (0, 0)) * (X * (own g * pt r3 (.cells w.cells 26 (0, 0))))))) elInt rfl rfl niInts (by omega) hx27 (asr (by ac_rfl) hh27) (by simp only [List.length_nil]; omega) fun v90 h28 hh28 => ?_
          rw [List.nil_append] at hh28
          have o90 := SG_one iE hh28
          repeat (with_reducible first | refine vP_so ?_ | refine vB_t ?_ | refine vB_f ?_ | refine vE_tt ?_ | refine vE_ff ?_ | refine vE_tf ?_ | refine vE_ft ?_ | refine vE_u ?_ | refine vP_to (by simp (disch := omega) only [gdW_true, gdW_false, gB_true, gB_false, gB_undef, pickV_true, pickV_false, Bool.not_true, Bool.not_false, Option.map_some, bin_add, bin_sub, bin_mul, bin_quo, bin_rem, lss_t, lss_f, leq_t, leq_f, gtr_t, gtr_f, geq_t, geq_f, eqi_t, eqi_f, nei_t, nei_f, rem_uw, conv_ui, conv_iu, conv_ii, not_bool, nil_ptr, fa_mk, ptrV, len_mk, cap_mk, eq_ptr_nil, ne_ptr_nil, eq_nil_nil, ne_nil_nil, eq_slice_nil, eq_nil_slice, ia_1]; exact so_so) ?_)
          refine st1_mk (asr (by ac_rfl) hh28 : (pt r8 (.cells (lessW w ov L w.gv w.globals).cells 26 (0, 0)) * (SG iE 3 v90 w.globals * (SG obE 30 ov (L.map (·.1)) * (own G * (X * (own g * (pt r3 (.cells w.cells 26 (0, 0)) * tt))))))) h28) o90 (by simp [VW.cells]) fun h29 hh29 => ?_
          have hu := urem_lt (x := slot) (b := (w.globals.length : Int)) (by omega)
          obtain ⟨q, hq⟩ : ∃ q : Nat, urem slot w.globals.length = q := ⟨(urem slot w.globals.length).toNat, by omega⟩
          have hql : q < w.globals.length := by omega
          have hh29 := pt_cst (c' := (lessW w ov L v90 (w.globals.set q 0)).cells) rfl hh29
          have l92 := (vw_ld (r := r8) (w := lessW w ov L v90 (w.globals.set q 0)) (E := 26) hh29).2.2.2.1
          have l92 : ld1 (.pointer (some ⟨r8, 0 + 3, none⟩)) h29 = some v90 := l92
          have hS29 : (SG iE 3 v90 w.globals * (pt r8 (.cells (lessW w ov L v90 (w.globals.set q 0)).cells 26 (0, 0)) * (SG obE 30 ov (L.map (·.1)) * (own G * (X * (own g * (pt r3 (.cells w.cells 26 (0, 0)) * tt))))))) h29 := asr (by ac_rfl) hh29
          have len90 := SG_len iE hS29
          obtain ⟨pp, f1, _, f3⟩ := el1 hS29 (List.getElem?_eq_getElem hql) .i64
          repeat (with_reducible first | refine vP_so ?_ | refine vB_t ?_ | refine vB_f ?_ | refine vE_tt ?_ | refine vE_ff ?_ | refine vE_tf ?_ | refine vE_ft ?_ | refine vE_u ?_ | refine vP_to (by simp (disch := omega) only [gdW_true, gdW_false, gB_true, gB_false, gB_undef, pickV_true, pickV_false, Bool.not_true, Bool.not_false, Option.map_some, bin_add, bin_sub, bin_mul, bin_quo, bin_rem, lss_t, lss_f, leq_t, leq_f, gtr_t, gtr_f, geq_t, geq_f, eqi_t, eqi_f, nei_t, nei_f, rem_uw, conv_ui, conv_iu, conv_ii, not_bool, nil_ptr, fa_mk, ptrV, len_mk, cap_mk, eq_ptr_nil, ne_ptr_nil, eq_nil_nil, ne_nil_nil, eq_slice_nil, eq_nil_slice, ia_1, l92, len90, conv_u .i64 slot, hq, f1]; exact so_so) ?_)
          refine f3 0 _ fun h30 hh30 => ?_
          refine hK v90 (w.globals.set q 0) (SG iE 3 v90 (w.globals.set q 0)) h30 (fun x hx => ?_) (by rw [List.length_set]; exact hg40) (fun q => SG_ints q) (asr (by ac_rfl) hh30)
          rcases List.mem_or_eq_of_mem_set hx with hx | hx
          · exact .inr hx
          · exact .inl hx
        · repeat (with_reducible first | refine vP_so ?_ | refine vB_t ?_ | refine vB_f ?_ | refine vE_tt ?_ | refine vE_ff ?_ | refine vE_tf ?_ | refine vE_ft ?_ | refine vE_u ?_ | refine vP_to (by simp (disch := omega) only [gdW_true, gdW_false, gB_true, gB_false, gB_undef, pickV_true, pickV_false, Bool.not_true, Bool.not_false, Option.map_some, bin_add, bin_sub, bin_mul, bin_quo, bin_rem, lss_t, lss_f, leq_t, leq_f, gtr_t, gtr_f, geq_t, geq_f, eqi_t, eqi_f, nei_t, nei_f, rem_uw, conv_ui, conv_iu, conv_ii, not_bool, nil_ptr, fa_mk, ptrV, len_mk, cap_mk, eq_ptr_nil, ne_ptr_nil, eq_nil_nil, ne_nil_nil, eq_slice_nil, eq_nil_slice, ia_1, l3.2.2, hgl, hc]; exact so_so) ?_)
          exact same
  have l23 := (lw (G := SG obE 30 (.slice none 0 0) [] * (own Hp.emp * pt r8 (.cells (lessW w (.slice none 0 0) [] w.gv w.globals).cells 26 (0, 0)))) (asr (by ac_rfl) hh7)).2.1
  by_cases h0 : w.objs.length = 0
  · repeat (with_reducible first | refine vP_so ?_ | refine vB_t ?_ | refine vB_f ?_ | refine vE_tt ?_ | refine vE_ff ?_ | refine vE_tf ?_ | refine vE_ft ?_ | refine vE_u ?_ | refine vP_to (by simp (disch := omega) only [gdW_true, gdW_false, gB_true, gB_false, gB_undef, pickV_true, pickV_false, Bool.not_true, Bool.not_false, Option.map_some, bin_add, bin_sub, bin_mul, bin_quo, bin_rem, lss_t, lss_f, leq_t, leq_f, gtr_t, gtr_f, geq_t, geq_f, eqi_t, eqi_f, nei_t, nei_f, rem_uw, conv_ui, conv_iu, conv_ii, not_bool, nil_ptr, fa_mk, ptrV, len_mk, cap_mk, eq_ptr_nil, ne_ptr_nil, eq_nil_nil, ne_nil_nil, eq_slice_nil, eq_nil_slice, ia_1, l23, hol.1]; exact so_so) ?_)
    exact hJ 0
  · have hu := urem_lt (x := which) (b := (w.objs.length : Int)) (by omega)
    repeat (with_reducible first | refine vP_so ?_ | refine vB_t ?_ | refine vB_f ?_ | refine vE_tt ?_ | refine vE_ff ?_ | refine vE_tf ?_ | refine vE_ft ?_ | refine vE_u ?_ | refine vP_to (by simp (disch := omega) only [gdW_true, gdW_false, gB_true, gB_false, gB_undef, pickV_true, pickV_false, Bool.not_true, Bool.not_false, Option.map_some, bin_add, bin_sub, bin_mul, bin_quo, bin_rem, lss_t, lss_f, leq_t, leq_f, gtr_t, gtr_f, geq_t, geq_f, eqi_t, eqi_f, nei_t, nei_f, rem_uw, conv_ui, conv_iu, conv_ii, not_bool, nil_ptr, fa_mk, ptrV, len_mk, cap_mk, eq_ptr_nil, ne_ptr_nil, eq_nil_nil, ne_nil_nil, eq_slice_nil, eq_nil_slice, ia_1, l23, hol.1, conv_u .i64 which]; exact so_so) ?_)
    exact hJ _

end Go.Proofs
