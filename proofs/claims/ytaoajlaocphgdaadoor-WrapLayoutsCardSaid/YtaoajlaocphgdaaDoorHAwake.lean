/-
Contract of caponierlaw19.awake: it says true.
-/
import Derived.Test.YtaoajlaocphgdaaDoorHCap
import Derived.Test.YtaoajlaocphgdaaDoorHLay
namespace Go.Proofs.YtaoajlaocphgdaaDoor.PA
open Go.RowKit Go.Proofs.YtaoajlaocphgdaaDoorW.PrintWords Go.Proofs.YtaoajlaocphgdaaDoorW.PrintLast Go.Proofs.YtaoajlaocphgdaaDoorW.PrintMore
set_option linter.unusedVariables false
set_option linter.unusedSimpArgs false

theorem may_layC : mayL layC = true := by decide
theorem may_lay0 : mayL lay0 = false := by decide
theorem name_f : nameB (⟨#[102]⟩ : ByteArray).data.toList = true := by decide
theorem name_F : nameB (⟨#[70]⟩ : ByteArray).data.toList = false := by decide
theorem len2 : (codeL [0, 2] layC).length = 46 := by decide
theorem len0 : (codeL [] layC).length = 38 := by decide
theorem last2 : (codeL [0, 2] layC)[45]? = some ⟨42, 0, 0, 0, 0⟩ := by rfl
theorem row42 : rd_T97 rowsL 42 = ⟨⟨#[69]⟩, ⟨115, 0, 0⟩⟩ := by rfl
theorem enc42 : encP ⟨42, 0, 0, 0, 0⟩ = (1048691, 0) := by
  simp [encP, ins_Encode.f, ins_May.f, ins_Form.f, row42, ByteArray.toList_eq, ins_has.f, ins_has.j0, ins_reg.f, ins_imm.f]
theorem word2 : rd (wordsL [0, 2] layC) 45 = 1048691 := by
  have h := last2
  simp only [rd, wordsL, List.getD_eq_getElem?_getD, List.getElem?_map]
  rw [show (45 : Int).toNat = 45 from rfl, h]
  simp [enc42]
theorem wlen2 : (wordsL [0, 2] layC).length = 46 := by rw [wordsL, List.length_map, len2]
theorem wlen0 : (wordsL [] layC).length = 38 := by rw [wordsL, List.length_map, len0]
theorem run_build0 (W : World) : (Instr.build 27 #[]).run Tryd.prog W = .ok (.agg (layArr lay0)) W := by kernel_rfl

theorem may_at (l : LayV) (b : Bool) (h : mayL l = b) (w : World) : Calls Tryd.prog 13 #[.agg (layArr l)] w fun e w' => e = .returned (.bool b) ∧ Below w.heap.size w w' :=
  wrap_May.calls 6 l.a0 l.a1 l.a2 l.a3 l.a4 l.a5 l.a6 l.a7 l.a8 l.a9 l.a10 l.a11 l.a12 l.a13 l.a14 l.a15 l.a16 l.a17 l.a18 l.a19 b w (h ▸ may_f l 6 (Nat.le_refl _))

def caponierlaw19_awake.f : Option Bool := some true
set_option maxHeartbeats 16000000 in
set_option maxRecDepth 100000 in
theorem caponierlaw19_awake.calls (r : Bool) (w : World) (h : caponierlaw19_awake.f = some r) (hG : GlobOk w) :
    Calls Tryd.prog 9 #[] w fun e w' => e = .returned (.bool r) ∧ Below w.heap.size w w' := by
  obtain rfl := Option.some.inj h
  clear h
  have HB := Aside0.mk (Below.refl w.heap.size w)
  have HG := Aside0.mk hG
  clear hG
  go_enter Tryd.func9, Tryd.ntmps9
  go_wp2_with (first | ((with_reducible refine gate_dst (N := 9) rfl ?_); refine Kd.R_lit (Kd.int .i64) (w0 := w) w.heap.size 3 ?hg (N := 9) ?hd (xs := ([0, 2] : List Int)) (inner := [.int .i64 0, .int .i64 2]) (ok := fun _ => True) (okp := fun _ => True) ?hr ?hp (fun _ hk => hk) trivial HB.out (Nat.le_refl _) (by simp) ?_; (case hd => rfl); (case hg => rfl); (case hr => first | (go_simp; done) | (go_simp; rfl)); (case hp => exact (Reps.one (show Kd.M (Kd.int .i64) _ _ _ 0 [.int .i64 0] from rfl) (Reps.one (show Kd.M (Kd.int .i64) _ _ _ 2 [.int .i64 2] from rfl) (Reps.none _ _)))); intro v9 w1 ho hb1 hg1 hn1; obtain ⟨A9, c9, hv9⟩ := Kd.R_slice ho; replace hv9 : v9 = .slice A9 2 c9 := hv9; subst hv9; have HR1 := Aside0.mk ho; have HB1 := Aside0.mk hb1; clear ho hb1 hg1 hn1))
  refine (layout_calls w1).mono ?_
  rintro e w2 ⟨rfl, hb2⟩
  have HB2 := Aside0.mk (below_step HB1.out hb2)
  have HR2 := Aside0.mk (Kd.R_below HR1.out hb2)
  clear hb2 HB1 HR1
  go_wp2_with fail
  refine (cap_yes ⟨#[102]⟩ A9 c9 [0, 2] layC w2 (Kd.R_reads' HR2.out).2.2 (Kd.R_reads' HR2.out).2.1 (HG.out.of_below HB2.out) (by decide) may_layC name_f (by decide) (by decide)).mono ?_
  rintro e w3 ⟨u3, v3, rfl, hu3, hv3, hb3⟩
  obtain ⟨Au, cu, hu⟩ := Kd.R_slice hu3
  rw [wlen2] at hu
  subst hu
  obtain ⟨Av, cv, hv⟩ := Kd.R_slice hv3
  replace hv : v3 = .slice Av 1 cv := hv
  subst hv
  have HB3 := Aside0.mk (below_step HB2.out hb3)
  have HU3 := Aside0.mk (Kd.R_lower hu3 HB2.out.size)
  have HV3 := Aside0.mk (Kd.R_lower hv3 HB2.out.size)
  clear hu3 hv3 hb3 HB2 HR2
  go_wp2_with (first | ((with_reducible refine gate_dst (N := 1) rfl ?_); refine box_event ?hg (N := 1) ?hd (cs := noCells) (t := 35) ?hr ?_; (case hd => rfl); (case hg => rfl); (case hr => first | (go_simp; done) | (go_simp; rfl)); intro g1 hg1 wa1 Ba1 hba1; have HA1 := Aside0.mk hba1; have HE1 := Aside0.mk hg1; have HK1 := Aside0.mk Ba1; clear hba1 hg1 Ba1) | (refine store_event (by rfl) (ty := 35) (by rfl) g1 35 noCells (objCells (.slice Au 46 cu) (.slice Av 1 cv)) (by rfl) (by rfl) HK1.out (by kernel_rfl) rfl (by kernel_rfl) ?_; intro wb1 hs1; have HS1 := Aside0.mk hs1; clear hs1))
  have hX1 := HS1.out.below HA1.out (by rw [HE1.out]; exact Nat.le_refl _)
  refine (layout_calls _).mono ?_
  rintro e w4 ⟨rfl, hb4⟩
  have hx4 := below_step hX1 hb4
  have HB4 := Aside0.mk (below_step HB3.out hx4)
  have HU4 := Aside0.mk (Kd.R_below HU3.out hx4)
  have HV4 := Aside0.mk (Kd.R_below HV3.out hx4)
  have HK14 := Aside0.mk (blk_below HS1.out.at_ hb4)
  clear hX1 hb4 hx4 HB3 HU3 HV3 HS1 HA1 HE1 HK1
  go_wp2_with fail
  refine (cap_yes ⟨#[102]⟩ none 0 [] layC w4 (Kd.R_reads' (Kd.R_nil (Kd.int .i64) 3 w4 0 (fun _ => True))).2.2 (Nat.le_refl 0) (HG.out.of_below HB4.out) (by decide) may_layC name_f (by decide) (by decide)).mono ?_
  rintro e w5 ⟨u5, v5, rfl, hu5, hv5, hb5⟩
  obtain ⟨Au5, cu5, hu⟩ := Kd.R_slice hu5
  rw [wlen0] at hu
  subst hu
  obtain ⟨Av5, cv5, hv⟩ := Kd.R_slice hv5
  replace hv : v5 = .slice Av5 1 cv5 := hv
  subst hv
  have HB5 := Aside0.mk (below_step HB4.out hb5)
  have HU5 := Aside0.mk (Kd.R_below HU4.out hb5)
  have HV5 := Aside0.mk (Kd.R_below HV4.out hb5)
  have HK15 := Aside0.mk (blk_below HK14.out hb5)
  clear hu5 hv5 hb5 HB4 HU4 HV4 HK14
  go_wp2_with (first | ((with_reducible refine gate_dst (N := 3) rfl ?_); refine box_event ?hg (N := 3) ?hd (cs := noCells) (t := 35) ?hr ?_; (case hd => rfl); (case hg => rfl); (case hr => first | (go_simp; done) | (go_simp; rfl)); intro g3 hg3 wa3 Ba3 hba3; have HA3 := Aside0.mk hba3; have HE3 := Aside0.mk hg3; have HK3 := Aside0.mk Ba3; clear hba3 hg3 Ba3) | (refine store_event (by rfl) (ty := 35) (by rfl) g3 35 noCells (objCells (.slice Au5 38 cu5) (.slice Av5 1 cv5)) (by rfl) (by rfl) HK3.out (by kernel_rfl) rfl (by kernel_rfl) ?_; intro wb3 hs3; have HS3 := Aside0.mk hs3; clear hs3))
  have hX1 := HS3.out.below HA3.out (by rw [HE3.out]; exact Nat.le_refl _)
  refine (layout_calls _).mono ?_
  rintro e w6 ⟨rfl, hb6⟩
  have hx6 := below_step hX1 hb6
  have HB6 := Aside0.mk (below_step HB5.out hx6)
  have HU6 := Aside0.mk (Kd.R_below HU5.out hx6)
  have HV6 := Aside0.mk (Kd.R_below HV5.out hx6)
  have HK16 := Aside0.mk (blk_below HK15.out hx6)
  have HK36 := Aside0.mk (blk_below HS3.out.at_ hb6)
  clear hX1 hb6 hx6 HB5 HU5 HV5 HS3 HA3 HE3 HK3 HK15
  go_wp2_with fail
  refine (cap_no ⟨#[70]⟩ none 0 [] layC w6 (Kd.R_reads' (Kd.R_nil (Kd.int .i64) 3 w6 0 (fun _ => True))).2.2 (Nat.le_refl 0) (HG.out.of_below HB6.out) (by decide) (by rw [name_F]; simp)).mono ?_
  rintro e w7 ⟨rfl, hb7⟩
  have HB7 := Aside0.mk (below_step HB6.out hb7)
  have HU7 := Aside0.mk (Kd.R_below HU6.out hb7)
  have HV7 := Aside0.mk (Kd.R_below HV6.out hb7)
  have HK17 := Aside0.mk (blk_below HK16.out hb7)
  have HK37 := Aside0.mk (blk_below HK36.out hb7)
  clear hb7 HB6 HU6 HV6 HK16 HK36
  go_upto_region 4 with (first | ((with_reducible refine gate_dst (N := 5) rfl ?_); refine box_event ?hg (N := 5) ?hd (cs := noCells) (t := 35) ?hr ?_; (case hd => rfl); (case hg => rfl); (case hr => first | (go_simp; done) | (go_simp; rfl)); intro g5 hg5 wa5 Ba5 hba5; have HA5 := Aside0.mk hba5; have HE5 := Aside0.mk hg5; have HK5 := Aside0.mk Ba5; clear hba5 hg5 Ba5) | (refine store_event (by rfl) (ty := 35) (by rfl) g5 35 noCells noCells (by rfl) (by rfl) HK5.out (by kernel_rfl) rfl (by kernel_rfl) ?_; intro w8 hs5; have HS5 := Aside0.mk hs5; clear hs5))
  have hX := HS5.out.below HA5.out (by rw [HE5.out]; exact Nat.le_refl _)
  have HB8 := Aside0.mk (below_step HB7.out hX)
  have HU8 := Aside0.mk (Kd.R_below HU7.out hX)
  have HV8 := Aside0.mk (Kd.R_below HV7.out hX)
  have HK18 := blk_below HK17.out hX
  have HK38 := blk_below HK37.out hX
  have q10 : w8.cell? ⟨g1, 0, none⟩ = some (.slice Au 46 cu) := (blk_cell HK18 0).trans rfl
  have q13 : w8.cell? ⟨g1, 3, none⟩ = some (.slice Av 1 cv) := (blk_cell HK18 3).trans rfl
  have q30 : w8.cell? ⟨g3, 0, none⟩ = some (.slice Au5 38 cu5) := (blk_cell HK38 0).trans rfl
  obtain ⟨gu, cpu, hvu, _, _⟩ := Kd.R_form HU8.out (by rw [wlen2]; decide)
  obtain rfl := (Value.slice.inj hvu).1
  clear hvu
  obtain ⟨adu, eu, qu⟩ := Kd.at_int (Kd.R_reads' HU8.out).2.2 45 (by decide) (by rw [wlen2]; decide)
  obtain rfl := Option.some.inj eu
  rw [word2] at qu
  replace qu : w8.cell? ((⟨gu, 0, none⟩ : Addr).add 45) = some (.int .u32 1048691) := qu
  rw [add_plain] at qu
  obtain ⟨gv, cpv, hvv, _, _⟩ := Kd.R_form HV8.out (by decide)
  obtain rfl := (Value.slice.inj hvv).1
  clear hvv
  obtain ⟨adv, ev, qv0, qv1, qv2, qv3⟩ := at_T49 (Kd.R_reads' HV8.out).2.2 0 (by decide) (by decide)
  obtain rfl := Option.some.inj ev
  rw [show (rd_T49 (relsL ⟨#[102]⟩ [0, 2] layC) 0).f2 = ⟨#[102]⟩ from rfl] at qv2
  replace qv2 : w8.cell? ⟨gv, 2, none⟩ = some (.string ⟨#[102]⟩) := qv2
  clear hX HB7 HU7 HV7 HK17 HK37 HS5 HA5 HE5 HK5 HK18 HK38 qv0 qv1 qv3
  go_wp2_with fail
  refine (layout_calls _).mono ?_
  rintro e w9 ⟨rfl, hb9⟩
  have HB9 := Aside0.mk (below_step HB8.out hb9)
  clear hb9 q10 q13 q30 qu qv2
  go_wp2_with fail
  refine (may_at layC true may_layC w9).mono ?_
  rintro e w10 ⟨rfl, hb10⟩
  have HB10 := Aside0.mk (below_step HB9.out hb10)
  clear hb10
  go_wp2_with (first | ((with_reducible refine gate_dst (N := 77) rfl ?_); (try (refine gate_guard (by rfl) ?_; dsimp only)); refine Kd.event_run (v := .agg (layArr lay0)) (w1 := w10) (by rfl) ?hrun ?_; (case hrun => refine exec_build (parts := #[]) (by rfl) ?_ (run_build0 _); rfl)))
  refine (may_at lay0 false may_lay0 w10).mono ?_
  rintro e w11 ⟨rfl, hb11⟩
  have HB11 := Aside0.mk (below_step HB10.out hb11)
  clear hb11
  go_wp2_with fail
  go_ret
  exact ⟨rfl, HB11.out⟩
end Go.Proofs.YtaoajlaocphgdaaDoor.PA
