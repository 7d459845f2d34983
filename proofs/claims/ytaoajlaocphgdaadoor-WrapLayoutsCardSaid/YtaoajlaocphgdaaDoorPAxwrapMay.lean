-- Written by wip/tools/pdrive.py (a driver round the kit's print) for this claim.
import Derived.Test.YtaoajlaocphgdaaDoorPAx0
import Derived.Test.YtaoajlaocphgdaaDoorGlobR
namespace Go.Proofs.YtaoajlaocphgdaaDoor.PA
open Go.RowKit Go.Proofs.YtaoajlaocphgdaaDoorW.PrintWords Go.Proofs.YtaoajlaocphgdaaDoorW.PrintLast Go.Proofs.YtaoajlaocphgdaaDoorW.PrintMore
attribute [local go_sem] max2_int min2_int max_two min_two max_three min_three max_four min_four   -- for this text's walks alone
set_option linter.unusedVariables false
set_option linter.unusedSimpArgs false

/-! ### wrap_May: function 13 -/
def wrap_May.l0 : Nat → Int → List (S25) → Int → Int → Int → Int → Int → Int → Int → Int → Int → Int → Int → Int → Int → Int → Int → Int → Int → Int → Int → Int → Int → Int → Option (Bool)
  | 0, _, _, _, _, _, _, _, _, _, _, _, _, _, _, _, _, _, _, _, _, _, _, _, _ => none
  | k + 1, x3, x16, x17, x18, x102000, x102001, x102002, x102003, x102004, x102005, x102006, x102007, x102008, x102009, x102010, x102011, x102012, x102013, x102014, x102015, x102016, x102017, x102018, x102019 => if x18 < x17 then (if 0 ≤ x18 then (if x18 < (x16.length : Int) then (if ((rd_T25 x16 x18).f0) < x3 then (some false) else (if ((rd_T25 x16 x18).f0) ≥ ((rd_T25 x16 x18).f1) then (some false) else (if (Int.tmod (Go.bits .or .u64 ((rd_T25 x16 x18).f0) ((rd_T25 x16 x18).f1)) 8) = 0 then (if ((rd_T25 x16 x18).f1) > 1073741824 then (some false) else (if (IntKind.u64.wrap (((rd_T25 x16 x18).f1) - ((rd_T25 x16 x18).f0))) > 65536 then (some false) else (wrap_May.l0 k ((rd_T25 x16 x18).f1) x16 x17 (wrap64 (x18 + 1)) x102000 x102001 x102002 x102003 x102004 x102005 x102006 x102007 x102008 x102009 x102010 x102011 x102012 x102013 x102014 x102015 x102016 x102017 x102018 x102019))) else (some false)))) else (none)) else (none)) else (if (IntKind.u64.wrap (x102005 - x102004)) ≥ 16 then (some (decide ((IntKind.u64.wrap (x102009 - x102008)) ≥ 16))) else (some false))
def wrap_May.f (k : Nat) (a0_0 : Int) (a0_1 : Int) (a0_2 : Int) (a0_3 : Int) (a0_4 : Int) (a0_5 : Int) (a0_6 : Int) (a0_7 : Int) (a0_8 : Int) (a0_9 : Int) (a0_10 : Int) (a0_11 : Int) (a0_12 : Int) (a0_13 : Int) (a0_14 : Int) (a0_15 : Int) (a0_16 : Int) (a0_17 : Int) (a0_18 : Int) (a0_19 : Int) : Option (Bool) := (some (([(⟨a0_0, a0_1, a0_2, a0_3⟩ : S25), (⟨a0_4, a0_5, a0_6, a0_7⟩ : S25), (⟨a0_8, a0_9, a0_10, a0_11⟩ : S25), (⟨a0_12, a0_13, a0_14, a0_15⟩ : S25), (⟨a0_16, a0_17, a0_18, a0_19⟩ : S25)] : List (S25)) : List (S25))).bind fun y102 => (wrap_May.l0 k 0 y102 (y102.length : Int) 0 a0_0 a0_1 a0_2 a0_3 a0_4 a0_5 a0_6 a0_7 a0_8 a0_9 a0_10 a0_11 a0_12 a0_13 a0_14 a0_15 a0_16 a0_17 a0_18 a0_19)
theorem wrap_May.mono_l : ∀ k, (∀ y0 y1 y2 y3 y4 y5 y6 y7 y8 y9 y10 y11 y12 y13 y14 y15 y16 y17 y18 y19 y20 y21 y22 y23, LeO (wrap_May.l0 k y0 y1 y2 y3 y4 y5 y6 y7 y8 y9 y10 y11 y12 y13 y14 y15 y16 y17 y18 y19 y20 y21 y22 y23) (wrap_May.l0 (k + 1) y0 y1 y2 y3 y4 y5 y6 y7 y8 y9 y10 y11 y12 y13 y14 y15 y16 y17 y18 y19 y20 y21 y22 y23))
  | 0 => fun _ _ _ _ _ _ _ _ _ _ _ _ _ _ _ _ _ _ _ _ _ _ _ _ r h => by simp [wrap_May.l0] at h
  | k + 1 => by
    have ih0 := wrap_May.mono_l k
    · intro y0 y1 y2 y3 y4 y5 y6 y7 y8 y9 y10 y11 y12 y13 y14 y15 y16 y17 y18 y19 y20 y21 y22 y23
      unfold wrap_May.l0
      repeat' first
      | (with_reducible exact ih0 _ _ _ _ _ _ _ _ _ _ _ _ _ _ _ _ _ _ _ _ _ _ _ _)
      | (with_reducible exact LeO.refl _)
      | (with_reducible exact LeO.none _)
      | (with_reducible refine LeO.ite ?_ ?_)
      | (with_reducible refine LeO.bind ?_ (fun _ => ?_))
      | exact ih0 _ _ _ _ _ _ _ _ _ _ _ _ _ _ _ _ _ _ _ _ _ _ _ _
      | exact LeO.none _
      | refine LeO.ite ?_ ?_
      | refine LeO.bind ?_ (fun _ => ?_)
theorem wrap_May.mono : ∀ a0 a1 a2 a3 a4 a5 a6 a7 a8 a9 a10 a11 a12 a13 a14 a15 a16 a17 a18 a19 k, LeO (wrap_May.f k a0 a1 a2 a3 a4 a5 a6 a7 a8 a9 a10 a11 a12 a13 a14 a15 a16 a17 a18 a19) (wrap_May.f (k + 1) a0 a1 a2 a3 a4 a5 a6 a7 a8 a9 a10 a11 a12 a13 a14 a15 a16 a17 a18 a19) := by
  intro a0 a1 a2 a3 a4 a5 a6 a7 a8 a9 a10 a11 a12 a13 a14 a15 a16 a17 a18 a19 k
  have ih0 := wrap_May.mono_l k
  unfold wrap_May.f
  repeat' first
      | (with_reducible exact ih0 _ _ _ _ _ _ _ _ _ _ _ _ _ _ _ _ _ _ _ _ _ _ _ _)
      | (with_reducible exact LeO.refl _)
      | (with_reducible exact LeO.none _)
      | (with_reducible refine LeO.ite ?_ ?_)
      | (with_reducible refine LeO.bind ?_ (fun _ => ?_))
      | exact ih0 _ _ _ _ _ _ _ _ _ _ _ _ _ _ _ _ _ _ _ _ _ _ _ _
      | exact LeO.none _
      | refine LeO.ite ?_ ?_
      | refine LeO.bind ?_ (fun _ => ?_)
set_option maxHeartbeats 8000000 in
set_option maxRecDepth 100000 in
theorem wrap_May.calls (k : Nat) (a0_0 : Int) (a0_1 : Int) (a0_2 : Int) (a0_3 : Int) (a0_4 : Int) (a0_5 : Int) (a0_6 : Int) (a0_7 : Int) (a0_8 : Int) (a0_9 : Int) (a0_10 : Int) (a0_11 : Int) (a0_12 : Int) (a0_13 : Int) (a0_14 : Int) (a0_15 : Int) (a0_16 : Int) (a0_17 : Int) (a0_18 : Int) (a0_19 : Int) (r : Bool) (w : World) (h : wrap_May.f k a0_0 a0_1 a0_2 a0_3 a0_4 a0_5 a0_6 a0_7 a0_8 a0_9 a0_10 a0_11 a0_12 a0_13 a0_14 a0_15 a0_16 a0_17 a0_18 a0_19 = some r) :
    Calls Tryd.prog 13 #[.agg #[.int .u64 a0_0, .int .u64 a0_1, .int .i64 a0_2, .int .i64 a0_3, .int .u64 a0_4, .int .u64 a0_5, .int .i64 a0_6, .int .i64 a0_7, .int .u64 a0_8, .int .u64 a0_9, .int .i64 a0_10, .int .i64 a0_11, .int .u64 a0_12, .int .u64 a0_13, .int .i64 a0_14, .int .i64 a0_15, .int .u64 a0_16, .int .u64 a0_17, .int .i64 a0_18, .int .i64 a0_19]] w fun e w' => e = .returned (.bool r) ∧ Below w.heap.size w w' := by
  have hu27 := Tryd.underlying27
  have hu25 := Tryd.underlying25
  have HB := Aside0.mk (Below.refl w.heap.size w)
  have H : ((some (([(⟨a0_0, a0_1, a0_2, a0_3⟩ : S25), (⟨a0_4, a0_5, a0_6, a0_7⟩ : S25), (⟨a0_8, a0_9, a0_10, a0_11⟩ : S25), (⟨a0_12, a0_13, a0_14, a0_15⟩ : S25), (⟨a0_16, a0_17, a0_18, a0_19⟩ : S25)] : List (S25)) : List (S25))).bind fun y102 => (wrap_May.l0 k 0 y102 (y102.length : Int) 0 a0_0 a0_1 a0_2 a0_3 a0_4 a0_5 a0_6 a0_7 a0_8 a0_9 a0_10 a0_11 a0_12 a0_13 a0_14 a0_15 a0_16 a0_17 a0_18 a0_19)) = some r := h
  clear h
  obtain ⟨y102, hy102⟩ : ∃ y_ : List (S25), y_ = (([(⟨a0_0, a0_1, a0_2, a0_3⟩ : S25), (⟨a0_4, a0_5, a0_6, a0_7⟩ : S25), (⟨a0_8, a0_9, a0_10, a0_11⟩ : S25), (⟨a0_12, a0_13, a0_14, a0_15⟩ : S25), (⟨a0_16, a0_17, a0_18, a0_19⟩ : S25)] : List (S25))) := ⟨_, rfl⟩
  replace H : (wrap_May.l0 k 0 y102 (y102.length : Int) 0 a0_0 a0_1 a0_2 a0_3 a0_4 a0_5 a0_6 a0_7 a0_8 a0_9 a0_10 a0_11 a0_12 a0_13 a0_14 a0_15 a0_16 a0_17 a0_18 a0_19) = some r := by first | (rw [hy102]; with_reducible exact H) | (have H2_ := (Option.bind_some _ _).symm.trans H; rw [hy102]; with_reducible exact H2_) | (have H2_ := (Option.bind_some _ _).symm.trans H; with_reducible exact H2_) | with_reducible exact H | (rw [hy102]; exact H) | exact H
  have Ny102 := Aside0.mk hy102
  clear hy102
  have H' := Aside0.mk H
  clear H
  go_enter Tryd.func13, Tryd.ntmps13
  go_wp2_with (first | ((with_reducible refine gate_dst (N := 1) rfl ?_); refine box_event ?hg (N := 1) ?hd (cs := #[.int .u64 a0_0, .int .u64 a0_1, .int .i64 a0_2, .int .i64 a0_3, .int .u64 a0_4, .int .u64 a0_5, .int .i64 a0_6, .int .i64 a0_7, .int .u64 a0_8, .int .u64 a0_9, .int .i64 a0_10, .int .i64 a0_11, .int .u64 a0_12, .int .u64 a0_13, .int .i64 a0_14, .int .i64 a0_15, .int .u64 a0_16, .int .u64 a0_17, .int .i64 a0_18, .int .i64 a0_19]) (t := 27) ?hr ?_; (case hd => rfl); (case hg => rfl); (case hr => first | (go_simp; done) | (go_simp; rfl)); intro gb101 hg w2 hbox hb; have n0_ := Aside0.mk (below_step (by repeat (first | (with_reducible first | exact HB.out | apply below_alloc | apply pw_below_drewN | apply below_drew1) | exact HB.out)) hb); have n1_ := Aside0.mk (hbox); have n2_ := Aside0.mk ((by rw [hg]; exact (below_size (by repeat (first | (with_reducible first | exact HB.out | apply below_alloc | apply pw_below_drewN | apply below_drew1) | exact HB.out))) : w.heap.size ≤ gb101)); have n3_ := Aside0.mk ((by rw [hg]; exact (below_size (by repeat (first | (with_reducible first | exact HB.out | apply below_alloc | apply pw_below_drewN | apply below_drew1) | exact HB.out))) : w.heap.size ≤ gb101)); clear HB; have HB := n0_; have BK101 := n1_; have GW101 := n2_; have GE101 := n3_; clear n0_ n1_ n2_ n3_; clear hb hbox hg; have hcz3_0 : w2.cell? ⟨gb101, 0, none⟩ = some (.int .u64 a0_0) := (blk_cell BK101.out 0).trans rfl; have hcz3_1 : w2.cell? ⟨gb101, 1, none⟩ = some (.int .u64 a0_1) := (blk_cell BK101.out 1).trans rfl; have hcz3_2 : w2.cell? ⟨gb101, 2, none⟩ = some (.int .i64 a0_2) := (blk_cell BK101.out 2).trans rfl; have hcz3_3 : w2.cell? ⟨gb101, 3, none⟩ = some (.int .i64 a0_3) := (blk_cell BK101.out 3).trans rfl; have hcz3_4 : w2.cell? ⟨gb101, 4, none⟩ = some (.int .u64 a0_4) := (blk_cell BK101.out 4).trans rfl; have hcz3_5 : w2.cell? ⟨gb101, 5, none⟩ = some (.int .u64 a0_5) := (blk_cell BK101.out 5).trans rfl; have hcz3_6 : w2.cell? ⟨gb101, 6, none⟩ = some (.int .i64 a0_6) := (blk_cell BK101.out 6).trans rfl; have hcz3_7 : w2.cell? ⟨gb101, 7, none⟩ = some (.int .i64 a0_7) := (blk_cell BK101.out 7).trans rfl; have hcz3_8 : w2.cell? ⟨gb101, 8, none⟩ = some (.int .u64 a0_8) := (blk_cell BK101.out 8).trans rfl; have hcz3_9 : w2.cell? ⟨gb101, 9, none⟩ = some (.int .u64 a0_9) := (blk_cell BK101.out 9).trans rfl; have hcz3_10 : w2.cell? ⟨gb101, 10, none⟩ = some (.int .i64 a0_10) := (blk_cell BK101.out 10).trans rfl; have hcz3_11 : w2.cell? ⟨gb101, 11, none⟩ = some (.int .i64 a0_11) := (blk_cell BK101.out 11).trans rfl; have hcz3_12 : w2.cell? ⟨gb101, 12, none⟩ = some (.int .u64 a0_12) := (blk_cell BK101.out 12).trans rfl; have hcz3_13 : w2.cell? ⟨gb101, 13, none⟩ = some (.int .u64 a0_13) := (blk_cell BK101.out 13).trans rfl; have hcz3_14 : w2.cell? ⟨gb101, 14, none⟩ = some (.int .i64 a0_14) := (blk_cell BK101.out 14).trans rfl; have hcz3_15 : w2.cell? ⟨gb101, 15, none⟩ = some (.int .i64 a0_15) := (blk_cell BK101.out 15).trans rfl; have hcz3_16 : w2.cell? ⟨gb101, 16, none⟩ = some (.int .u64 a0_16) := (blk_cell BK101.out 16).trans rfl; have hcz3_17 : w2.cell? ⟨gb101, 17, none⟩ = some (.int .u64 a0_17) := (blk_cell BK101.out 17).trans rfl; have hcz3_18 : w2.cell? ⟨gb101, 18, none⟩ = some (.int .i64 a0_18) := (blk_cell BK101.out 18).trans rfl; have hcz3_19 : w2.cell? ⟨gb101, 19, none⟩ = some (.int .i64 a0_19) := (blk_cell BK101.out 19).trans rfl; have hfz3_0 := blk_frozen BK101.out 0; have hfz3_1 := blk_frozen BK101.out 1; have hfz3_2 := blk_frozen BK101.out 2; have hfz3_3 := blk_frozen BK101.out 3; have hfz3_4 := blk_frozen BK101.out 4; have hfz3_5 := blk_frozen BK101.out 5; have hfz3_6 := blk_frozen BK101.out 6; have hfz3_7 := blk_frozen BK101.out 7; have hfz3_8 := blk_frozen BK101.out 8; have hfz3_9 := blk_frozen BK101.out 9; have hfz3_10 := blk_frozen BK101.out 10; have hfz3_11 := blk_frozen BK101.out 11; have hfz3_12 := blk_frozen BK101.out 12; have hfz3_13 := blk_frozen BK101.out 13; have hfz3_14 := blk_frozen BK101.out 14; have hfz3_15 := blk_frozen BK101.out 15; have hfz3_16 := blk_frozen BK101.out 16; have hfz3_17 := blk_frozen BK101.out 17; have hfz3_18 := blk_frozen BK101.out 18; have hfz3_19 := blk_frozen BK101.out 19) | ((with_reducible refine gate_dst (N := 16) rfl ?_); refine Kd.R_lit k25 _ 25 ?hg (N := 16) ?hd (xs := ([(⟨a0_0, a0_1, a0_2, a0_3⟩ : S25), (⟨a0_4, a0_5, a0_6, a0_7⟩ : S25), (⟨a0_8, a0_9, a0_10, a0_11⟩ : S25), (⟨a0_12, a0_13, a0_14, a0_15⟩ : S25), (⟨a0_16, a0_17, a0_18, a0_19⟩ : S25)] : List (S25))) (inner := [.int .u64 a0_0, .int .u64 a0_1, .int .i64 a0_2, .int .i64 a0_3, .int .u64 a0_4, .int .u64 a0_5, .int .i64 a0_6, .int .i64 a0_7, .int .u64 a0_8, .int .u64 a0_9, .int .i64 a0_10, .int .i64 a0_11, .int .u64 a0_12, .int .u64 a0_13, .int .i64 a0_14, .int .i64 a0_15, .int .u64 a0_16, .int .u64 a0_17, .int .i64 a0_18, .int .i64 a0_19]) (ok := fun _ => True) (okp := fun _ => True) ?hr ?hp (fun _ hk => hk) trivial (Below.refl _ _) (Nat.le_refl _) (by simp) ?_; (case hd => rfl); (case hg => rfl); (case hr => first | (go_simp; done) | (go_simp; rfl)); (case hp => exact (Reps.c4 (show Kd.M k25 _ _ _ (⟨a0_0, a0_1, a0_2, a0_3⟩ : S25) [.int .u64 a0_0, .int .u64 a0_1, .int .i64 a0_2, .int .i64 a0_3] from (k25_mkM _ _ _ (⟨a0_0, a0_1, a0_2, a0_3⟩ : S25) )) (Reps.c4 (show Kd.M k25 _ _ _ (⟨a0_4, a0_5, a0_6, a0_7⟩ : S25) [.int .u64 a0_4, .int .u64 a0_5, .int .i64 a0_6, .int .i64 a0_7] from (k25_mkM _ _ _ (⟨a0_4, a0_5, a0_6, a0_7⟩ : S25) )) (Reps.c4 (show Kd.M k25 _ _ _ (⟨a0_8, a0_9, a0_10, a0_11⟩ : S25) [.int .u64 a0_8, .int .u64 a0_9, .int .i64 a0_10, .int .i64 a0_11] from (k25_mkM _ _ _ (⟨a0_8, a0_9, a0_10, a0_11⟩ : S25) )) (Reps.c4 (show Kd.M k25 _ _ _ (⟨a0_12, a0_13, a0_14, a0_15⟩ : S25) [.int .u64 a0_12, .int .u64 a0_13, .int .i64 a0_14, .int .i64 a0_15] from (k25_mkM _ _ _ (⟨a0_12, a0_13, a0_14, a0_15⟩ : S25) )) (Reps.c4 (show Kd.M k25 _ _ _ (⟨a0_16, a0_17, a0_18, a0_19⟩ : S25) [.int .u64 a0_16, .int .u64 a0_17, .int .i64 a0_18, .int .i64 a0_19] from (k25_mkM _ _ _ (⟨a0_16, a0_17, a0_18, a0_19⟩ : S25) )) (Reps.none _ _))))))); intro v103 w4 ho5 hb hg_ hnew_; clear hg_ hnew_; (first | rw [← Ny102.out] at ho5 | (simp only [Int.reduceToNat] at ho5; rw [← Ny102.out] at ho5)); have n0_ := Aside0.mk (Kd.R_lower ho5 (below_size (by repeat (first | (with_reducible first | exact HB.out | apply below_alloc | apply pw_below_drewN | apply below_drew1 | refine below_set ?_ GE101.out) | exact HB.out)))); have n1_ := Aside0.mk (blk_below (g := gb101) (o := .cells #[.int .u64 a0_0, .int .u64 a0_1, .int .i64 a0_2, .int .i64 a0_3, .int .u64 a0_4, .int .u64 a0_5, .int .i64 a0_6, .int .i64 a0_7, .int .u64 a0_8, .int .u64 a0_9, .int .i64 a0_10, .int .i64 a0_11, .int .u64 a0_12, .int .u64 a0_13, .int .i64 a0_14, .int .i64 a0_15, .int .u64 a0_16, .int .u64 a0_17, .int .i64 a0_18, .int .i64 a0_19] 27 (0, 0)) (by (with_reducible repeat (first | refine blk_drewN ?_ _ | refine blk_drew ?_ | refine blk_alloc ?_ _)); exact BK101.out) hb); have n2_ := Aside0.mk (below_step (by repeat (first | (with_reducible first | exact HB.out | apply below_alloc | apply pw_below_drewN | apply below_drew1 | refine below_set ?_ GE101.out) | exact HB.out)) hb); clear BK101; clear HB; have HO104 := n0_; have BK101 := n1_; have HB := n2_; clear n0_ n1_ n2_; clear hb ho5; obtain ⟨Ao6, co6, eo6⟩ := Kd.R_slice HO104.out; subst eo6))
  go_loopg [3, 18] k (fun kq v3 v18 w' => ∃ (x3_1 : Int) (x18_1 : Int), v3 = .int .u64 x3_1 ∧ v18 = .int .i64 x18_1 ∧ Aside0 (wrap_May.l0 kq x3_1 y102 (y102.length : Int) x18_1 a0_0 a0_1 a0_2 a0_3 a0_4 a0_5 a0_6 a0_7 a0_8 a0_9 a0_10 a0_11 a0_12 a0_13 a0_14 a0_15 a0_16 a0_17 a0_18 a0_19 = some r) ∧ Aside0 (kq ≤ k) ∧ Aside0 (Kd.R k25 25 w' w.heap.size (fun _ => True) (.slice Ao6 y102.length co6) y102) ∧ Aside0 (w'.heap[gb101]? = some (.cells #[.int .u64 a0_0, .int .u64 a0_1, .int .i64 a0_2, .int .i64 a0_3, .int .u64 a0_4, .int .u64 a0_5, .int .i64 a0_6, .int .i64 a0_7, .int .u64 a0_8, .int .u64 a0_9, .int .i64 a0_10, .int .i64 a0_11, .int .u64 a0_12, .int .u64 a0_13, .int .i64 a0_14, .int .i64 a0_15, .int .u64 a0_16, .int .u64 a0_17, .int .i64 a0_18, .int .i64 a0_19] 27 (0, 0))) ∧ Aside0 (Below w.heap.size w w'))
  case atStart => exact ⟨(0), (0), (by first | rfl | (simp; done) | (simp [*]; done)), (by first | rfl | (simp; done) | (simp [*]; done)), H', ⟨Nat.le_refl _⟩, ⟨by (with_reducible repeat (first | apply Kd.R_alloc | apply Kd.R_drewN | apply Kd.R_drew)); exact HO104.out⟩, ⟨by (with_reducible repeat (first | refine blk_drewN ?_ _ | refine blk_drew ?_ | refine blk_alloc ?_ _)); exact BK101.out⟩, ⟨by repeat (first | (with_reducible first | exact HB.out | apply below_alloc | apply pw_below_drewN | apply below_drew1 | refine below_set ?_ GE101.out) | exact HB.out)⟩⟩
  case round =>
    clear H'
    try clear c1
    try clear p2
    try clear c4
    try clear hcz3_0
    try clear hcz3_1
    try clear hcz3_10
    try clear hcz3_11
    try clear hcz3_12
    try clear hcz3_13
    try clear hcz3_14
    try clear hcz3_15
    try clear hcz3_16
    try clear hcz3_17
    try clear hcz3_18
    try clear hcz3_19
    try clear hcz3_2
    try clear hcz3_3
    try clear hcz3_4
    try clear hcz3_5
    try clear hcz3_6
    try clear hcz3_7
    try clear hcz3_8
    try clear hcz3_9
    try clear hfz3_0
    try clear hfz3_1
    try clear hfz3_10
    try clear hfz3_11
    try clear hfz3_12
    try clear hfz3_13
    try clear hfz3_14
    try clear hfz3_15
    try clear hfz3_16
    try clear hfz3_17
    try clear hfz3_18
    try clear hfz3_19
    try clear hfz3_2
    try clear hfz3_3
    try clear hfz3_4
    try clear hfz3_5
    try clear hfz3_6
    try clear hfz3_7
    try clear hfz3_8
    try clear hfz3_9
    obtain ⟨x3_1, x18_1, rfl, rfl, HA, HK1, HO_16, BK101, HB⟩ := hrel
    cases gk with
    | zero => exact absurd HA.out (by simp [wrap_May.l0])
    | succ k1 =>
      have H := HA.out
      clear HA
      simp only [wrap_May.l0] at H
      by_cases c7 : x18_1 < (y102.length : Int)
      · rw [if_pos c7] at H
        have c7b0 : decide (x18_1 < (y102.length : Int)) = true := decide_eq_true c7
        clear c7
        by_cases c8 : 0 ≤ x18_1
        · rw [if_pos c8] at H
          have c8b0 : decide (0 ≤ x18_1) = true := decide_eq_true c8
          clear c8
          by_cases c9 : x18_1 < (y102.length : Int)
          · rw [if_pos c9] at H
            have c9b0 : decide (x18_1 < (y102.length : Int)) = true := decide_eq_true c9
            clear c9
            by_cases c10 : ((rd_T25 y102 x18_1).f0) < x3_1
            · rw [if_pos c10] at H
              have c10b0 : decide (((rd_T25 y102 x18_1).f0) < x3_1) = true := decide_eq_true c10
              clear c10
              obtain rfl := Option.some.inj H
              have p105 : 0 ≤ (x18_1 : Int) := of_decide_eq_true (by first | (with_reducible assumption) | assumption)
              have q105 : x18_1 < (y102.length : Int) := of_decide_eq_true (by first | (with_reducible assumption) | assumption)
              obtain ⟨ad105, e105, hx105_0, hx105_1, hx105_2, hx105_3⟩ := at_T25 (Kd.R_reads' HO_16.out).2.2 x18_1 p105 q105
              cases e105
              replace p105 := eq_true p105
              replace q105 := eq_true q105
              go_wp2_with (first | ((with_reducible refine gate_dst (N := 5) rfl ?_); refine box_event ?hg (N := 5) ?hd (cs := #[.int .u64 0, .int .u64 0, .int .i64 0, .int .i64 0]) (t := 25) ?hr ?_; (case hd => rfl); (case hg => rfl); (case hr => first | (go_simp; done) | (go_simp; rfl)); intro gb106 hg w11 hbox hb; have n0_ := Aside0.mk (Kd.R_below (Kd.R_elderB (by (with_reducible repeat (first | apply Kd.R_alloc | apply Kd.R_drewN | apply Kd.R_drew)); exact HO_16.out) gb106 (Nat.le_of_eq hg.symm)) hb); have n1_ := Aside0.mk (blk_below (g := gb101) (o := .cells #[.int .u64 a0_0, .int .u64 a0_1, .int .i64 a0_2, .int .i64 a0_3, .int .u64 a0_4, .int .u64 a0_5, .int .i64 a0_6, .int .i64 a0_7, .int .u64 a0_8, .int .u64 a0_9, .int .i64 a0_10, .int .i64 a0_11, .int .u64 a0_12, .int .u64 a0_13, .int .i64 a0_14, .int .i64 a0_15, .int .u64 a0_16, .int .u64 a0_17, .int .i64 a0_18, .int .i64 a0_19] 27 (0, 0)) (by (with_reducible repeat (first | refine blk_drewN ?_ _ | refine blk_drew ?_ | refine blk_alloc ?_ _)); exact BK101.out) hb); have n2_ := Aside0.mk (below_step (by repeat (first | (with_reducible first | exact HB.out | apply below_alloc | apply pw_below_drewN | apply below_drew1 | refine below_set ?_ GE101.out) | exact HB.out)) hb); have n3_ := Aside0.mk (hbox); have n4_ := Aside0.mk ((by rw [hg]; exact (below_size (by repeat (first | (with_reducible first | exact HB.out | apply below_alloc | apply pw_below_drewN | apply below_drew1 | refine below_set ?_ GE101.out) | exact HB.out))) : w.heap.size ≤ gb106)); have n5_ := Aside0.mk ((by rw [hg]; exact (below_size (by repeat (first | (with_reducible first | exact HB.out | apply below_alloc | apply pw_below_drewN | apply below_drew1 | refine below_set ?_ GE101.out) | exact HB.out))) : w.heap.size ≤ gb106)); have n6_ := Aside0.mk ((by rw [hg]; exact Nat.ne_of_lt (blk_lt (g := gb101) (o := .cells #[.int .u64 a0_0, .int .u64 a0_1, .int .i64 a0_2, .int .i64 a0_3, .int .u64 a0_4, .int .u64 a0_5, .int .i64 a0_6, .int .i64 a0_7, .int .u64 a0_8, .int .u64 a0_9, .int .i64 a0_10, .int .i64 a0_11, .int .u64 a0_12, .int .u64 a0_13, .int .i64 a0_14, .int .i64 a0_15, .int .u64 a0_16, .int .u64 a0_17, .int .i64 a0_18, .int .i64 a0_19] 27 (0, 0)) (by (with_reducible repeat (first | refine blk_drewN ?_ _ | refine blk_drew ?_ | refine blk_alloc ?_ _)); exact BK101.out)) : gb101 ≠ gb106)); have n7_ := Aside0.mk ((by rw [hg]; exact Nat.ne_of_gt (blk_lt (g := gb101) (o := .cells #[.int .u64 a0_0, .int .u64 a0_1, .int .i64 a0_2, .int .i64 a0_3, .int .u64 a0_4, .int .u64 a0_5, .int .i64 a0_6, .int .i64 a0_7, .int .u64 a0_8, .int .u64 a0_9, .int .i64 a0_10, .int .i64 a0_11, .int .u64 a0_12, .int .u64 a0_13, .int .i64 a0_14, .int .i64 a0_15, .int .u64 a0_16, .int .u64 a0_17, .int .i64 a0_18, .int .i64 a0_19] 27 (0, 0)) (by (with_reducible repeat (first | refine blk_drewN ?_ _ | refine blk_drew ?_ | refine blk_alloc ?_ _)); exact BK101.out)) : gb106 ≠ gb101)); clear HO_16; clear BK101; clear HB; have HO_16 := n0_; have BK101 := n1_; have HB := n2_; have BK106 := n3_; have GW106 := n4_; have GE106 := n5_; have NB101_106 := n6_; have NB106_101 := n7_; clear n0_ n1_ n2_ n3_ n4_ n5_ n6_ n7_; clear hb hbox hg; have hnb12 := NB106_101.out; have hnc12 := NB101_106.out; have hcz13_0 : w11.cell? ⟨gb106, 0, none⟩ = some (.int .u64 0) := (blk_cell BK106.out 0).trans rfl; have hcz13_1 : w11.cell? ⟨gb106, 1, none⟩ = some (.int .u64 0) := (blk_cell BK106.out 1).trans rfl; have hcz13_2 : w11.cell? ⟨gb106, 2, none⟩ = some (.int .i64 0) := (blk_cell BK106.out 2).trans rfl; have hcz13_3 : w11.cell? ⟨gb106, 3, none⟩ = some (.int .i64 0) := (blk_cell BK106.out 3).trans rfl; have hfz13_0 := blk_frozen BK106.out 0; have hfz13_1 := blk_frozen BK106.out 1; have hfz13_2 := blk_frozen BK106.out 2; have hfz13_3 := blk_frozen BK106.out 3))
              go_ret
              exact ⟨by first | rfl | (simp [errW_none, errW_some] <;> rfl) | (simp [*, errW_none, errW_some] <;> rfl), by repeat (first | (with_reducible first | exact HB.out | apply below_alloc | apply pw_below_drewN | apply below_drew1 | refine below_set ?_ GE101.out | refine below_set ?_ GE106.out) | exact HB.out)⟩
            · rw [if_neg c10] at H
              have c10b0 : decide (((rd_T25 y102 x18_1).f0) < x3_1) = false := decide_eq_false c10
              clear c10
              by_cases c14 : ((rd_T25 y102 x18_1).f0) ≥ ((rd_T25 y102 x18_1).f1)
              · rw [if_pos c14] at H
                have c14b0 : decide (((rd_T25 y102 x18_1).f1) ≤ ((rd_T25 y102 x18_1).f0)) = true := decide_eq_true c14
                clear c14
                obtain rfl := Option.some.inj H
                have p105 : 0 ≤ (x18_1 : Int) := of_decide_eq_true (by first | (with_reducible assumption) | assumption)
                have q105 : x18_1 < (y102.length : Int) := of_decide_eq_true (by first | (with_reducible assumption) | assumption)
                obtain ⟨ad105, e105, hx105_0, hx105_1, hx105_2, hx105_3⟩ := at_T25 (Kd.R_reads' HO_16.out).2.2 x18_1 p105 q105
                cases e105
                replace p105 := eq_true p105
                replace q105 := eq_true q105
                go_wp2_with (first | ((with_reducible refine gate_dst (N := 5) rfl ?_); refine box_event ?hg (N := 5) ?hd (cs := #[.int .u64 0, .int .u64 0, .int .i64 0, .int .i64 0]) (t := 25) ?hr ?_; (case hd => rfl); (case hg => rfl); (case hr => first | (go_simp; done) | (go_simp; rfl)); intro gb106 hg w15 hbox hb; have n0_ := Aside0.mk (Kd.R_below (Kd.R_elderB (by (with_reducible repeat (first | apply Kd.R_alloc | apply Kd.R_drewN | apply Kd.R_drew)); exact HO_16.out) gb106 (Nat.le_of_eq hg.symm)) hb); have n1_ := Aside0.mk (blk_below (g := gb101) (o := .cells #[.int .u64 a0_0, .int .u64 a0_1, .int .i64 a0_2, .int .i64 a0_3, .int .u64 a0_4, .int .u64 a0_5, .int .i64 a0_6, .int .i64 a0_7, .int .u64 a0_8, .int .u64 a0_9, .int .i64 a0_10, .int .i64 a0_11, .int .u64 a0_12, .int .u64 a0_13, .int .i64 a0_14, .int .i64 a0_15, .int .u64 a0_16, .int .u64 a0_17, .int .i64 a0_18, .int .i64 a0_19] 27 (0, 0)) (by (with_reducible repeat (first | refine blk_drewN ?_ _ | refine blk_drew ?_ | refine blk_alloc ?_ _)); exact BK101.out) hb); have n2_ := Aside0.mk (below_step (by repeat (first | (with_reducible first | exact HB.out | apply below_alloc | apply pw_below_drewN | apply below_drew1 | refine below_set ?_ GE101.out) | exact HB.out)) hb); have n3_ := Aside0.mk (hbox); have n4_ := Aside0.mk ((by rw [hg]; exact (below_size (by repeat (first | (with_reducible first | exact HB.out | apply below_alloc | apply pw_below_drewN | apply below_drew1 | refine below_set ?_ GE101.out) | exact HB.out))) : w.heap.size ≤ gb106)); have n5_ := Aside0.mk ((by rw [hg]; exact (below_size (by repeat (first | (with_reducible first | exact HB.out | apply below_alloc | apply pw_below_drewN | apply below_drew1 | refine below_set ?_ GE101.out) | exact HB.out))) : w.heap.size ≤ gb106)); have n6_ := Aside0.mk ((by rw [hg]; exact Nat.ne_of_lt (blk_lt (g := gb101) (o := .cells #[.int .u64 a0_0, .int .u64 a0_1, .int .i64 a0_2, .int .i64 a0_3, .int .u64 a0_4, .int .u64 a0_5, .int .i64 a0_6, .int .i64 a0_7, .int .u64 a0_8, .int .u64 a0_9, .int .i64 a0_10, .int .i64 a0_11, .int .u64 a0_12, .int .u64 a0_13, .int .i64 a0_14, .int .i64 a0_15, .int .u64 a0_16, .int .u64 a0_17, .int .i64 a0_18, .int .i64 a0_19] 27 (0, 0)) (by (with_reducible repeat (first | refine blk_drewN ?_ _ | refine blk_drew ?_ | refine blk_alloc ?_ _)); exact BK101.out)) : gb101 ≠ gb106)); have n7_ := Aside0.mk ((by rw [hg]; exact Nat.ne_of_gt (blk_lt (g := gb101) (o := .cells #[.int .u64 a0_0, .int .u64 a0_1, .int .i64 a0_2, .int .i64 a0_3, .int .u64 a0_4, .int .u64 a0_5, .int .i64 a0_6, .int .i64 a0_7, .int .u64 a0_8, .int .u64 a0_9, .int .i64 a0_10, .int .i64 a0_11, .int .u64 a0_12, .int .u64 a0_13, .int .i64 a0_14, .int .i64 a0_15, .int .u64 a0_16, .int .u64 a0_17, .int .i64 a0_18, .int .i64 a0_19] 27 (0, 0)) (by (with_reducible repeat (first | refine blk_drewN ?_ _ | refine blk_drew ?_ | refine blk_alloc ?_ _)); exact BK101.out)) : gb106 ≠ gb101)); clear HO_16; clear BK101; clear HB; have HO_16 := n0_; have BK101 := n1_; have HB := n2_; have BK106 := n3_; have GW106 := n4_; have GE106 := n5_; have NB101_106 := n6_; have NB106_101 := n7_; clear n0_ n1_ n2_ n3_ n4_ n5_ n6_ n7_; clear hb hbox hg; have hnb16 := NB106_101.out; have hnc16 := NB101_106.out; have hcz17_0 : w15.cell? ⟨gb106, 0, none⟩ = some (.int .u64 0) := (blk_cell BK106.out 0).trans rfl; have hcz17_1 : w15.cell? ⟨gb106, 1, none⟩ = some (.int .u64 0) := (blk_cell BK106.out 1).trans rfl; have hcz17_2 : w15.cell? ⟨gb106, 2, none⟩ = some (.int .i64 0) := (blk_cell BK106.out 2).trans rfl; have hcz17_3 : w15.cell? ⟨gb106, 3, none⟩ = some (.int .i64 0) := (blk_cell BK106.out 3).trans rfl; have hfz17_0 := blk_frozen BK106.out 0; have hfz17_1 := blk_frozen BK106.out 1; have hfz17_2 := blk_frozen BK106.out 2; have hfz17_3 := blk_frozen BK106.out 3))
                go_ret
                exact ⟨by first | rfl | (simp [errW_none, errW_some] <;> rfl) | (simp [*, errW_none, errW_some] <;> rfl), by repeat (first | (with_reducible first | exact HB.out | apply below_alloc | apply pw_below_drewN | apply below_drew1 | refine below_set ?_ GE101.out | refine below_set ?_ GE106.out) | exact HB.out)⟩
              · rw [if_neg c14] at H
                have c14b0 : decide (((rd_T25 y102 x18_1).f1) ≤ ((rd_T25 y102 x18_1).f0)) = false := decide_eq_false c14
                clear c14
                by_cases c18 : (Int.tmod (Go.bits .or .u64 ((rd_T25 y102 x18_1).f0) ((rd_T25 y102 x18_1).f1)) 8) = 0
                · rw [if_pos c18] at H
                  have c18b0 : ((Int.tmod (Go.bits .or .u64 ((rd_T25 y102 x18_1).f0) ((rd_T25 y102 x18_1).f1)) 8) == 0) = true := beq_iff_eq.mpr c18
                  have c18b1 : ((Int.tmod (Go.bits .or .u64 ((rd_T25 y102 x18_1).f0) ((rd_T25 y102 x18_1).f1)) 8) != 0) = false := bne_eq_false_iff_eq.mpr c18
                  clear c18
                  by_cases c19 : ((rd_T25 y102 x18_1).f1) > 1073741824
                  · rw [if_pos c19] at H
                    have c19b0 : decide (1073741824 < ((rd_T25 y102 x18_1).f1)) = true := decide_eq_true c19
                    clear c19
                    obtain rfl := Option.some.inj H
                    have p105 : 0 ≤ (x18_1 : Int) := of_decide_eq_true (by first | (with_reducible assumption) | assumption)
                    have q105 : x18_1 < (y102.length : Int) := of_decide_eq_true (by first | (with_reducible assumption) | assumption)
                    obtain ⟨ad105, e105, hx105_0, hx105_1, hx105_2, hx105_3⟩ := at_T25 (Kd.R_reads' HO_16.out).2.2 x18_1 p105 q105
                    cases e105
                    replace p105 := eq_true p105
                    replace q105 := eq_true q105
                    go_wp2_with (first | ((with_reducible refine gate_dst (N := 5) rfl ?_); refine box_event ?hg (N := 5) ?hd (cs := #[.int .u64 0, .int .u64 0, .int .i64 0, .int .i64 0]) (t := 25) ?hr ?_; (case hd => rfl); (case hg => rfl); (case hr => first | (go_simp; done) | (go_simp; rfl)); intro gb106 hg w20 hbox hb; have n0_ := Aside0.mk (Kd.R_below (Kd.R_elderB (by (with_reducible repeat (first | apply Kd.R_alloc | apply Kd.R_drewN | apply Kd.R_drew)); exact HO_16.out) gb106 (Nat.le_of_eq hg.symm)) hb); have n1_ := Aside0.mk (blk_below (g := gb101) (o := .cells #[.int .u64 a0_0, .int .u64 a0_1, .int .i64 a0_2, .int .i64 a0_3, .int .u64 a0_4, .int .u64 a0_5, .int .i64 a0_6, .int .i64 a0_7, .int .u64 a0_8, .int .u64 a0_9, .int .i64 a0_10, .int .i64 a0_11, .int .u64 a0_12, .int .u64 a0_13, .int .i64 a0_14, .int .i64 a0_15, .int .u64 a0_16, .int .u64 a0_17, .int .i64 a0_18, .int .i64 a0_19] 27 (0, 0)) (by (with_reducible repeat (first | refine blk_drewN ?_ _ | refine blk_drew ?_ | refine blk_alloc ?_ _)); exact BK101.out) hb); have n2_ := Aside0.mk (below_step (by repeat (first | (with_reducible first | exact HB.out | apply below_alloc | apply pw_below_drewN | apply below_drew1 | refine below_set ?_ GE101.out) | exact HB.out)) hb); have n3_ := Aside0.mk (hbox); have n4_ := Aside0.mk ((by rw [hg]; exact (below_size (by repeat (first | (with_reducible first | exact HB.out | apply below_alloc | apply pw_below_drewN | apply below_drew1 | refine below_set ?_ GE101.out) | exact HB.out))) : w.heap.size ≤ gb106)); have n5_ := Aside0.mk ((by rw [hg]; exact (below_size (by repeat (first | (with_reducible first | exact HB.out | apply below_alloc | apply pw_below_drewN | apply below_drew1 | refine below_set ?_ GE101.out) | exact HB.out))) : w.heap.size ≤ gb106)); have n6_ := Aside0.mk ((by rw [hg]; exact Nat.ne_of_lt (blk_lt (g := gb101) (o := .cells #[.int .u64 a0_0, .int .u64 a0_1, .int .i64 a0_2, .int .i64 a0_3, .int .u64 a0_4, .int .u64 a0_5, .int .i64 a0_6, .int .i64 a0_7, .int .u64 a0_8, .int .u64 a0_9, .int .i64 a0_10, .int .i64 a0_11, .int .u64 a0_12, .int .u64 a0_13, .int .i64 a0_14, .int .i64 a0_15, .int .u64 a0_16, .int .u64 a0_17, .int .i64 a0_18, .int .i64 a0_19] 27 (0, 0)) (by (with_reducible repeat (first | refine blk_drewN ?_ _ | refine blk_drew ?_ | refine blk_alloc ?_ _)); exact BK101.out)) : gb101 ≠ gb106)); have n7_ := Aside0.mk ((by rw [hg]; exact Nat.ne_of_gt (blk_lt (g := gb101) (o := .cells #[.int .u64 a0_0, .int .u64 a0_1, .int .i64 a0_2, .int .i64 a0_3, .int .u64 a0_4, .int .u64 a0_5, .int .i64 a0_6, .int .i64 a0_7, .int .u64 a0_8, .int .u64 a0_9, .int .i64 a0_10, .int .i64 a0_11, .int .u64 a0_12, .int .u64 a0_13, .int .i64 a0_14, .int .i64 a0_15, .int .u64 a0_16, .int .u64 a0_17, .int .i64 a0_18, .int .i64 a0_19] 27 (0, 0)) (by (with_reducible repeat (first | refine blk_drewN ?_ _ | refine blk_drew ?_ | refine blk_alloc ?_ _)); exact BK101.out)) : gb106 ≠ gb101)); clear HO_16; clear BK101; clear HB; have HO_16 := n0_; have BK101 := n1_; have HB := n2_; have BK106 := n3_; have GW106 := n4_; have GE106 := n5_; have NB101_106 := n6_; have NB106_101 := n7_; clear n0_ n1_ n2_ n3_ n4_ n5_ n6_ n7_; clear hb hbox hg; have hnb21 := NB106_101.out; have hnc21 := NB101_106.out; have hcz22_0 : w20.cell? ⟨gb106, 0, none⟩ = some (.int .u64 0) := (blk_cell BK106.out 0).trans rfl; have hcz22_1 : w20.cell? ⟨gb106, 1, none⟩ = some (.int .u64 0) := (blk_cell BK106.out 1).trans rfl; have hcz22_2 : w20.cell? ⟨gb106, 2, none⟩ = some (.int .i64 0) := (blk_cell BK106.out 2).trans rfl; have hcz22_3 : w20.cell? ⟨gb106, 3, none⟩ = some (.int .i64 0) := (blk_cell BK106.out 3).trans rfl; have hfz22_0 := blk_frozen BK106.out 0; have hfz22_1 := blk_frozen BK106.out 1; have hfz22_2 := blk_frozen BK106.out 2; have hfz22_3 := blk_frozen BK106.out 3))
                    go_ret
                    exact ⟨by first | rfl | (simp [errW_none, errW_some] <;> rfl) | (simp [*, errW_none, errW_some] <;> rfl), by repeat (first | (with_reducible first | exact HB.out | apply below_alloc | apply pw_below_drewN | apply below_drew1 | refine below_set ?_ GE101.out | refine below_set ?_ GE106.out) | exact HB.out)⟩
                  · rw [if_neg c19] at H
                    have c19b0 : decide (1073741824 < ((rd_T25 y102 x18_1).f1)) = false := decide_eq_false c19
                    clear c19
                    by_cases c23 : (IntKind.u64.wrap (((rd_T25 y102 x18_1).f1) - ((rd_T25 y102 x18_1).f0))) > 65536
                    · rw [if_pos c23] at H
                      have c23b0 : decide (65536 < (IntKind.u64.wrap (((rd_T25 y102 x18_1).f1) - ((rd_T25 y102 x18_1).f0)))) = true := decide_eq_true c23
                      clear c23
                      obtain rfl := Option.some.inj H
                      have p105 : 0 ≤ (x18_1 : Int) := of_decide_eq_true (by first | (with_reducible assumption) | assumption)
                      have q105 : x18_1 < (y102.length : Int) := of_decide_eq_true (by first | (with_reducible assumption) | assumption)
                      obtain ⟨ad105, e105, hx105_0, hx105_1, hx105_2, hx105_3⟩ := at_T25 (Kd.R_reads' HO_16.out).2.2 x18_1 p105 q105
                      cases e105
                      replace p105 := eq_true p105
                      replace q105 := eq_true q105
                      go_wp2_with (first | ((with_reducible refine gate_dst (N := 5) rfl ?_); refine box_event ?hg (N := 5) ?hd (cs := #[.int .u64 0, .int .u64 0, .int .i64 0, .int .i64 0]) (t := 25) ?hr ?_; (case hd => rfl); (case hg => rfl); (case hr => first | (go_simp; done) | (go_simp; rfl)); intro gb106 hg w24 hbox hb; have n0_ := Aside0.mk (Kd.R_below (Kd.R_elderB (by (with_reducible repeat (first | apply Kd.R_alloc | apply Kd.R_drewN | apply Kd.R_drew)); exact HO_16.out) gb106 (Nat.le_of_eq hg.symm)) hb); have n1_ := Aside0.mk (blk_below (g := gb101) (o := .cells #[.int .u64 a0_0, .int .u64 a0_1, .int .i64 a0_2, .int .i64 a0_3, .int .u64 a0_4, .int .u64 a0_5, .int .i64 a0_6, .int .i64 a0_7, .int .u64 a0_8, .int .u64 a0_9, .int .i64 a0_10, .int .i64 a0_11, .int .u64 a0_12, .int .u64 a0_13, .int .i64 a0_14, .int .i64 a0_15, .int .u64 a0_16, .int .u64 a0_17, .int .i64 a0_18, .int .i64 a0_19] 27 (0, 0)) (by (with_reducible repeat (first | refine blk_drewN ?_ _ | refine blk_drew ?_ | refine blk_alloc ?_ _)); exact BK101.out) hb); have n2_ := Aside0.mk (below_step (by repeat (first | (with_reducible first | exact HB.out | apply below_alloc | apply pw_below_drewN | apply below_drew1 | refine below_set ?_ GE101.out) | exact HB.out)) hb); have n3_ := Aside0.mk (hbox); have n4_ := Aside0.mk ((by rw [hg]; exact (below_size (by repeat (first | (with_reducible first | exact HB.out | apply below_alloc | apply pw_below_drewN | apply below_drew1 | refine below_set ?_ GE101.out) | exact HB.out))) : w.heap.size ≤ gb106)); have n5_ := Aside0.mk ((by rw [hg]; exact (below_size (by repeat (first | (with_reducible first | exact HB.out | apply below_alloc | apply pw_below_drewN | apply below_drew1 | refine below_set ?_ GE101.out) | exact HB.out))) : w.heap.size ≤ gb106)); have n6_ := Aside0.mk ((by rw [hg]; exact Nat.ne_of_lt (blk_lt (g := gb101) (o := .cells #[.int .u64 a0_0, .int .u64 a0_1, .int .i64 a0_2, .int .i64 a0_3, .int .u64 a0_4, .int .u64 a0_5, .int .i64 a0_6, .int .i64 a0_7, .int .u64 a0_8, .int .u64 a0_9, .int .i64 a0_10, .int .i64 a0_11, .int .u64 a0_12, .int .u64 a0_13, .int .i64 a0_14, .int .i64 a0_15, .int .u64 a0_16, .int .u64 a0_17, .int .i64 a0_18, .int .i64 a0_19] 27 (0, 0)) (by (with_reducible repeat (first | refine blk_drewN ?_ _ | refine blk_drew ?_ | refine blk_alloc ?_ _)); exact BK101.out)) : gb101 ≠ gb106)); have n7_ := Aside0.mk ((by rw [hg]; exact Nat.ne_of_gt (blk_lt (g := gb101) (o := .cells #[.int .u64 a0_0, .int .u64 a0_1, .int .i64 a0_2, .int .i64 a0_3, .int .u64 a0_4, .int .u64 a0_5, .int .i64 a0_6, .int .i64 a0_7, .int .u64 a0_8, .int .u64 a0_9, .int .i64 a0_10, .int .i64 a0_11, .int .u64 a0_12, .int .u64 a0_13, .int .i64 a0_14, .int .i64 a0_15, .int .u64 a0_16, .int .u64 a0_17, .int .i64 a0_18, .int .i64 a0_19] 27 (0, 0)) (by (with_reducible repeat (first | refine blk_drewN ?_ _ | refine blk_drew ?_ | refine blk_alloc ?_ _)); exact BK101.out)) : gb106 ≠ gb101)); clear HO_16; clear BK101; clear HB; have HO_16 := n0_; have BK101 := n1_; have HB := n2_; have BK106 := n3_; have GW106 := n4_; have GE106 := n5_; have NB101_106 := n6_; have NB106_101 := n7_; clear n0_ n1_ n2_ n3_ n4_ n5_ n6_ n7_; clear hb hbox hg; have hnb25 := NB106_101.out; have hnc25 := NB101_106.out; have hcz26_0 : w24.cell? ⟨gb106, 0, none⟩ = some (.int .u64 0) := (blk_cell BK106.out 0).trans rfl; have hcz26_1 : w24.cell? ⟨gb106, 1, none⟩ = some (.int .u64 0) := (blk_cell BK106.out 1).trans rfl; have hcz26_2 : w24.cell? ⟨gb106, 2, none⟩ = some (.int .i64 0) := (blk_cell BK106.out 2).trans rfl; have hcz26_3 : w24.cell? ⟨gb106, 3, none⟩ = some (.int .i64 0) := (blk_cell BK106.out 3).trans rfl; have hfz26_0 := blk_frozen BK106.out 0; have hfz26_1 := blk_frozen BK106.out 1; have hfz26_2 := blk_frozen BK106.out 2; have hfz26_3 := blk_frozen BK106.out 3))
                      go_ret
                      exact ⟨by first | rfl | (simp [errW_none, errW_some] <;> rfl) | (simp [*, errW_none, errW_some] <;> rfl), by repeat (first | (with_reducible first | exact HB.out | apply below_alloc | apply pw_below_drewN | apply below_drew1 | refine below_set ?_ GE101.out | refine below_set ?_ GE106.out) | exact HB.out)⟩
                    · rw [if_neg c23] at H
                      have c23b0 : decide (65536 < (IntKind.u64.wrap (((rd_T25 y102 x18_1).f1) - ((rd_T25 y102 x18_1).f0)))) = false := decide_eq_false c23
                      clear c23
                      have H' := Aside0.mk H
                      clear H
                      have p105 : 0 ≤ (x18_1 : Int) := of_decide_eq_true (by first | (with_reducible assumption) | assumption)
                      have q105 : x18_1 < (y102.length : Int) := of_decide_eq_true (by first | (with_reducible assumption) | assumption)
                      obtain ⟨ad105, e105, hx105_0, hx105_1, hx105_2, hx105_3⟩ := at_T25 (Kd.R_reads' HO_16.out).2.2 x18_1 p105 q105
                      cases e105
                      replace p105 := eq_true p105
                      replace q105 := eq_true q105
                      go_wp2_with (first | ((with_reducible refine gate_dst (N := 5) rfl ?_); refine box_event ?hg (N := 5) ?hd (cs := #[.int .u64 0, .int .u64 0, .int .i64 0, .int .i64 0]) (t := 25) ?hr ?_; (case hd => rfl); (case hg => rfl); (case hr => first | (go_simp; done) | (go_simp; rfl)); intro gb106 hg w27 hbox hb; have n0_ := Aside0.mk (Kd.R_below (Kd.R_elderB (by (with_reducible repeat (first | apply Kd.R_alloc | apply Kd.R_drewN | apply Kd.R_drew)); exact HO_16.out) gb106 (Nat.le_of_eq hg.symm)) hb); have n1_ := Aside0.mk (blk_below (g := gb101) (o := .cells #[.int .u64 a0_0, .int .u64 a0_1, .int .i64 a0_2, .int .i64 a0_3, .int .u64 a0_4, .int .u64 a0_5, .int .i64 a0_6, .int .i64 a0_7, .int .u64 a0_8, .int .u64 a0_9, .int .i64 a0_10, .int .i64 a0_11, .int .u64 a0_12, .int .u64 a0_13, .int .i64 a0_14, .int .i64 a0_15, .int .u64 a0_16, .int .u64 a0_17, .int .i64 a0_18, .int .i64 a0_19] 27 (0, 0)) (by (with_reducible repeat (first | refine blk_drewN ?_ _ | refine blk_drew ?_ | refine blk_alloc ?_ _)); exact BK101.out) hb); have n2_ := Aside0.mk (below_step (by repeat (first | (with_reducible first | exact HB.out | apply below_alloc | apply pw_below_drewN | apply below_drew1 | refine below_set ?_ GE101.out) | exact HB.out)) hb); have n3_ := Aside0.mk (hbox); have n4_ := Aside0.mk ((by rw [hg]; exact (below_size (by repeat (first | (with_reducible first | exact HB.out | apply below_alloc | apply pw_below_drewN | apply below_drew1 | refine below_set ?_ GE101.out) | exact HB.out))) : w.heap.size ≤ gb106)); have n5_ := Aside0.mk ((by rw [hg]; exact (below_size (by repeat (first | (with_reducible first | exact HB.out | apply below_alloc | apply pw_below_drewN | apply below_drew1 | refine below_set ?_ GE101.out) | exact HB.out))) : w.heap.size ≤ gb106)); have n6_ := Aside0.mk ((by rw [hg]; exact Nat.ne_of_lt (blk_lt (g := gb101) (o := .cells #[.int .u64 a0_0, .int .u64 a0_1, .int .i64 a0_2, .int .i64 a0_3, .int .u64 a0_4, .int .u64 a0_5, .int .i64 a0_6, .int .i64 a0_7, .int .u64 a0_8, .int .u64 a0_9, .int .i64 a0_10, .int .i64 a0_11, .int .u64 a0_12, .int .u64 a0_13, .int .i64 a0_14, .int .i64 a0_15, .int .u64 a0_16, .int .u64 a0_17, .int .i64 a0_18, .int .i64 a0_19] 27 (0, 0)) (by (with_reducible repeat (first | refine blk_drewN ?_ _ | refine blk_drew ?_ | refine blk_alloc ?_ _)); exact BK101.out)) : gb101 ≠ gb106)); have n7_ := Aside0.mk ((by rw [hg]; exact Nat.ne_of_gt (blk_lt (g := gb101) (o := .cells #[.int .u64 a0_0, .int .u64 a0_1, .int .i64 a0_2, .int .i64 a0_3, .int .u64 a0_4, .int .u64 a0_5, .int .i64 a0_6, .int .i64 a0_7, .int .u64 a0_8, .int .u64 a0_9, .int .i64 a0_10, .int .i64 a0_11, .int .u64 a0_12, .int .u64 a0_13, .int .i64 a0_14, .int .i64 a0_15, .int .u64 a0_16, .int .u64 a0_17, .int .i64 a0_18, .int .i64 a0_19] 27 (0, 0)) (by (with_reducible repeat (first | refine blk_drewN ?_ _ | refine blk_drew ?_ | refine blk_alloc ?_ _)); exact BK101.out)) : gb106 ≠ gb101)); clear HO_16; clear BK101; clear HB; have HO_16 := n0_; have BK101 := n1_; have HB := n2_; have BK106 := n3_; have GW106 := n4_; have GE106 := n5_; have NB101_106 := n6_; have NB106_101 := n7_; clear n0_ n1_ n2_ n3_ n4_ n5_ n6_ n7_; clear hb hbox hg; have hnb28 := NB106_101.out; have hnc28 := NB101_106.out; have hcz29_0 : w27.cell? ⟨gb106, 0, none⟩ = some (.int .u64 0) := (blk_cell BK106.out 0).trans rfl; have hcz29_1 : w27.cell? ⟨gb106, 1, none⟩ = some (.int .u64 0) := (blk_cell BK106.out 1).trans rfl; have hcz29_2 : w27.cell? ⟨gb106, 2, none⟩ = some (.int .i64 0) := (blk_cell BK106.out 2).trans rfl; have hcz29_3 : w27.cell? ⟨gb106, 3, none⟩ = some (.int .i64 0) := (blk_cell BK106.out 3).trans rfl; have hfz29_0 := blk_frozen BK106.out 0; have hfz29_1 := blk_frozen BK106.out 1; have hfz29_2 := blk_frozen BK106.out 2; have hfz29_3 := blk_frozen BK106.out 3))
                      go_roundg k1
                      case measure => have := HK1.out; omega
                      case rel => exact ⟨((rd_T25 y102 x18_1).f1), (wrap64 (x18_1 + 1)), (by first | rfl | (simp; done) | (simp [*]; done)), (by first | rfl | (simp; done) | (simp [*]; done)), H', ⟨by have := HK1.out; omega⟩, ⟨by (with_reducible repeat (first | apply Kd.R_alloc | apply Kd.R_drewN | apply Kd.R_drew)); exact Kd.R_mono (Kd.R_far (p := ⟨gb106, 3, none⟩) (Kd.R_far (p := ⟨gb106, 2, none⟩) (Kd.R_far (p := ⟨gb106, 1, none⟩) (Kd.R_far (p := ⟨gb106, 0, none⟩) (Kd.R_mono HO_16.out (fun k_ hk => (⟨hk, hk.2⟩ : _ ∧ k_ ≠ gb106))) (fun _ hk => hk.2) (.int .u64 ((rd_T25 y102 x18_1).f0))) (fun _ hk => hk.2) (.int .u64 ((rd_T25 y102 x18_1).f1))) (fun _ hk => hk.2) (.int .i64 ((rd_T25 y102 x18_1).f2))) (fun _ hk => hk.2) (.int .i64 ((rd_T25 y102 x18_1).f3))) (fun _ hk => trivial)⟩, ⟨by (with_reducible repeat (first | refine blk_drewN ?_ _ | refine blk_drew ?_ | refine blk_alloc ?_ _)); refine blk_far ?_ NB101_106.out _; (with_reducible repeat (first | refine blk_drewN ?_ _ | refine blk_drew ?_ | refine blk_alloc ?_ _)); refine blk_far ?_ NB101_106.out _; (with_reducible repeat (first | refine blk_drewN ?_ _ | refine blk_drew ?_ | refine blk_alloc ?_ _)); refine blk_far ?_ NB101_106.out _; (with_reducible repeat (first | refine blk_drewN ?_ _ | refine blk_drew ?_ | refine blk_alloc ?_ _)); refine blk_far ?_ NB101_106.out _; (with_reducible repeat (first | refine blk_drewN ?_ _ | refine blk_drew ?_ | refine blk_alloc ?_ _)); exact BK101.out⟩, ⟨by repeat (first | (with_reducible first | exact HB.out | apply below_alloc | apply pw_below_drewN | apply below_drew1 | refine below_set ?_ GE101.out | refine below_set ?_ GE106.out) | exact HB.out)⟩⟩
                · rw [if_neg c18] at H
                  have c18b0 : ((Int.tmod (Go.bits .or .u64 ((rd_T25 y102 x18_1).f0) ((rd_T25 y102 x18_1).f1)) 8) == 0) = false := beq_eq_false_iff_ne.mpr c18
                  have c18b1 : ((Int.tmod (Go.bits .or .u64 ((rd_T25 y102 x18_1).f0) ((rd_T25 y102 x18_1).f1)) 8) != 0) = true := bne_iff_ne.mpr c18
                  obtain rfl := Option.some.inj H
                  have p105 : 0 ≤ (x18_1 : Int) := of_decide_eq_true (by first | (with_reducible assumption) | assumption)
                  have q105 : x18_1 < (y102.length : Int) := of_decide_eq_true (by first | (with_reducible assumption) | assumption)
                  obtain ⟨ad105, e105, hx105_0, hx105_1, hx105_2, hx105_3⟩ := at_T25 (Kd.R_reads' HO_16.out).2.2 x18_1 p105 q105
                  cases e105
                  replace p105 := eq_true p105
                  replace q105 := eq_true q105
                  go_wp2_with (first | ((with_reducible refine gate_dst (N := 5) rfl ?_); refine box_event ?hg (N := 5) ?hd (cs := #[.int .u64 0, .int .u64 0, .int .i64 0, .int .i64 0]) (t := 25) ?hr ?_; (case hd => rfl); (case hg => rfl); (case hr => first | (go_simp; done) | (go_simp; rfl)); intro gb106 hg w30 hbox hb; have n0_ := Aside0.mk (Kd.R_below (Kd.R_elderB (by (with_reducible repeat (first | apply Kd.R_alloc | apply Kd.R_drewN | apply Kd.R_drew)); exact HO_16.out) gb106 (Nat.le_of_eq hg.symm)) hb); have n1_ := Aside0.mk (blk_below (g := gb101) (o := .cells #[.int .u64 a0_0, .int .u64 a0_1, .int .i64 a0_2, .int .i64 a0_3, .int .u64 a0_4, .int .u64 a0_5, .int .i64 a0_6, .int .i64 a0_7, .int .u64 a0_8, .int .u64 a0_9, .int .i64 a0_10, .int .i64 a0_11, .int .u64 a0_12, .int .u64 a0_13, .int .i64 a0_14, .int .i64 a0_15, .int .u64 a0_16, .int .u64 a0_17, .int .i64 a0_18, .int .i64 a0_19] 27 (0, 0)) (by (with_reducible repeat (first | refine blk_drewN ?_ _ | refine blk_drew ?_ | refine blk_alloc ?_ _)); exact BK101.out) hb); have n2_ := Aside0.mk (below_step (by repeat (first | (with_reducible first | exact HB.out | apply below_alloc | apply pw_below_drewN | apply below_drew1 | refine below_set ?_ GE101.out) | exact HB.out)) hb); have n3_ := Aside0.mk (hbox); have n4_ := Aside0.mk ((by rw [hg]; exact (below_size (by repeat (first | (with_reducible first | exact HB.out | apply below_alloc | apply pw_below_drewN | apply below_drew1 | refine below_set ?_ GE101.out) | exact HB.out))) : w.heap.size ≤ gb106)); have n5_ := Aside0.mk ((by rw [hg]; exact (below_size (by repeat (first | (with_reducible first | exact HB.out | apply below_alloc | apply pw_below_drewN | apply below_drew1 | refine below_set ?_ GE101.out) | exact HB.out))) : w.heap.size ≤ gb106)); have n6_ := Aside0.mk ((by rw [hg]; exact Nat.ne_of_lt (blk_lt (g := gb101) (o := .cells #[.int .u64 a0_0, .int .u64 a0_1, .int .i64 a0_2, .int .i64 a0_3, .int .u64 a0_4, .int .u64 a0_5, .int .i64 a0_6, .int .i64 a0_7, .int .u64 a0_8, .int .u64 a0_9, .int .i64 a0_10, .int .i64 a0_11, .int .u64 a0_12, .int .u64 a0_13, .int .i64 a0_14, .int .i64 a0_15, .int .u64 a0_16, .int .u64 a0_17, .int .i64 a0_18, .int .i64 a0_19] 27 (0, 0)) (by (with_reducible repeat (first | refine blk_drewN ?_ _ | refine blk_drew ?_ | refine blk_alloc ?_ _)); exact BK101.out)) : gb101 ≠ gb106)); have n7_ := Aside0.mk ((by rw [hg]; exact Nat.ne_of_gt (blk_lt (g := gb101) (o := .cells #[.int .u64 a0_0, .int .u64 a0_1, .int .i64 a0_2, .int .i64 a0_3, .int .u64 a0_4, .int .u64 a0_5, .int .i64 a0_6, .int .i64 a0_7, .int .u64 a0_8, .int .u64 a0_9, .int .i64 a0_10, .int .i64 a0_11, .int .u64 a0_12, .int .u64 a0_13, .int .i64 a0_14, .int .i64 a0_15, .int .u64 a0_16, .int .u64 a0_17, .int .i64 a0_18, .int .i64 a0_19] 27 (0, 0)) (by (with_reducible repeat (first | refine blk_drewN ?_ _ | refine blk_drew ?_ | refine blk_alloc ?_ _)); exact BK101.out)) : gb106 ≠ gb101)); clear HO_16; clear BK101; clear HB; have HO_16 := n0_; have BK101 := n1_; have HB := n2_; have BK106 := n3_; have GW106 := n4_; have GE106 := n5_; have NB101_106 := n6_; have NB106_101 := n7_; clear n0_ n1_ n2_ n3_ n4_ n5_ n6_ n7_; clear hb hbox hg; have hnb31 := NB106_101.out; have hnc31 := NB101_106.out; have hcz32_0 : w30.cell? ⟨gb106, 0, none⟩ = some (.int .u64 0) := (blk_cell BK106.out 0).trans rfl; have hcz32_1 : w30.cell? ⟨gb106, 1, none⟩ = some (.int .u64 0) := (blk_cell BK106.out 1).trans rfl; have hcz32_2 : w30.cell? ⟨gb106, 2, none⟩ = some (.int .i64 0) := (blk_cell BK106.out 2).trans rfl; have hcz32_3 : w30.cell? ⟨gb106, 3, none⟩ = some (.int .i64 0) := (blk_cell BK106.out 3).trans rfl; have hfz32_0 := blk_frozen BK106.out 0; have hfz32_1 := blk_frozen BK106.out 1; have hfz32_2 := blk_frozen BK106.out 2; have hfz32_3 := blk_frozen BK106.out 3))
                  go_ret
                  exact ⟨by first | rfl | (simp [errW_none, errW_some] <;> rfl) | (simp [*, errW_none, errW_some] <;> rfl), by repeat (first | (with_reducible first | exact HB.out | apply below_alloc | apply pw_below_drewN | apply below_drew1 | refine below_set ?_ GE101.out | refine below_set ?_ GE106.out) | exact HB.out)⟩
          · rw [if_neg c9] at H
            exact absurd H (by simp)
        · rw [if_neg c8] at H
          exact absurd H (by simp)
      · rw [if_neg c7] at H
        have c7b0 : decide (x18_1 < (y102.length : Int)) = false := decide_eq_false c7
        clear c7
        by_cases c33 : (IntKind.u64.wrap (a0_5 - a0_4)) ≥ 16
        · rw [if_pos c33] at H
          have c33b0 : decide (16 ≤ (IntKind.u64.wrap (a0_5 - a0_4))) = true := decide_eq_true c33
          clear c33
          obtain rfl := Option.some.inj H
          have hcz34_0 : wr.cell? ⟨gb101, 0, none⟩ = some (.int .u64 a0_0) := (blk_cell BK101.out 0).trans rfl
          have hcz34_1 : wr.cell? ⟨gb101, 1, none⟩ = some (.int .u64 a0_1) := (blk_cell BK101.out 1).trans rfl
          have hcz34_2 : wr.cell? ⟨gb101, 2, none⟩ = some (.int .i64 a0_2) := (blk_cell BK101.out 2).trans rfl
          have hcz34_3 : wr.cell? ⟨gb101, 3, none⟩ = some (.int .i64 a0_3) := (blk_cell BK101.out 3).trans rfl
          have hcz34_4 : wr.cell? ⟨gb101, 4, none⟩ = some (.int .u64 a0_4) := (blk_cell BK101.out 4).trans rfl
          have hcz34_5 : wr.cell? ⟨gb101, 5, none⟩ = some (.int .u64 a0_5) := (blk_cell BK101.out 5).trans rfl
          have hcz34_6 : wr.cell? ⟨gb101, 6, none⟩ = some (.int .i64 a0_6) := (blk_cell BK101.out 6).trans rfl
          have hcz34_7 : wr.cell? ⟨gb101, 7, none⟩ = some (.int .i64 a0_7) := (blk_cell BK101.out 7).trans rfl
          have hcz34_8 : wr.cell? ⟨gb101, 8, none⟩ = some (.int .u64 a0_8) := (blk_cell BK101.out 8).trans rfl
          have hcz34_9 : wr.cell? ⟨gb101, 9, none⟩ = some (.int .u64 a0_9) := (blk_cell BK101.out 9).trans rfl
          have hcz34_10 : wr.cell? ⟨gb101, 10, none⟩ = some (.int .i64 a0_10) := (blk_cell BK101.out 10).trans rfl
          have hcz34_11 : wr.cell? ⟨gb101, 11, none⟩ = some (.int .i64 a0_11) := (blk_cell BK101.out 11).trans rfl
          have hcz34_12 : wr.cell? ⟨gb101, 12, none⟩ = some (.int .u64 a0_12) := (blk_cell BK101.out 12).trans rfl
          have hcz34_13 : wr.cell? ⟨gb101, 13, none⟩ = some (.int .u64 a0_13) := (blk_cell BK101.out 13).trans rfl
          have hcz34_14 : wr.cell? ⟨gb101, 14, none⟩ = some (.int .i64 a0_14) := (blk_cell BK101.out 14).trans rfl
          have hcz34_15 : wr.cell? ⟨gb101, 15, none⟩ = some (.int .i64 a0_15) := (blk_cell BK101.out 15).trans rfl
          have hcz34_16 : wr.cell? ⟨gb101, 16, none⟩ = some (.int .u64 a0_16) := (blk_cell BK101.out 16).trans rfl
          have hcz34_17 : wr.cell? ⟨gb101, 17, none⟩ = some (.int .u64 a0_17) := (blk_cell BK101.out 17).trans rfl
          have hcz34_18 : wr.cell? ⟨gb101, 18, none⟩ = some (.int .i64 a0_18) := (blk_cell BK101.out 18).trans rfl
          have hcz34_19 : wr.cell? ⟨gb101, 19, none⟩ = some (.int .i64 a0_19) := (blk_cell BK101.out 19).trans rfl
          have hfz34_0 := blk_frozen BK101.out 0
          have hfz34_1 := blk_frozen BK101.out 1
          have hfz34_2 := blk_frozen BK101.out 2
          have hfz34_3 := blk_frozen BK101.out 3
          have hfz34_4 := blk_frozen BK101.out 4
          have hfz34_5 := blk_frozen BK101.out 5
          have hfz34_6 := blk_frozen BK101.out 6
          have hfz34_7 := blk_frozen BK101.out 7
          have hfz34_8 := blk_frozen BK101.out 8
          have hfz34_9 := blk_frozen BK101.out 9
          have hfz34_10 := blk_frozen BK101.out 10
          have hfz34_11 := blk_frozen BK101.out 11
          have hfz34_12 := blk_frozen BK101.out 12
          have hfz34_13 := blk_frozen BK101.out 13
          have hfz34_14 := blk_frozen BK101.out 14
          have hfz34_15 := blk_frozen BK101.out 15
          have hfz34_16 := blk_frozen BK101.out 16
          have hfz34_17 := blk_frozen BK101.out 17
          have hfz34_18 := blk_frozen BK101.out 18
          have hfz34_19 := blk_frozen BK101.out 19
          go_wp2
          go_ret
          exact ⟨by first | rfl | (simp [errW_none, errW_some] <;> rfl) | (simp [*, errW_none, errW_some] <;> rfl), by repeat (first | (with_reducible first | exact HB.out | apply below_alloc | apply pw_below_drewN | apply below_drew1 | refine below_set ?_ GE101.out) | exact HB.out)⟩
        · rw [if_neg c33] at H
          have c33b0 : decide (16 ≤ (IntKind.u64.wrap (a0_5 - a0_4))) = false := decide_eq_false c33
          clear c33
          obtain rfl := Option.some.inj H
          have hcz35_0 : wr.cell? ⟨gb101, 0, none⟩ = some (.int .u64 a0_0) := (blk_cell BK101.out 0).trans rfl
          have hcz35_1 : wr.cell? ⟨gb101, 1, none⟩ = some (.int .u64 a0_1) := (blk_cell BK101.out 1).trans rfl
          have hcz35_2 : wr.cell? ⟨gb101, 2, none⟩ = some (.int .i64 a0_2) := (blk_cell BK101.out 2).trans rfl
          have hcz35_3 : wr.cell? ⟨gb101, 3, none⟩ = some (.int .i64 a0_3) := (blk_cell BK101.out 3).trans rfl
          have hcz35_4 : wr.cell? ⟨gb101, 4, none⟩ = some (.int .u64 a0_4) := (blk_cell BK101.out 4).trans rfl
          have hcz35_5 : wr.cell? ⟨gb101, 5, none⟩ = some (.int .u64 a0_5) := (blk_cell BK101.out 5).trans rfl
          have hcz35_6 : wr.cell? ⟨gb101, 6, none⟩ = some (.int .i64 a0_6) := (blk_cell BK101.out 6).trans rfl
          have hcz35_7 : wr.cell? ⟨gb101, 7, none⟩ = some (.int .i64 a0_7) := (blk_cell BK101.out 7).trans rfl
          have hcz35_8 : wr.cell? ⟨gb101, 8, none⟩ = some (.int .u64 a0_8) := (blk_cell BK101.out 8).trans rfl
          have hcz35_9 : wr.cell? ⟨gb101, 9, none⟩ = some (.int .u64 a0_9) := (blk_cell BK101.out 9).trans rfl
          have hcz35_10 : wr.cell? ⟨gb101, 10, none⟩ = some (.int .i64 a0_10) := (blk_cell BK101.out 10).trans rfl
          have hcz35_11 : wr.cell? ⟨gb101, 11, none⟩ = some (.int .i64 a0_11) := (blk_cell BK101.out 11).trans rfl
          have hcz35_12 : wr.cell? ⟨gb101, 12, none⟩ = some (.int .u64 a0_12) := (blk_cell BK101.out 12).trans rfl
          have hcz35_13 : wr.cell? ⟨gb101, 13, none⟩ = some (.int .u64 a0_13) := (blk_cell BK101.out 13).trans rfl
          have hcz35_14 : wr.cell? ⟨gb101, 14, none⟩ = some (.int .i64 a0_14) := (blk_cell BK101.out 14).trans rfl
          have hcz35_15 : wr.cell? ⟨gb101, 15, none⟩ = some (.int .i64 a0_15) := (blk_cell BK101.out 15).trans rfl
          have hcz35_16 : wr.cell? ⟨gb101, 16, none⟩ = some (.int .u64 a0_16) := (blk_cell BK101.out 16).trans rfl
          have hcz35_17 : wr.cell? ⟨gb101, 17, none⟩ = some (.int .u64 a0_17) := (blk_cell BK101.out 17).trans rfl
          have hcz35_18 : wr.cell? ⟨gb101, 18, none⟩ = some (.int .i64 a0_18) := (blk_cell BK101.out 18).trans rfl
          have hcz35_19 : wr.cell? ⟨gb101, 19, none⟩ = some (.int .i64 a0_19) := (blk_cell BK101.out 19).trans rfl
          have hfz35_0 := blk_frozen BK101.out 0
          have hfz35_1 := blk_frozen BK101.out 1
          have hfz35_2 := blk_frozen BK101.out 2
          have hfz35_3 := blk_frozen BK101.out 3
          have hfz35_4 := blk_frozen BK101.out 4
          have hfz35_5 := blk_frozen BK101.out 5
          have hfz35_6 := blk_frozen BK101.out 6
          have hfz35_7 := blk_frozen BK101.out 7
          have hfz35_8 := blk_frozen BK101.out 8
          have hfz35_9 := blk_frozen BK101.out 9
          have hfz35_10 := blk_frozen BK101.out 10
          have hfz35_11 := blk_frozen BK101.out 11
          have hfz35_12 := blk_frozen BK101.out 12
          have hfz35_13 := blk_frozen BK101.out 13
          have hfz35_14 := blk_frozen BK101.out 14
          have hfz35_15 := blk_frozen BK101.out 15
          have hfz35_16 := blk_frozen BK101.out 16
          have hfz35_17 := blk_frozen BK101.out 17
          have hfz35_18 := blk_frozen BK101.out 18
          have hfz35_19 := blk_frozen BK101.out 19
          go_wp2
          go_ret
          exact ⟨by first | rfl | (simp [errW_none, errW_some] <;> rfl) | (simp [*, errW_none, errW_some] <;> rfl), by repeat (first | (with_reducible first | exact HB.out | apply below_alloc | apply pw_below_drewN | apply below_drew1 | refine below_set ?_ GE101.out) | exact HB.out)⟩

/-! ### obj_onlyASCII: function 45 -/
def obj_onlyASCII.l0 : Nat → ByteArray → Int → Int → Option (Bool)
  | 0, _, _, _ => none
  | k + 1, x0, x5, x6 => if x6 < x5 then (if 0 ≤ x6 then (if x6 < (x0.size : Int) then (if (bt x0 x6) ≥ 128 then (some false) else (obj_onlyASCII.l0 k x0 x5 (wrap64 (x6 + 1)))) else (none)) else (none)) else (some true)
def obj_onlyASCII.f (k : Nat) (a0 : ByteArray) : Option (Bool) := obj_onlyASCII.l0 k a0 (a0.size : Int) 0
theorem obj_onlyASCII.mono_l : ∀ k, (∀ y0 y1 y2, LeO (obj_onlyASCII.l0 k y0 y1 y2) (obj_onlyASCII.l0 (k + 1) y0 y1 y2))
  | 0 => fun _ _ _ r h => by simp [obj_onlyASCII.l0] at h
  | k + 1 => by
    have ih0 := obj_onlyASCII.mono_l k
    · intro y0 y1 y2
      unfold obj_onlyASCII.l0
      repeat' first
      | (with_reducible exact ih0 _ _ _)
      | (with_reducible exact LeO.refl _)
      | (with_reducible exact LeO.none _)
      | (with_reducible refine LeO.ite ?_ ?_)
      | (with_reducible refine LeO.bind ?_ (fun _ => ?_))
      | exact ih0 _ _ _
      | exact LeO.none _
      | refine LeO.ite ?_ ?_
      | refine LeO.bind ?_ (fun _ => ?_)
theorem obj_onlyASCII.mono : ∀ a0 k, LeO (obj_onlyASCII.f k a0) (obj_onlyASCII.f (k + 1) a0) := by
  intro a0 k
  have ih0 := obj_onlyASCII.mono_l k
  unfold obj_onlyASCII.f
  repeat' first
      | (with_reducible exact ih0 _ _ _)
      | (with_reducible exact LeO.refl _)
      | (with_reducible exact LeO.none _)
      | (with_reducible refine LeO.ite ?_ ?_)
      | (with_reducible refine LeO.bind ?_ (fun _ => ?_))
      | exact ih0 _ _ _
      | exact LeO.none _
      | refine LeO.ite ?_ ?_
      | refine LeO.bind ?_ (fun _ => ?_)
set_option maxHeartbeats 8000000 in
set_option maxRecDepth 100000 in
theorem obj_onlyASCII.calls (k : Nat) (a0 : ByteArray) (r : Bool) (w : World) (h : obj_onlyASCII.f k a0 = some r) :
    Calls Tryd.prog 45 #[.string a0] w fun e w' => e = .returned (.bool r) ∧ Drawn0 w w' := by
  have H : (obj_onlyASCII.l0 k a0 (a0.size : Int) 0) = some r := h
  clear h
  have H' := Aside0.mk H
  clear H
  go_enter Tryd.func45, Tryd.ntmps45
  go_wp2
  go_loopg [6] k (fun kq v6 w' => ∃ (x6_1 : Int), v6 = .int .i64 x6_1 ∧ Aside0 (obj_onlyASCII.l0 kq a0 (a0.size : Int) x6_1 = some r) ∧ Aside0 (kq ≤ k) ∧ Drawn0 w w')
  case atStart => exact ⟨(0), (by first | rfl | (simp; done) | (simp [*]; done)), H', ⟨Nat.le_refl _⟩, by repeat (first | exact Drawn0.refl _ | apply Drawn0.step)⟩
  case round =>
    clear H'
    obtain ⟨x6_1, rfl, HA, HK1, ⟨m1, rfl⟩⟩ := hrel
    cases gk with
    | zero => exact absurd HA.out (by simp [obj_onlyASCII.l0])
    | succ k1 =>
      have H := HA.out
      clear HA
      simp only [obj_onlyASCII.l0] at H
      by_cases c2 : x6_1 < (a0.size : Int)
      · rw [if_pos c2] at H
        have c2b0 : decide (x6_1 < (a0.size : Int)) = true := decide_eq_true c2
        clear c2
        by_cases c3 : 0 ≤ x6_1
        · rw [if_pos c3] at H
          have c3b0 : decide (0 ≤ x6_1) = true := decide_eq_true c3
          clear c3
          by_cases c4 : x6_1 < (a0.size : Int)
          · rw [if_pos c4] at H
            have c4b0 : decide (x6_1 < (a0.size : Int)) = true := decide_eq_true c4
            clear c4
            by_cases c6 : (bt a0 x6_1) ≥ 128
            · rw [if_pos c6] at H
              have c6b0 : decide (128 ≤ (bt a0 x6_1)) = true := decide_eq_true c6
              clear c6
              obtain rfl := Option.some.inj H
              have p5 : 0 ≤ (x6_1 : Int) := of_decide_eq_true (by first | (with_reducible assumption) | assumption)
              have q5 : x6_1 < (a0.size : Int) := of_decide_eq_true (by first | (with_reducible assumption) | assumption)
              have hx5 := bt_at a0 x6_1
              replace p5 := eq_true p5
              replace q5 := eq_true q5
              go_wp2
              go_ret
              exact ⟨by first | rfl | (simp; done) | (simp [*]; done), by repeat (first | exact Drawn0.refl _ | apply Drawn0.step)⟩
            · rw [if_neg c6] at H
              have c6b0 : decide (128 ≤ (bt a0 x6_1)) = false := decide_eq_false c6
              clear c6
              have H' := Aside0.mk H
              clear H
              have p5 : 0 ≤ (x6_1 : Int) := of_decide_eq_true (by first | (with_reducible assumption) | assumption)
              have q5 : x6_1 < (a0.size : Int) := of_decide_eq_true (by first | (with_reducible assumption) | assumption)
              have hx5 := bt_at a0 x6_1
              replace p5 := eq_true p5
              replace q5 := eq_true q5
              go_wp2
              go_roundg k1
              case measure => have := HK1.out; omega
              case rel => exact ⟨(wrap64 (x6_1 + 1)), (by first | rfl | (simp; done) | (simp [*]; done)), H', ⟨by have := HK1.out; omega⟩, by repeat (first | exact Drawn0.refl _ | apply Drawn0.step)⟩
          · rw [if_neg c4] at H
            exact absurd H (by simp)
        · rw [if_neg c3] at H
          exact absurd H (by simp)
      · rw [if_neg c2] at H
        have c2b0 : decide (x6_1 < (a0.size : Int)) = false := decide_eq_false c2
        clear c2
        obtain rfl := Option.some.inj H
        go_wp2
        go_ret
        exact ⟨by first | rfl | (simp; done) | (simp [*]; done), by repeat (first | exact Drawn0.refl _ | apply Drawn0.step)⟩

/-! ### bits_Sign: function 76 -/
def bits_Sign.f (a0 : Int) (a1 : Int) : Option (Int) := if a1 < 1 then (some 0) else (if a1 > 64 then (some 0) else (if 0 ≤ (wrap64 (64 - a1)) then (some (shr .i64 (wrap64 (shl .u64 a0 (wrap64 (64 - a1)))) (wrap64 (64 - a1)))) else (none)))
set_option maxHeartbeats 8000000 in
set_option maxRecDepth 100000 in
theorem bits_Sign.calls (a0 : Int) (a1 : Int) (r : Int) (w : World) (h : bits_Sign.f a0 a1 = some r) :
    Calls Tryd.prog 76 #[.int .u64 a0, .int .i64 a1] w fun e w' => e = .returned (.int .i64 r) ∧ Drawn0 w w' := by
  have H : (if a1 < 1 then (some 0) else (if a1 > 64 then (some 0) else (if 0 ≤ (wrap64 (64 - a1)) then (some (shr .i64 (wrap64 (shl .u64 a0 (wrap64 (64 - a1)))) (wrap64 (64 - a1)))) else (none)))) = some r := h
  clear h
  by_cases c3 : a1 < 1
  · rw [if_pos c3] at H
    have c3b0 : decide (a1 < 1) = true := decide_eq_true c3
    clear c3
    obtain rfl := Option.some.inj H
    go_enter Tryd.func76, Tryd.ntmps76
    go_wp2
    go_ret
    exact ⟨by first | rfl | (simp; done) | (simp [*]; done), by repeat (first | exact Drawn0.refl _ | apply Drawn0.step)⟩
  · rw [if_neg c3] at H
    have c3b0 : decide (a1 < 1) = false := decide_eq_false c3
    clear c3
    by_cases c4 : a1 > 64
    · rw [if_pos c4] at H
      have c4b0 : decide (64 < a1) = true := decide_eq_true c4
      clear c4
      obtain rfl := Option.some.inj H
      go_enter Tryd.func76, Tryd.ntmps76
      go_wp2
      go_ret
      exact ⟨by first | rfl | (simp; done) | (simp [*]; done), by repeat (first | exact Drawn0.refl _ | apply Drawn0.step)⟩
    · rw [if_neg c4] at H
      have c4b0 : decide (64 < a1) = false := decide_eq_false c4
      clear c4
      obtain ⟨ji5, hji5⟩ : ∃ j_ : Int, (wrap64 (64 - a1)) = j_ := ⟨_, rfl⟩
      replace H : (if 0 ≤ (ji5) then (some (shr .i64 (wrap64 (shl .u64 a0 (ji5))) (ji5))) else (none)) = some r := by first | (rw [hji5] at H; exact H) | (simp only [hji5] at H ⊢; exact H)
      have hji5w : (IntKind.i64.wrap (64 - a1)) = ji5 := (i64_w _).trans hji5
      by_cases c6 : 0 ≤ (ji5)
      · rw [if_pos c6] at H
        have c6b0 := eq_true c6
        have c6b1 : decide (0 ≤ (ji5)) = true := decide_eq_true c6
        clear c6
        obtain ⟨ji7, hji7⟩ : ∃ j_ : Int, (shl .u64 a0 (ji5)) = j_ := ⟨_, rfl⟩
        replace H : (some (shr .i64 (wrap64 (ji7)) (ji5))) = some r := by first | (rw [hji7] at H; exact H) | (simp only [hji7] at H ⊢; exact H)
        have hji7_ : (IntKind.u64.wrap (a0 * 2 ^ min (ji5).toNat 64)) = ji7 := hji7
        have hji7z : (ji5) ≤ 64 → (IntKind.u64.wrap (a0 * 2 ^ (ji5).toNat)) = ji7 := shl_small hji7
        have c8b0 := eq_true (of_decide_eq_true (by first | (with_reducible assumption) | assumption) : 0 ≤ (ji5))
        obtain ⟨ji9, hji9⟩ : ∃ j_ : Int, (shr .i64 (wrap64 (ji7)) (ji5)) = j_ := ⟨_, rfl⟩
        replace H : (some ji9) = some r := by first | (rw [hji9] at H; exact H) | (simp only [hji9] at H ⊢; exact H)
        have hji9_ : ((wrap64 (ji7)) / 2 ^ min (ji5).toNat 64) = ji9 := hji9
        have hji9z : (ji5) ≤ 64 → ((wrap64 (ji7)) / 2 ^ (ji5).toNat) = ji9 := shr_small hji9
        obtain rfl := Option.some.inj H
        go_enter Tryd.func76, Tryd.ntmps76
        go_wp2
        go_ret
        exact ⟨by first | rfl | (simp; done) | (simp only [← hji5, ← hji7, ← hji9] <;> (first | rfl | simp)) | (simp [*]; done), by repeat (first | exact Drawn0.refl _ | apply Drawn0.step)⟩
      · rw [if_neg c6] at H
        exact absurd H (by simp)

/-! ### ins_Form: function 77 -/
def ins_Form.f (a0 : Int) : Option (ByteArray) := if a0 < 0 then (some (⟨#[]⟩ : ByteArray)) else (if a0 > 42 then (some (⟨#[]⟩ : ByteArray)) else (if 0 ≤ a0 then (if a0 < 43 then (some ((rd_T97 rowsL a0).f0)) else (none)) else (none)))
set_option maxHeartbeats 8000000 in
set_option maxRecDepth 100000 in
theorem ins_Form.calls (a0 : Int) (r : ByteArray) (w : World) (h : ins_Form.f a0 = some r) (hG : GlobOk w) :
    Calls Tryd.prog 77 #[.int .i64 a0] w fun e w' => e = .returned (.string r) ∧ Drawn0 w w' := by
  have HRGrows := Aside0.mk (GlobOk.rowsC hG)
  have H : (if a0 < 0 then (some (⟨#[]⟩ : ByteArray)) else (if a0 > 42 then (some (⟨#[]⟩ : ByteArray)) else (if 0 ≤ a0 then (if a0 < 43 then (some ((rd_T97 rowsL a0).f0)) else (none)) else (none)))) = some r := h
  clear h
  by_cases c2 : a0 < 0
  · rw [if_pos c2] at H
    have c2b0 : decide (a0 < 0) = true := decide_eq_true c2
    clear c2
    obtain rfl := Option.some.inj H
    go_enter Tryd.func77, Tryd.ntmps77
    go_wp2
    go_ret
    exact ⟨by first | rfl | (simp; done) | (simp [*]; done), by repeat (first | exact Drawn0.refl _ | apply Drawn0.step)⟩
  · rw [if_neg c2] at H
    have c2b0 : decide (a0 < 0) = false := decide_eq_false c2
    clear c2
    by_cases c3 : a0 > 42
    · rw [if_pos c3] at H
      have c3b0 : decide (42 < a0) = true := decide_eq_true c3
      clear c3
      obtain rfl := Option.some.inj H
      go_enter Tryd.func77, Tryd.ntmps77
      go_wp2
      go_ret
      exact ⟨by first | rfl | (simp; done) | (simp [*]; done), by repeat (first | exact Drawn0.refl _ | apply Drawn0.step)⟩
    · rw [if_neg c3] at H
      have c3b0 : decide (42 < a0) = false := decide_eq_false c3
      clear c3
      by_cases c4 : 0 ≤ a0
      · rw [if_pos c4] at H
        have c4b0 : decide (0 ≤ a0) = true := decide_eq_true c4
        clear c4
        by_cases c5 : a0 < 43
        · rw [if_pos c5] at H
          have c5b0 : decide (a0 < 43) = true := decide_eq_true c5
          clear c5
          obtain rfl := Option.some.inj H
          have p107 : 0 ≤ (a0 : Int) := of_decide_eq_true (by first | (with_reducible assumption) | assumption)
          have q107 : a0 < (rowsL.length : Int) := of_decide_eq_true (by first | (with_reducible assumption) | assumption)
          have ql107 : ((a0 : Int) < (43 : Int)) = True := eq_true (of_decide_eq_true (by first | (with_reducible assumption) | assumption))
          obtain ⟨ad107, e107, hx107_0, hx107_1, hx107_2, hx107_3⟩ := at_T97 HRGrows.out a0 p107 q107
          obtain rfl : (⟨0, 0, none⟩ : Addr) = ad107 := (by injection e107)
          (first | simp only [add_plain] at hx107_0 | simp only [add_at] at hx107_0 | simp only [Addr.add, Nat.zero_add] at hx107_0 | skip)
          (first | simp only [add_plain] at hx107_1 | simp only [add_at] at hx107_1 | simp only [Addr.add, Nat.zero_add] at hx107_1 | skip)
          (first | simp only [add_plain] at hx107_2 | simp only [add_at] at hx107_2 | simp only [Addr.add, Nat.zero_add] at hx107_2 | skip)
          (first | simp only [add_plain] at hx107_3 | simp only [add_at] at hx107_3 | simp only [Addr.add, Nat.zero_add] at hx107_3 | skip)
          replace p107 := eq_true p107
          replace q107 := eq_true q107
          go_enter Tryd.func77, Tryd.ntmps77
          go_wp2
          go_ret
          exact ⟨by first | rfl | (simp; done) | (simp [*]; done), by repeat (first | exact Drawn0.refl _ | apply Drawn0.step)⟩
        · rw [if_neg c5] at H
          exact absurd H (by simp)
      · rw [if_neg c4] at H
        exact absurd H (by simp)

end Go.Proofs.YtaoajlaocphgdaaDoor.PA
