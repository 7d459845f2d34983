/-
Contract of caponierlaw19.Layout.
-/
import Derived.Test.YtaoajlaocphgdaaDoorHWrap
import Derived.Test.YtaoajlaocphgdaaDoorEv
namespace Go.Proofs.YtaoajlaocphgdaaDoor.PA
open Go.RowKit Go.Proofs.YtaoajlaocphgdaaDoorW.PrintWords Go.Proofs.YtaoajlaocphgdaaDoorW.PrintLast Go.Proofs.YtaoajlaocphgdaaDoorW.PrintMore
set_option linter.unusedVariables false
set_option linter.unusedSimpArgs false

/-- The laws' own layout. -/
def layC : LayV := ⟨65536, 81920, 0, 0, 131072, 139280, 0, 0, 196608, 262144, 0, 0, 262144, 262208, 0, 0, 327680, 328704, 0, 0⟩
def lay0 : LayV := ⟨0, 0, 0, 0, 0, 0, 0, 0, 0, 0, 0, 0, 0, 0, 0, 0, 0, 0, 0, 0⟩
theorem run_build27 (W : World) : (Instr.build 27 #[(0, .agg #[.int .u64 65536, .int .u64 81920, .int .i64 0, .int .i64 0]), (1, .agg #[.int .u64 131072, .int .u64 139280, .int .i64 0, .int .i64 0]), (2, .agg #[.int .u64 196608, .int .u64 262144, .int .i64 0, .int .i64 0]), (3, .agg #[.int .u64 262144, .int .u64 262208, .int .i64 0, .int .i64 0]), (4, .agg #[.int .u64 327680, .int .u64 328704, .int .i64 0, .int .i64 0])]).run Tryd.prog W = .ok (.agg (layArr layC)) W := by kernel_rfl

set_option maxHeartbeats 4000000 in
set_option maxRecDepth 100000 in
theorem layout_calls (w : World) : Calls Tryd.prog 17 #[] w fun e w' => e = .returned (.agg (layArr layC)) ∧ Below w.heap.size w w' := by
  have HB := Aside0.mk (Below.refl w.heap.size w)
  go_enter Tryd.func17, Tryd.ntmps17
  go_wp2_with (first | ((with_reducible refine gate_dst (N := 0) rfl ?_); refine box_event ?hg (N := 0) ?hd (cs := layArr lay0) (t := 27) ?hr ?_; (case hd => rfl); (case hg => rfl); (case hr => kernel_rfl); intro g0 hg0 w1 B0 hb1; have HB1 := Aside0.mk hb1; have HE0 := Aside0.mk hg0; have HK0 := Aside0.mk B0; clear hb1 hg0 B0) | ((with_reducible refine gate_dst (N := 6) rfl ?_); refine Kd.event_run (v := .agg (layArr layC)) (w1 := w1) (by rfl) ?hrun ?_; (case hrun => refine exec_build (parts := #[(0, .tmp 1), (1, .tmp 2), (2, .tmp 3), (3, .tmp 4), (4, .tmp 5)]) (by rfl) ?_ (run_build27 _); simp [Act.eval])) | (refine store_event (by rfl) (ty := 27) (by rfl) g0 27 (layArr lay0) (layArr layC) (by rfl) (by rfl) HK0.out (by kernel_rfl) rfl (by kernel_rfl) ?_; intro w2 hs2; have HS2 := Aside0.mk hs2; clear hs2))
  refine bodyPost_ret (results_cell_row rfl _ _ g0 27 (layArr layC) (0, 0) _ rfl HS2.out.at_ Tryd.underlying27 rfl (by kernel_rfl)) rfl ?_
  exact ⟨rfl, HS2.out.below HB1.out (by rw [HE0.out]; exact Nat.le_refl _)⟩
end Go.Proofs.YtaoajlaocphgdaaDoor.PA
