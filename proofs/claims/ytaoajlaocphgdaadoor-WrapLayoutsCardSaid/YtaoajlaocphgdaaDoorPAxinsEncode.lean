-- Written by wip/tools/pdrive.py (a driver round the kit's print) for this claim.
import Derived.Test.YtaoajlaocphgdaaDoorPAx0
import Derived.Test.YtaoajlaocphgdaaDoorPAxinshas
import Derived.Test.YtaoajlaocphgdaaDoorPAxinsMay
import Derived.Test.YtaoajlaocphgdaaDoorGlobR
namespace Go.Proofs.YtaoajlaocphgdaaDoor.PA
open Go.RowKit Go.Proofs.YtaoajlaocphgdaaDoorW.PrintWords Go.Proofs.YtaoajlaocphgdaaDoorW.PrintLast Go.Proofs.YtaoajlaocphgdaaDoorW.PrintMore
attribute [local go_sem] max2_int min2_int max_two min_two max_three min_three max_four min_four   -- for this text's walks alone
set_option linter.unusedVariables false
set_option linter.unusedSimpArgs false

/-! ### ins_Encode: function 25 -/
mutual
def ins_Encode.j0 : Nat → Int → Bool → Int → Int → Int → Int → Int → ByteArray → Int → Int → Int → Option (Int × Int)
  | 0, _, _, _, _, _, _, _, _, _, _, _ => none
  | k + 1, x5, x51, x148000, x148001, x148002, x148003, x148004, x151000, x151001, x151002, x151003 => if x51 = true then (ins_Encode.j1 k (Go.bits .or .u64 x151001 (IntKind.u64.wrap ((IntKind.u64.wrap (x148001)) * 128))) x148000 x148001 x148002 x148003 x148004 x151000 x151001 x151002 x151003) else (ins_Encode.j1 k x5 x148000 x148001 x148002 x148003 x148004 x151000 x151001 x151002 x151003)
def ins_Encode.j1 : Nat → Int → Int → Int → Int → Int → Int → ByteArray → Int → Int → Int → Option (Int × Int)
  | 0, _, _, _, _, _, _, _, _, _, _ => none
  | k + 1, x5, x148000, x148001, x148002, x148003, x148004, x151000, x151001, x151002, x151003 => if x151000.toList = ([82] : List UInt8) then (ins_Encode.j2 k (Go.bits .or .u64 x5 (IntKind.u64.wrap (x151003 * 33554432))) (IntKind.u64.wrap (x148004)) x151000 x151001 x151002 x151003) else ((ins_shift.f x148000).bind fun t151 => (if t151 = true then (ins_Encode.j2 k x5 (Go.bits .or .u64 (IntKind.u64.wrap (x148004)) (IntKind.u64.wrap (x151003 * 64))) x151000 x151001 x151002 x151003) else (ins_Encode.j2 k x5 (IntKind.u64.wrap (x148004)) x151000 x151001 x151002 x151003)))
def ins_Encode.j2 : Nat → Int → Int → ByteArray → Int → Int → Int → Option (Int × Int)
  | 0, _, _, _, _, _, _ => none
  | k + 1, x5, x6, x151000, x151001, x151002, x151003 => (ins_parts.f x151000).bind fun t152 => (ins_Encode.l0 k x5 x6 t152 (t152.length : Int) 0)
def ins_Encode.l0 : Nat → Int → Int → List (S103) → Int → Int → Option (Int × Int)
  | 0, _, _, _, _, _ => none
  | k + 1, x5, x6, x85, x86, x87 => if x87 < x86 then (if 0 ≤ x87 then (if x87 < (x85.length : Int) then ((bits_Field.f x6 ((rd_T103 x85 x87).f0) ((rd_T103 x85 x87).f1)).bind fun bt157 => ((bits_Put.f x5 ((rd_T103 x85 x87).f2) ((rd_T103 x85 x87).f1) bt157.1).bind fun bt159 => (ins_Encode.l0 k bt159.1 x6 x85 x86 (wrap64 (x87 + 1))))) else (none)) else (none)) else (some ((x5) % 4294967296, 0))
end
def ins_Encode.f (k : Nat) (a0_0 : Int) (a0_1 : Int) (a0_2 : Int) (a0_3 : Int) (a0_4 : Int) : Option (Int × Int) := (ins_May.f k a0_0 a0_1 a0_2 a0_3 a0_4).bind fun t148 => (if t148 = true then (if 0 ≤ a0_0 then (if a0_0 < 43 then (if ((rd_T97 rowsL a0_0).f0).toList = ([69] : List UInt8) then (some (1048691, 0)) else (if ((rd_T97 rowsL a0_0).f0).toList = ([85] : List UInt8) then (ins_Encode.j0 k (Go.bits .or .u64 (Go.bits .or .u64 (Go.bits .or .u64 (Go.bits .or .u64 ((rd_T97 rowsL a0_0).f1.f0) (IntKind.u64.wrap ((IntKind.u64.wrap (a0_1)) * 128))) (IntKind.u64.wrap (((rd_T97 rowsL a0_0).f1.f1) * 4096))) (IntKind.u64.wrap ((IntKind.u64.wrap (a0_2)) * 32768))) (IntKind.u64.wrap ((IntKind.u64.wrap (a0_3)) * 1048576))) true a0_0 a0_1 a0_2 a0_3 a0_4 ((rd_T97 rowsL a0_0).f0) ((rd_T97 rowsL a0_0).f1.f0) ((rd_T97 rowsL a0_0).f1.f1) ((rd_T97 rowsL a0_0).f1.f2)) else (ins_Encode.j0 k (Go.bits .or .u64 (Go.bits .or .u64 (Go.bits .or .u64 (Go.bits .or .u64 ((rd_T97 rowsL a0_0).f1.f0) (IntKind.u64.wrap ((IntKind.u64.wrap (a0_1)) * 128))) (IntKind.u64.wrap (((rd_T97 rowsL a0_0).f1.f1) * 4096))) (IntKind.u64.wrap ((IntKind.u64.wrap (a0_2)) * 32768))) (IntKind.u64.wrap ((IntKind.u64.wrap (a0_3)) * 1048576))) (((rd_T97 rowsL a0_0).f0).toList == ([74] : List UInt8)) a0_0 a0_1 a0_2 a0_3 a0_4 ((rd_T97 rowsL a0_0).f0) ((rd_T97 rowsL a0_0).f1.f0) ((rd_T97 rowsL a0_0).f1.f1) ((rd_T97 rowsL a0_0).f1.f2)))) else (none)) else (none)) else (some (0, 1)))
theorem ins_Encode.mono_l : ∀ k, (∀ y0 y1 y2 y3 y4 y5 y6 y7 y8 y9 y10, LeO (ins_Encode.j0 k y0 y1 y2 y3 y4 y5 y6 y7 y8 y9 y10) (ins_Encode.j0 (k + 1) y0 y1 y2 y3 y4 y5 y6 y7 y8 y9 y10)) ∧ (∀ y0 y1 y2 y3 y4 y5 y6 y7 y8 y9, LeO (ins_Encode.j1 k y0 y1 y2 y3 y4 y5 y6 y7 y8 y9) (ins_Encode.j1 (k + 1) y0 y1 y2 y3 y4 y5 y6 y7 y8 y9)) ∧ (∀ y0 y1 y2 y3 y4 y5, LeO (ins_Encode.j2 k y0 y1 y2 y3 y4 y5) (ins_Encode.j2 (k + 1) y0 y1 y2 y3 y4 y5)) ∧ (∀ y0 y1 y2 y3 y4, LeO (ins_Encode.l0 k y0 y1 y2 y3 y4) (ins_Encode.l0 (k + 1) y0 y1 y2 y3 y4))
  | 0 => ⟨fun _ _ _ _ _ _ _ _ _ _ _ r h => by simp [ins_Encode.j0] at h, fun _ _ _ _ _ _ _ _ _ _ r h => by simp [ins_Encode.j1] at h, fun _ _ _ _ _ _ r h => by simp [ins_Encode.j2] at h, fun _ _ _ _ _ r h => by simp [ins_Encode.l0] at h⟩
  | k + 1 => by
    obtain ⟨ih0, ih1, ih2, ih3⟩ := ins_Encode.mono_l k
    refine ⟨?_, ?_, ?_, ?_⟩
    · intro y0 y1 y2 y3 y4 y5 y6 y7 y8 y9 y10
      unfold ins_Encode.j0
      repeat' first
      | (with_reducible exact ih0 _ _ _ _ _ _ _ _ _ _ _)
      | (with_reducible exact ih1 _ _ _ _ _ _ _ _ _ _)
      | (with_reducible exact ih2 _ _ _ _ _ _)
      | (with_reducible exact ih3 _ _ _ _ _)
      | (with_reducible exact ins_May.mono _ _ _ _ _ _)
      | (with_reducible exact LeO.refl _)
      | (with_reducible exact LeO.none _)
      | (with_reducible refine LeO.ite ?_ ?_)
      | (with_reducible refine LeO.bind ?_ (fun _ => ?_))
      | exact ih0 _ _ _ _ _ _ _ _ _ _ _
      | exact ih1 _ _ _ _ _ _ _ _ _ _
      | exact ih2 _ _ _ _ _ _
      | exact ih3 _ _ _ _ _
      | exact ins_May.mono _ _ _ _ _ _
      | exact LeO.none _
      | refine LeO.ite ?_ ?_
      | refine LeO.bind ?_ (fun _ => ?_)
    · intro y0 y1 y2 y3 y4 y5 y6 y7 y8 y9
      unfold ins_Encode.j1
      repeat' first
      | (with_reducible exact ih0 _ _ _ _ _ _ _ _ _ _ _)
      | (with_reducible exact ih1 _ _ _ _ _ _ _ _ _ _)
      | (with_reducible exact ih2 _ _ _ _ _ _)
      | (with_reducible exact ih3 _ _ _ _ _)
      | (with_reducible exact ins_May.mono _ _ _ _ _ _)
      | (with_reducible exact LeO.refl _)
      | (with_reducible exact LeO.none _)
      | (with_reducible refine LeO.ite ?_ ?_)
      | (with_reducible refine LeO.bind ?_ (fun _ => ?_))
      | exact ih0 _ _ _ _ _ _ _ _ _ _ _
      | exact ih1 _ _ _ _ _ _ _ _ _ _
      | exact ih2 _ _ _ _ _ _
      | exact ih3 _ _ _ _ _
      | exact ins_May.mono _ _ _ _ _ _
      | exact LeO.none _
      | refine LeO.ite ?_ ?_
      | refine LeO.bind ?_ (fun _ => ?_)
    · intro y0 y1 y2 y3 y4 y5
      unfold ins_Encode.j2
      repeat' first
      | (with_reducible exact ih0 _ _ _ _ _ _ _ _ _ _ _)
      | (with_reducible exact ih1 _ _ _ _ _ _ _ _ _ _)
      | (with_reducible exact ih2 _ _ _ _ _ _)
      | (with_reducible exact ih3 _ _ _ _ _)
      | (with_reducible exact ins_May.mono _ _ _ _ _ _)
      | (with_reducible exact LeO.refl _)
      | (with_reducible exact LeO.none _)
      | (with_reducible refine LeO.ite ?_ ?_)
      | (with_reducible refine LeO.bind ?_ (fun _ => ?_))
      | exact ih0 _ _ _ _ _ _ _ _ _ _ _
      | exact ih1 _ _ _ _ _ _ _ _ _ _
      | exact ih2 _ _ _ _ _ _
      | exact ih3 _ _ _ _ _
      | exact ins_May.mono _ _ _ _ _ _
      | exact LeO.none _
      | refine LeO.ite ?_ ?_
      | refine LeO.bind ?_ (fun _ => ?_)
    · intro y0 y1 y2 y3 y4
      unfold ins_Encode.l0
      repeat' first
      | (with_reducible exact ih0 _ _ _ _ _ _ _ _ _ _ _)
      | (with_reducible exact ih1 _ _ _ _ _ _ _ _ _ _)
      | (with_reducible exact ih2 _ _ _ _ _ _)
      | (with_reducible exact ih3 _ _ _ _ _)
      | (with_reducible exact ins_May.mono _ _ _ _ _ _)
      | (with_reducible exact LeO.refl _)
      | (with_reducible exact LeO.none _)
      | (with_reducible refine LeO.ite ?_ ?_)
      | (with_reducible refine LeO.bind ?_ (fun _ => ?_))
      | exact ih0 _ _ _ _ _ _ _ _ _ _ _
      | exact ih1 _ _ _ _ _ _ _ _ _ _
      | exact ih2 _ _ _ _ _ _
      | exact ih3 _ _ _ _ _
      | exact ins_May.mono _ _ _ _ _ _
      | exact LeO.none _
      | refine LeO.ite ?_ ?_
      | refine LeO.bind ?_ (fun _ => ?_)
theorem ins_Encode.mono : ∀ a0 a1 a2 a3 a4 k, LeO (ins_Encode.f k a0 a1 a2 a3 a4) (ins_Encode.f (k + 1) a0 a1 a2 a3 a4) := by
  intro a0 a1 a2 a3 a4 k
  obtain ⟨ih0, ih1, ih2, ih3⟩ := ins_Encode.mono_l k
  unfold ins_Encode.f
  repeat' first
      | (with_reducible exact ih0 _ _ _ _ _ _ _ _ _ _ _)
      | (with_reducible exact ih1 _ _ _ _ _ _ _ _ _ _)
      | (with_reducible exact ih2 _ _ _ _ _ _)
      | (with_reducible exact ih3 _ _ _ _ _)
      | (with_reducible exact ins_May.mono _ _ _ _ _ _)
      | (with_reducible exact LeO.refl _)
      | (with_reducible exact LeO.none _)
      | (with_reducible refine LeO.ite ?_ ?_)
      | (with_reducible refine LeO.bind ?_ (fun _ => ?_))
      | exact ih0 _ _ _ _ _ _ _ _ _ _ _
      | exact ih1 _ _ _ _ _ _ _ _ _ _
      | exact ih2 _ _ _ _ _ _
      | exact ih3 _ _ _ _ _
      | exact ins_May.mono _ _ _ _ _ _
      | exact LeO.none _
      | refine LeO.ite ?_ ?_
      | refine LeO.bind ?_ (fun _ => ?_)
set_option maxHeartbeats 8000000 in
set_option maxRecDepth 100000 in
theorem ins_Encode.calls (k : Nat) (a0_0 : Int) (a0_1 : Int) (a0_2 : Int) (a0_3 : Int) (a0_4 : Int) (r1 : Int) (r2 : Int) (w : World) (h : ins_Encode.f k a0_0 a0_1 a0_2 a0_3 a0_4 = some (r1, r2)) (hG : GlobOk w) :
    Calls Tryd.prog 25 #[.agg #[.int .i64 a0_0, .int .i64 a0_1, .int .i64 a0_2, .int .i64 a0_3, .int .i64 a0_4]] w fun e w' => e = .returned (.tuple #[.int .u32 r1, .int .i64 r2]) ∧ Below w.heap.size w w' := by
  have hu43 := Tryd.underlying43
  have hu97 := Tryd.underlying97
  have hu103 := Tryd.underlying103
  have HRGrows := Aside0.mk (GlobOk.rowsC hG)
  have HB := Aside0.mk (Below.refl w.heap.size w)
  have H : ((ins_May.f k a0_0 a0_1 a0_2 a0_3 a0_4).bind fun t148 => (if t148 = true then (if 0 ≤ a0_0 then (if a0_0 < 43 then (if ((rd_T97 rowsL a0_0).f0).toList = ([69] : List UInt8) then (some (1048691, 0)) else (if ((rd_T97 rowsL a0_0).f0).toList = ([85] : List UInt8) then (ins_Encode.j0 k (Go.bits .or .u64 (Go.bits .or .u64 (Go.bits .or .u64 (Go.bits .or .u64 ((rd_T97 rowsL a0_0).f1.f0) (IntKind.u64.wrap ((IntKind.u64.wrap (a0_1)) * 128))) (IntKind.u64.wrap (((rd_T97 rowsL a0_0).f1.f1) * 4096))) (IntKind.u64.wrap ((IntKind.u64.wrap (a0_2)) * 32768))) (IntKind.u64.wrap ((IntKind.u64.wrap (a0_3)) * 1048576))) true a0_0 a0_1 a0_2 a0_3 a0_4 ((rd_T97 rowsL a0_0).f0) ((rd_T97 rowsL a0_0).f1.f0) ((rd_T97 rowsL a0_0).f1.f1) ((rd_T97 rowsL a0_0).f1.f2)) else (ins_Encode.j0 k (Go.bits .or .u64 (Go.bits .or .u64 (Go.bits .or .u64 (Go.bits .or .u64 ((rd_T97 rowsL a0_0).f1.f0) (IntKind.u64.wrap ((IntKind.u64.wrap (a0_1)) * 128))) (IntKind.u64.wrap (((rd_T97 rowsL a0_0).f1.f1) * 4096))) (IntKind.u64.wrap ((IntKind.u64.wrap (a0_2)) * 32768))) (IntKind.u64.wrap ((IntKind.u64.wrap (a0_3)) * 1048576))) (((rd_T97 rowsL a0_0).f0).toList == ([74] : List UInt8)) a0_0 a0_1 a0_2 a0_3 a0_4 ((rd_T97 rowsL a0_0).f0) ((rd_T97 rowsL a0_0).f1.f0) ((rd_T97 rowsL a0_0).f1.f1) ((rd_T97 rowsL a0_0).f1.f2)))) else (none)) else (none)) else (some (0, 1)))) = some (r1, r2) := h
  clear h
  replace H := Option.bind_eq_some_iff.mp H
  obtain ⟨t148, A20, H⟩ := H
  replace H : (if t148 = true then (if 0 ≤ a0_0 then (if a0_0 < 43 then (if ((rd_T97 rowsL a0_0).f0).toList = ([69] : List UInt8) then (some (1048691, 0)) else (if ((rd_T97 rowsL a0_0).f0).toList = ([85] : List UInt8) then (ins_Encode.j0 k (Go.bits .or .u64 (Go.bits .or .u64 (Go.bits .or .u64 (Go.bits .or .u64 ((rd_T97 rowsL a0_0).f1.f0) (IntKind.u64.wrap ((IntKind.u64.wrap (a0_1)) * 128))) (IntKind.u64.wrap (((rd_T97 rowsL a0_0).f1.f1) * 4096))) (IntKind.u64.wrap ((IntKind.u64.wrap (a0_2)) * 32768))) (IntKind.u64.wrap ((IntKind.u64.wrap (a0_3)) * 1048576))) true a0_0 a0_1 a0_2 a0_3 a0_4 ((rd_T97 rowsL a0_0).f0) ((rd_T97 rowsL a0_0).f1.f0) ((rd_T97 rowsL a0_0).f1.f1) ((rd_T97 rowsL a0_0).f1.f2)) else (ins_Encode.j0 k (Go.bits .or .u64 (Go.bits .or .u64 (Go.bits .or .u64 (Go.bits .or .u64 ((rd_T97 rowsL a0_0).f1.f0) (IntKind.u64.wrap ((IntKind.u64.wrap (a0_1)) * 128))) (IntKind.u64.wrap (((rd_T97 rowsL a0_0).f1.f1) * 4096))) (IntKind.u64.wrap ((IntKind.u64.wrap (a0_2)) * 32768))) (IntKind.u64.wrap ((IntKind.u64.wrap (a0_3)) * 1048576))) (((rd_T97 rowsL a0_0).f0).toList == ([74] : List UInt8)) a0_0 a0_1 a0_2 a0_3 a0_4 ((rd_T97 rowsL a0_0).f0) ((rd_T97 rowsL a0_0).f1.f0) ((rd_T97 rowsL a0_0).f1.f1) ((rd_T97 rowsL a0_0).f1.f2)))) else (none)) else (none)) else (some (0, 1))) = some (r1, r2) := H
  have A2 := Aside0.mk A20
  clear A20
  by_cases c3 : t148 = true
  · subst c3
    have H1 : (if 0 ≤ a0_0 then (if a0_0 < 43 then (if ((rd_T97 rowsL a0_0).f0).toList = ([69] : List UInt8) then (some (1048691, 0)) else (if ((rd_T97 rowsL a0_0).f0).toList = ([85] : List UInt8) then (ins_Encode.j0 k (Go.bits .or .u64 (Go.bits .or .u64 (Go.bits .or .u64 (Go.bits .or .u64 ((rd_T97 rowsL a0_0).f1.f0) (IntKind.u64.wrap ((IntKind.u64.wrap (a0_1)) * 128))) (IntKind.u64.wrap (((rd_T97 rowsL a0_0).f1.f1) * 4096))) (IntKind.u64.wrap ((IntKind.u64.wrap (a0_2)) * 32768))) (IntKind.u64.wrap ((IntKind.u64.wrap (a0_3)) * 1048576))) true a0_0 a0_1 a0_2 a0_3 a0_4 ((rd_T97 rowsL a0_0).f0) ((rd_T97 rowsL a0_0).f1.f0) ((rd_T97 rowsL a0_0).f1.f1) ((rd_T97 rowsL a0_0).f1.f2)) else (ins_Encode.j0 k (Go.bits .or .u64 (Go.bits .or .u64 (Go.bits .or .u64 (Go.bits .or .u64 ((rd_T97 rowsL a0_0).f1.f0) (IntKind.u64.wrap ((IntKind.u64.wrap (a0_1)) * 128))) (IntKind.u64.wrap (((rd_T97 rowsL a0_0).f1.f1) * 4096))) (IntKind.u64.wrap ((IntKind.u64.wrap (a0_2)) * 32768))) (IntKind.u64.wrap ((IntKind.u64.wrap (a0_3)) * 1048576))) (((rd_T97 rowsL a0_0).f0).toList == ([74] : List UInt8)) a0_0 a0_1 a0_2 a0_3 a0_4 ((rd_T97 rowsL a0_0).f0) ((rd_T97 rowsL a0_0).f1.f0) ((rd_T97 rowsL a0_0).f1.f1) ((rd_T97 rowsL a0_0).f1.f2)))) else (none)) else (none)) = some (r1, r2) := by rw [if_pos rfl] at H; exact H
    clear H
    have H := H1
    clear H1
    by_cases c4 : 0 ≤ a0_0
    · rw [if_pos c4] at H
      have c4b0 : decide (0 ≤ a0_0) = true := decide_eq_true c4
      clear c4
      by_cases c5 : a0_0 < 43
      · rw [if_pos c5] at H
        have c5b0 : decide (a0_0 < 43) = true := decide_eq_true c5
        clear c5
        by_cases c6 : ((rd_T97 rowsL a0_0).f0).toList = ([69] : List UInt8)
        · rw [if_pos c6] at H
          have c6b0 : (((rd_T97 rowsL a0_0).f0).toList == ([69] : List UInt8)) = true := beq_iff_eq.mpr c6
          have c6b1 : (((rd_T97 rowsL a0_0).f0).toList != ([69] : List UInt8)) = false := bne_eq_false_iff_eq.mpr c6
          clear c6
          simp only [Option.some.injEq, Prod.mk.injEq] at H
          obtain ⟨rfl, rfl⟩ := H
          go_enter Tryd.func25, Tryd.ntmps25
          go_wp2_with (first | ((with_reducible refine gate_dst (N := 1) rfl ?_); refine box_event ?hg (N := 1) ?hd (cs := #[.int .i64 a0_0, .int .i64 a0_1, .int .i64 a0_2, .int .i64 a0_3, .int .i64 a0_4]) (t := 43) ?hr ?_; (case hd => rfl); (case hg => rfl); (case hr => first | (go_simp; done) | (go_simp; rfl)); intro gb147 hg w7 hbox hb; have n0_ := Aside0.mk (below_step (by repeat (first | (with_reducible first | exact HB.out | apply below_alloc | apply pw_below_drewN | apply below_drew1) | exact HB.out)) hb); have n1_ := Aside0.mk (hbox); have n2_ := Aside0.mk ((by rw [hg]; exact (below_size (by repeat (first | (with_reducible first | exact HB.out | apply below_alloc | apply pw_below_drewN | apply below_drew1) | exact HB.out))) : w.heap.size ≤ gb147)); have n3_ := Aside0.mk ((by rw [hg]; exact (below_size (by repeat (first | (with_reducible first | exact HB.out | apply below_alloc | apply pw_below_drewN | apply below_drew1) | exact HB.out))) : w.heap.size ≤ gb147)); clear HB; have HB := n0_; have BK147 := n1_; have GW147 := n2_; have GE147 := n3_; clear n0_ n1_ n2_ n3_; clear hb hbox hg; have hcz8_0 : w7.cell? ⟨gb147, 0, none⟩ = some (.int .i64 a0_0) := (blk_cell BK147.out 0).trans rfl; have hcz8_1 : w7.cell? ⟨gb147, 1, none⟩ = some (.int .i64 a0_1) := (blk_cell BK147.out 1).trans rfl; have hcz8_2 : w7.cell? ⟨gb147, 2, none⟩ = some (.int .i64 a0_2) := (blk_cell BK147.out 2).trans rfl; have hcz8_3 : w7.cell? ⟨gb147, 3, none⟩ = some (.int .i64 a0_3) := (blk_cell BK147.out 3).trans rfl; have hcz8_4 : w7.cell? ⟨gb147, 4, none⟩ = some (.int .i64 a0_4) := (blk_cell BK147.out 4).trans rfl; have hfz8_0 := blk_frozen BK147.out 0; have hfz8_1 := blk_frozen BK147.out 1; have hfz8_2 := blk_frozen BK147.out 2; have hfz8_3 := blk_frozen BK147.out 3; have hfz8_4 := blk_frozen BK147.out 4) | ((with_reducible refine gate_callee (f := 53) rfl ?_); refine goesL_ (some 12) rfl rfl Tryd.func53 (by kernel_rfl) rfl #[.agg #[.int .i64 a0_0, .int .i64 a0_1, .int .i64 a0_2, .int .i64 a0_3, .int .i64 a0_4]] rfl (by (try simp only [List.map_toArray, List.map_cons, List.map_nil]); first | done | rfl | (simp only [List.length_drop, List.length_take]; rfl)) ?_; (with_reducible refine (ins_May.calls k a0_0 a0_1 a0_2 a0_3 a0_4 true _ A2.out ?side1).mono ?_); (case side1 => (with_reducible first | exact hG | exact GlobOk.drewN hG _ | exact GlobOk.drew hG | (refine GlobOk.of_below hG ?_; repeat (first | (with_reducible first | exact HB.out | apply below_alloc | apply pw_below_drewN | apply below_drew1 | refine below_set ?_ GE147.out) | exact HB.out)))); rintro e w9 ⟨rfl, hb⟩; refine ⟨_, rfl, ?_⟩; have n0_ := Aside0.mk (blk_below (g := gb147) (o := .cells #[.int .i64 a0_0, .int .i64 a0_1, .int .i64 a0_2, .int .i64 a0_3, .int .i64 a0_4] 43 (0, 0)) (by (with_reducible repeat (first | refine blk_drewN ?_ _ | refine blk_drew ?_ | refine blk_alloc ?_ _)); exact BK147.out) hb); have n1_ := Aside0.mk (below_step (by repeat (first | (with_reducible first | exact HB.out | apply below_alloc | apply pw_below_drewN | apply below_drew1 | refine below_set ?_ GE147.out) | exact HB.out)) hb); clear BK147; clear HB; have BK147 := n0_; have HB := n1_; clear n0_ n1_; (try clear hb); (try clear hb2); (try clear hk); (try clear hi); have hcz10_0 : w9.cell? ⟨gb147, 0, none⟩ = some (.int .i64 a0_0) := (blk_cell BK147.out 0).trans rfl; have hcz10_1 : w9.cell? ⟨gb147, 1, none⟩ = some (.int .i64 a0_1) := (blk_cell BK147.out 1).trans rfl; have hcz10_2 : w9.cell? ⟨gb147, 2, none⟩ = some (.int .i64 a0_2) := (blk_cell BK147.out 2).trans rfl; have hcz10_3 : w9.cell? ⟨gb147, 3, none⟩ = some (.int .i64 a0_3) := (blk_cell BK147.out 3).trans rfl; have hcz10_4 : w9.cell? ⟨gb147, 4, none⟩ = some (.int .i64 a0_4) := (blk_cell BK147.out 4).trans rfl; have hfz10_0 := blk_frozen BK147.out 0; have hfz10_1 := blk_frozen BK147.out 1; have hfz10_2 := blk_frozen BK147.out 2; have hfz10_3 := blk_frozen BK147.out 3; have hfz10_4 := blk_frozen BK147.out 4; have p149 : 0 ≤ (a0_0 : Int) := of_decide_eq_true (by first | (with_reducible assumption) | assumption); have q149 : a0_0 < (rowsL.length : Int) := of_decide_eq_true (by first | (with_reducible assumption) | assumption); have ql149 : ((a0_0 : Int) < (43 : Int)) = True := eq_true (of_decide_eq_true (by first | (with_reducible assumption) | assumption)); obtain ⟨ad149, e149, hx149_0, hx149_1, hx149_2, hx149_3⟩ := at_T97 HRGrows.out a0_0 p149 q149; obtain rfl : (⟨0, 0, none⟩ : Addr) = ad149 := (by injection e149); (first | simp only [add_plain] at hx149_0 | simp only [add_at] at hx149_0 | simp only [Addr.add, Nat.zero_add] at hx149_0 | skip); (first | simp only [add_plain] at hx149_1 | simp only [add_at] at hx149_1 | simp only [Addr.add, Nat.zero_add] at hx149_1 | skip); (first | simp only [add_plain] at hx149_2 | simp only [add_at] at hx149_2 | simp only [Addr.add, Nat.zero_add] at hx149_2 | skip); (first | simp only [add_plain] at hx149_3 | simp only [add_at] at hx149_3 | simp only [Addr.add, Nat.zero_add] at hx149_3 | skip); replace hx149_0 := (HB.out.cell (World.block_lt_of_cell? w _ hx149_0)).trans hx149_0; replace hx149_1 := (HB.out.cell (World.block_lt_of_cell? w _ hx149_1)).trans hx149_1; replace hx149_2 := (HB.out.cell (World.block_lt_of_cell? w _ hx149_2)).trans hx149_2; replace hx149_3 := (HB.out.cell (World.block_lt_of_cell? w _ hx149_3)).trans hx149_3; replace p149 := eq_true p149; replace q149 := eq_true q149) | ((with_reducible refine gate_dst (N := 4) rfl ?_); refine box_event ?hg (N := 4) ?hd (cs := #[.string (⟨#[]⟩ : ByteArray), .int .u64 0, .int .u64 0, .int .u64 0]) (t := 97) ?hr ?_; (case hd => rfl); (case hg => rfl); (case hr => first | (go_simp; done) | (go_simp; rfl)); intro gb150 hg w11 hbox hb; have n0_ := Aside0.mk (blk_below (g := gb147) (o := .cells #[.int .i64 a0_0, .int .i64 a0_1, .int .i64 a0_2, .int .i64 a0_3, .int .i64 a0_4] 43 (0, 0)) (by (with_reducible repeat (first | refine blk_drewN ?_ _ | refine blk_drew ?_ | refine blk_alloc ?_ _)); exact BK147.out) hb); have n1_ := Aside0.mk (below_step (by repeat (first | (with_reducible first | exact HB.out | apply below_alloc | apply pw_below_drewN | apply below_drew1 | refine below_set ?_ GE147.out) | exact HB.out)) hb); have n2_ := Aside0.mk (hbox); have n3_ := Aside0.mk ((by rw [hg]; exact (below_size (by repeat (first | (with_reducible first | exact HB.out | apply below_alloc | apply pw_below_drewN | apply below_drew1 | refine below_set ?_ GE147.out) | exact HB.out))) : w.heap.size ≤ gb150)); have n4_ := Aside0.mk ((by rw [hg]; exact (below_size (by repeat (first | (with_reducible first | exact HB.out | apply below_alloc | apply pw_below_drewN | apply below_drew1 | refine below_set ?_ GE147.out) | exact HB.out))) : w.heap.size ≤ gb150)); have n5_ := Aside0.mk ((by rw [hg]; exact Nat.ne_of_lt (blk_lt (g := gb147) (o := .cells #[.int .i64 a0_0, .int .i64 a0_1, .int .i64 a0_2, .int .i64 a0_3, .int .i64 a0_4] 43 (0, 0)) (by (with_reducible repeat (first | refine blk_drewN ?_ _ | refine blk_drew ?_ | refine blk_alloc ?_ _)); exact BK147.out)) : gb147 ≠ gb150)); have n6_ := Aside0.mk ((by rw [hg]; exact Nat.ne_of_gt (blk_lt (g := gb147) (o := .cells #[.int .i64 a0_0, .int .i64 a0_1, .int .i64 a0_2, .int .i64 a0_3, .int .i64 a0_4] 43 (0, 0)) (by (with_reducible repeat (first | refine blk_drewN ?_ _ | refine blk_drew ?_ | refine blk_alloc ?_ _)); exact BK147.out)) : gb150 ≠ gb147)); clear BK147; clear HB; have BK147 := n0_; have HB := n1_; have BK150 := n2_; have GW150 := n3_; have GE150 := n4_; have NB147_150 := n5_; have NB150_147 := n6_; clear n0_ n1_ n2_ n3_ n4_ n5_ n6_; clear hb hbox hg; have hnb12 := NB150_147.out; have hnc12 := NB147_150.out; have hcz13_0 : w11.cell? ⟨gb150, 0, none⟩ = some (.string (⟨#[]⟩ : ByteArray)) := (blk_cell BK150.out 0).trans rfl; have hcz13_1 : w11.cell? ⟨gb150, 1, none⟩ = some (.int .u64 0) := (blk_cell BK150.out 1).trans rfl; have hcz13_2 : w11.cell? ⟨gb150, 2, none⟩ = some (.int .u64 0) := (blk_cell BK150.out 2).trans rfl; have hcz13_3 : w11.cell? ⟨gb150, 3, none⟩ = some (.int .u64 0) := (blk_cell BK150.out 3).trans rfl; have hfz13_0 := blk_frozen BK150.out 0; have hfz13_1 := blk_frozen BK150.out 1; have hfz13_2 := blk_frozen BK150.out 2; have hfz13_3 := blk_frozen BK150.out 3))
          go_ret2
          exact ⟨by first | rfl | (simp [errW_none, errW_some] <;> rfl) | (simp [*, errW_none, errW_some] <;> rfl), by repeat (first | (with_reducible first | exact HB.out | apply below_alloc | apply pw_below_drewN | apply below_drew1 | refine below_set ?_ GE147.out | refine below_set ?_ GE150.out) | exact HB.out)⟩
        · rw [if_neg c6] at H
          have c6b0 : (((rd_T97 rowsL a0_0).f0).toList == ([69] : List UInt8)) = false := beq_eq_false_iff_ne.mpr c6
          have c6b1 : (((rd_T97 rowsL a0_0).f0).toList != ([69] : List UInt8)) = true := bne_iff_ne.mpr c6
          have HC14 := Aside0.mk H
          clear H
          go_enter Tryd.func25, Tryd.ntmps25
          go_upto_region 7 with (first | ((with_reducible refine gate_dst (N := 1) rfl ?_); refine box_event ?hg (N := 1) ?hd (cs := #[.int .i64 a0_0, .int .i64 a0_1, .int .i64 a0_2, .int .i64 a0_3, .int .i64 a0_4]) (t := 43) ?hr ?_; (case hd => rfl); (case hg => rfl); (case hr => first | (go_simp; done) | (go_simp; rfl)); intro gb147 hg w15 hbox hb; have n0_ := Aside0.mk (below_step (by repeat (first | (with_reducible first | exact HB.out | apply below_alloc | apply pw_below_drewN | apply below_drew1) | exact HB.out)) hb); have n1_ := Aside0.mk (hbox); have n2_ := Aside0.mk ((by rw [hg]; exact (below_size (by repeat (first | (with_reducible first | exact HB.out | apply below_alloc | apply pw_below_drewN | apply below_drew1) | exact HB.out))) : w.heap.size ≤ gb147)); have n3_ := Aside0.mk ((by rw [hg]; exact (below_size (by repeat (first | (with_reducible first | exact HB.out | apply below_alloc | apply pw_below_drewN | apply below_drew1) | exact HB.out))) : w.heap.size ≤ gb147)); clear HB; have HB := n0_; have BK147 := n1_; have GW147 := n2_; have GE147 := n3_; clear n0_ n1_ n2_ n3_; clear hb hbox hg; have hcz16_0 : w15.cell? ⟨gb147, 0, none⟩ = some (.int .i64 a0_0) := (blk_cell BK147.out 0).trans rfl; have hcz16_1 : w15.cell? ⟨gb147, 1, none⟩ = some (.int .i64 a0_1) := (blk_cell BK147.out 1).trans rfl; have hcz16_2 : w15.cell? ⟨gb147, 2, none⟩ = some (.int .i64 a0_2) := (blk_cell BK147.out 2).trans rfl; have hcz16_3 : w15.cell? ⟨gb147, 3, none⟩ = some (.int .i64 a0_3) := (blk_cell BK147.out 3).trans rfl; have hcz16_4 : w15.cell? ⟨gb147, 4, none⟩ = some (.int .i64 a0_4) := (blk_cell BK147.out 4).trans rfl; have hfz16_0 := blk_frozen BK147.out 0; have hfz16_1 := blk_frozen BK147.out 1; have hfz16_2 := blk_frozen BK147.out 2; have hfz16_3 := blk_frozen BK147.out 3; have hfz16_4 := blk_frozen BK147.out 4) | ((with_reducible refine gate_callee (f := 53) rfl ?_); refine goesL_ (some 12) rfl rfl Tryd.func53 (by kernel_rfl) rfl #[.agg #[.int .i64 a0_0, .int .i64 a0_1, .int .i64 a0_2, .int .i64 a0_3, .int .i64 a0_4]] rfl (by (try simp only [List.map_toArray, List.map_cons, List.map_nil]); first | done | rfl | (simp only [List.length_drop, List.length_take]; rfl)) ?_; (with_reducible refine (ins_May.calls k a0_0 a0_1 a0_2 a0_3 a0_4 true _ A2.out ?side1).mono ?_); (case side1 => (with_reducible first | exact hG | exact GlobOk.drewN hG _ | exact GlobOk.drew hG | (refine GlobOk.of_below hG ?_; repeat (first | (with_reducible first | exact HB.out | apply below_alloc | apply pw_below_drewN | apply below_drew1 | refine below_set ?_ GE147.out) | exact HB.out)))); rintro e w17 ⟨rfl, hb⟩; refine ⟨_, rfl, ?_⟩; have n0_ := Aside0.mk (blk_below (g := gb147) (o := .cells #[.int .i64 a0_0, .int .i64 a0_1, .int .i64 a0_2, .int .i64 a0_3, .int .i64 a0_4] 43 (0, 0)) (by (with_reducible repeat (first | refine blk_drewN ?_ _ | refine blk_drew ?_ | refine blk_alloc ?_ _)); exact BK147.out) hb); have n1_ := Aside0.mk (below_step (by repeat (first | (with_reducible first | exact HB.out | apply below_alloc | apply pw_below_drewN | apply below_drew1 | refine below_set ?_ GE147.out) | exact HB.out)) hb); clear BK147; clear HB; have BK147 := n0_; have HB := n1_; clear n0_ n1_; (try clear hb); (try clear hb2); (try clear hk); (try clear hi); have hcz18_0 : w17.cell? ⟨gb147, 0, none⟩ = some (.int .i64 a0_0) := (blk_cell BK147.out 0).trans rfl; have hcz18_1 : w17.cell? ⟨gb147, 1, none⟩ = some (.int .i64 a0_1) := (blk_cell BK147.out 1).trans rfl; have hcz18_2 : w17.cell? ⟨gb147, 2, none⟩ = some (.int .i64 a0_2) := (blk_cell BK147.out 2).trans rfl; have hcz18_3 : w17.cell? ⟨gb147, 3, none⟩ = some (.int .i64 a0_3) := (blk_cell BK147.out 3).trans rfl; have hcz18_4 : w17.cell? ⟨gb147, 4, none⟩ = some (.int .i64 a0_4) := (blk_cell BK147.out 4).trans rfl; have hfz18_0 := blk_frozen BK147.out 0; have hfz18_1 := blk_frozen BK147.out 1; have hfz18_2 := blk_frozen BK147.out 2; have hfz18_3 := blk_frozen BK147.out 3; have hfz18_4 := blk_frozen BK147.out 4; have p149 : 0 ≤ (a0_0 : Int) := of_decide_eq_true (by first | (with_reducible assumption) | assumption); have q149 : a0_0 < (rowsL.length : Int) := of_decide_eq_true (by first | (with_reducible assumption) | assumption); have ql149 : ((a0_0 : Int) < (43 : Int)) = True := eq_true (of_decide_eq_true (by first | (with_reducible assumption) | assumption)); obtain ⟨ad149, e149, hx149_0, hx149_1, hx149_2, hx149_3⟩ := at_T97 HRGrows.out a0_0 p149 q149; obtain rfl : (⟨0, 0, none⟩ : Addr) = ad149 := (by injection e149); (first | simp only [add_plain] at hx149_0 | simp only [add_at] at hx149_0 | simp only [Addr.add, Nat.zero_add] at hx149_0 | skip); (first | simp only [add_plain] at hx149_1 | simp only [add_at] at hx149_1 | simp only [Addr.add, Nat.zero_add] at hx149_1 | skip); (first | simp only [add_plain] at hx149_2 | simp only [add_at] at hx149_2 | simp only [Addr.add, Nat.zero_add] at hx149_2 | skip); (first | simp only [add_plain] at hx149_3 | simp only [add_at] at hx149_3 | simp only [Addr.add, Nat.zero_add] at hx149_3 | skip); replace hx149_0 := (HB.out.cell (World.block_lt_of_cell? w _ hx149_0)).trans hx149_0; replace hx149_1 := (HB.out.cell (World.block_lt_of_cell? w _ hx149_1)).trans hx149_1; replace hx149_2 := (HB.out.cell (World.block_lt_of_cell? w _ hx149_2)).trans hx149_2; replace hx149_3 := (HB.out.cell (World.block_lt_of_cell? w _ hx149_3)).trans hx149_3; replace p149 := eq_true p149; replace q149 := eq_true q149) | ((with_reducible refine gate_dst (N := 4) rfl ?_); refine box_event ?hg (N := 4) ?hd (cs := #[.string (⟨#[]⟩ : ByteArray), .int .u64 0, .int .u64 0, .int .u64 0]) (t := 97) ?hr ?_; (case hd => rfl); (case hg => rfl); (case hr => first | (go_simp; done) | (go_simp; rfl)); intro gb150 hg w19 hbox hb; have n0_ := Aside0.mk (blk_below (g := gb147) (o := .cells #[.int .i64 a0_0, .int .i64 a0_1, .int .i64 a0_2, .int .i64 a0_3, .int .i64 a0_4] 43 (0, 0)) (by (with_reducible repeat (first | refine blk_drewN ?_ _ | refine blk_drew ?_ | refine blk_alloc ?_ _)); exact BK147.out) hb); have n1_ := Aside0.mk (below_step (by repeat (first | (with_reducible first | exact HB.out | apply below_alloc | apply pw_below_drewN | apply below_drew1 | refine below_set ?_ GE147.out) | exact HB.out)) hb); have n2_ := Aside0.mk (hbox); have n3_ := Aside0.mk ((by rw [hg]; exact (below_size (by repeat (first | (with_reducible first | exact HB.out | apply below_alloc | apply pw_below_drewN | apply below_drew1 | refine below_set ?_ GE147.out) | exact HB.out))) : w.heap.size ≤ gb150)); have n4_ := Aside0.mk ((by rw [hg]; exact (below_size (by repeat (first | (with_reducible first | exact HB.out | apply below_alloc | apply pw_below_drewN | apply below_drew1 | refine below_set ?_ GE147.out) | exact HB.out))) : w.heap.size ≤ gb150)); have n5_ := Aside0.mk ((by rw [hg]; exact Nat.ne_of_lt (blk_lt (g := gb147) (o := .cells #[.int .i64 a0_0, .int .i64 a0_1, .int .i64 a0_2, .int .i64 a0_3, .int .i64 a0_4] 43 (0, 0)) (by (with_reducible repeat (first | refine blk_drewN ?_ _ | refine blk_drew ?_ | refine blk_alloc ?_ _)); exact BK147.out)) : gb147 ≠ gb150)); have n6_ := Aside0.mk ((by rw [hg]; exact Nat.ne_of_gt (blk_lt (g := gb147) (o := .cells #[.int .i64 a0_0, .int .i64 a0_1, .int .i64 a0_2, .int .i64 a0_3, .int .i64 a0_4] 43 (0, 0)) (by (with_reducible repeat (first | refine blk_drewN ?_ _ | refine blk_drew ?_ | refine blk_alloc ?_ _)); exact BK147.out)) : gb150 ≠ gb147)); clear BK147; clear HB; have BK147 := n0_; have HB := n1_; have BK150 := n2_; have GW150 := n3_; have GE150 := n4_; have NB147_150 := n5_; have NB150_147 := n6_; clear n0_ n1_ n2_ n3_ n4_ n5_ n6_; clear hb hbox hg; have hnb20 := NB150_147.out; have hnc20 := NB147_150.out; have hcz21_0 : w19.cell? ⟨gb150, 0, none⟩ = some (.string (⟨#[]⟩ : ByteArray)) := (blk_cell BK150.out 0).trans rfl; have hcz21_1 : w19.cell? ⟨gb150, 1, none⟩ = some (.int .u64 0) := (blk_cell BK150.out 1).trans rfl; have hcz21_2 : w19.cell? ⟨gb150, 2, none⟩ = some (.int .u64 0) := (blk_cell BK150.out 2).trans rfl; have hcz21_3 : w19.cell? ⟨gb150, 3, none⟩ = some (.int .u64 0) := (blk_cell BK150.out 3).trans rfl; have hfz21_0 := blk_frozen BK150.out 0; have hfz21_1 := blk_frozen BK150.out 1; have hfz21_2 := blk_frozen BK150.out 2; have hfz21_3 := blk_frozen BK150.out 3; have hcz22_0 : w19.cell? ⟨gb147, 0, none⟩ = some (.int .i64 a0_0) := (blk_cell BK147.out 0).trans rfl; have hcz22_1 : w19.cell? ⟨gb147, 1, none⟩ = some (.int .i64 a0_1) := (blk_cell BK147.out 1).trans rfl; have hcz22_2 : w19.cell? ⟨gb147, 2, none⟩ = some (.int .i64 a0_2) := (blk_cell BK147.out 2).trans rfl; have hcz22_3 : w19.cell? ⟨gb147, 3, none⟩ = some (.int .i64 a0_3) := (blk_cell BK147.out 3).trans rfl; have hcz22_4 : w19.cell? ⟨gb147, 4, none⟩ = some (.int .i64 a0_4) := (blk_cell BK147.out 4).trans rfl; have hfz22_0 := blk_frozen BK147.out 0; have hfz22_1 := blk_frozen BK147.out 1; have hfz22_2 := blk_frozen BK147.out 2; have hfz22_3 := blk_frozen BK147.out 3; have hfz22_4 := blk_frozen BK147.out 4))
          (try simp only [Act.put, List.setIfInBounds_toArray, List.set_cons_zero, List.set_cons_succ])
          go_cut [51] (fun v51 wc => ∃ (kq : Nat) (x51_13 : Bool), v51 = .bool x51_13 ∧ Aside0 (ins_Encode.j0 kq (Go.bits .or .u64 (Go.bits .or .u64 (Go.bits .or .u64 (Go.bits .or .u64 ((rd_T97 rowsL a0_0).f1.f0) (IntKind.u64.wrap ((IntKind.u64.wrap (a0_1)) * 128))) (IntKind.u64.wrap (((rd_T97 rowsL a0_0).f1.f1) * 4096))) (IntKind.u64.wrap ((IntKind.u64.wrap (a0_2)) * 32768))) (IntKind.u64.wrap ((IntKind.u64.wrap (a0_3)) * 1048576))) x51_13 a0_0 a0_1 a0_2 a0_3 a0_4 ((rd_T97 rowsL a0_0).f0) ((rd_T97 rowsL a0_0).f1.f0) ((rd_T97 rowsL a0_0).f1.f1) ((rd_T97 rowsL a0_0).f1.f2) = some (r1, r2)) ∧ Aside0 (kq ≤ k) ∧ Aside0 (wc.heap[gb147]? = some (.cells #[.int .i64 a0_0, .int .i64 a0_1, .int .i64 a0_2, .int .i64 a0_3, .int .i64 a0_4] 43 (0, 0))) ∧ Aside0 (wc.heap[gb150]? = some (.cells #[.string ((rd_T97 rowsL a0_0).f0), .int .u64 ((rd_T97 rowsL a0_0).f1.f0), .int .u64 ((rd_T97 rowsL a0_0).f1.f1), .int .u64 ((rd_T97 rowsL a0_0).f1.f2)] 97 (0, 0))) ∧ Aside0 (Below w.heap.size w wc))
          case first =>
            have H := HC14.out
            clear HC14
            by_cases c23 : ((rd_T97 rowsL a0_0).f0).toList = ([85] : List UInt8)
            · rw [if_pos c23] at H
              have c23b0 : (((rd_T97 rowsL a0_0).f0).toList == ([85] : List UInt8)) = true := beq_iff_eq.mpr c23
              have c23b1 : (((rd_T97 rowsL a0_0).f0).toList != ([85] : List UInt8)) = false := bne_eq_false_iff_eq.mpr c23
              clear c23
              (first | rw [c23b0] | (simp only [i64_w, i32_w]; rw [c23b0]) | skip)
              have H' := Aside0.mk H
              clear H
              have hnb24 := NB150_147.out
              have hnc24 := NB147_150.out
              have hcz25_0 : w19.cell? ⟨gb150, 0, none⟩ = some (.string (⟨#[]⟩ : ByteArray)) := (blk_cell BK150.out 0).trans rfl
              have hcz25_1 : w19.cell? ⟨gb150, 1, none⟩ = some (.int .u64 0) := (blk_cell BK150.out 1).trans rfl
              have hcz25_2 : w19.cell? ⟨gb150, 2, none⟩ = some (.int .u64 0) := (blk_cell BK150.out 2).trans rfl
              have hcz25_3 : w19.cell? ⟨gb150, 3, none⟩ = some (.int .u64 0) := (blk_cell BK150.out 3).trans rfl
              have hfz25_0 := blk_frozen BK150.out 0
              have hfz25_1 := blk_frozen BK150.out 1
              have hfz25_2 := blk_frozen BK150.out 2
              have hfz25_3 := blk_frozen BK150.out 3
              go_wp2
              go_meet
              case rel => exact ⟨_, (true), (by first | rfl | (simp; done) | (simp [*]; done)), H', ⟨by first | omega | exact Nat.le_refl _⟩, ⟨by (with_reducible repeat (first | refine blk_drewN ?_ _ | refine blk_drew ?_ | refine blk_alloc ?_ _)); refine blk_far ?_ NB147_150.out _; (with_reducible repeat (first | refine blk_drewN ?_ _ | refine blk_drew ?_ | refine blk_alloc ?_ _)); refine blk_far ?_ NB147_150.out _; (with_reducible repeat (first | refine blk_drewN ?_ _ | refine blk_drew ?_ | refine blk_alloc ?_ _)); refine blk_far ?_ NB147_150.out _; (with_reducible repeat (first | refine blk_drewN ?_ _ | refine blk_drew ?_ | refine blk_alloc ?_ _)); refine blk_far ?_ NB147_150.out _; (with_reducible repeat (first | refine blk_drewN ?_ _ | refine blk_drew ?_ | refine blk_alloc ?_ _)); exact BK147.out⟩, ⟨by (with_reducible repeat (first | refine blk_drewN ?_ _ | refine blk_drew ?_ | refine blk_alloc ?_ _)); refine blk_put (cs := #[.string ((rd_T97 rowsL a0_0).f0), .int .u64 ((rd_T97 rowsL a0_0).f1.f0), .int .u64 ((rd_T97 rowsL a0_0).f1.f1), .int .u64 0]) ?_ 3 _ rfl; (with_reducible repeat (first | refine blk_drewN ?_ _ | refine blk_drew ?_ | refine blk_alloc ?_ _)); refine blk_put (cs := #[.string ((rd_T97 rowsL a0_0).f0), .int .u64 ((rd_T97 rowsL a0_0).f1.f0), .int .u64 0, .int .u64 0]) ?_ 2 _ rfl; (with_reducible repeat (first | refine blk_drewN ?_ _ | refine blk_drew ?_ | refine blk_alloc ?_ _)); refine blk_put (cs := #[.string ((rd_T97 rowsL a0_0).f0), .int .u64 0, .int .u64 0, .int .u64 0]) ?_ 1 _ rfl; (with_reducible repeat (first | refine blk_drewN ?_ _ | refine blk_drew ?_ | refine blk_alloc ?_ _)); refine blk_put (cs := #[.string (⟨#[]⟩ : ByteArray), .int .u64 0, .int .u64 0, .int .u64 0]) ?_ 0 _ rfl; (with_reducible repeat (first | refine blk_drewN ?_ _ | refine blk_drew ?_ | refine blk_alloc ?_ _)); exact BK150.out⟩, ⟨by repeat (first | (with_reducible first | exact HB.out | apply below_alloc | apply pw_below_drewN | apply below_drew1 | refine below_set ?_ GE147.out | refine below_set ?_ GE150.out) | exact HB.out)⟩⟩
            · rw [if_neg c23] at H
              have c23b0 : (((rd_T97 rowsL a0_0).f0).toList == ([85] : List UInt8)) = false := beq_eq_false_iff_ne.mpr c23
              have c23b1 : (((rd_T97 rowsL a0_0).f0).toList != ([85] : List UInt8)) = true := bne_iff_ne.mpr c23
              (first | rw [c23b0] | (simp only [i64_w, i32_w]; rw [c23b0]) | skip)
              have H' := Aside0.mk H
              clear H
              have hnb26 := NB150_147.out
              have hnc26 := NB147_150.out
              have hcz27_0 : w19.cell? ⟨gb150, 0, none⟩ = some (.string (⟨#[]⟩ : ByteArray)) := (blk_cell BK150.out 0).trans rfl
              have hcz27_1 : w19.cell? ⟨gb150, 1, none⟩ = some (.int .u64 0) := (blk_cell BK150.out 1).trans rfl
              have hcz27_2 : w19.cell? ⟨gb150, 2, none⟩ = some (.int .u64 0) := (blk_cell BK150.out 2).trans rfl
              have hcz27_3 : w19.cell? ⟨gb150, 3, none⟩ = some (.int .u64 0) := (blk_cell BK150.out 3).trans rfl
              have hfz27_0 := blk_frozen BK150.out 0
              have hfz27_1 := blk_frozen BK150.out 1
              have hfz27_2 := blk_frozen BK150.out 2
              have hfz27_3 := blk_frozen BK150.out 3
              go_wp2
              go_meet
              case rel => exact ⟨_, ((((rd_T97 rowsL a0_0).f0).toList == ([74] : List UInt8))), (by first | rfl | (simp; done) | (simp [*]; done)), H', ⟨by first | omega | exact Nat.le_refl _⟩, ⟨by (with_reducible repeat (first | refine blk_drewN ?_ _ | refine blk_drew ?_ | refine blk_alloc ?_ _)); refine blk_far ?_ NB147_150.out _; (with_reducible repeat (first | refine blk_drewN ?_ _ | refine blk_drew ?_ | refine blk_alloc ?_ _)); refine blk_far ?_ NB147_150.out _; (with_reducible repeat (first | refine blk_drewN ?_ _ | refine blk_drew ?_ | refine blk_alloc ?_ _)); refine blk_far ?_ NB147_150.out _; (with_reducible repeat (first | refine blk_drewN ?_ _ | refine blk_drew ?_ | refine blk_alloc ?_ _)); refine blk_far ?_ NB147_150.out _; (with_reducible repeat (first | refine blk_drewN ?_ _ | refine blk_drew ?_ | refine blk_alloc ?_ _)); exact BK147.out⟩, ⟨by (with_reducible repeat (first | refine blk_drewN ?_ _ | refine blk_drew ?_ | refine blk_alloc ?_ _)); refine blk_put (cs := #[.string ((rd_T97 rowsL a0_0).f0), .int .u64 ((rd_T97 rowsL a0_0).f1.f0), .int .u64 ((rd_T97 rowsL a0_0).f1.f1), .int .u64 0]) ?_ 3 _ rfl; (with_reducible repeat (first | refine blk_drewN ?_ _ | refine blk_drew ?_ | refine blk_alloc ?_ _)); refine blk_put (cs := #[.string ((rd_T97 rowsL a0_0).f0), .int .u64 ((rd_T97 rowsL a0_0).f1.f0), .int .u64 0, .int .u64 0]) ?_ 2 _ rfl; (with_reducible repeat (first | refine blk_drewN ?_ _ | refine blk_drew ?_ | refine blk_alloc ?_ _)); refine blk_put (cs := #[.string ((rd_T97 rowsL a0_0).f0), .int .u64 0, .int .u64 0, .int .u64 0]) ?_ 1 _ rfl; (with_reducible repeat (first | refine blk_drewN ?_ _ | refine blk_drew ?_ | refine blk_alloc ?_ _)); refine blk_put (cs := #[.string (⟨#[]⟩ : ByteArray), .int .u64 0, .int .u64 0, .int .u64 0]) ?_ 0 _ rfl; (with_reducible repeat (first | refine blk_drewN ?_ _ | refine blk_drew ?_ | refine blk_alloc ?_ _)); exact BK150.out⟩, ⟨by repeat (first | (with_reducible first | exact HB.out | apply below_alloc | apply pw_below_drewN | apply below_drew1 | refine below_set ?_ GE147.out | refine below_set ?_ GE150.out) | exact HB.out)⟩⟩
          case rest =>
            clear HC14
            try clear c1
            try clear p1
            try clear q1
            try clear hx1
            try clear c2
            try clear p2
            try clear c3
            try clear c4
            try clear c4b0
            try clear c5
            try clear c5b0
            try clear c6
            try clear c6b0
            try clear c6b1
            try clear c12
            try clear p14
            try clear q14
            try clear hx14
            try clear c20
            try clear c23
            try clear c23b0
            try clear c23b1
            try clear c24
            try clear c25
            try clear c26
            try clear hcz10_0
            try clear hcz10_1
            try clear hcz10_2
            try clear hcz10_3
            try clear hcz10_4
            try clear hcz13_0
            try clear hcz13_1
            try clear hcz13_2
            try clear hcz13_3
            try clear hcz16_0
            try clear hcz16_1
            try clear hcz16_2
            try clear hcz16_3
            try clear hcz16_4
            try clear hcz18_0
            try clear hcz18_1
            try clear hcz18_2
            try clear hcz18_3
            try clear hcz18_4
            try clear hcz21_0
            try clear hcz21_1
            try clear hcz21_2
            try clear hcz21_3
            try clear hcz22_0
            try clear hcz22_1
            try clear hcz22_2
            try clear hcz22_3
            try clear hcz22_4
            try clear hcz25_0
            try clear hcz25_1
            try clear hcz25_2
            try clear hcz25_3
            try clear hcz27_0
            try clear hcz27_1
            try clear hcz27_2
            try clear hcz27_3
            try clear hcz8_0
            try clear hcz8_1
            try clear hcz8_2
            try clear hcz8_3
            try clear hcz8_4
            try clear hfz10_0
            try clear hfz10_1
            try clear hfz10_2
            try clear hfz10_3
            try clear hfz10_4
            try clear hfz13_0
            try clear hfz13_1
            try clear hfz13_2
            try clear hfz13_3
            try clear hfz16_0
            try clear hfz16_1
            try clear hfz16_2
            try clear hfz16_3
            try clear hfz16_4
            try clear hfz18_0
            try clear hfz18_1
            try clear hfz18_2
            try clear hfz18_3
            try clear hfz18_4
            try clear hfz21_0
            try clear hfz21_1
            try clear hfz21_2
            try clear hfz21_3
            try clear hfz22_0
            try clear hfz22_1
            try clear hfz22_2
            try clear hfz22_3
            try clear hfz22_4
            try clear hfz25_0
            try clear hfz25_1
            try clear hfz25_2
            try clear hfz25_3
            try clear hfz27_0
            try clear hfz27_1
            try clear hfz27_2
            try clear hfz27_3
            try clear hfz8_0
            try clear hfz8_1
            try clear hfz8_2
            try clear hfz8_3
            try clear hfz8_4
            try clear hx149_0
            try clear hx149_1
            try clear hx149_2
            try clear hx149_3
            try clear p149
            try clear q149
            obtain ⟨kq, x51_13, rfl, HA, HJ13, BK147, BK150, HB⟩ := hcut
            cases kq with
            | zero => exact absurd HA.out (by simp [ins_Encode.j0])
            | succ kj13 =>
              have H := HA.out
              clear HA
              simp only [ins_Encode.j0] at H
              have HC28 := Aside0.mk H
              clear H
              go_upto_if 51 with (fail)
              go_cut [5] (fun v5 wc => ∃ (kq : Nat) (x5_27 : Int), v5 = .int .u64 x5_27 ∧ Aside0 (ins_Encode.j1 kq x5_27 a0_0 a0_1 a0_2 a0_3 a0_4 ((rd_T97 rowsL a0_0).f0) ((rd_T97 rowsL a0_0).f1.f0) ((rd_T97 rowsL a0_0).f1.f1) ((rd_T97 rowsL a0_0).f1.f2) = some (r1, r2)) ∧ Aside0 (kq ≤ kj13) ∧ Aside0 (wc.heap[gb147]? = some (.cells #[.int .i64 a0_0, .int .i64 a0_1, .int .i64 a0_2, .int .i64 a0_3, .int .i64 a0_4] 43 (0, 0))) ∧ Aside0 (wc.heap[gb150]? = some (.cells #[.string ((rd_T97 rowsL a0_0).f0), .int .u64 ((rd_T97 rowsL a0_0).f1.f0), .int .u64 ((rd_T97 rowsL a0_0).f1.f1), .int .u64 ((rd_T97 rowsL a0_0).f1.f2)] 97 (0, 0))) ∧ Aside0 (Below w.heap.size w wc))
              case first =>
                have H := HC28.out
                clear HC28
                by_cases c29 : x51_13 = true
                · subst c29
                  have H1 : (ins_Encode.j1 kj13 (Go.bits .or .u64 ((rd_T97 rowsL a0_0).f1.f0) (IntKind.u64.wrap ((IntKind.u64.wrap (a0_1)) * 128))) a0_0 a0_1 a0_2 a0_3 a0_4 ((rd_T97 rowsL a0_0).f0) ((rd_T97 rowsL a0_0).f1.f0) ((rd_T97 rowsL a0_0).f1.f1) ((rd_T97 rowsL a0_0).f1.f2)) = some (r1, r2) := by rw [if_pos rfl] at H; exact H
                  clear H
                  have H := H1
                  clear H1
                  have H' := Aside0.mk H
                  clear H
                  have hnb30 := NB150_147.out
                  have hnc30 := NB147_150.out
                  have hcz31_0 : wc.cell? ⟨gb150, 0, none⟩ = some (.string ((rd_T97 rowsL a0_0).f0)) := (blk_cell BK150.out 0).trans rfl
                  have hcz31_1 : wc.cell? ⟨gb150, 1, none⟩ = some (.int .u64 ((rd_T97 rowsL a0_0).f1.f0)) := (blk_cell BK150.out 1).trans rfl
                  have hcz31_2 : wc.cell? ⟨gb150, 2, none⟩ = some (.int .u64 ((rd_T97 rowsL a0_0).f1.f1)) := (blk_cell BK150.out 2).trans rfl
                  have hcz31_3 : wc.cell? ⟨gb150, 3, none⟩ = some (.int .u64 ((rd_T97 rowsL a0_0).f1.f2)) := (blk_cell BK150.out 3).trans rfl
                  have hfz31_0 := blk_frozen BK150.out 0
                  have hfz31_1 := blk_frozen BK150.out 1
                  have hfz31_2 := blk_frozen BK150.out 2
                  have hfz31_3 := blk_frozen BK150.out 3
                  have hcz32_0 : wc.cell? ⟨gb147, 0, none⟩ = some (.int .i64 a0_0) := (blk_cell BK147.out 0).trans rfl
                  have hcz32_1 : wc.cell? ⟨gb147, 1, none⟩ = some (.int .i64 a0_1) := (blk_cell BK147.out 1).trans rfl
                  have hcz32_2 : wc.cell? ⟨gb147, 2, none⟩ = some (.int .i64 a0_2) := (blk_cell BK147.out 2).trans rfl
                  have hcz32_3 : wc.cell? ⟨gb147, 3, none⟩ = some (.int .i64 a0_3) := (blk_cell BK147.out 3).trans rfl
                  have hcz32_4 : wc.cell? ⟨gb147, 4, none⟩ = some (.int .i64 a0_4) := (blk_cell BK147.out 4).trans rfl
                  have hfz32_0 := blk_frozen BK147.out 0
                  have hfz32_1 := blk_frozen BK147.out 1
                  have hfz32_2 := blk_frozen BK147.out 2
                  have hfz32_3 := blk_frozen BK147.out 3
                  have hfz32_4 := blk_frozen BK147.out 4
                  go_wp2
                  go_meet
                  case rel => exact ⟨_, (Go.bits .or .u64 ((rd_T97 rowsL a0_0).f1.f0) (IntKind.u64.wrap ((IntKind.u64.wrap (a0_1)) * 128))), (by first | rfl | (simp; done) | (simp [*]; done)), H', ⟨by have := HJ13.out; first | omega | exact Nat.le_refl _⟩, ⟨by (with_reducible repeat (first | refine blk_drewN ?_ _ | refine blk_drew ?_ | refine blk_alloc ?_ _)); exact BK147.out⟩, ⟨by (with_reducible repeat (first | refine blk_drewN ?_ _ | refine blk_drew ?_ | refine blk_alloc ?_ _)); exact BK150.out⟩, ⟨by repeat (first | (with_reducible first | exact HB.out | apply below_alloc | apply pw_below_drewN | apply below_drew1 | refine below_set ?_ GE147.out | refine below_set ?_ GE150.out) | exact HB.out)⟩⟩
                · replace c29 := Bool.eq_false_iff.mpr c29
                  subst c29
                  have H1 : (ins_Encode.j1 kj13 (Go.bits .or .u64 (Go.bits .or .u64 (Go.bits .or .u64 (Go.bits .or .u64 ((rd_T97 rowsL a0_0).f1.f0) (IntKind.u64.wrap ((IntKind.u64.wrap (a0_1)) * 128))) (IntKind.u64.wrap (((rd_T97 rowsL a0_0).f1.f1) * 4096))) (IntKind.u64.wrap ((IntKind.u64.wrap (a0_2)) * 32768))) (IntKind.u64.wrap ((IntKind.u64.wrap (a0_3)) * 1048576))) a0_0 a0_1 a0_2 a0_3 a0_4 ((rd_T97 rowsL a0_0).f0) ((rd_T97 rowsL a0_0).f1.f0) ((rd_T97 rowsL a0_0).f1.f1) ((rd_T97 rowsL a0_0).f1.f2)) = some (r1, r2) := by rw [if_neg (show ¬ (false = true) by decide)] at H; exact H
                  clear H
                  have H := H1
                  clear H1
                  have H' := Aside0.mk H
                  clear H
                  go_wp2
                  go_meet
                  case rel => exact ⟨_, ((Go.bits .or .u64 (Go.bits .or .u64 (Go.bits .or .u64 (Go.bits .or .u64 ((rd_T97 rowsL a0_0).f1.f0) (IntKind.u64.wrap ((IntKind.u64.wrap (a0_1)) * 128))) (IntKind.u64.wrap (((rd_T97 rowsL a0_0).f1.f1) * 4096))) (IntKind.u64.wrap ((IntKind.u64.wrap (a0_2)) * 32768))) (IntKind.u64.wrap ((IntKind.u64.wrap (a0_3)) * 1048576)))), (by first | rfl | (simp; done) | (simp [*]; done)), H', ⟨by have := HJ13.out; first | omega | exact Nat.le_refl _⟩, ⟨by (with_reducible repeat (first | refine blk_drewN ?_ _ | refine blk_drew ?_ | refine blk_alloc ?_ _)); exact BK147.out⟩, ⟨by (with_reducible repeat (first | refine blk_drewN ?_ _ | refine blk_drew ?_ | refine blk_alloc ?_ _)); exact BK150.out⟩, ⟨by repeat (first | (with_reducible first | exact HB.out | apply below_alloc | apply pw_below_drewN | apply below_drew1 | refine below_set ?_ GE147.out | refine below_set ?_ GE150.out) | exact HB.out)⟩⟩
              case rest =>
                clear HC28
                try clear c1
                try clear p1
                try clear q1
                try clear hx1
                try clear c2
                try clear p2
                try clear c3
                try clear c4
                try clear c4b0
                try clear c5
                try clear c5b0
                try clear c6
                try clear c6b0
                try clear c6b1
                try clear c12
                try clear p14
                try clear q14
                try clear hx14
                try clear c20
                try clear c23
                try clear c23b0
                try clear c23b1
                try clear c24
                try clear c25
                try clear c26
                try clear c29
                try clear c30
                try clear hcz10_0
                try clear hcz10_1
                try clear hcz10_2
                try clear hcz10_3
                try clear hcz10_4
                try clear hcz13_0
                try clear hcz13_1
                try clear hcz13_2
                try clear hcz13_3
                try clear hcz16_0
                try clear hcz16_1
                try clear hcz16_2
                try clear hcz16_3
                try clear hcz16_4
                try clear hcz18_0
                try clear hcz18_1
                try clear hcz18_2
                try clear hcz18_3
                try clear hcz18_4
                try clear hcz21_0
                try clear hcz21_1
                try clear hcz21_2
                try clear hcz21_3
                try clear hcz22_0
                try clear hcz22_1
                try clear hcz22_2
                try clear hcz22_3
                try clear hcz22_4
                try clear hcz25_0
                try clear hcz25_1
                try clear hcz25_2
                try clear hcz25_3
                try clear hcz27_0
                try clear hcz27_1
                try clear hcz27_2
                try clear hcz27_3
                try clear hcz31_0
                try clear hcz31_1
                try clear hcz31_2
                try clear hcz31_3
                try clear hcz32_0
                try clear hcz32_1
                try clear hcz32_2
                try clear hcz32_3
                try clear hcz32_4
                try clear hcz8_0
                try clear hcz8_1
                try clear hcz8_2
                try clear hcz8_3
                try clear hcz8_4
                try clear hfz10_0
                try clear hfz10_1
                try clear hfz10_2
                try clear hfz10_3
                try clear hfz10_4
                try clear hfz13_0
                try clear hfz13_1
                try clear hfz13_2
                try clear hfz13_3
                try clear hfz16_0
                try clear hfz16_1
                try clear hfz16_2
                try clear hfz16_3
                try clear hfz16_4
                try clear hfz18_0
                try clear hfz18_1
                try clear hfz18_2
                try clear hfz18_3
                try clear hfz18_4
                try clear hfz21_0
                try clear hfz21_1
                try clear hfz21_2
                try clear hfz21_3
                try clear hfz22_0
                try clear hfz22_1
                try clear hfz22_2
                try clear hfz22_3
                try clear hfz22_4
                try clear hfz25_0
                try clear hfz25_1
                try clear hfz25_2
                try clear hfz25_3
                try clear hfz27_0
                try clear hfz27_1
                try clear hfz27_2
                try clear hfz27_3
                try clear hfz31_0
                try clear hfz31_1
                try clear hfz31_2
                try clear hfz31_3
                try clear hfz32_0
                try clear hfz32_1
                try clear hfz32_2
                try clear hfz32_3
                try clear hfz32_4
                try clear hfz8_0
                try clear hfz8_1
                try clear hfz8_2
                try clear hfz8_3
                try clear hfz8_4
                try clear hx149_0
                try clear hx149_1
                try clear hx149_2
                try clear hx149_3
                try clear p1
                try clear p14
                try clear p149
                try clear p2
                try clear q1
                try clear q14
                try clear q149
                obtain ⟨kq, x5_27, rfl, HA, HJ27, BK147, BK150, HB⟩ := hcut
                cases kq with
                | zero => exact absurd HA.out (by simp [ins_Encode.j1])
                | succ kj27 =>
                  have H := HA.out
                  clear HA
                  simp only [ins_Encode.j1] at H
                  have HC33 := Aside0.mk H
                  clear H
                  have hnb34 := NB147_150.out
                  have hnc34 := NB150_147.out
                  have hcz35_0 : wc.cell? ⟨gb147, 0, none⟩ = some (.int .i64 a0_0) := (blk_cell BK147.out 0).trans rfl
                  have hcz35_1 : wc.cell? ⟨gb147, 1, none⟩ = some (.int .i64 a0_1) := (blk_cell BK147.out 1).trans rfl
                  have hcz35_2 : wc.cell? ⟨gb147, 2, none⟩ = some (.int .i64 a0_2) := (blk_cell BK147.out 2).trans rfl
                  have hcz35_3 : wc.cell? ⟨gb147, 3, none⟩ = some (.int .i64 a0_3) := (blk_cell BK147.out 3).trans rfl
                  have hcz35_4 : wc.cell? ⟨gb147, 4, none⟩ = some (.int .i64 a0_4) := (blk_cell BK147.out 4).trans rfl
                  have hfz35_0 := blk_frozen BK147.out 0
                  have hfz35_1 := blk_frozen BK147.out 1
                  have hfz35_2 := blk_frozen BK147.out 2
                  have hfz35_3 := blk_frozen BK147.out 3
                  have hfz35_4 := blk_frozen BK147.out 4
                  go_upto_block 0 with (fail)
                  go_cut [5, 6] (fun v5 v6 wc => ∃ (kq : Nat) (x5_32 : Int) (x6_32 : Int), v5 = .int .u64 x5_32 ∧ v6 = .int .u64 x6_32 ∧ Aside0 (ins_Encode.j2 kq x5_32 x6_32 ((rd_T97 rowsL a0_0).f0) ((rd_T97 rowsL a0_0).f1.f0) ((rd_T97 rowsL a0_0).f1.f1) ((rd_T97 rowsL a0_0).f1.f2) = some (r1, r2)) ∧ Aside0 (kq ≤ kj27) ∧ Aside0 (wc.heap[gb147]? = some (.cells #[.int .i64 a0_0, .int .i64 a0_1, .int .i64 a0_2, .int .i64 a0_3, .int .i64 a0_4] 43 (0, 0))) ∧ Aside0 (wc.heap[gb150]? = some (.cells #[.string ((rd_T97 rowsL a0_0).f0), .int .u64 ((rd_T97 rowsL a0_0).f1.f0), .int .u64 ((rd_T97 rowsL a0_0).f1.f1), .int .u64 ((rd_T97 rowsL a0_0).f1.f2)] 97 (0, 0))) ∧ Aside0 (Below w.heap.size w wc))
                  case first =>
                    have H := HC33.out
                    clear HC33
                    by_cases c36 : ((rd_T97 rowsL a0_0).f0).toList = ([82] : List UInt8)
                    · rw [if_pos c36] at H
                      have c36b0 : (((rd_T97 rowsL a0_0).f0).toList == ([82] : List UInt8)) = true := beq_iff_eq.mpr c36
                      have c36b1 : (((rd_T97 rowsL a0_0).f0).toList != ([82] : List UInt8)) = false := bne_eq_false_iff_eq.mpr c36
                      clear c36
                      (first | rw [c36b0] | (simp only [i64_w, i32_w]; rw [c36b0]) | skip)
                      have H' := Aside0.mk H
                      clear H
                      have hnb37 := NB150_147.out
                      have hnc37 := NB147_150.out
                      have hcz38_0 : wc.cell? ⟨gb150, 0, none⟩ = some (.string ((rd_T97 rowsL a0_0).f0)) := (blk_cell BK150.out 0).trans rfl
                      have hcz38_1 : wc.cell? ⟨gb150, 1, none⟩ = some (.int .u64 ((rd_T97 rowsL a0_0).f1.f0)) := (blk_cell BK150.out 1).trans rfl
                      have hcz38_2 : wc.cell? ⟨gb150, 2, none⟩ = some (.int .u64 ((rd_T97 rowsL a0_0).f1.f1)) := (blk_cell BK150.out 2).trans rfl
                      have hcz38_3 : wc.cell? ⟨gb150, 3, none⟩ = some (.int .u64 ((rd_T97 rowsL a0_0).f1.f2)) := (blk_cell BK150.out 3).trans rfl
                      have hfz38_0 := blk_frozen BK150.out 0
                      have hfz38_1 := blk_frozen BK150.out 1
                      have hfz38_2 := blk_frozen BK150.out 2
                      have hfz38_3 := blk_frozen BK150.out 3
                      go_wp2
                      go_meet
                      case rel => exact ⟨_, (Go.bits .or .u64 x5_27 (IntKind.u64.wrap (((rd_T97 rowsL a0_0).f1.f2) * 33554432))), (IntKind.u64.wrap (a0_4)), (by first | rfl | (simp; done) | (simp [*]; done)), (by first | rfl | (simp; done) | (simp [*]; done)), H', ⟨by have := HJ13.out; have := HJ27.out; first | omega | exact Nat.le_refl _⟩, ⟨by (with_reducible repeat (first | refine blk_drewN ?_ _ | refine blk_drew ?_ | refine blk_alloc ?_ _)); exact BK147.out⟩, ⟨by (with_reducible repeat (first | refine blk_drewN ?_ _ | refine blk_drew ?_ | refine blk_alloc ?_ _)); exact BK150.out⟩, ⟨by repeat (first | (with_reducible first | exact HB.out | apply below_alloc | apply pw_below_drewN | apply below_drew1 | refine below_set ?_ GE147.out | refine below_set ?_ GE150.out) | exact HB.out)⟩⟩
                    · rw [if_neg c36] at H
                      have c36b0 : (((rd_T97 rowsL a0_0).f0).toList == ([82] : List UInt8)) = false := beq_eq_false_iff_ne.mpr c36
                      have c36b1 : (((rd_T97 rowsL a0_0).f0).toList != ([82] : List UInt8)) = true := bne_iff_ne.mpr c36
                      (first | rw [c36b0] | (simp only [i64_w, i32_w]; rw [c36b0]) | skip)
                      replace H := Option.bind_eq_some_iff.mp H
                      obtain ⟨t151, A390, H⟩ := H
                      replace H : (if t151 = true then (ins_Encode.j2 kj27 x5_27 (Go.bits .or .u64 (IntKind.u64.wrap (a0_4)) (IntKind.u64.wrap (((rd_T97 rowsL a0_0).f1.f2) * 64))) ((rd_T97 rowsL a0_0).f0) ((rd_T97 rowsL a0_0).f1.f0) ((rd_T97 rowsL a0_0).f1.f1) ((rd_T97 rowsL a0_0).f1.f2)) else (ins_Encode.j2 kj27 x5_27 (IntKind.u64.wrap (a0_4)) ((rd_T97 rowsL a0_0).f0) ((rd_T97 rowsL a0_0).f1.f0) ((rd_T97 rowsL a0_0).f1.f1) ((rd_T97 rowsL a0_0).f1.f2))) = some (r1, r2) := H
                      have A39 := Aside0.mk A390
                      clear A390
                      by_cases c40 : t151 = true
                      · subst c40
                        have H1 : (ins_Encode.j2 kj27 x5_27 (Go.bits .or .u64 (IntKind.u64.wrap (a0_4)) (IntKind.u64.wrap (((rd_T97 rowsL a0_0).f1.f2) * 64))) ((rd_T97 rowsL a0_0).f0) ((rd_T97 rowsL a0_0).f1.f0) ((rd_T97 rowsL a0_0).f1.f1) ((rd_T97 rowsL a0_0).f1.f2)) = some (r1, r2) := by rw [if_pos rfl] at H; exact H
                        clear H
                        have H := H1
                        clear H1
                        have H' := Aside0.mk H
                        clear H
                        have hnb41 := NB150_147.out
                        have hnc41 := NB147_150.out
                        have hcz42_0 : wc.cell? ⟨gb150, 0, none⟩ = some (.string ((rd_T97 rowsL a0_0).f0)) := (blk_cell BK150.out 0).trans rfl
                        have hcz42_1 : wc.cell? ⟨gb150, 1, none⟩ = some (.int .u64 ((rd_T97 rowsL a0_0).f1.f0)) := (blk_cell BK150.out 1).trans rfl
                        have hcz42_2 : wc.cell? ⟨gb150, 2, none⟩ = some (.int .u64 ((rd_T97 rowsL a0_0).f1.f1)) := (blk_cell BK150.out 2).trans rfl
                        have hcz42_3 : wc.cell? ⟨gb150, 3, none⟩ = some (.int .u64 ((rd_T97 rowsL a0_0).f1.f2)) := (blk_cell BK150.out 3).trans rfl
                        have hfz42_0 := blk_frozen BK150.out 0
                        have hfz42_1 := blk_frozen BK150.out 1
                        have hfz42_2 := blk_frozen BK150.out 2
                        have hfz42_3 := blk_frozen BK150.out 3
                        have hcz43_0 : wc.cell? ⟨gb147, 0, none⟩ = some (.int .i64 a0_0) := (blk_cell BK147.out 0).trans rfl
                        have hcz43_1 : wc.cell? ⟨gb147, 1, none⟩ = some (.int .i64 a0_1) := (blk_cell BK147.out 1).trans rfl
                        have hcz43_2 : wc.cell? ⟨gb147, 2, none⟩ = some (.int .i64 a0_2) := (blk_cell BK147.out 2).trans rfl
                        have hcz43_3 : wc.cell? ⟨gb147, 3, none⟩ = some (.int .i64 a0_3) := (blk_cell BK147.out 3).trans rfl
                        have hcz43_4 : wc.cell? ⟨gb147, 4, none⟩ = some (.int .i64 a0_4) := (blk_cell BK147.out 4).trans rfl
                        have hfz43_0 := blk_frozen BK147.out 0
                        have hfz43_1 := blk_frozen BK147.out 1
                        have hfz43_2 := blk_frozen BK147.out 2
                        have hfz43_3 := blk_frozen BK147.out 3
                        have hfz43_4 := blk_frozen BK147.out 4
                        go_wp2_with (first | ((with_reducible refine gate_callee (f := 54) rfl ?_); refine goesL_ (some 76) rfl rfl Tryd.func54 (by kernel_rfl) rfl #[.int .i64 a0_0] rfl (by (try simp only [List.map_toArray, List.map_cons, List.map_nil]); first | done | rfl | (simp only [List.length_drop, List.length_take]; rfl)) ?_; (with_reducible refine (ins_shift.calls a0_0 true _ A39.out).mono ?_); rintro e w' ⟨rfl, ⟨nd, rfl⟩⟩; refine ⟨_, rfl, ?_⟩))
                        go_meet
                        case rel => exact ⟨_, (x5_27), (Go.bits .or .u64 (IntKind.u64.wrap (a0_4)) (IntKind.u64.wrap (((rd_T97 rowsL a0_0).f1.f2) * 64))), (by first | rfl | (simp; done) | (simp [*]; done)), (by first | rfl | (simp; done) | (simp [*]; done)), H', ⟨by have := HJ13.out; have := HJ27.out; first | omega | exact Nat.le_refl _⟩, ⟨by (with_reducible repeat (first | refine blk_drewN ?_ _ | refine blk_drew ?_ | refine blk_alloc ?_ _)); exact BK147.out⟩, ⟨by (with_reducible repeat (first | refine blk_drewN ?_ _ | refine blk_drew ?_ | refine blk_alloc ?_ _)); exact BK150.out⟩, ⟨by repeat (first | (with_reducible first | exact HB.out | apply below_alloc | apply pw_below_drewN | apply below_drew1 | refine below_set ?_ GE147.out | refine below_set ?_ GE150.out) | exact HB.out)⟩⟩
                      · replace c40 := Bool.eq_false_iff.mpr c40
                        subst c40
                        have H1 : (ins_Encode.j2 kj27 x5_27 (IntKind.u64.wrap (a0_4)) ((rd_T97 rowsL a0_0).f0) ((rd_T97 rowsL a0_0).f1.f0) ((rd_T97 rowsL a0_0).f1.f1) ((rd_T97 rowsL a0_0).f1.f2)) = some (r1, r2) := by rw [if_neg (show ¬ (false = true) by decide)] at H; exact H
                        clear H
                        have H := H1
                        clear H1
                        have H' := Aside0.mk H
                        clear H
                        have hnb44 := NB150_147.out
                        have hnc44 := NB147_150.out
                        have hcz45_0 : wc.cell? ⟨gb150, 0, none⟩ = some (.string ((rd_T97 rowsL a0_0).f0)) := (blk_cell BK150.out 0).trans rfl
                        have hcz45_1 : wc.cell? ⟨gb150, 1, none⟩ = some (.int .u64 ((rd_T97 rowsL a0_0).f1.f0)) := (blk_cell BK150.out 1).trans rfl
                        have hcz45_2 : wc.cell? ⟨gb150, 2, none⟩ = some (.int .u64 ((rd_T97 rowsL a0_0).f1.f1)) := (blk_cell BK150.out 2).trans rfl
                        have hcz45_3 : wc.cell? ⟨gb150, 3, none⟩ = some (.int .u64 ((rd_T97 rowsL a0_0).f1.f2)) := (blk_cell BK150.out 3).trans rfl
                        have hfz45_0 := blk_frozen BK150.out 0
                        have hfz45_1 := blk_frozen BK150.out 1
                        have hfz45_2 := blk_frozen BK150.out 2
                        have hfz45_3 := blk_frozen BK150.out 3
                        have hcz46_0 : wc.cell? ⟨gb147, 0, none⟩ = some (.int .i64 a0_0) := (blk_cell BK147.out 0).trans rfl
                        have hcz46_1 : wc.cell? ⟨gb147, 1, none⟩ = some (.int .i64 a0_1) := (blk_cell BK147.out 1).trans rfl
                        have hcz46_2 : wc.cell? ⟨gb147, 2, none⟩ = some (.int .i64 a0_2) := (blk_cell BK147.out 2).trans rfl
                        have hcz46_3 : wc.cell? ⟨gb147, 3, none⟩ = some (.int .i64 a0_3) := (blk_cell BK147.out 3).trans rfl
                        have hcz46_4 : wc.cell? ⟨gb147, 4, none⟩ = some (.int .i64 a0_4) := (blk_cell BK147.out 4).trans rfl
                        have hfz46_0 := blk_frozen BK147.out 0
                        have hfz46_1 := blk_frozen BK147.out 1
                        have hfz46_2 := blk_frozen BK147.out 2
                        have hfz46_3 := blk_frozen BK147.out 3
                        have hfz46_4 := blk_frozen BK147.out 4
                        go_wp2_with (first | ((with_reducible refine gate_callee (f := 54) rfl ?_); refine goesL_ (some 76) rfl rfl Tryd.func54 (by kernel_rfl) rfl #[.int .i64 a0_0] rfl (by (try simp only [List.map_toArray, List.map_cons, List.map_nil]); first | done | rfl | (simp only [List.length_drop, List.length_take]; rfl)) ?_; (with_reducible refine (ins_shift.calls a0_0 false _ A39.out).mono ?_); rintro e w' ⟨rfl, ⟨nd, rfl⟩⟩; refine ⟨_, rfl, ?_⟩))
                        go_meet
                        case rel => exact ⟨_, (x5_27), (IntKind.u64.wrap (a0_4)), (by first | rfl | (simp; done) | (simp [*]; done)), (by first | rfl | (simp; done) | (simp [*]; done)), H', ⟨by have := HJ13.out; have := HJ27.out; first | omega | exact Nat.le_refl _⟩, ⟨by (with_reducible repeat (first | refine blk_drewN ?_ _ | refine blk_drew ?_ | refine blk_alloc ?_ _)); exact BK147.out⟩, ⟨by (with_reducible repeat (first | refine blk_drewN ?_ _ | refine blk_drew ?_ | refine blk_alloc ?_ _)); exact BK150.out⟩, ⟨by repeat (first | (with_reducible first | exact HB.out | apply below_alloc | apply pw_below_drewN | apply below_drew1 | refine below_set ?_ GE147.out | refine below_set ?_ GE150.out) | exact HB.out)⟩⟩
                  case rest =>
                    clear HC33
                    try clear c1
                    try clear p1
                    try clear q1
                    try clear hx1
                    try clear c2
                    try clear p2
                    try clear c3
                    try clear c4
                    try clear c4b0
                    try clear c5
                    try clear c5b0
                    try clear c6
                    try clear c6b0
                    try clear c6b1
                    try clear c12
                    try clear p14
                    try clear q14
                    try clear hx14
                    try clear c20
                    try clear c23
                    try clear c23b0
                    try clear c23b1
                    try clear c24
                    try clear c25
                    try clear c26
                    try clear c29
                    try clear c30
                    try clear c34
                    try clear c36
                    try clear c36b0
                    try clear c36b1
                    try clear c37
                    try clear c40
                    try clear c41
                    try clear c44
                    try clear hcz10_0
                    try clear hcz10_1
                    try clear hcz10_2
                    try clear hcz10_3
                    try clear hcz10_4
                    try clear hcz13_0
                    try clear hcz13_1
                    try clear hcz13_2
                    try clear hcz13_3
                    try clear hcz16_0
                    try clear hcz16_1
                    try clear hcz16_2
                    try clear hcz16_3
                    try clear hcz16_4
                    try clear hcz18_0
                    try clear hcz18_1
                    try clear hcz18_2
                    try clear hcz18_3
                    try clear hcz18_4
                    try clear hcz21_0
                    try clear hcz21_1
                    try clear hcz21_2
                    try clear hcz21_3
                    try clear hcz22_0
                    try clear hcz22_1
                    try clear hcz22_2
                    try clear hcz22_3
                    try clear hcz22_4
                    try clear hcz25_0
                    try clear hcz25_1
                    try clear hcz25_2
                    try clear hcz25_3
                    try clear hcz27_0
                    try clear hcz27_1
                    try clear hcz27_2
                    try clear hcz27_3
                    try clear hcz31_0
                    try clear hcz31_1
                    try clear hcz31_2
                    try clear hcz31_3
                    try clear hcz32_0
                    try clear hcz32_1
                    try clear hcz32_2
                    try clear hcz32_3
                    try clear hcz32_4
                    try clear hcz35_0
                    try clear hcz35_1
                    try clear hcz35_2
                    try clear hcz35_3
                    try clear hcz35_4
                    try clear hcz38_0
                    try clear hcz38_1
                    try clear hcz38_2
                    try clear hcz38_3
                    try clear hcz42_0
                    try clear hcz42_1
                    try clear hcz42_2
                    try clear hcz42_3
                    try clear hcz43_0
                    try clear hcz43_1
                    try clear hcz43_2
                    try clear hcz43_3
                    try clear hcz43_4
                    try clear hcz45_0
                    try clear hcz45_1
                    try clear hcz45_2
                    try clear hcz45_3
                    try clear hcz46_0
                    try clear hcz46_1
                    try clear hcz46_2
                    try clear hcz46_3
                    try clear hcz46_4
                    try clear hcz8_0
                    try clear hcz8_1
                    try clear hcz8_2
                    try clear hcz8_3
                    try clear hcz8_4
                    try clear hfz10_0
                    try clear hfz10_1
                    try clear hfz10_2
                    try clear hfz10_3
                    try clear hfz10_4
                    try clear hfz13_0
                    try clear hfz13_1
                    try clear hfz13_2
                    try clear hfz13_3
                    try clear hfz16_0
                    try clear hfz16_1
                    try clear hfz16_2
                    try clear hfz16_3
                    try clear hfz16_4
                    try clear hfz18_0
                    try clear hfz18_1
                    try clear hfz18_2
                    try clear hfz18_3
                    try clear hfz18_4
                    try clear hfz21_0
                    try clear hfz21_1
                    try clear hfz21_2
                    try clear hfz21_3
                    try clear hfz22_0
                    try clear hfz22_1
                    try clear hfz22_2
                    try clear hfz22_3
                    try clear hfz22_4
                    try clear hfz25_0
                    try clear hfz25_1
                    try clear hfz25_2
                    try clear hfz25_3
                    try clear hfz27_0
                    try clear hfz27_1
                    try clear hfz27_2
                    try clear hfz27_3
                    try clear hfz31_0
                    try clear hfz31_1
                    try clear hfz31_2
                    try clear hfz31_3
                    try clear hfz32_0
                    try clear hfz32_1
                    try clear hfz32_2
                    try clear hfz32_3
                    try clear hfz32_4
                    try clear hfz35_0
                    try clear hfz35_1
                    try clear hfz35_2
                    try clear hfz35_3
                    try clear hfz35_4
                    try clear hfz38_0
                    try clear hfz38_1
                    try clear hfz38_2
                    try clear hfz38_3
                    try clear hfz42_0
                    try clear hfz42_1
                    try clear hfz42_2
                    try clear hfz42_3
                    try clear hfz43_0
                    try clear hfz43_1
                    try clear hfz43_2
                    try clear hfz43_3
                    try clear hfz43_4
                    try clear hfz45_0
                    try clear hfz45_1
                    try clear hfz45_2
                    try clear hfz45_3
                    try clear hfz46_0
                    try clear hfz46_1
                    try clear hfz46_2
                    try clear hfz46_3
                    try clear hfz46_4
                    try clear hfz8_0
                    try clear hfz8_1
                    try clear hfz8_2
                    try clear hfz8_3
                    try clear hfz8_4
                    try clear hx149_0
                    try clear hx149_1
                    try clear hx149_2
                    try clear hx149_3
                    try clear p1
                    try clear p14
                    try clear p149
                    try clear p2
                    try clear q1
                    try clear q14
                    try clear q149
                    obtain ⟨kq, x5_32, x6_32, rfl, rfl, HA, HJ32, BK147, BK150, HB⟩ := hcut
                    cases kq with
                    | zero => exact absurd HA.out (by simp [ins_Encode.j2])
                    | succ kj32 =>
                      have H := HA.out
                      clear HA
                      simp only [ins_Encode.j2] at H
                      replace H := Option.bind_eq_some_iff.mp H
                      obtain ⟨t152, A470, H⟩ := H
                      replace H : (ins_Encode.l0 kj32 x5_32 x6_32 t152 (t152.length : Int) 0) = some (r1, r2) := H
                      have A47 := Aside0.mk A470
                      clear A470
                      have H' := Aside0.mk H
                      clear H
                      have hnb48 := NB150_147.out
                      have hnc48 := NB147_150.out
                      have hcz49_0 : wc.cell? ⟨gb150, 0, none⟩ = some (.string ((rd_T97 rowsL a0_0).f0)) := (blk_cell BK150.out 0).trans rfl
                      have hcz49_1 : wc.cell? ⟨gb150, 1, none⟩ = some (.int .u64 ((rd_T97 rowsL a0_0).f1.f0)) := (blk_cell BK150.out 1).trans rfl
                      have hcz49_2 : wc.cell? ⟨gb150, 2, none⟩ = some (.int .u64 ((rd_T97 rowsL a0_0).f1.f1)) := (blk_cell BK150.out 2).trans rfl
                      have hcz49_3 : wc.cell? ⟨gb150, 3, none⟩ = some (.int .u64 ((rd_T97 rowsL a0_0).f1.f2)) := (blk_cell BK150.out 3).trans rfl
                      have hfz49_0 := blk_frozen BK150.out 0
                      have hfz49_1 := blk_frozen BK150.out 1
                      have hfz49_2 := blk_frozen BK150.out 2
                      have hfz49_3 := blk_frozen BK150.out 3
                      go_wp2_with (first | ((with_reducible refine gate_callee (f := 55) rfl ?_); refine goesL_ (some 85) rfl rfl Tryd.func55 (by kernel_rfl) rfl #[.string ((rd_T97 rowsL a0_0).f0)] rfl (by (try simp only [List.map_toArray, List.map_cons, List.map_nil]); first | done | rfl | (simp only [List.length_drop, List.length_take]; rfl)) ?_; (with_reducible refine (ins_parts.calls ((rd_T97 rowsL a0_0).f0) t152 _ A47.out).mono ?_); rintro e w50 ⟨v153, rfl, ho0, hb⟩; refine ⟨_, rfl, ?_⟩; have n0_ := Aside0.mk (Kd.R_lower ho0 (below_size (by repeat (first | (with_reducible first | exact HB.out | apply below_alloc | apply pw_below_drewN | apply below_drew1 | refine below_set ?_ GE147.out | refine below_set ?_ GE150.out) | exact HB.out)))); have n1_ := Aside0.mk (blk_below (g := gb147) (o := .cells #[.int .i64 a0_0, .int .i64 a0_1, .int .i64 a0_2, .int .i64 a0_3, .int .i64 a0_4] 43 (0, 0)) (by (with_reducible repeat (first | refine blk_drewN ?_ _ | refine blk_drew ?_ | refine blk_alloc ?_ _)); exact BK147.out) hb); have n2_ := Aside0.mk (blk_below (g := gb150) (o := .cells #[.string ((rd_T97 rowsL a0_0).f0), .int .u64 ((rd_T97 rowsL a0_0).f1.f0), .int .u64 ((rd_T97 rowsL a0_0).f1.f1), .int .u64 ((rd_T97 rowsL a0_0).f1.f2)] 97 (0, 0)) (by (with_reducible repeat (first | refine blk_drewN ?_ _ | refine blk_drew ?_ | refine blk_alloc ?_ _)); exact BK150.out) hb); have n3_ := Aside0.mk (below_step (by repeat (first | (with_reducible first | exact HB.out | apply below_alloc | apply pw_below_drewN | apply below_drew1 | refine below_set ?_ GE147.out | refine below_set ?_ GE150.out) | exact HB.out)) hb); clear BK147; clear BK150; clear HB; have HO154 := n0_; have BK147 := n1_; have BK150 := n2_; have HB := n3_; clear n0_ n1_ n2_ n3_; (try clear hb); (try clear hb2); (try clear hk); (try clear hi); (try clear ho0); obtain ⟨Ao51, co51, eo51⟩ := Kd.R_slice HO154.out; subst eo51))
                      go_loopg [5, 87] kj32 (fun kq v5 v87 w' => ∃ (x5_4 : Int) (x87_4 : Int), v5 = .int .u64 x5_4 ∧ v87 = .int .i64 x87_4 ∧ Aside0 (ins_Encode.l0 kq x5_4 x6_32 t152 (t152.length : Int) x87_4 = some (r1, r2)) ∧ Aside0 (kq ≤ kj32) ∧ Aside0 (Kd.R k103 103 w' w.heap.size (fun _ => True) (.slice Ao51 t152.length co51) t152) ∧ Aside0 (w'.heap[gb147]? = some (.cells #[.int .i64 a0_0, .int .i64 a0_1, .int .i64 a0_2, .int .i64 a0_3, .int .i64 a0_4] 43 (0, 0))) ∧ Aside0 (w'.heap[gb150]? = some (.cells #[.string ((rd_T97 rowsL a0_0).f0), .int .u64 ((rd_T97 rowsL a0_0).f1.f0), .int .u64 ((rd_T97 rowsL a0_0).f1.f1), .int .u64 ((rd_T97 rowsL a0_0).f1.f2)] 97 (0, 0))) ∧ Aside0 (Below w.heap.size w w'))
                      case atStart => exact ⟨(x5_32), (0), (by first | rfl | (simp; done) | (simp [*]; done)), (by first | rfl | (simp; done) | (simp [*]; done)), H', ⟨Nat.le_refl _⟩, ⟨by (with_reducible repeat (first | apply Kd.R_alloc | apply Kd.R_drewN | apply Kd.R_drew)); exact HO154.out⟩, ⟨by (with_reducible repeat (first | refine blk_drewN ?_ _ | refine blk_drew ?_ | refine blk_alloc ?_ _)); exact BK147.out⟩, ⟨by (with_reducible repeat (first | refine blk_drewN ?_ _ | refine blk_drew ?_ | refine blk_alloc ?_ _)); exact BK150.out⟩, ⟨by repeat (first | (with_reducible first | exact HB.out | apply below_alloc | apply pw_below_drewN | apply below_drew1 | refine below_set ?_ GE147.out | refine below_set ?_ GE150.out) | exact HB.out)⟩⟩
                      case round =>
                        clear H'
                        try clear c1
                        try clear p1
                        try clear q1
                        try clear hx1
                        try clear c2
                        try clear p2
                        try clear c3
                        try clear c4
                        try clear c4b0
                        try clear c5
                        try clear c5b0
                        try clear c6
                        try clear c6b0
                        try clear c6b1
                        try clear c12
                        try clear p14
                        try clear q14
                        try clear hx14
                        try clear c20
                        try clear c23
                        try clear c23b0
                        try clear c23b1
                        try clear c24
                        try clear c25
                        try clear c26
                        try clear c29
                        try clear c30
                        try clear c34
                        try clear c36
                        try clear c36b0
                        try clear c36b1
                        try clear c37
                        try clear c40
                        try clear c41
                        try clear c44
                        try clear c48
                        try clear hcz10_0
                        try clear hcz10_1
                        try clear hcz10_2
                        try clear hcz10_3
                        try clear hcz10_4
                        try clear hcz13_0
                        try clear hcz13_1
                        try clear hcz13_2
                        try clear hcz13_3
                        try clear hcz16_0
                        try clear hcz16_1
                        try clear hcz16_2
                        try clear hcz16_3
                        try clear hcz16_4
                        try clear hcz18_0
                        try clear hcz18_1
                        try clear hcz18_2
                        try clear hcz18_3
                        try clear hcz18_4
                        try clear hcz21_0
                        try clear hcz21_1
                        try clear hcz21_2
                        try clear hcz21_3
                        try clear hcz22_0
                        try clear hcz22_1
                        try clear hcz22_2
                        try clear hcz22_3
                        try clear hcz22_4
                        try clear hcz25_0
                        try clear hcz25_1
                        try clear hcz25_2
                        try clear hcz25_3
                        try clear hcz27_0
                        try clear hcz27_1
                        try clear hcz27_2
                        try clear hcz27_3
                        try clear hcz31_0
                        try clear hcz31_1
                        try clear hcz31_2
                        try clear hcz31_3
                        try clear hcz32_0
                        try clear hcz32_1
                        try clear hcz32_2
                        try clear hcz32_3
                        try clear hcz32_4
                        try clear hcz35_0
                        try clear hcz35_1
                        try clear hcz35_2
                        try clear hcz35_3
                        try clear hcz35_4
                        try clear hcz38_0
                        try clear hcz38_1
                        try clear hcz38_2
                        try clear hcz38_3
                        try clear hcz42_0
                        try clear hcz42_1
                        try clear hcz42_2
                        try clear hcz42_3
                        try clear hcz43_0
                        try clear hcz43_1
                        try clear hcz43_2
                        try clear hcz43_3
                        try clear hcz43_4
                        try clear hcz45_0
                        try clear hcz45_1
                        try clear hcz45_2
                        try clear hcz45_3
                        try clear hcz46_0
                        try clear hcz46_1
                        try clear hcz46_2
                        try clear hcz46_3
                        try clear hcz46_4
                        try clear hcz49_0
                        try clear hcz49_1
                        try clear hcz49_2
                        try clear hcz49_3
                        try clear hcz8_0
                        try clear hcz8_1
                        try clear hcz8_2
                        try clear hcz8_3
                        try clear hcz8_4
                        try clear hfz10_0
                        try clear hfz10_1
                        try clear hfz10_2
                        try clear hfz10_3
                        try clear hfz10_4
                        try clear hfz13_0
                        try clear hfz13_1
                        try clear hfz13_2
                        try clear hfz13_3
                        try clear hfz16_0
                        try clear hfz16_1
                        try clear hfz16_2
                        try clear hfz16_3
                        try clear hfz16_4
                        try clear hfz18_0
                        try clear hfz18_1
                        try clear hfz18_2
                        try clear hfz18_3
                        try clear hfz18_4
                        try clear hfz21_0
                        try clear hfz21_1
                        try clear hfz21_2
                        try clear hfz21_3
                        try clear hfz22_0
                        try clear hfz22_1
                        try clear hfz22_2
                        try clear hfz22_3
                        try clear hfz22_4
                        try clear hfz25_0
                        try clear hfz25_1
                        try clear hfz25_2
                        try clear hfz25_3
                        try clear hfz27_0
                        try clear hfz27_1
                        try clear hfz27_2
                        try clear hfz27_3
                        try clear hfz31_0
                        try clear hfz31_1
                        try clear hfz31_2
                        try clear hfz31_3
                        try clear hfz32_0
                        try clear hfz32_1
                        try clear hfz32_2
                        try clear hfz32_3
                        try clear hfz32_4
                        try clear hfz35_0
                        try clear hfz35_1
                        try clear hfz35_2
                        try clear hfz35_3
                        try clear hfz35_4
                        try clear hfz38_0
                        try clear hfz38_1
                        try clear hfz38_2
                        try clear hfz38_3
                        try clear hfz42_0
                        try clear hfz42_1
                        try clear hfz42_2
                        try clear hfz42_3
                        try clear hfz43_0
                        try clear hfz43_1
                        try clear hfz43_2
                        try clear hfz43_3
                        try clear hfz43_4
                        try clear hfz45_0
                        try clear hfz45_1
                        try clear hfz45_2
                        try clear hfz45_3
                        try clear hfz46_0
                        try clear hfz46_1
                        try clear hfz46_2
                        try clear hfz46_3
                        try clear hfz46_4
                        try clear hfz49_0
                        try clear hfz49_1
                        try clear hfz49_2
                        try clear hfz49_3
                        try clear hfz8_0
                        try clear hfz8_1
                        try clear hfz8_2
                        try clear hfz8_3
                        try clear hfz8_4
                        try clear hx149_0
                        try clear hx149_1
                        try clear hx149_2
                        try clear hx149_3
                        try clear p1
                        try clear p14
                        try clear p149
                        try clear p2
                        try clear q1
                        try clear q14
                        try clear q149
                        obtain ⟨x5_4, x87_4, rfl, rfl, HA, HK4, HO_85, BK147, BK150, HB⟩ := hrel
                        cases gk with
                        | zero => exact absurd HA.out (by simp [ins_Encode.l0])
                        | succ k4 =>
                          have H := HA.out
                          clear HA
                          simp only [ins_Encode.l0] at H
                          by_cases c52 : x87_4 < (t152.length : Int)
                          · rw [if_pos c52] at H
                            have c52b0 : decide (x87_4 < (t152.length : Int)) = true := decide_eq_true c52
                            clear c52
                            by_cases c53 : 0 ≤ x87_4
                            · rw [if_pos c53] at H
                              have c53b0 : decide (0 ≤ x87_4) = true := decide_eq_true c53
                              clear c53
                              by_cases c54 : x87_4 < (t152.length : Int)
                              · rw [if_pos c54] at H
                                have c54b0 : decide (x87_4 < (t152.length : Int)) = true := decide_eq_true c54
                                clear c54
                                replace H := Option.bind_eq_some_iff.mp H
                                obtain ⟨⟨t157, t158⟩, A550, H⟩ := H
                                replace H : ((bits_Put.f x5_4 ((rd_T103 t152 x87_4).f2) ((rd_T103 t152 x87_4).f1) t157).bind fun bt159 => (ins_Encode.l0 k4 bt159.1 x6_32 t152 (t152.length : Int) (wrap64 (x87_4 + 1)))) = some (r1, r2) := H
                                have A55 := Aside0.mk A550
                                clear A550
                                replace H := Option.bind_eq_some_iff.mp H
                                obtain ⟨⟨t159, t160⟩, A560, H⟩ := H
                                replace H : (ins_Encode.l0 k4 t159 x6_32 t152 (t152.length : Int) (wrap64 (x87_4 + 1))) = some (r1, r2) := H
                                have A56 := Aside0.mk A560
                                clear A560
                                have H' := Aside0.mk H
                                clear H
                                have p155 : 0 ≤ (x87_4 : Int) := of_decide_eq_true (by first | (with_reducible assumption) | assumption)
                                have q155 : x87_4 < (t152.length : Int) := of_decide_eq_true (by first | (with_reducible assumption) | assumption)
                                obtain ⟨ad155, e155, hx155_0, hx155_1, hx155_2⟩ := at_T103 (Kd.R_reads' HO_85.out).2.2 x87_4 p155 q155
                                cases e155
                                replace p155 := eq_true p155
                                replace q155 := eq_true q155
                                go_wp2_with (first | ((with_reducible refine gate_dst (N := 8) rfl ?_); refine box_event ?hg (N := 8) ?hd (cs := #[.int .i64 0, .int .i64 0, .int .i64 0]) (t := 103) ?hr ?_; (case hd => rfl); (case hg => rfl); (case hr => first | (go_simp; done) | (go_simp; rfl)); intro gb156 hg w57 hbox hb; have n0_ := Aside0.mk (Kd.R_below (Kd.R_elderB (by (with_reducible repeat (first | apply Kd.R_alloc | apply Kd.R_drewN | apply Kd.R_drew)); exact HO_85.out) gb156 (Nat.le_of_eq hg.symm)) hb); have n1_ := Aside0.mk (blk_below (g := gb147) (o := .cells #[.int .i64 a0_0, .int .i64 a0_1, .int .i64 a0_2, .int .i64 a0_3, .int .i64 a0_4] 43 (0, 0)) (by (with_reducible repeat (first | refine blk_drewN ?_ _ | refine blk_drew ?_ | refine blk_alloc ?_ _)); exact BK147.out) hb); have n2_ := Aside0.mk (blk_below (g := gb150) (o := .cells #[.string ((rd_T97 rowsL a0_0).f0), .int .u64 ((rd_T97 rowsL a0_0).f1.f0), .int .u64 ((rd_T97 rowsL a0_0).f1.f1), .int .u64 ((rd_T97 rowsL a0_0).f1.f2)] 97 (0, 0)) (by (with_reducible repeat (first | refine blk_drewN ?_ _ | refine blk_drew ?_ | refine blk_alloc ?_ _)); exact BK150.out) hb); have n3_ := Aside0.mk (below_step (by repeat (first | (with_reducible first | exact HB.out | apply below_alloc | apply pw_below_drewN | apply below_drew1 | refine below_set ?_ GE147.out | refine below_set ?_ GE150.out) | exact HB.out)) hb); have n4_ := Aside0.mk (hbox); have n5_ := Aside0.mk ((by rw [hg]; exact (below_size (by repeat (first | (with_reducible first | exact HB.out | apply below_alloc | apply pw_below_drewN | apply below_drew1 | refine below_set ?_ GE147.out | refine below_set ?_ GE150.out) | exact HB.out))) : w.heap.size ≤ gb156)); have n6_ := Aside0.mk ((by rw [hg]; exact (below_size (by repeat (first | (with_reducible first | exact HB.out | apply below_alloc | apply pw_below_drewN | apply below_drew1 | refine below_set ?_ GE147.out | refine below_set ?_ GE150.out) | exact HB.out))) : w.heap.size ≤ gb156)); have n7_ := Aside0.mk ((by rw [hg]; exact Nat.ne_of_lt (blk_lt (g := gb147) (o := .cells #[.int .i64 a0_0, .int .i64 a0_1, .int .i64 a0_2, .int .i64 a0_3, .int .i64 a0_4] 43 (0, 0)) (by (with_reducible repeat (first | refine blk_drewN ?_ _ | refine blk_drew ?_ | refine blk_alloc ?_ _)); exact BK147.out)) : gb147 ≠ gb156)); have n8_ := Aside0.mk ((by rw [hg]; exact Nat.ne_of_gt (blk_lt (g := gb147) (o := .cells #[.int .i64 a0_0, .int .i64 a0_1, .int .i64 a0_2, .int .i64 a0_3, .int .i64 a0_4] 43 (0, 0)) (by (with_reducible repeat (first | refine blk_drewN ?_ _ | refine blk_drew ?_ | refine blk_alloc ?_ _)); exact BK147.out)) : gb156 ≠ gb147)); have n9_ := Aside0.mk ((by rw [hg]; exact Nat.ne_of_lt (blk_lt (g := gb150) (o := .cells #[.string ((rd_T97 rowsL a0_0).f0), .int .u64 ((rd_T97 rowsL a0_0).f1.f0), .int .u64 ((rd_T97 rowsL a0_0).f1.f1), .int .u64 ((rd_T97 rowsL a0_0).f1.f2)] 97 (0, 0)) (by (with_reducible repeat (first | refine blk_drewN ?_ _ | refine blk_drew ?_ | refine blk_alloc ?_ _)); exact BK150.out)) : gb150 ≠ gb156)); have n10_ := Aside0.mk ((by rw [hg]; exact Nat.ne_of_gt (blk_lt (g := gb150) (o := .cells #[.string ((rd_T97 rowsL a0_0).f0), .int .u64 ((rd_T97 rowsL a0_0).f1.f0), .int .u64 ((rd_T97 rowsL a0_0).f1.f1), .int .u64 ((rd_T97 rowsL a0_0).f1.f2)] 97 (0, 0)) (by (with_reducible repeat (first | refine blk_drewN ?_ _ | refine blk_drew ?_ | refine blk_alloc ?_ _)); exact BK150.out)) : gb156 ≠ gb150)); clear HO_85; clear BK147; clear BK150; clear HB; have HO_85 := n0_; have BK147 := n1_; have BK150 := n2_; have HB := n3_; have BK156 := n4_; have GW156 := n5_; have GE156 := n6_; have NB147_156 := n7_; have NB156_147 := n8_; have NB150_156 := n9_; have NB156_150 := n10_; clear n0_ n1_ n2_ n3_ n4_ n5_ n6_ n7_ n8_ n9_ n10_; clear hb hbox hg; have hnb58 := NB156_147.out; have hnc58 := NB147_156.out; have hnb59 := NB156_150.out; have hnc59 := NB150_156.out; have hcz60_0 : w57.cell? ⟨gb156, 0, none⟩ = some (.int .i64 0) := (blk_cell BK156.out 0).trans rfl; have hcz60_1 : w57.cell? ⟨gb156, 1, none⟩ = some (.int .i64 0) := (blk_cell BK156.out 1).trans rfl; have hcz60_2 : w57.cell? ⟨gb156, 2, none⟩ = some (.int .i64 0) := (blk_cell BK156.out 2).trans rfl; have hfz60_0 := blk_frozen BK156.out 0; have hfz60_1 := blk_frozen BK156.out 1; have hfz60_2 := blk_frozen BK156.out 2) | ((with_reducible refine gate_callee (f := 56) rfl ?_); refine goesL_ (some 97) rfl rfl Tryd.func56 (by kernel_rfl) rfl #[.int .u64 x6_32, .int .i64 ((rd_T103 t152 x87_4).f0), .int .i64 ((rd_T103 t152 x87_4).f1)] rfl (by (try simp only [List.map_toArray, List.map_cons, List.map_nil]); first | done | rfl | (simp only [List.length_drop, List.length_take]; rfl)) ?_; (with_reducible refine (bits_Field.calls x6_32 ((rd_T103 t152 x87_4).f0) ((rd_T103 t152 x87_4).f1) t157 t158 _ A55.out).mono ?_); rintro e w' ⟨rfl, ⟨nd, rfl⟩⟩; refine ⟨_, rfl, ?_⟩) | ((with_reducible refine gate_callee (f := 57) rfl ?_); refine goesL_ (some 107) rfl rfl Tryd.func57 (by kernel_rfl) rfl #[.int .u64 x5_4, .int .i64 ((rd_T103 t152 x87_4).f2), .int .i64 ((rd_T103 t152 x87_4).f1), .int .u64 t157] rfl (by (try simp only [List.map_toArray, List.map_cons, List.map_nil]); first | done | rfl | (simp only [List.length_drop, List.length_take]; rfl)) ?_; (with_reducible refine (bits_Put.calls x5_4 ((rd_T103 t152 x87_4).f2) ((rd_T103 t152 x87_4).f1) t157 t159 t160 _ A56.out).mono ?_); rintro e w' ⟨rfl, ⟨nd, rfl⟩⟩; refine ⟨_, rfl, ?_⟩))
                                go_roundg k4
                                case measure => have := HJ13.out; have := HJ27.out; have := HJ32.out; have := HK4.out; omega
                                case rel => exact ⟨(t159), (wrap64 (x87_4 + 1)), (by first | rfl | (simp; done) | (simp [*]; done)), (by first | rfl | (simp; done) | (simp [*]; done)), H', ⟨by have := HJ13.out; have := HJ27.out; have := HJ32.out; have := HK4.out; omega⟩, ⟨by (with_reducible repeat (first | apply Kd.R_alloc | apply Kd.R_drewN | apply Kd.R_drew)); exact Kd.R_mono (Kd.R_far (p := ⟨gb156, 2, none⟩) (Kd.R_far (p := ⟨gb156, 1, none⟩) (Kd.R_far (p := ⟨gb156, 0, none⟩) (Kd.R_mono HO_85.out (fun k_ hk => (⟨hk, hk.2⟩ : _ ∧ k_ ≠ gb156))) (fun _ hk => hk.2) (.int .i64 ((rd_T103 t152 x87_4).f0))) (fun _ hk => hk.2) (.int .i64 ((rd_T103 t152 x87_4).f1))) (fun _ hk => hk.2) (.int .i64 ((rd_T103 t152 x87_4).f2))) (fun _ hk => trivial)⟩, ⟨by (with_reducible repeat (first | refine blk_drewN ?_ _ | refine blk_drew ?_ | refine blk_alloc ?_ _)); refine blk_far ?_ NB147_156.out _; (with_reducible repeat (first | refine blk_drewN ?_ _ | refine blk_drew ?_ | refine blk_alloc ?_ _)); refine blk_far ?_ NB147_156.out _; (with_reducible repeat (first | refine blk_drewN ?_ _ | refine blk_drew ?_ | refine blk_alloc ?_ _)); refine blk_far ?_ NB147_156.out _; (with_reducible repeat (first | refine blk_drewN ?_ _ | refine blk_drew ?_ | refine blk_alloc ?_ _)); exact BK147.out⟩, ⟨by (with_reducible repeat (first | refine blk_drewN ?_ _ | refine blk_drew ?_ | refine blk_alloc ?_ _)); refine blk_far ?_ NB150_156.out _; (with_reducible repeat (first | refine blk_drewN ?_ _ | refine blk_drew ?_ | refine blk_alloc ?_ _)); refine blk_far ?_ NB150_156.out _; (with_reducible repeat (first | refine blk_drewN ?_ _ | refine blk_drew ?_ | refine blk_alloc ?_ _)); refine blk_far ?_ NB150_156.out _; (with_reducible repeat (first | refine blk_drewN ?_ _ | refine blk_drew ?_ | refine blk_alloc ?_ _)); exact BK150.out⟩, ⟨by repeat (first | (with_reducible first | exact HB.out | apply below_alloc | apply pw_below_drewN | apply below_drew1 | refine below_set ?_ GE147.out | refine below_set ?_ GE150.out | refine below_set ?_ GE156.out) | exact HB.out)⟩⟩
                              · rw [if_neg c54] at H
                                exact absurd H (by simp)
                            · rw [if_neg c53] at H
                              exact absurd H (by simp)
                          · rw [if_neg c52] at H
                            have c52b0 : decide (x87_4 < (t152.length : Int)) = false := decide_eq_false c52
                            clear c52
                            simp only [Option.some.injEq, Prod.mk.injEq] at H
                            obtain ⟨rfl, rfl⟩ := H
                            go_wp2
                            go_ret2
                            exact ⟨by first | rfl | (simp [errW_none, errW_some] <;> rfl) | (simp [*, errW_none, errW_some] <;> rfl), by repeat (first | (with_reducible first | exact HB.out | apply below_alloc | apply pw_below_drewN | apply below_drew1 | refine below_set ?_ GE147.out | refine below_set ?_ GE150.out) | exact HB.out)⟩
      · rw [if_neg c5] at H
        exact absurd H (by simp)
    · rw [if_neg c4] at H
      exact absurd H (by simp)
  · replace c3 := Bool.eq_false_iff.mpr c3
    subst c3
    have H1 : (some (0, 1)) = some (r1, r2) := by rw [if_neg (show ¬ (false = true) by decide)] at H; exact H
    clear H
    have H := H1
    clear H1
    simp only [Option.some.injEq, Prod.mk.injEq] at H
    obtain ⟨rfl, rfl⟩ := H
    go_enter Tryd.func25, Tryd.ntmps25
    go_wp2_with (first | ((with_reducible refine gate_dst (N := 1) rfl ?_); refine box_event ?hg (N := 1) ?hd (cs := #[.int .i64 a0_0, .int .i64 a0_1, .int .i64 a0_2, .int .i64 a0_3, .int .i64 a0_4]) (t := 43) ?hr ?_; (case hd => rfl); (case hg => rfl); (case hr => first | (go_simp; done) | (go_simp; rfl)); intro gb147 hg w61 hbox hb; have n0_ := Aside0.mk (below_step (by repeat (first | (with_reducible first | exact HB.out | apply below_alloc | apply pw_below_drewN | apply below_drew1) | exact HB.out)) hb); have n1_ := Aside0.mk (hbox); have n2_ := Aside0.mk ((by rw [hg]; exact (below_size (by repeat (first | (with_reducible first | exact HB.out | apply below_alloc | apply pw_below_drewN | apply below_drew1) | exact HB.out))) : w.heap.size ≤ gb147)); have n3_ := Aside0.mk ((by rw [hg]; exact (below_size (by repeat (first | (with_reducible first | exact HB.out | apply below_alloc | apply pw_below_drewN | apply below_drew1) | exact HB.out))) : w.heap.size ≤ gb147)); clear HB; have HB := n0_; have BK147 := n1_; have GW147 := n2_; have GE147 := n3_; clear n0_ n1_ n2_ n3_; clear hb hbox hg; have hcz62_0 : w61.cell? ⟨gb147, 0, none⟩ = some (.int .i64 a0_0) := (blk_cell BK147.out 0).trans rfl; have hcz62_1 : w61.cell? ⟨gb147, 1, none⟩ = some (.int .i64 a0_1) := (blk_cell BK147.out 1).trans rfl; have hcz62_2 : w61.cell? ⟨gb147, 2, none⟩ = some (.int .i64 a0_2) := (blk_cell BK147.out 2).trans rfl; have hcz62_3 : w61.cell? ⟨gb147, 3, none⟩ = some (.int .i64 a0_3) := (blk_cell BK147.out 3).trans rfl; have hcz62_4 : w61.cell? ⟨gb147, 4, none⟩ = some (.int .i64 a0_4) := (blk_cell BK147.out 4).trans rfl; have hfz62_0 := blk_frozen BK147.out 0; have hfz62_1 := blk_frozen BK147.out 1; have hfz62_2 := blk_frozen BK147.out 2; have hfz62_3 := blk_frozen BK147.out 3; have hfz62_4 := blk_frozen BK147.out 4) | ((with_reducible refine gate_callee (f := 53) rfl ?_); refine goesL_ (some 12) rfl rfl Tryd.func53 (by kernel_rfl) rfl #[.agg #[.int .i64 a0_0, .int .i64 a0_1, .int .i64 a0_2, .int .i64 a0_3, .int .i64 a0_4]] rfl (by (try simp only [List.map_toArray, List.map_cons, List.map_nil]); first | done | rfl | (simp only [List.length_drop, List.length_take]; rfl)) ?_; (with_reducible refine (ins_May.calls k a0_0 a0_1 a0_2 a0_3 a0_4 false _ A2.out ?side1).mono ?_); (case side1 => (with_reducible first | exact hG | exact GlobOk.drewN hG _ | exact GlobOk.drew hG | (refine GlobOk.of_below hG ?_; repeat (first | (with_reducible first | exact HB.out | apply below_alloc | apply pw_below_drewN | apply below_drew1 | refine below_set ?_ GE147.out) | exact HB.out)))); rintro e w63 ⟨rfl, hb⟩; refine ⟨_, rfl, ?_⟩; have n0_ := Aside0.mk (blk_below (g := gb147) (o := .cells #[.int .i64 a0_0, .int .i64 a0_1, .int .i64 a0_2, .int .i64 a0_3, .int .i64 a0_4] 43 (0, 0)) (by (with_reducible repeat (first | refine blk_drewN ?_ _ | refine blk_drew ?_ | refine blk_alloc ?_ _)); exact BK147.out) hb); have n1_ := Aside0.mk (below_step (by repeat (first | (with_reducible first | exact HB.out | apply below_alloc | apply pw_below_drewN | apply below_drew1 | refine below_set ?_ GE147.out) | exact HB.out)) hb); clear BK147; clear HB; have BK147 := n0_; have HB := n1_; clear n0_ n1_; (try clear hb); (try clear hb2); (try clear hk); (try clear hi)))
    go_ret2
    exact ⟨by first | rfl | (simp [errW_none, errW_some] <;> rfl) | (simp [*, errW_none, errW_some] <;> rfl), by repeat (first | (with_reducible first | exact HB.out | apply below_alloc | apply pw_below_drewN | apply below_drew1 | refine below_set ?_ GE147.out) | exact HB.out)⟩

end Go.Proofs.YtaoajlaocphgdaaDoor.PA
