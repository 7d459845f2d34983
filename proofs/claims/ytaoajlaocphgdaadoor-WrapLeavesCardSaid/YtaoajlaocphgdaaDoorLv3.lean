/-
Texts of this proof, put together: part 3.
-/
import Derived.Test.YtaoajlaocphgdaaDoorLv2
import Derived.Outline
import Derived.Shelf.Small.Utf8
import Derived.Shelf.Strings.Search1
import Derived.Shelf.Strings.Search2
import Derived.Shelf.Strings.Search3
import Derived.Shelf.LaysM
import Derived.Shelf.Strings.Shaped
import Derived.Shelf.Unicode.Decode
import Derived.Shelf.Unicode.DecodeSlow
import Derived.Shelf.Unicode.DecodeAny
import Derived.Shelf.Unicode.DecodeLast
import Derived.Test.YtaoajlaocphgdaaDoorProg
import Derived.Laws.RangeAny
import Derived.Lib.OthersKept
import Derived.Laws.Concat
import Derived.WalkSpells

section
namespace Go.Proofs.YtaoajlaocphgdaaDoor.PA
open Go.RowKit Go.Proofs.YtaoajlaocphgdaaDoorW.PrintWords Go.Proofs.YtaoajlaocphgdaaDoorW.PrintLast Go.Proofs.YtaoajlaocphgdaaDoorW.PrintMore
attribute [local go_sem] max2_int min2_int max_two min_two max_three min_three max_four min_four   -- for this text's walks alone
set_option linter.unusedVariables false
set_option linter.unusedSimpArgs false
mutual
def ins_Encode.j0 : Nat → Int → Bool → Int → Int → Int → Int → Int → ByteArray → Int → Int → Int → Option (Int × Int)
  | 0, _, _, _, _, _, _, _, _, _, _, _ => none
  | k + 1, x5, x51, x148000, x148001, x148002, x148003, x148004, x151000, x151001, x151002, x151003 => if x51 = true then (ins_Encode.j1 k (Go.bits .or .u64 x151001 (IntKind.u64.wrap ((IntKind.u64.wrap (x148001)) * 128))) x148000 x148001 x148002 x148003 x148004 x151000 x151001 x151002 x151003) else (ins_Encode.j1 k x5 x148000 x148001 x148002 x148003 x148004 x151000 x151001 x151002 x151003)
def ins_Encode.j1 : Nat → Int → Int → Int → Int → Int → Int → ByteArray → Int → Int → Int → Option (Int × Int)
  | 0, _, _, _, _, _, _, _, _, _, _ => none
  | k + 1, x5, x148000, x148001, x148002, x148003, x148004, x151000, x151001, x151002, x151003 => if x151000.toList = ([82] : List UInt8) then (ins_Encode.j2 k (Go.bits .or .u64 x5 (IntKind.u64.wrap (x151003 * 33554432))) (IntKind.u64.wrap (x148004)) x151000 x151001 x151002 x151003) else ((ins_shift.f x148000).bind fun t151 => (if t151 = true then (ins_Encode.j2 k x5 (Go.bits .or .u64 (IntKind.u64.wrap (x148004)) (IntKind.u64.wrap (x151003 * 64))) x151000 x151001 x151002 x151003) else (ins_Encode.j2 k x5 (IntKind.u64.wrap (x148004)) x151000 x151001 x151002 x151003)))
def ins_Encode.j2 : Nat → Int → Int → ByteArray → Int → Int → Int → Option (Int × Int)
  | 0, _, _, _, _, _, _ => none
  | k + 1, x5, x6, x151000, x151001, x151002, x151003 => (ins_parts.f x151000).bind fun t152 => (ins_Encode.l0 k x5 x6 t152 (t152.length : Int) 0)
def ins_Encode.l0 : Nat → Int → Int → List (S103) → Int → Int → Option (Int × Int)
  | 0, _, _, _, _, _ => none
  | k + 1, x5, x6, x85, x86, x87 => if x87 < x86 then (if 0 ≤ x87 then (if x87 < (x85.length : Int) then ((bits_Field.f x6 ((rd_T103 x85 x87).f0) ((rd_T103 x85 x87).f1)).bind fun bt157 => ((bits_Put.f x5 ((rd_T103 x85 x87).f2) ((rd_T103 x85 x87).f1) bt157.1).bind fun bt159 => (ins_Encode.l0 k bt159.1 x6 x85 x86 (wrap64 (x87 + 1))))) else (none)) else (none)) else (some ((x5) % 4294967296, 0))
end
def ins_Encode.f (k : Nat) (a0_0 : Int) (a0_1 : Int) (a0_2 : Int) (a0_3 : Int) (a0_4 : Int) : Option (Int × Int) := (ins_May.f k a0_0 a0_1 a0_2 a0_3 a0_4).bind fun t148 => (if t148 = true then (if 0 ≤ a0_0 then (if a0_0 < 43 then (if ((rd_T97 rowsL a0_0).f0).toList = ([69] : List UInt8) then (some (1048691, 0)) else (if ((rd_T97 rowsL a0_0).f0).toList = ([85] : List UInt8) then (ins_Encode.j0 k (Go.bits .or .u64 (Go.bits .or .u64 (Go.bits .or .u64 (Go.bits .or .u64 ((rd_T97 rowsL a0_0).f1.f0) (IntKind.u64.wrap ((IntKind.u64.wrap (a0_1)) * 128))) (IntKind.u64.wrap (((rd_T97 rowsL a0_0).f1.f1) * 4096))) (IntKind.u64.wrap ((IntKind.u64.wrap (a0_2)) * 32768))) (IntKind.u64.wrap ((IntKind.u64.wrap (a0_3)) * 1048576))) true a0_0 a0_1 a0_2 a0_3 a0_4 ((rd_T97 rowsL a0_0).f0) ((rd_T97 rowsL a0_0).f1.f0) ((rd_T97 rowsL a0_0).f1.f1) ((rd_T97 rowsL a0_0).f1.f2)) else (ins_Encode.j0 k (Go.bits .or .u64 (Go.bits .or .u64 (Go.bits .or .u64 (Go.bits .or .u64 ((rd_T97 rowsL a0_0).f1.f0) (IntKind.u64.wrap ((IntKind.u64.wrap (a0_1)) * 128))) (IntKind.u64.wrap (((rd_T97 rowsL a0_0).f1.f1) * 4096))) (IntKind.u64.wrap ((IntKind.u64.wrap (a0_2)) * 32768))) (IntKind.u64.wrap ((IntKind.u64.wrap (a0_3)) * 1048576))) (((rd_T97 rowsL a0_0).f0).toList == ([74] : List UInt8)) a0_0 a0_1 a0_2 a0_3 a0_4 ((rd_T97 rowsL a0_0).f0) ((rd_T97 rowsL a0_0).f1.f0) ((rd_T97 rowsL a0_0).f1.f1) ((rd_T97 rowsL a0_0).f1.f2)))) else (none)) else (none)) else (some (0, 1)))
theorem ins_Encode.mono_l : ∀ k, (∀ y0 y1 y2 y3 y4 y5 y6 y7 y8 y9 y10, LeO (ins_Encode.j0 k y0 y1 y2 y3 y4 y5 y6 y7 y8 y9 y10) (ins_Encode.j0 (k + 1) y0 y1 y2 y3 y4 y5 y6 y7 y8 y9 y10)) ∧ (∀ y0 y1 y2 y3 y4 y5 y6 y7 y8 y9, LeO (ins_Encode.j1 k y0 y1 y2 y3 y4 y5 y6 y7 y8 y9) (ins_Encode.j1 (k + 1) y0 y1 y2 y3 y4 y5 y6 y7 y8 y9)) ∧ (∀ y0 y1 y2 y3 y4 y5, LeO (ins_Encode.j2 k y0 y1 y2 y3 y4 y5) (ins_Encode.j2 (k + 1) y0 y1 y2 y3 y4 y5)) ∧ (∀ y0 y1 y2 y3 y4, LeO (ins_Encode.l0 k y0 y1 y2 y3 y4) (ins_Encode.l0 (k + 1) y0 y1 y2 y3 y4))
  | 0 => ⟨fun _ _ _ _ _ _ _ _ _ _ _ r h => by simp [ins_Encode.j0] at h, fun _ _ _ _ _ _ _ _ _ _ r h => by simp [ins_Encode.j1] at h, fun _ _ _ _ _ _ r h => by simp [ins_Encode.j2] at h, fun _ _ _ _ _ r h => by simp [ins_Encode.l0] at h⟩
  | k + 1 => by
    obtain ⟨ih0, ih1, ih2, ih3⟩ := ins_Encode.mono_l k
    refine ⟨?_, ?_, ?_, ?_⟩
    · intro y0 y1 y2 y3 y4 y5 y6 y7 y8 y9 y10
      unfold ins_Encode.j0
      repeat' first
      | (with_reducible exact ih0 _ _ _ _ _ _ _ _ _ _ _)
      | (with_reducible exact ih1 _ _ _ _ _ _ _ _ _ _)
      | (with_reducible exact ih2 _ _ _ _ _ _)
      | (with_reducible exact ih3 _ _ _ _ _)
      | (with_reducible exact ins_May.mono _ _ _ _ _ _)
      | (with_reducible exact LeO.refl _)
      | (with_reducible exact LeO.none _)
      | (with_reducible refine LeO.ite ?_ ?_)
      | (with_reducible refine LeO.bind ?_ (fun _ => ?_))
      | exact ih0 _ _ _ _ _ _ _ _ _ _ _
      | exact ih1 _ _ _ _ _ _ _ _ _ _
      | exact ih2 _ _ _ _ _ _
      | exact ih3 _ _ _ _ _
      | exact ins_May.mono _ _ _ _ _ _
      | exact LeO.none _
      | refine LeO.ite ?_ ?_
      | refine LeO.bind ?_ (fun _ => ?_)
    · intro y0 y1 y2 y3 y4 y5 y6 y7 y8 y9
      unfold ins_Encode.j1
      repeat' first
      | (with_reducible exact ih0 _ _ _ _ _ _ _ _ _ _ _)
      | (with_reducible exact ih1 _ _ _ _ _ _ _ _ _ _)
      | (with_reducible exact ih2 _ _ _ _ _ _)
      | (with_reducible exact ih3 _ _ _ _ _)
      | (with_reducible exact ins_May.mono _ _ _ _ _ _)
      | (with_reducible exact LeO.refl _)
      | (with_reducible exact LeO.none _)
      | (with_reducible refine LeO.ite ?_ ?_)
      | (with_reducible refine LeO.bind ?_ (fun _ => ?_))
      | exact ih0 _ _ _ _ _ _ _ _ _ _ _
      | exact ih1 _ _ _ _ _ _ _ _ _ _
      | exact ih2 _ _ _ _ _ _
      | exact ih3 _ _ _ _ _
      | exact ins_May.mono _ _ _ _ _ _
      | exact LeO.none _
      | refine LeO.ite ?_ ?_
      | refine LeO.bind ?_ (fun _ => ?_)
    · intro y0 y1 y2 y3 y4 y5
      unfold ins_Encode.j2
      repeat' first
      | (with_reducible exact ih0 _ _ _ _ _ _ _ _ _ _ _)
      | (with_reducible exact ih1 _ _ _ _ _ _ _ _ _ _)
      | (with_reducible exact ih2 _ _ _ _ _ _)
      | (with_reducible exact ih3 _ _ _ _ _)
      | (with_reducible exact ins_May.mono _ _ _ _ _ _)
      | (with_reducible exact LeO.refl _)
      | (with_reducible exact LeO.none _)
      | (with_reducible refine LeO.ite ?_ ?_)
      | (with_reducible refine LeO.bind ?_ (fun _ => ?_))
      | exact ih0 _ _ _ _ _ _ _ _ _ _ _
      | exact ih1 _ _ _ _ _ _ _ _ _ _
      | exact ih2 _ _ _ _ _ _
      | exact ih3 _ _ _ _ _
      | exact ins_May.mono _ _ _ _ _ _
      | exact LeO.none _
      | refine LeO.ite ?_ ?_
      | refine LeO.bind ?_ (fun _ => ?_)
    · intro y0 y1 y2 y3 y4
      unfold ins_Encode.l0
      repeat' first
      | (with_reducible exact ih0 _ _ _ _ _ _ _ _ _ _ _)
      | (with_reducible exact ih1 _ _ _ _ _ _ _ _ _ _)
      | (with_reducible exact ih2 _ _ _ _ _ _)
      | (with_reducible exact ih3 _ _ _ _ _)
      | (with_reducible exact ins_May.mono _ _ _ _ _ _)
      | (with_reducible exact LeO.refl _)
      | (with_reducible exact LeO.none _)
      | (with_reducible refine LeO.ite ?_ ?_)
      | (with_reducible refine LeO.bind ?_ (fun _ => ?_))
      | exact ih0 _ _ _ _ _ _ _ _ _ _ _
      | exact ih1 _ _ _ _ _ _ _ _ _ _
      | exact ih2 _ _ _ _ _ _
      | exact ih3 _ _ _ _ _
      | exact ins_May.mono _ _ _ _ _ _
      | exact LeO.none _
      | refine LeO.ite ?_ ?_
      | refine LeO.bind ?_ (fun _ => ?_)
theorem ins_Encode.mono : ∀ a0 a1 a2 a3 a4 k, LeO (ins_Encode.f k a0 a1 a2 a3 a4) (ins_Encode.f (k + 1) a0 a1 a2 a3 a4) := by
  intro a0 a1 a2 a3 a4 k
  obtain ⟨ih0, ih1, ih2, ih3⟩ := ins_Encode.mono_l k
  unfold ins_Encode.f
  repeat' first
      | (with_reducible exact ih0 _ _ _ _ _ _ _ _ _ _ _)
      | (with_reducible exact ih1 _ _ _ _ _ _ _ _ _ _)
      | (with_reducible exact ih2 _ _ _ _ _ _)
      | (with_reducible exact ih3 _ _ _ _ _)
      | (with_reducible exact ins_May.mono _ _ _ _ _ _)
      | (with_reducible exact LeO.refl _)
      | (with_reducible exact LeO.none _)
      | (with_reducible refine LeO.ite ?_ ?_)
      | (with_reducible refine LeO.bind ?_ (fun _ => ?_))
      | exact ih0 _ _ _ _ _ _ _ _ _ _ _
      | exact ih1 _ _ _ _ _ _ _ _ _ _
      | exact ih2 _ _ _ _ _ _
      | exact ih3 _ _ _ _ _
      | exact ins_May.mono _ _ _ _ _ _
      | exact LeO.none _
      | refine LeO.ite ?_ ?_
      | refine LeO.bind ?_ (fun _ => ?_)
set_option maxHeartbeats 8000000 in
set_option maxRecDepth 100000 in
theorem ins_Encode.calls (k : Nat) (a0_0 : Int) (a0_1 : Int) (a0_2 : Int) (a0_3 : Int) (a0_4 : Int) (r1 : Int) (r2 : Int) (w : World) (h : ins_Encode.f k a0_0 a0_1 a0_2 a0_3 a0_4 = some (r1, r2)) (hG : GlobOk w) :
    Calls Tryd.prog 25 #[.agg #[.int .i64 a0_0, .int .i64 a0_1, .int .i64 a0_2, .int .i64 a0_3, .int .i64 a0_4]] w fun e w' => e = .returned (.tuple #[.int .u32 r1, .int .i64 r2]) ∧ Below w.heap.size w w' := by
  have hu43 := Tryd.underlying43
  have hu97 := Tryd.underlying97
  have hu103 := Tryd.underlying103
  have HRGrows := Aside0.mk (GlobOk.rowsC hG)
  have HB := Aside0.mk (Below.refl w.heap.size w)
  have H : ((ins_May.f k a0_0 a0_1 a0_2 a0_3 a0_4).bind fun t148 => (if t148 = true then (if 0 ≤ a0_0 then (if a0_0 < 43 then (if ((rd_T97 rowsL a0_0).f0).toList = ([69] : List UInt8) then (some (1048691, 0)) else (if ((rd_T97 rowsL a0_0).f0).toList = ([85] : List UInt8) then (ins_Encode.j0 k (Go.bits .or .u64 (Go.bits .or .u64 (Go.bits .or .u64 (Go.bits .or .u64 ((rd_T97 rowsL a0_0).f1.f0) (IntKind.u64.wrap ((IntKind.u64.wrap (a0_1)) * 128))) (IntKind.u64.wrap (((rd_T97 rowsL a0_0).f1.f1) * 4096))) (IntKind.u64.wrap ((IntKind.u64.wrap (a0_2)) * 32768))) (IntKind.u64.wrap ((IntKind.u64.wrap (a0_3)) * 1048576))) true a0_0 a0_1 a0_2 a0_3 a0_4 ((rd_T97 rowsL a0_0).f0) ((rd_T97 rowsL a0_0).f1.f0) ((rd_T97 rowsL a0_0).f1.f1) ((rd_T97 rowsL a0_0).f1.f2)) else (ins_Encode.j0 k (Go.bits .or .u64 (Go.bits .or .u64 (Go.bits .or .u64 (Go.bits .or .u64 ((rd_T97 rowsL a0_0).f1.f0) (IntKind.u64.wrap ((IntKind.u64.wrap (a0_1)) * 128))) (IntKind.u64.wrap (((rd_T97 rowsL a0_0).f1.f1) * 4096))) (IntKind.u64.wrap ((IntKind.u64.wrap (a0_2)) * 32768))) (IntKind.u64.wrap ((IntKind.u64.wrap (a0_3)) * 1048576))) (((rd_T97 rowsL a0_0).f0).toList == ([74] : List UInt8)) a0_0 a0_1 a0_2 a0_3 a0_4 ((rd_T97 rowsL a0_0).f0) ((rd_T97 rowsL a0_0).f1.f0) ((rd_T97 rowsL a0_0).f1.f1) ((rd_T97 rowsL a0_0).f1.f2)))) else (none)) else (none)) else (some (0, 1)))) = some (r1, r2) := h
  clear h
  replace H := Option.bind_eq_some_iff.mp H
  obtain ⟨t148, A20, H⟩ := H
  replace H : (if t148 = true then (if 0 ≤ a0_0 then (if a0_0 < 43 then (if ((rd_T97 rowsL a0_0).f0).toList = ([69] : List UInt8) then (some (1048691, 0)) else (if ((rd_T97 rowsL a0_0).f0).toList = ([85] : List UInt8) then (ins_Encode.j0 k (Go.bits .or .u64 (Go.bits .or .u64 (Go.bits .or .u64 (Go.bits .or .u64 ((rd_T97 rowsL a0_0).f1.f0) (IntKind.u64.wrap ((IntKind.u64.wrap (a0_1)) * 128))) (IntKind.u64.wrap (((rd_T97 rowsL a0_0).f1.f1) * 4096))) (IntKind.u64.wrap ((IntKind.u64.wrap (a0_2)) * 32768))) (IntKind.u64.wrap ((IntKind.u64.wrap (a0_3)) * 1048576))) true a0_0 a0_1 a0_2 a0_3 a0_4 ((rd_T97 rowsL a0_0).f0) ((rd_T97 rowsL a0_0).f1.f0) ((rd_T97 rowsL a0_0).f1.f1) ((rd_T97 rowsL a0_0).f1.f2)) else (ins_Encode.j0 k (Go.bits .or .u64 (Go.bits .or .u64 (Go.bits .or .u64 (Go.bits .or .u64 ((rd_T97 rowsL a0_0).f1.f0) (IntKind.u64.wrap ((IntKind.u64.wrap (a0_1)) * 128))) (IntKind.u64.wrap (((rd_T97 rowsL a0_0).f1.f1) * 4096))) (IntKind.u64.wrap ((IntKind.u64.wrap (a0_2)) * 32768))) (IntKind.u64.wrap ((IntKind.u64.wrap (a0_3)) * 1048576))) (((rd_T97 rowsL a0_0).f0).toList == ([74] : List UInt8)) a0_0 a0_1 a0_2 a0_3 a0_4 ((rd_T97 rowsL a0_0).f0) ((rd_T97 rowsL a0_0).f1.f0) ((rd_T97 rowsL a0_0).f1.f1) ((rd_T97 rowsL a0_0).f1.f2)))) else (none)) else (none)) else (some (0, 1))) = some (r1, r2) := H
  have A2 := Aside0.mk A20
  clear A20
  by_cases c3 : t148 = true
  · subst c3
    have H1 : (if 0 ≤ a0_0 then (if a0_0 < 43 then (if ((rd_T97 rowsL a0_0).f0).toList = ([69] : List UInt8) then (some (1048691, 0)) else (if ((rd_T97 rowsL a0_0).f0).toList = ([85] : List UInt8) then (ins_Encode.j0 k (Go.bits .or .u64 (Go.bits .or .u64 (Go.bits .or .u64 (Go.bits .or .u64 ((rd_T97 rowsL a0_0).f1.f0) (IntKind.u64.wrap ((IntKind.u64.wrap (a0_1)) * 128))) (IntKind.u64.wrap (((rd_T97 rowsL a0_0).f1.f1) * 4096))) (IntKind.u64.wrap ((IntKind.u64.wrap (a0_2)) * 32768))) (IntKind.u64.wrap ((IntKind.u64.wrap (a0_3)) * 1048576))) true a0_0 a0_1 a0_2 a0_3 a0_4 ((rd_T97 rowsL a0_0).f0) ((rd_T97 rowsL a0_0).f1.f0) ((rd_T97 rowsL a0_0).f1.f1) ((rd_T97 rowsL a0_0).f1.f2)) else (ins_Encode.j0 k (Go.bits .or .u64 (Go.bits .or .u64 (Go.bits .or .u64 (Go.bits .or .u64 ((rd_T97 rowsL a0_0).f1.f0) (IntKind.u64.wrap ((IntKind.u64.wrap (a0_1)) * 128))) (IntKind.u64.wrap (((rd_T97 rowsL a0_0).f1.f1) * 4096))) (IntKind.u64.wrap ((IntKind.u64.wrap (a0_2)) * 32768))) (IntKind.u64.wrap ((IntKind.u64.wrap (a0_3)) * 1048576))) (((rd_T97 rowsL a0_0).f0).toList == ([74] : List UInt8)) a0_0 a0_1 a0_2 a0_3 a0_4 ((rd_T97 rowsL a0_0).f0) ((rd_T97 rowsL a0_0).f1.f0) ((rd_T97 rowsL a0_0).f1.f1) ((rd_T97 rowsL a0_0).f1.f2)))) else (none)) else (none)) = some (r1, r2) := by rw [if_pos rfl] at H; exact H
    clear H
    have H := H1
    clear H1
    by_cases c4 : 0 ≤ a0_0
    · rw [if_pos c4] at H
      have c4b0 : decide (0 ≤ a0_0) = true := decide_eq_true c4
      clear c4
      by_cases c5 : a0_0 < 43
      · rw [if_pos c5] at H
        have c5b0 : decide (a0_0 < 43) = true := decide_eq_true c5
        clear c5
        by_cases c6 : ((rd_T97 rowsL a0_0).f0).toList = ([69] : List UInt8)
        · rw [if_pos c6] at H
          have c6b0 : (((rd_T97 rowsL a0_0).f0).toList == ([69] : List UInt8)) = true := beq_iff_eq.mpr c6
          have c6b1 : (((rd_T97 rowsL a0_0).f0).toList != ([69] : List UInt8)) = false := bne_eq_false_iff_eq.mpr c6
          clear c6
          simp only [Option.some.injEq, Prod.mk.injEq] at H
          obtain ⟨rfl, rfl⟩ := H
          go_enter Tryd.func25, Tryd.ntmps25
          go_wp2_with (first | ((with_reducible refine gate_dst (N := 1) rfl ?_); refine box_event ?hg (N := 1) ?hd (cs := #[.int .i64 a0_0, .int .i64 a0_1, .int .i64 a0_2, .int .i64 a0_3, .int .i64 a0_4]) (t := 43) ?hr ?_; (case hd => rfl); (case hg => rfl); (case hr => first | (go_simp; done) | (go_simp; rfl)); intro gb147 hg w7 hbox hb; have n0_ := Aside0.mk (below_step (by repeat (first | (with_reducible first | exact HB.out | apply below_alloc | apply pw_below_drewN | apply below_drew1) | exact HB.out)) hb); have n1_ := Aside0.mk (hbox); have n2_ := Aside0.mk ((by rw [hg]; exact (below_size (by repeat (first | (with_reducible first | exact HB.out | apply below_alloc | apply pw_below_drewN | apply below_drew1) | exact HB.out))) : w.heap.size ≤ gb147)); have n3_ := Aside0.mk ((by rw [hg]; exact (below_size (by repeat (first | (with_reducible first | exact HB.out | apply below_alloc | apply pw_below_drewN | apply below_drew1) | exact HB.out))) : w.heap.size ≤ gb147)); clear HB; have HB := n0_; have BK147 := n1_; have GW147 := n2_; have GE147 := n3_; clear n0_ n1_ n2_ n3_; clear hb hbox hg; have hcz8_0 : w7.cell? ⟨gb147, 0, none⟩ = some (.int .i64 a0_0) := (blk_cell BK147.out 0).trans rfl; have hcz8_1 : w7.cell? ⟨gb147, 1, none⟩ = some (.int .i64 a0_1) := (blk_cell BK147.out 1).trans rfl; have hcz8_2 : w7.cell? ⟨gb147, 2, none⟩ = some (.int .i64 a0_2) := (blk_cell BK147.out 2).trans rfl; have hcz8_3 : w7.cell? ⟨gb147, 3, none⟩ = some (.int .i64 a0_3) := (blk_cell BK147.out 3).trans rfl; have hcz8_4 : w7.cell? ⟨gb147, 4, none⟩ = some (.int .i64 a0_4) := (blk_cell BK147.out 4).trans rfl; have hfz8_0 := blk_frozen BK147.out 0; have hfz8_1 := blk_frozen BK147.out 1; have hfz8_2 := blk_frozen BK147.out 2; have hfz8_3 := blk_frozen BK147.out 3; have hfz8_4 := blk_frozen BK147.out 4) | ((with_reducible refine gate_callee (f := 53) rfl ?_); refine goesL_ (some 12) rfl rfl Tryd.func53 (by kernel_rfl) rfl #[.agg #[.int .i64 a0_0, .int .i64 a0_1, .int .i64 a0_2, .int .i64 a0_3, .int .i64 a0_4]] rfl (by (try simp only [List.map_toArray, List.map_cons, List.map_nil]); first | done | rfl | (simp only [List.length_drop, List.length_take]; rfl)) ?_; (with_reducible refine (ins_May.calls k a0_0 a0_1 a0_2 a0_3 a0_4 true _ A2.out ?side1).mono ?_); (case side1 => (with_reducible first | exact hG | exact GlobOk.drewN hG _ | exact GlobOk.drew hG | (refine GlobOk.of_below hG ?_; repeat (first | (with_reducible first | exact HB.out | apply below_alloc | apply pw_below_drewN | apply below_drew1 | refine below_set ?_ GE147.out) | exact HB.out)))); rintro e w9 ⟨rfl, hb⟩; refine ⟨_, rfl, ?_⟩; have n0_ := Aside0.mk (blk_below (g := gb147) (o := .cells #[.int .i64 a0_0, .int .i64 a0_1, .int .i64 a0_2, .int .i64 a0_3, .int .i64 a0_4] 43 (0, 0)) (by (with_reducible repeat (first | refine blk_drewN ?_ _ | refine blk_drew ?_ | refine blk_alloc ?_ _)); exact BK147.out) hb); have n1_ := Aside0.mk (below_step (by repeat (first | (with_reducible first | exact HB.out | apply below_alloc | apply pw_below_drewN | apply below_drew1 | refine below_set ?_ GE147.out) | exact HB.out)) hb); clear BK147; clear HB; have BK147 := n0_; have HB := n1_; clear n0_ n1_; (try clear hb); (try clear hb2); (try clear hk); (try clear hi); have hcz10_0 : w9.cell? ⟨gb147, 0, none⟩ = some (.int .i64 a0_0) := (blk_cell BK147.out 0).trans rfl; have hcz10_1 : w9.cell? ⟨gb147, 1, none⟩ = some (.int .i64 a0_1) := (blk_cell BK147.out 1).trans rfl; have hcz10_2 : w9.cell? ⟨gb147, 2, none⟩ = some (.int .i64 a0_2) := (blk_cell BK147.out 2).trans rfl; have hcz10_3 : w9.cell? ⟨gb147, 3, none⟩ = some (.int .i64 a0_3) := (blk_cell BK147.out 3).trans rfl; have hcz10_4 : w9.cell? ⟨gb147, 4, none⟩ = some (.int .i64 a0_4) := (blk_cell BK147.out 4).trans rfl; have hfz10_0 := blk_frozen BK147.out 0; have hfz10_1 := blk_frozen BK147.out 1; have hfz10_2 := blk_frozen BK147.out 2; have hfz10_3 := blk_frozen BK147.out 3; have hfz10_4 := blk_frozen BK147.out 4; have p149 : 0 ≤ (a0_0 : Int) := of_decide_eq_true (by first | (with_reducible assumption) | assumption); have q149 : a0_0 < (rowsL.length : Int) := of_decide_eq_true (by first | (with_reducible assumption) | assumption); have ql149 : ((a0_0 : Int) < (43 : Int)) = True := eq_true (of_decide_eq_true (by first | (with_reducible assumption) | assumption)); obtain ⟨ad149, e149, hx149_0, hx149_1, hx149_2, hx149_3⟩ := at_T97 HRGrows.out a0_0 p149 q149; obtain rfl : (⟨0, 0, none⟩ : Addr) = ad149 := (by injection e149); (first | simp only [add_plain] at hx149_0 | simp only [add_at] at hx149_0 | simp only [Addr.add, Nat.zero_add] at hx149_0 | skip); (first | simp only [add_plain] at hx149_1 | simp only [add_at] at hx149_1 | simp only [Addr.add, Nat.zero_add] at hx149_1 | skip); (first | simp only [add_plain] at hx149_2 | simp only [add_at] at hx149_2 | simp only [Addr.add, Nat.zero_add] at hx149_2 | skip); (first | simp only [add_plain] at hx149_3 | simp only [add_at] at hx149_3 | simp only [Addr.add, Nat.zero_add] at hx149_3 | skip); replace hx149_0 := (HB.out.cell (World.block_lt_of_cell? w _ hx149_0)).trans hx149_0; replace hx149_1 := (HB.out.cell (World.block_lt_of_cell? w _ hx149_1)).trans hx149_1; replace hx149_2 := (HB.out.cell (World.block_lt_of_cell? w _ hx149_2)).trans hx149_2; replace hx149_3 := (HB.out.cell (World.block_lt_of_cell? w _ hx149_3)).trans hx149_3; replace p149 := eq_true p149; replace q149 := eq_true q149) | ((with_reducible refine gate_dst (N := 4) rfl ?_); refine box_event ?hg (N := 4) ?hd (cs := #[.string (⟨#[]⟩ : ByteArray), .int .u64 0, .int .u64 0, .int .u64 0]) (t := 97) ?hr ?_; (case hd => rfl); (case hg => rfl); (case hr => first | (go_simp; done) | (go_simp; rfl)); intro gb150 hg w11 hbox hb; have n0_ := Aside0.mk (blk_below (g := gb147) (o := .cells #[.int .i64 a0_0, .int .i64 a0_1, .int .i64 a0_2, .int .i64 a0_3, .int .i64 a0_4] 43 (0, 0)) (by (with_reducible repeat (first | refine blk_drewN ?_ _ | refine blk_drew ?_ | refine blk_alloc ?_ _)); exact BK147.out) hb); have n1_ := Aside0.mk (below_step (by repeat (first | (with_reducible first | exact HB.out | apply below_alloc | apply pw_below_drewN | apply below_drew1 | refine below_set ?_ GE147.out) | exact HB.out)) hb); have n2_ := Aside0.mk (hbox); have n3_ := Aside0.mk ((by rw [hg]; exact (below_size (by repeat (first | (with_reducible first | exact HB.out | apply below_alloc | apply pw_below_drewN | apply below_drew1 | refine below_set ?_ GE147.out) | exact HB.out))) : w.heap.size ≤ gb150)); have n4_ := Aside0.mk ((by rw [hg]; exact (below_size (by repeat (first | (with_reducible first | exact HB.out | apply below_alloc | apply pw_below_drewN | apply below_drew1 | refine below_set ?_ GE147.out) | exact HB.out))) : w.heap.size ≤ gb150)); have n5_ := Aside0.mk ((by rw [hg]; exact Nat.ne_of_lt (blk_lt (g := gb147) (o := .cells #[.int .i64 a0_0, .int .i64 a0_1, .int .i64 a0_2, .int .i64 a0_3, .int .i64 a0_4] 43 (0, 0)) (by (with_reducible repeat (first | refine blk_drewN ?_ _ | refine blk_drew ?_ | refine blk_alloc ?_ _)); exact BK147.out)) : gb147 ≠ gb150)); have n6_ := Aside0.mk ((by rw [hg]; exact Nat.ne_of_gt (blk_lt (g := gb147) (o := .cells #[.int .i64 a0_0, .int .i64 a0_1, .int .i64 a0_2, .int .i64 a0_3, .int .i64 a0_4] 43 (0, 0)) (by (with_reducible repeat (first | refine blk_drewN ?_ _ | refine blk_drew ?_ | refine blk_alloc ?_ _)); exact BK147.out)) : gb150 ≠ gb147)); clear BK147; clear HB; have BK147 := n0_; have HB := n1_; have BK150 := n2_; have GW150 := n3_; have GE150 := n4_; have NB147_150 := n5_; have NB150_147 := n6_; clear n0_ n1_ n2_ n3_ n4_ n5_ n6_; clear hb hbox hg; have hnb12 := NB150_147.out; have hnc12 := NB147_150.out; have hcz13_0 : w11.cell? ⟨gb150, 0, none⟩ = some (.string (⟨#[]⟩ : ByteArray)) := (blk_cell BK150.out 0).trans rfl; have hcz13_1 : w11.cell? ⟨gb150, 1, none⟩ = some (.int .u64 0) := (blk_cell BK150.out 1).trans rfl; have hcz13_2 : w11.cell? ⟨gb150, 2, none⟩ = some (.int .u64 0) := (blk_cell BK150.out 2).trans rfl; have hcz13_3 : w11.cell? ⟨gb150, 3, none⟩ = some (.int .u64 0) := (blk_cell BK150.out 3).trans rfl; have hfz13_0 := blk_frozen BK150.out 0; have hfz13_1 := blk_frozen BK150.out 1; have hfz13_2 := blk_frozen BK150.out 2; have hfz13_3 := blk_frozen BK150.out 3))
          go_ret2
          exact ⟨by first | rfl | (simp [errW_none, errW_some] <;> rfl) | (simp [*, errW_none, errW_some] <;> rfl), by repeat (first | (with_reducible first | exact HB.out | apply below_alloc | apply pw_below_drewN | apply below_drew1 | refine below_set ?_ GE147.out | refine below_set ?_ GE150.out) | exact HB.out)⟩
        · rw [if_neg c6] at H
          have c6b0 : (((rd_T97 rowsL a0_0).f0).toList == ([69] : List UInt8)) = false := beq_eq_false_iff_ne.mpr c6
          have c6b1 : (((rd_T97 rowsL a0_0).f0).toList != ([69] : List UInt8)) = true := bne_iff_ne.mpr c6
          have HC14 := Aside0.mk H
          clear H
          go_enter Tryd.func25, Tryd.ntmps25
          go_upto_region 7 with (first | ((with_reducible refine gate_dst (N := 1) rfl ?_); refine box_event ?hg (N := 1) ?hd (cs := #[.int .i64 a0_0, .int .i64 a0_1, .int .i64 a0_2, .int .i64 a0_3, .int .i64 a0_4]) (t := 43) ?hr ?_; (case hd => rfl); (case hg => rfl); (case hr => first | (go_simp; done) | (go_simp; rfl)); intro gb147 hg w15 hbox hb; have n0_ := Aside0.mk (below_step (by repeat (first | (with_reducible first | exact HB.out | apply below_alloc | apply pw_below_drewN | apply below_drew1) | exact HB.out)) hb); have n1_ := Aside0.mk (hbox); have n2_ := Aside0.mk ((by rw [hg]; exact (below_size (by repeat (first | (with_reducible first | exact HB.out | apply below_alloc | apply pw_below_drewN | apply below_drew1) | exact HB.out))) : w.heap.size ≤ gb147)); have n3_ := Aside0.mk ((by rw [hg]; exact (below_size (by repeat (first | (with_reducible first | exact HB.out | apply below_alloc | apply pw_below_drewN | apply below_drew1) | exact HB.out))) : w.heap.size ≤ gb147)); clear HB; have HB := n0_; have BK147 := n1_; have GW147 := n2_; have GE147 := n3_; clear n0_ n1_ n2_ n3_; clear hb hbox hg; have hcz16_0 : w15.cell? ⟨gb147, 0, none⟩ = some (.int .i64 a0_0) := (blk_cell BK147.out 0).trans rfl; have hcz16_1 : w15.cell? ⟨gb147, 1, none⟩ = some (.int .i64 a0_1) := (blk_cell BK147.out 1).trans rfl; have hcz16_2 : w15.cell? ⟨gb147, 2, none⟩ = some (.int .i64 a0_2) := (blk_cell BK147.out 2).trans rfl; have hcz16_3 : w15.cell? ⟨gb147, 3, none⟩ = some (.int .i64 a0_3) := (blk_cell BK147.out 3).trans rfl; have hcz16_4 : w15.cell? ⟨gb147, 4, none⟩ = some (.int .i64 a0_4) := (blk_cell BK147.out 4).trans rfl; have hfz16_0 := blk_frozen BK147.out 0; have hfz16_1 := blk_frozen BK147.out 1; have hfz16_2 := blk_frozen BK147.out 2; have hfz16_3 := blk_frozen BK147.out 3; have hfz16_4 := blk_frozen BK147.out 4) | ((with_reducible refine gate_callee (f := 53) rfl ?_); refine goesL_ (some 12) rfl rfl Tryd.func53 (by kernel_rfl) rfl #[.agg #[.int .i64 a0_0, .int .i64 a0_1, .int .i64 a0_2, .int .i64 a0_3, .int .i64 a0_4]] rfl (by (try simp only [List.map_toArray, List.map_cons, List.map_nil]); first | done | rfl | (simp only [List.length_drop, List.length_take]; rfl)) ?_; (with_reducible refine (ins_May.calls k a0_0 a0_1 a0_2 a0_3 a0_4 true _ A2.out ?side1).mono ?_); (case side1 => (with_reducible first | exact hG | exact GlobOk.drewN hG _ | exact GlobOk.drew hG | (refine GlobOk.of_below hG ?_; repeat (first | (with_reducible first | exact HB.out | apply below_alloc | apply pw_below_drewN | apply below_drew1 | refine below_set ?_ GE147.out) | exact HB.out)))); rintro e w17 ⟨rfl, hb⟩; refine ⟨_, rfl, ?_⟩; have n0_ := Aside0.mk (blk_below (g := gb147) (o := .cells #[.int .i64 a0_0, .int .i64 a0_1, .int .i64 a0_2, .int .i64 a0_3, .int .i64 a0_4] 43 (0, 0)) (by (with_reducible repeat (first | refine blk_drewN ?_ _ | refine blk_drew ?_ | refine blk_alloc ?_ _)); exact BK147.out) hb); have n1_ := Aside0.mk (below_step (by repeat (first | (with_reducible first | exact HB.out | apply below_alloc | apply pw_below_drewN | apply below_drew1 | refine below_set ?_ GE147.out) | exact HB.out)) hb); clear BK147; clear HB; have BK147 := n0_; have HB := n1_; clear n0_ n1_; (try clear hb); (try clear hb2); (try clear hk); (try clear hi); have hcz18_0 : w17.cell? ⟨gb147, 0, none⟩ = some (.int .i64 a0_0) := (blk_cell BK147.out 0).trans rfl; have hcz18_1 : w17.cell? ⟨gb147, 1, none⟩ = some (.int .i64 a0_1) := (blk_cell BK147.out 1).trans rfl; have hcz18_2 : w17.cell? ⟨gb147, 2, none⟩ = some (.int .i64 a0_2) := (blk_cell BK147.out 2).trans rfl; have hcz18_3 : w17.cell? ⟨gb147, 3, none⟩ = some (.int .i64 a0_3) := (blk_cell BK147.out 3).trans rfl; have hcz18_4 : w17.cell? ⟨gb147, 4, none⟩ = some (.int .i64 a0_4) := (blk_cell BK147.out 4).trans rfl; have hfz18_0 := blk_frozen BK147.out 0; have hfz18_1 := blk_frozen BK147.out 1; have hfz18_2 := blk_frozen BK147.out 2; have hfz18_3 := blk_frozen BK147.out 3; have hfz18_4 := blk_frozen BK147.out 4; have p149 : 0 ≤ (a0_0 : Int) := of_decide_eq_true (by first | (with_reducible assumption) | assumption); have q149 : a0_0 < (rowsL.length : Int) := of_decide_eq_true (by first | (with_reducible assumption) | assumption); have ql149 : ((a0_0 : Int) < (43 : Int)) = True := eq_true (of_decide_eq_true (by first | (with_reducible assumption) | assumption)); obtain ⟨ad149, e149, hx149_0, hx149_1, hx149_2, hx149_3⟩ := at_T97 HRGrows.out a0_0 p149 q149; obtain rfl : (⟨0, 0, none⟩ : Addr) = ad149 := (by injection e149); (first | simp only [add_plain] at hx149_0 | simp only [add_at] at hx149_0 | simp only [Addr.add, Nat.zero_add] at hx149_0 | skip); (first | simp only [add_plain] at hx149_1 | simp only [add_at] at hx149_1 | simp only [Addr.add, Nat.zero_add] at hx149_1 | skip); (first | simp only [add_plain] at hx149_2 | simp only [add_at] at hx149_2 | simp only [Addr.add, Nat.zero_add] at hx149_2 | skip); (first | simp only [add_plain] at hx149_3 | simp only [add_at] at hx149_3 | simp only [Addr.add, Nat.zero_add] at hx149_3 | skip); replace hx149_0 := (HB.out.cell (World.block_lt_of_cell? w _ hx149_0)).trans hx149_0; replace hx149_1 := (HB.out.cell (World.block_lt_of_cell? w _ hx149_1)).trans hx149_1; replace hx149_2 := (HB.out.cell (World.block_lt_of_cell? w _ hx149_2)).trans hx149_2; replace hx149_3 := (HB.out.cell (World.block_lt_of_cell? w _ hx149_3)).trans hx149_3; replace p149 := eq_true p149; replace q149 := eq_true q149) | ((with_reducible refine gate_dst (N := 4) rfl ?_); refine box_event ?hg (N := 4) ?hd (cs := #[.string (⟨#[]⟩ : ByteArray), .int .u64 0, .int .u64 0, .int .u64 0]) (t := 97) ?hr ?_; (case hd => rfl); (case hg => rfl); (case hr => first | (go_simp; done) | (go_simp; rfl)); intro gb150 hg w19 hbox hb; have n0_ := Aside0.mk (blk_below (g := gb147) (o := .cells #[.int .i64 a0_0, .int .i64 a0_1, .int .i64 a0_2, .int .i64 a0_3, .int .i64 a0_4] 43 (0, 0)) (by (with_reducible repeat (first | refine blk_drewN ?_ _ | refine blk_drew ?_ | refine blk_alloc ?_ _)); exact BK147.out) hb); have n1_ := Aside0.mk (below_step (by repeat (first | (with_reducible first | exact HB.out | apply below_alloc | apply pw_below_drewN | apply below_drew1 | refine below_set ?_ GE147.out) | exact HB.out)) hb); have n2_ := Aside0.mk (hbox); have n3_ := Aside0.mk ((by rw [hg]; exact (below_size (by repeat (first | (with_reducible first | exact HB.out | apply below_alloc | apply pw_below_drewN | apply below_drew1 | refine below_set ?_ GE147.out) | exact HB.out))) : w.heap.size ≤ gb150)); have n4_ := Aside0.mk ((by rw [hg]; exact (below_size (by repeat (first | (with_reducible first | exact HB.out | apply below_alloc | apply pw_below_drewN | apply below_drew1 | refine below_set ?_ GE147.out) | exact HB.out))) : w.heap.size ≤ gb150)); have n5_ := Aside0.mk ((by rw [hg]; exact Nat.ne_of_lt (blk_lt (g := gb147) (o := .cells #[.int .i64 a0_0, .int .i64 a0_1, .int .i64 a0_2, .int .i64 a0_3, .int .i64 a0_4] 43 (0, 0)) (by (with_reducible repeat (first | refine blk_drewN ?_ _ | refine blk_drew ?_ | refine blk_alloc ?_ _)); exact BK147.out)) : gb147 ≠ gb150)); have n6_ := Aside0.mk ((by rw [hg]; exact Nat.ne_of_gt (blk_lt (g := gb147) (o := .cells #[.int .i64 a0_0, .int .i64 a0_1, .int .i64 a0_2, .int .i64 a0_3, .int .i64 a0_4] 43 (0, 0)) (by (with_reducible repeat (first | refine blk_drewN ?_ _ | refine blk_drew ?_ | refine blk_alloc ?_ _)); exact BK147.out)) : gb150 ≠ gb147)); clear BK147; clear HB; have BK147 := n0_; have HB := n1_; have BK150 := n2_; have GW150 := n3_; have GE150 := n4_; have NB147_150 := n5_; have NB150_147 := n6_; clear n0_ n1_ n2_ n3_ n4_ n5_ n6_; clear hb hbox hg; have hnb20 := NB150_147.out; have hnc20 := NB147_150.out; have hcz21_0 : w19.cell? ⟨gb150, 0, none⟩ = some (.string (⟨#[]⟩ : ByteArray)) := (blk_cell BK150.out 0).trans rfl; have hcz21_1 : w19.cell? ⟨gb150, 1, none⟩ = some (.int .u64 0) := (blk_cell BK150.out 1).trans rfl; have hcz21_2 : w19.cell? ⟨gb150, 2, none⟩ = some (.int .u64 0) := (blk_cell BK150.out 2).trans rfl; have hcz21_3 : w19.cell? ⟨gb150, 3, none⟩ = some (.int .u64 0) := (blk_cell BK150.out 3).trans rfl; have hfz21_0 := blk_frozen BK150.out 0; have hfz21_1 := blk_frozen BK150.out 1; have hfz21_2 := blk_frozen BK150.out 2; have hfz21_3 := blk_frozen BK150.out 3; have hcz22_0 : w19.cell? ⟨gb147, 0, none⟩ = some (.int .i64 a0_0) := (blk_cell BK147.out 0).trans rfl; have hcz22_1 : w19.cell? ⟨gb147, 1, none⟩ = some (.int .i64 a0_1) := (blk_cell BK147.out 1).trans rfl; have hcz22_2 : w19.cell? ⟨gb147, 2, none⟩ = some (.int .i64 a0_2) := (blk_cell BK147.out 2).trans rfl; have hcz22_3 : w19.cell? ⟨gb147, 3, none⟩ = some (.int .i64 a0_3) := (blk_cell BK147.out 3).trans rfl; have hcz22_4 : w19.cell? ⟨gb147, 4, none⟩ = some (.int .i64 a0_4) := (blk_cell BK147.out 4).trans rfl; have hfz22_0 := blk_frozen BK147.out 0; have hfz22_1 := blk_frozen BK147.out 1; have hfz22_2 := blk_frozen BK147.out 2; have hfz22_3 := blk_frozen BK147.out 3; have hfz22_4 := blk_frozen BK147.out 4))
          (try simp only [Act.put, List.setIfInBounds_toArray, List.set_cons_zero, List.set_cons_succ])
          go_cut [51] (fun v51 wc => ∃ (kq : Nat) (x51_13 : Bool), v51 = .bool x51_13 ∧ Aside0 (ins_Encode.j0 kq (Go.bits .or .u64 (Go.bits .or .u64 (Go.bits .or .u64 (Go.bits .or .u64 ((rd_T97 rowsL a0_0).f1.f0) (IntKind.u64.wrap ((IntKind.u64.wrap (a0_1)) * 128))) (IntKind.u64.wrap (((rd_T97 rowsL a0_0).f1.f1) * 4096))) (IntKind.u64.wrap ((IntKind.u64.wrap (a0_2)) * 32768))) (IntKind.u64.wrap ((IntKind.u64.wrap (a0_3)) * 1048576))) x51_13 a0_0 a0_1 a0_2 a0_3 a0_4 ((rd_T97 rowsL a0_0).f0) ((rd_T97 rowsL a0_0).f1.f0) ((rd_T97 rowsL a0_0).f1.f1) ((rd_T97 rowsL a0_0).f1.f2) = some (r1, r2)) ∧ Aside0 (kq ≤ k) ∧ Aside0 (wc.heap[gb147]? = some (.cells #[.int .i64 a0_0, .int .i64 a0_1, .int .i64 a0_2, .int .i64 a0_3, .int .i64 a0_4] 43 (0, 0))) ∧ Aside0 (wc.heap[gb150]? = some (.cells #[.string ((rd_T97 rowsL a0_0).f0), .int .u64 ((rd_T97 rowsL a0_0).f1.f0), .int .u64 ((rd_T97 rowsL a0_0).f1.f1), .int .u64 ((rd_T97 rowsL a0_0).f1.f2)] 97 (0, 0))) ∧ Aside0 (Below w.heap.size w wc))
          case first =>
            have H := HC14.out
            clear HC14
            by_cases c23 : ((rd_T97 rowsL a0_0).f0).toList = ([85] : List UInt8)
            · rw [if_pos c23] at H
              have c23b0 : (((rd_T97 rowsL a0_0).f0).toList == ([85] : List UInt8)) = true := beq_iff_eq.mpr c23
              have c23b1 : (((rd_T97 rowsL a0_0).f0).toList != ([85] : List UInt8)) = false := bne_eq_false_iff_eq.mpr c23
              clear c23
              (first | rw [c23b0] | (simp only [i64_w, i32_w]; rw [c23b0]) | skip)
              have H' := Aside0.mk H
              clear H
              have hnb24 := NB150_147.out
              have hnc24 := NB147_150.out
              have hcz25_0 : w19.cell? ⟨gb150, 0, none⟩ = some (.string (⟨#[]⟩ : ByteArray)) := (blk_cell BK150.out 0).trans rfl
              have hcz25_1 : w19.cell? ⟨gb150, 1, none⟩ = some (.int .u64 0) := (blk_cell BK150.out 1).trans rfl
              have hcz25_2 : w19.cell? ⟨gb150, 2, none⟩ = some (.int .u64 0) := (blk_cell BK150.out 2).trans rfl
              have hcz25_3 : w19.cell? ⟨gb150, 3, none⟩ = some (.int .u64 0) := (blk_cell BK150.out 3).trans rfl
              have hfz25_0 := blk_frozen BK150.out 0
              have hfz25_1 := blk_frozen BK150.out 1
              have hfz25_2 := blk_frozen BK150.out 2
              have hfz25_3 := blk_frozen BK150.out 3
              go_wp2
              go_meet
              case rel => exact ⟨_, (true), (by first | rfl | (simp; done) | (simp [*]; done)), H', ⟨by first | omega | exact Nat.le_refl _⟩, ⟨by (with_reducible repeat (first | refine blk_drewN ?_ _ | refine blk_drew ?_ | refine blk_alloc ?_ _)); refine blk_far ?_ NB147_150.out _; (with_reducible repeat (first | refine blk_drewN ?_ _ | refine blk_drew ?_ | refine blk_alloc ?_ _)); refine blk_far ?_ NB147_150.out _; (with_reducible repeat (first | refine blk_drewN ?_ _ | refine blk_drew ?_ | refine blk_alloc ?_ _)); refine blk_far ?_ NB147_150.out _; (with_reducible repeat (first | refine blk_drewN ?_ _ | refine blk_drew ?_ | refine blk_alloc ?_ _)); refine blk_far ?_ NB147_150.out _; (with_reducible repeat (first | refine blk_drewN ?_ _ | refine blk_drew ?_ | refine blk_alloc ?_ _)); exact BK147.out⟩, ⟨by (with_reducible repeat (first | refine blk_drewN ?_ _ | refine blk_drew ?_ | refine blk_alloc ?_ _)); refine blk_put (cs := #[.string ((rd_T97 rowsL a0_0).f0), .int .u64 ((rd_T97 rowsL a0_0).f1.f0), .int .u64 ((rd_T97 rowsL a0_0).f1.f1), .int .u64 0]) ?_ 3 _ rfl; (with_reducible repeat (first | refine blk_drewN ?_ _ | refine blk_drew ?_ | refine blk_alloc ?_ _)); refine blk_put (cs := #[.string ((rd_T97 rowsL a0_0).f0), .int .u64 ((rd_T97 rowsL a0_0).f1.f0), .int .u64 0, .int .u64 0]) ?_ 2 _ rfl; (with_reducible repeat (first | refine blk_drewN ?_ _ | refine blk_drew ?_ | refine blk_alloc ?_ _)); refine blk_put (cs := #[.string ((rd_T97 rowsL a0_0).f0), .int .u64 0, .int .u64 0, .int .u64 0]) ?_ 1 _ rfl; (with_reducible repeat (first | refine blk_drewN ?_ _ | refine blk_drew ?_ | refine blk_alloc ?_ _)); refine blk_put (cs := #[.string (⟨#[]⟩ : ByteArray), .int .u64 0, .int .u64 0, .int .u64 0]) ?_ 0 _ rfl; (with_reducible repeat (first | refine blk_drewN ?_ _ | refine blk_drew ?_ | refine blk_alloc ?_ _)); exact BK150.out⟩, ⟨by repeat (first | (with_reducible first | exact HB.out | apply below_alloc | apply pw_below_drewN | apply below_drew1 | refine below_set ?_ GE147.out | refine below_set ?_ GE150.out) | exact HB.out)⟩⟩
            · rw [if_neg c23] at H
              have c23b0 : (((rd_T97 rowsL a0_0).f0).toList == ([85] : List UInt8)) = false := beq_eq_false_iff_ne.mpr c23
              have c23b1 : (((rd_T97 rowsL a0_0).f0).toList != ([85] : List UInt8)) = true := bne_iff_ne.mpr c23
              (first | rw [c23b0] | (simp only [i64_w, i32_w]; rw [c23b0]) | skip)
              have H' := Aside0.mk H
              clear H
              have hnb26 := NB150_147.out
              have hnc26 := NB147_150.out
              have hcz27_0 : w19.cell? ⟨gb150, 0, none⟩ = some (.string (⟨#[]⟩ : ByteArray)) := (blk_cell BK150.out 0).trans rfl
              have hcz27_1 : w19.cell? ⟨gb150, 1, none⟩ = some (.int .u64 0) := (blk_cell BK150.out 1).trans rfl
              have hcz27_2 : w19.cell? ⟨gb150, 2, none⟩ = some (.int .u64 0) := (blk_cell BK150.out 2).trans rfl
              have hcz27_3 : w19.cell? ⟨gb150, 3, none⟩ = some (.int .u64 0) := (blk_cell BK150.out 3).trans rfl
              have hfz27_0 := blk_frozen BK150.out 0
              have hfz27_1 := blk_frozen BK150.out 1
              have hfz27_2 := blk_frozen BK150.out 2
              have hfz27_3 := blk_frozen BK150.out 3
              go_wp2
              go_meet
              case rel => exact ⟨_, ((((rd_T97 rowsL a0_0).f0).toList == ([74] : List UInt8))), (by first | rfl | (simp; done) | (simp [*]; done)), H', ⟨by first | omega | exact Nat.le_refl _⟩, ⟨by (with_reducible repeat (first | refine blk_drewN ?_ _ | refine blk_drew ?_ | refine blk_alloc ?_ _)); refine blk_far ?_ NB147_150.out _; (with_reducible repeat (first | refine blk_drewN ?_ _ | refine blk_drew ?_ | refine blk_alloc ?_ _)); refine blk_far ?_ NB147_150.out _; (with_reducible repeat (first | refine blk_drewN ?_ _ | refine blk_drew ?_ | refine blk_alloc ?_ _)); refine blk_far ?_ NB147_150.out _; (with_reducible repeat (first | refine blk_drewN ?_ _ | refine blk_drew ?_ | refine blk_alloc ?_ _)); refine blk_far ?_ NB147_150.out _; (with_reducible repeat (first | refine blk_drewN ?_ _ | refine blk_drew ?_ | refine blk_alloc ?_ _)); exact BK147.out⟩, ⟨by (with_reducible repeat (first | refine blk_drewN ?_ _ | refine blk_drew ?_ | refine blk_alloc ?_ _)); refine blk_put (cs := #[.string ((rd_T97 rowsL a0_0).f0), .int .u64 ((rd_T97 rowsL a0_0).f1.f0), .int .u64 ((rd_T97 rowsL a0_0).f1.f1), .int .u64 0]) ?_ 3 _ rfl; (with_reducible repeat (first | refine blk_drewN ?_ _ | refine blk_drew ?_ | refine blk_alloc ?_ _)); refine blk_put (cs := #[.string ((rd_T97 rowsL a0_0).f0), .int .u64 ((rd_T97 rowsL a0_0).f1.f0), .int .u64 0, .int .u64 0]) ?_ 2 _ rfl; (with_reducible repeat (first | refine blk_drewN ?_ _ | refine blk_drew ?_ | refine blk_alloc ?_ _)); refine blk_put (cs := #[.string ((rd_T97 rowsL a0_0).f0), .int .u64 0, .int .u64 0, .int .u64 0]) ?_ 1 _ rfl; (with_reducible repeat (first | refine blk_drewN ?_ _ | refine blk_drew ?_ | refine blk_alloc ?_ _)); refine blk_put (cs := #[.string (⟨#[]⟩ : ByteArray), .int .u64 0, .int .u64 0, .int .u64 0]) ?_ 0 _ rfl; (with_reducible repeat (first | refine blk_drewN ?_ _ | refine blk_drew ?_ | refine blk_alloc ?_ _)); exact BK150.out⟩, ⟨by repeat (first | (with_reducible first | exact HB.out | apply below_alloc | apply pw_below_drewN | apply below_drew1 | refine below_set ?_ GE147.out | refine below_set ?_ GE150.out) | exact HB.out)⟩⟩
          case rest =>
            clear HC14
            try clear c1
            try clear p1
            try clear q1
            try clear hx1
            try clear c2
            try clear p2
            try clear c3
            try clear c4
            try clear c4b0
            try clear c5
            try clear c5b0
            try clear c6
            try clear c6b0
            try clear c6b1
            try clear c12
            try clear p14
            try clear q14
            try clear hx14
            try clear c20
            try clear c23
            try clear c23b0
            try clear c23b1
            try clear c24
            try clear c25
            try clear c26
            try clear hcz10_0
            try clear hcz10_1
            try clear hcz10_2
            try clear hcz10_3
            try clear hcz10_4
            try clear hcz13_0
            try clear hcz13_1
            try clear hcz13_2
            try clear hcz13_3
            try clear hcz16_0
            try clear hcz16_1
            try clear hcz16_2
            try clear hcz16_3
            try clear hcz16_4
            try clear hcz18_0
            try clear hcz18_1
            try clear hcz18_2
            try clear hcz18_3
            try clear hcz18_4
            try clear hcz21_0
            try clear hcz21_1
            try clear hcz21_2
            try clear hcz21_3
            try clear hcz22_0
            try clear hcz22_1
            try clear hcz22_2
            try clear hcz22_3
            try clear hcz22_4
            try clear hcz25_0
            try clear hcz25_1
            try clear hcz25_2
            try clear hcz25_3
            try clear hcz27_0
            try clear hcz27_1
            try clear hcz27_2
            try clear hcz27_3
            try clear hcz8_0
            try clear hcz8_1
            try clear hcz8_2
            try clear hcz8_3
            try clear hcz8_4
            try clear hfz10_0
            try clear hfz10_1
            try clear hfz10_2
            try clear hfz10_3
            try clear hfz10_4
            try clear hfz13_0
            try clear hfz13_1
            try clear hfz13_2
            try clear hfz13_3
            try clear hfz16_0
            try clear hfz16_1
            try clear hfz16_2
            try clear hfz16_3
            try clear hfz16_4
            try clear hfz18_0
            try clear hfz18_1
            try clear hfz18_2
            try clear hfz18_3
            try clear hfz18_4
            try clear hfz21_0
            try clear hfz21_1
            try clear hfz21_2
            try clear hfz21_3
            try clear hfz22_0
            try clear hfz22_1
            try clear hfz22_2
            try clear hfz22_3
            try clear hfz22_4
            try clear hfz25_0
            try clear hfz25_1
            try clear hfz25_2
            try clear hfz25_3
            try clear hfz27_0
            try clear hfz27_1
            try clear hfz27_2
            try clear hfz27_3
            try clear hfz8_0
            try clear hfz8_1
            try clear hfz8_2
            try clear hfz8_3
            try clear hfz8_4
            try clear hx149_0
            try clear hx149_1
            try clear hx149_2
            try clear hx149_3
            try clear p149
            try clear q149
            obtain ⟨kq, x51_13, rfl, HA, HJ13, BK147, BK150, HB⟩ := hcut
            cases kq with
            | zero => exact absurd HA.out (by simp [ins_Encode.j0])
            | succ kj13 =>
              have H := HA.out
              clear HA
              simp only [ins_Encode.j0] at H
              have HC28 := Aside0.mk H
              clear H
              go_upto_if 51 with (fail)
              go_cut [5] (fun v5 wc => ∃ (kq : Nat) (x5_27 : Int), v5 = .int .u64 x5_27 ∧ Aside0 (ins_Encode.j1 kq x5_27 a0_0 a0_1 a0_2 a0_3 a0_4 ((rd_T97 rowsL a0_0).f0) ((rd_T97 rowsL a0_0).f1.f0) ((rd_T97 rowsL a0_0).f1.f1) ((rd_T97 rowsL a0_0).f1.f2) = some (r1, r2)) ∧ Aside0 (kq ≤ kj13) ∧ Aside0 (wc.heap[gb147]? = some (.cells #[.int .i64 a0_0, .int .i64 a0_1, .int .i64 a0_2, .int .i64 a0_3, .int .i64 a0_4] 43 (0, 0))) ∧ Aside0 (wc.heap[gb150]? = some (.cells #[.string ((rd_T97 rowsL a0_0).f0), .int .u64 ((rd_T97 rowsL a0_0).f1.f0), .int .u64 ((rd_T97 rowsL a0_0).f1.f1), .int .u64 ((rd_T97 rowsL a0_0).f1.f2)] 97 (0, 0))) ∧ Aside0 (Below w.heap.size w wc))
              case first =>
                have H := HC28.out
                clear HC28
                by_cases c29 : x51_13 = true
                · subst c29
                  have H1 : (ins_Encode.j1 kj13 (Go.bits .or .u64 ((rd_T97 rowsL a0_0).f1.f0) (IntKind.u64.wrap ((IntKind.u64.wrap (a0_1)) * 128))) a0_0 a0_1 a0_2 a0_3 a0_4 ((rd_T97 rowsL a0_0).f0) ((rd_T97 rowsL a0_0).f1.f0) ((rd_T97 rowsL a0_0).f1.f1) ((rd_T97 rowsL a0_0).f1.f2)) = some (r1, r2) := by rw [if_pos rfl] at H; exact H
                  clear H
                  have H := H1
                  clear H1
                  have H' := Aside0.mk H
                  clear H
                  have hnb30 := NB150_147.out
                  have hnc30 := NB147_150.out
                  have hcz31_0 : wc.cell? ⟨gb150, 0, none⟩ = some (.string ((rd_T97 rowsL a0_0).f0)) := (blk_cell BK150.out 0).trans rfl
                  have hcz31_1 : wc.cell? ⟨gb150, 1, none⟩ = some (.int .u64 ((rd_T97 rowsL a0_0).f1.f0)) := (blk_cell BK150.out 1).trans rfl
                  have hcz31_2 : wc.cell? ⟨gb150, 2, none⟩ = some (.int .u64 ((rd_T97 rowsL a0_0).f1.f1)) := (blk_cell BK150.out 2).trans rfl
                  have hcz31_3 : wc.cell? ⟨gb150, 3, none⟩ = some (.int .u64 ((rd_T97 rowsL a0_0).f1.f2)) := (blk_cell BK150.out 3).trans rfl
                  have hfz31_0 := blk_frozen BK150.out 0
                  have hfz31_1 := blk_frozen BK150.out 1
                  have hfz31_2 := blk_frozen BK150.out 2
                  have hfz31_3 := blk_frozen BK150.out 3
                  have hcz32_0 : wc.cell? ⟨gb147, 0, none⟩ = some (.int .i64 a0_0) := (blk_cell BK147.out 0).trans rfl
                  have hcz32_1 : wc.cell? ⟨gb147, 1, none⟩ = some (.int .i64 a0_1) := (blk_cell BK147.out 1).trans rfl
                  have hcz32_2 : wc.cell? ⟨gb147, 2, none⟩ = some (.int .i64 a0_2) := (blk_cell BK147.out 2).trans rfl
                  have hcz32_3 : wc.cell? ⟨gb147, 3, none⟩ = some (.int .i64 a0_3) := (blk_cell BK147.out 3).trans rfl
                  have hcz32_4 : wc.cell? ⟨gb147, 4, none⟩ = some (.int .i64 a0_4) := (blk_cell BK147.out 4).trans rfl
                  have hfz32_0 := blk_frozen BK147.out 0
                  have hfz32_1 := blk_frozen BK147.out 1
                  have hfz32_2 := blk_frozen BK147.out 2
                  have hfz32_3 := blk_frozen BK147.out 3
                  have hfz32_4 := blk_frozen BK147.out 4
                  go_wp2
                  go_meet
                  case rel => exact ⟨_, (Go.bits .or .u64 ((rd_T97 rowsL a0_0).f1.f0) (IntKind.u64.wrap ((IntKind.u64.wrap (a0_1)) * 128))), (by first | rfl | (simp; done) | (simp [*]; done)), H', ⟨by have := HJ13.out; first | omega | exact Nat.le_refl _⟩, ⟨by (with_reducible repeat (first | refine blk_drewN ?_ _ | refine blk_drew ?_ | refine blk_alloc ?_ _)); exact BK147.out⟩, ⟨by (with_reducible repeat (first | refine blk_drewN ?_ _ | refine blk_drew ?_ | refine blk_alloc ?_ _)); exact BK150.out⟩, ⟨by repeat (first | (with_reducible first | exact HB.out | apply below_alloc | apply pw_below_drewN | apply below_drew1 | refine below_set ?_ GE147.out | refine below_set ?_ GE150.out) | exact HB.out)⟩⟩
                · replace c29 := Bool.eq_false_iff.mpr c29
                  subst c29
                  have H1 : (ins_Encode.j1 kj13 (Go.bits .or .u64 (Go.bits .or .u64 (Go.bits .or .u64 (Go.bits .or .u64 ((rd_T97 rowsL a0_0).f1.f0) (IntKind.u64.wrap ((IntKind.u64.wrap (a0_1)) * 128))) (IntKind.u64.wrap (((rd_T97 rowsL a0_0).f1.f1) * 4096))) (IntKind.u64.wrap ((IntKind.u64.wrap (a0_2)) * 32768))) (IntKind.u64.wrap ((IntKind.u64.wrap (a0_3)) * 1048576))) a0_0 a0_1 a0_2 a0_3 a0_4 ((rd_T97 rowsL a0_0).f0) ((rd_T97 rowsL a0_0).f1.f0) ((rd_T97 rowsL a0_0).f1.f1) ((rd_T97 rowsL a0_0).f1.f2)) = some (r1, r2) := by rw [if_neg (show ¬ (false = true) by decide)] at H; exact H
                  clear H
                  have H := H1
                  clear H1
                  have H' := Aside0.mk H
                  clear H
                  go_wp2
                  go_meet
                  case rel => exact ⟨_, ((Go.bits .or .u64 (Go.bits .or .u64 (Go.bits .or .u64 (Go.bits .or .u64 ((rd_T97 rowsL a0_0).f1.f0) (IntKind.u64.wrap ((IntKind.u64.wrap (a0_1)) * 128))) (IntKind.u64.wrap (((rd_T97 rowsL a0_0).f1.f1) * 4096))) (IntKind.u64.wrap ((IntKind.u64.wrap (a0_2)) * 32768))) (IntKind.u64.wrap ((IntKind.u64.wrap (a0_3)) * 1048576)))), (by first | rfl | (simp; done) | (simp [*]; done)), H', ⟨by have := HJ13.out; first | omega | exact Nat.le_refl _⟩, ⟨by (with_reducible repeat (first | refine blk_drewN ?_ _ | refine blk_drew ?_ | refine blk_alloc ?_ _)); exact BK147.out⟩, ⟨by (with_reducible repeat (first | refine blk_drewN ?_ _ | refine blk_drew ?_ | refine blk_alloc ?_ _)); exact BK150.out⟩, ⟨by repeat (first | (with_reducible first | exact HB.out | apply below_alloc | apply pw_below_drewN | apply below_drew1 | refine below_set ?_ GE147.out | refine below_set ?_ GE150.out) | exact HB.out)⟩⟩
              case rest =>
                clear HC28
                try clear c1
                try clear p1
                try clear q1
                try clear hx1
                try clear c2
                try clear p2
                try clear c3
                try clear c4
                try clear c4b0
                try clear c5
                try clear c5b0
                try clear c6
                try clear c6b0
                try clear c6b1
                try clear c12
                try clear p14
                try clear q14
                try clear hx14
                try clear c20
                try clear c23
                try clear c23b0
                try clear c23b1
                try clear c24
                try clear c25
                try clear c26
                try clear c29
                try clear c30
                try clear hcz10_0
                try clear hcz10_1
                try clear hcz10_2
                try clear hcz10_3
                try clear hcz10_4
                try clear hcz13_0
                try clear hcz13_1
                try clear hcz13_2
                try clear hcz13_3
                try clear hcz16_0
                try clear hcz16_1
                try clear hcz16_2
                try clear hcz16_3
                try clear hcz16_4
                try clear hcz18_0
                try clear hcz18_1
                try clear hcz18_2
                try clear hcz18_3
                try clear hcz18_4
                try clear hcz21_0
                try clear hcz21_1
                try clear hcz21_2
                try clear hcz21_3
                try clear hcz22_0
                try clear hcz22_1
                try clear hcz22_2
                try clear hcz22_3
                try clear hcz22_4
                try clear hcz25_0
                try clear hcz25_1
                try clear hcz25_2
                try clear hcz25_3
                try clear hcz27_0
                try clear hcz27_1
                try clear hcz27_2
                try clear hcz27_3
                try clear hcz31_0
                try clear hcz31_1
                try clear hcz31_2
                try clear hcz31_3
                try clear hcz32_0
                try clear hcz32_1
                try clear hcz32_2
                try clear hcz32_3
                try clear hcz32_4
                try clear hcz8_0
                try clear hcz8_1
                try clear hcz8_2
                try clear hcz8_3
                try clear hcz8_4
                try clear hfz10_0
                try clear hfz10_1
                try clear hfz10_2
                try clear hfz10_3
                try clear hfz10_4
                try clear hfz13_0
                try clear hfz13_1
                try clear hfz13_2
                try clear hfz13_3
                try clear hfz16_0
                try clear hfz16_1
                try clear hfz16_2
                try clear hfz16_3
                try clear hfz16_4
                try clear hfz18_0
                try clear hfz18_1
                try clear hfz18_2
                try clear hfz18_3
                try clear hfz18_4
                try clear hfz21_0
                try clear hfz21_1
                try clear hfz21_2
                try clear hfz21_3
                try clear hfz22_0
                try clear hfz22_1
                try clear hfz22_2
                try clear hfz22_3
                try clear hfz22_4
                try clear hfz25_0
                try clear hfz25_1
                try clear hfz25_2
                try clear hfz25_3
                try clear hfz27_0
                try clear hfz27_1
                try clear hfz27_2
                try clear hfz27_3
                try clear hfz31_0
                try clear hfz31_1
                try clear hfz31_2
                try clear hfz31_3
                try clear hfz32_0
                try clear hfz32_1
                try clear hfz32_2
                try clear hfz32_3
                try clear hfz32_4
                try clear hfz8_0
                try clear hfz8_1
                try clear hfz8_2
                try clear hfz8_3
                try clear hfz8_4
                try clear hx149_0
                try clear hx149_1
                try clear hx149_2
                try clear hx149_3
                try clear p1
                try clear p14
                try clear p149
                try clear p2
                try clear q1
                try clear q14
                try clear q149
                obtain ⟨kq, x5_27, rfl, HA, HJ27, BK147, BK150, HB⟩ := hcut
                cases kq with
                | zero => exact absurd HA.out (by simp [ins_Encode.j1])
                | succ kj27 =>
                  have H := HA.out
                  clear HA
                  simp only [ins_Encode.j1] at H
                  have HC33 := Aside0.mk H
                  clear H
                  have hnb34 := NB147_150.out
                  have hnc34 := NB150_147.out
                  have hcz35_0 : wc.cell? ⟨gb147, 0, none⟩ = some (.int .i64 a0_0) := (blk_cell BK147.out 0).trans rfl
                  have hcz35_1 : wc.cell? ⟨gb147, 1, none⟩ = some (.int .i64 a0_1) := (blk_cell BK147.out 1).trans rfl
                  have hcz35_2 : wc.cell? ⟨gb147, 2, none⟩ = some (.int .i64 a0_2) := (blk_cell BK147.out 2).trans rfl
                  have hcz35_3 : wc.cell? ⟨gb147, 3, none⟩ = some (.int .i64 a0_3) := (blk_cell BK147.out 3).trans rfl
                  have hcz35_4 : wc.cell? ⟨gb147, 4, none⟩ = some (.int .i64 a0_4) := (blk_cell BK147.out 4).trans rfl
                  have hfz35_0 := blk_frozen BK147.out 0
                  have hfz35_1 := blk_frozen BK147.out 1
                  have hfz35_2 := blk_frozen BK147.out 2
                  have hfz35_3 := blk_frozen BK147.out 3
                  have hfz35_4 := blk_frozen BK147.out 4
                  go_upto_block 0 with (fail)
                  go_cut [5, 6] (fun v5 v6 wc => ∃ (kq : Nat) (x5_32 : Int) (x6_32 : Int), v5 = .int .u64 x5_32 ∧ v6 = .int .u64 x6_32 ∧ Aside0 (ins_Encode.j2 kq x5_32 x6_32 ((rd_T97 rowsL a0_0).f0) ((rd_T97 rowsL a0_0).f1.f0) ((rd_T97 rowsL a0_0).f1.f1) ((rd_T97 rowsL a0_0).f1.f2) = some (r1, r2)) ∧ Aside0 (kq ≤ kj27) ∧ Aside0 (wc.heap[gb147]? = some (.cells #[.int .i64 a0_0, .int .i64 a0_1, .int .i64 a0_2, .int .i64 a0_3, .int .i64 a0_4] 43 (0, 0))) ∧ Aside0 (wc.heap[gb150]? = some (.cells #[.string ((rd_T97 rowsL a0_0).f0), .int .u64 ((rd_T97 rowsL a0_0).f1.f0), .int .u64 ((rd_T97 rowsL a0_0).f1.f1), .int .u64 ((rd_T97 rowsL a0_0).f1.f2)] 97 (0, 0))) ∧ Aside0 (Below w.heap.size w wc))
                  case first =>
                    have H := HC33.out
                    clear HC33
                    by_cases c36 : ((rd_T97 rowsL a0_0).f0).toList = ([82] : List UInt8)
                    · rw [if_pos c36] at H
                      have c36b0 : (((rd_T97 rowsL a0_0).f0).toList == ([82] : List UInt8)) = true := beq_iff_eq.mpr c36
                      have c36b1 : (((rd_T97 rowsL a0_0).f0).toList != ([82] : List UInt8)) = false := bne_eq_false_iff_eq.mpr c36
                      clear c36
                      (first | rw [c36b0] | (simp only [i64_w, i32_w]; rw [c36b0]) | skip)
                      have H' := Aside0.mk H
                      clear H
                      have hnb37 := NB150_147.out
                      have hnc37 := NB147_150.out
                      have hcz38_0 : wc.cell? ⟨gb150, 0, none⟩ = some (.string ((rd_T97 rowsL a0_0).f0)) := (blk_cell BK150.out 0).trans rfl
                      have hcz38_1 : wc.cell? ⟨gb150, 1, none⟩ = some (.int .u64 ((rd_T97 rowsL a0_0).f1.f0)) := (blk_cell BK150.out 1).trans rfl
                      have hcz38_2 : wc.cell? ⟨gb150, 2, none⟩ = some (.int .u64 ((rd_T97 rowsL a0_0).f1.f1)) := (blk_cell BK150.out 2).trans rfl
                      have hcz38_3 : wc.cell? ⟨gb150, 3, none⟩ = some (.int .u64 ((rd_T97 rowsL a0_0).f1.f2)) := (blk_cell BK150.out 3).trans rfl
                      have hfz38_0 := blk_frozen BK150.out 0
                      have hfz38_1 := blk_frozen BK150.out 1
                      have hfz38_2 := blk_frozen BK150.out 2
                      have hfz38_3 := blk_frozen BK150.out 3
                      go_wp2
                      go_meet
                      case rel => exact ⟨_, (Go.bits .or .u64 x5_27 (IntKind.u64.wrap (((rd_T97 rowsL a0_0).f1.f2) * 33554432))), (IntKind.u64.wrap (a0_4)), (by first | rfl | (simp; done) | (simp [*]; done)), (by first | rfl | (simp; done) | (simp [*]; done)), H', ⟨by have := HJ13.out; have := HJ27.out; first | omega | exact Nat.le_refl _⟩, ⟨by (with_reducible repeat (first | refine blk_drewN ?_ _ | refine blk_drew ?_ | refine blk_alloc ?_ _)); exact BK147.out⟩, ⟨by (with_reducible repeat (first | refine blk_drewN ?_ _ | refine blk_drew ?_ | refine blk_alloc ?_ _)); exact BK150.out⟩, ⟨by repeat (first | (with_reducible first | exact HB.out | apply below_alloc | apply pw_below_drewN | apply below_drew1 | refine below_set ?_ GE147.out | refine below_set ?_ GE150.out) | exact HB.out)⟩⟩
                    · rw [if_neg c36] at H
                      have c36b0 : (((rd_T97 rowsL a0_0).f0).toList == ([82] : List UInt8)) = false := beq_eq_false_iff_ne.mpr c36
                      have c36b1 : (((rd_T97 rowsL a0_0).f0).toList != ([82] : List UInt8)) = true := bne_iff_ne.mpr c36
                      (first | rw [c36b0] | (simp only [i64_w, i32_w]; rw [c36b0]) | skip)
                      replace H := Option.bind_eq_some_iff.mp H
                      obtain ⟨t151, A390, H⟩ := H
                      replace H : (if t151 = true then (ins_Encode.j2 kj27 x5_27 (Go.bits .or .u64 (IntKind.u64.wrap (a0_4)) (IntKind.u64.wrap (((rd_T97 rowsL a0_0).f1.f2) * 64))) ((rd_T97 rowsL a0_0).f0) ((rd_T97 rowsL a0_0).f1.f0) ((rd_T97 rowsL a0_0).f1.f1) ((rd_T97 rowsL a0_0).f1.f2)) else (ins_Encode.j2 kj27 x5_27 (IntKind.u64.wrap (a0_4)) ((rd_T97 rowsL a0_0).f0) ((rd_T97 rowsL a0_0).f1.f0) ((rd_T97 rowsL a0_0).f1.f1) ((rd_T97 rowsL a0_0).f1.f2))) = some (r1, r2) := H
                      have A39 := Aside0.mk A390
                      clear A390
                      by_cases c40 : t151 = true
                      · subst c40
                        have H1 : (ins_Encode.j2 kj27 x5_27 (Go.bits .or .u64 (IntKind.u64.wrap (a0_4)) (IntKind.u64.wrap (((rd_T97 rowsL a0_0).f1.f2) * 64))) ((rd_T97 rowsL a0_0).f0) ((rd_T97 rowsL a0_0).f1.f0) ((rd_T97 rowsL a0_0).f1.f1) ((rd_T97 rowsL a0_0).f1.f2)) = some (r1, r2) := by rw [if_pos rfl] at H; exact H
                        clear H
                        have H := H1
                        clear H1
                        have H' := Aside0.mk H
                        clear H
                        have hnb41 := NB150_147.out
                        have hnc41 := NB147_150.out
                        have hcz42_0 : wc.cell? ⟨gb150, 0, none⟩ = some (.string ((rd_T97 rowsL a0_0).f0)) := (blk_cell BK150.out 0).trans rfl
                        have hcz42_1 : wc.cell? ⟨gb150, 1, none⟩ = some (.int .u64 ((rd_T97 rowsL a0_0).f1.f0)) := (blk_cell BK150.out 1).trans rfl
                        have hcz42_2 : wc.cell? ⟨gb150, 2, none⟩ = some (.int .u64 ((rd_T97 rowsL a0_0).f1.f1)) := (blk_cell BK150.out 2).trans rfl
                        have hcz42_3 : wc.cell? ⟨gb150, 3, none⟩ = some (.int .u64 ((rd_T97 rowsL a0_0).f1.f2)) := (blk_cell BK150.out 3).trans rfl
                        have hfz42_0 := blk_frozen BK150.out 0
                        have hfz42_1 := blk_frozen BK150.out 1
                        have hfz42_2 := blk_frozen BK150.out 2
                        have hfz42_3 := blk_frozen BK150.out 3
                        have hcz43_0 : wc.cell? ⟨gb147, 0, none⟩ = some (.int .i64 a0_0) := (blk_cell BK147.out 0).trans rfl
                        have hcz43_1 : wc.cell? ⟨gb147, 1, none⟩ = some (.int .i64 a0_1) := (blk_cell BK147.out 1).trans rfl
                        have hcz43_2 : wc.cell? ⟨gb147, 2, none⟩ = some (.int .i64 a0_2) := (blk_cell BK147.out 2).trans rfl
                        have hcz43_3 : wc.cell? ⟨gb147, 3, none⟩ = some (.int .i64 a0_3) := (blk_cell BK147.out 3).trans rfl
                        have hcz43_4 : wc.cell? ⟨gb147, 4, none⟩ = some (.int .i64 a0_4) := (blk_cell BK147.out 4).trans rfl
                        have hfz43_0 := blk_frozen BK147.out 0
                        have hfz43_1 := blk_frozen BK147.out 1
                        have hfz43_2 := blk_frozen BK147.out 2
                        have hfz43_3 := blk_frozen BK147.out 3
                        have hfz43_4 := blk_frozen BK147.out 4
                        go_wp2_with (first | ((with_reducible refine gate_callee (f := 54) rfl ?_); refine goesL_ (some 76) rfl rfl Tryd.func54 (by kernel_rfl) rfl #[.int .i64 a0_0] rfl (by (try simp only [List.map_toArray, List.map_cons, List.map_nil]); first | done | rfl | (simp only [List.length_drop, List.length_take]; rfl)) ?_; (with_reducible refine (ins_shift.calls a0_0 true _ A39.out).mono ?_); rintro e w' ⟨rfl, ⟨nd, rfl⟩⟩; refine ⟨_, rfl, ?_⟩))
                        go_meet
                        case rel => exact ⟨_, (x5_27), (Go.bits .or .u64 (IntKind.u64.wrap (a0_4)) (IntKind.u64.wrap (((rd_T97 rowsL a0_0).f1.f2) * 64))), (by first | rfl | (simp; done) | (simp [*]; done)), (by first | rfl | (simp; done) | (simp [*]; done)), H', ⟨by have := HJ13.out; have := HJ27.out; first | omega | exact Nat.le_refl _⟩, ⟨by (with_reducible repeat (first | refine blk_drewN ?_ _ | refine blk_drew ?_ | refine blk_alloc ?_ _)); exact BK147.out⟩, ⟨by (with_reducible repeat (first | refine blk_drewN ?_ _ | refine blk_drew ?_ | refine blk_alloc ?_ _)); exact BK150.out⟩, ⟨by repeat (first | (with_reducible first | exact HB.out | apply below_alloc | apply pw_below_drewN | apply below_drew1 | refine below_set ?_ GE147.out | refine below_set ?_ GE150.out) | exact HB.out)⟩⟩
                      · replace c40 := Bool.eq_false_iff.mpr c40
                        subst c40
                        have H1 : (ins_Encode.j2 kj27 x5_27 (IntKind.u64.wrap (a0_4)) ((rd_T97 rowsL a0_0).f0) ((rd_T97 rowsL a0_0).f1.f0) ((rd_T97 rowsL a0_0).f1.f1) ((rd_T97 rowsL a0_0).f1.f2)) = some (r1, r2) := by rw [if_neg (show ¬ (false = true) by decide)] at H; exact H
                        clear H
                        have H := H1
                        clear H1
                        have H' := Aside0.mk H
                        clear H
                        have hnb44 := NB150_147.out
                        have hnc44 := NB147_150.out
                        have hcz45_0 : wc.cell? ⟨gb150, 0, none⟩ = some (.string ((rd_T97 rowsL a0_0).f0)) := (blk_cell BK150.out 0).trans rfl
                        have hcz45_1 : wc.cell? ⟨gb150, 1, none⟩ = some (.int .u64 ((rd_T97 rowsL a0_0).f1.f0)) := (blk_cell BK150.out 1).trans rfl
                        have hcz45_2 : wc.cell? ⟨gb150, 2, none⟩ = some (.int .u64 ((rd_T97 rowsL a0_0).f1.f1)) := (blk_cell BK150.out 2).trans rfl
                        have hcz45_3 : wc.cell? ⟨gb150, 3, none⟩ = some (.int .u64 ((rd_T97 rowsL a0_0).f1.f2)) := (blk_cell BK150.out 3).trans rfl
                        have hfz45_0 := blk_frozen BK150.out 0
                        have hfz45_1 := blk_frozen BK150.out 1
                        have hfz45_2 := blk_frozen BK150.out 2
                        have hfz45_3 := blk_frozen BK150.out 3
                        have hcz46_0 : wc.cell? ⟨gb147, 0, none⟩ = some (.int .i64 a0_0) := (blk_cell BK147.out 0).trans rfl
                        have hcz46_1 : wc.cell? ⟨gb147, 1, none⟩ = some (.int .i64 a0_1) := (blk_cell BK147.out 1).trans rfl
                        have hcz46_2 : wc.cell? ⟨gb147, 2, none⟩ = some (.int .i64 a0_2) := (blk_cell BK147.out 2).trans rfl
                        have hcz46_3 : wc.cell? ⟨gb147, 3, none⟩ = some (.int .i64 a0_3) := (blk_cell BK147.out 3).trans rfl
                        have hcz46_4 : wc.cell? ⟨gb147, 4, none⟩ = some (.int .i64 a0_4) := (blk_cell BK147.out 4).trans rfl
                        have hfz46_0 := blk_frozen BK147.out 0
                        have hfz46_1 := blk_frozen BK147.out 1
                        have hfz46_2 := blk_frozen BK147.out 2
                        have hfz46_3 := blk_frozen BK147.out 3
                        have hfz46_4 := blk_frozen BK147.out 4
                        go_wp2_with (first | ((with_reducible refine gate_callee (f := 54) rfl ?_); refine goesL_ (some 76) rfl rfl Tryd.func54 (by kernel_rfl) rfl #[.int .i64 a0_0] rfl (by (try simp only [List.map_toArray, List.map_cons, List.map_nil]); first | done | rfl | (simp only [List.length_drop, List.length_take]; rfl)) ?_; (with_reducible refine (ins_shift.calls a0_0 false _ A39.out).mono ?_); rintro e w' ⟨rfl, ⟨nd, rfl⟩⟩; refine ⟨_, rfl, ?_⟩))
                        go_meet
                        case rel => exact ⟨_, (x5_27), (IntKind.u64.wrap (a0_4)), (by first | rfl | (simp; done) | (simp [*]; done)), (by first | rfl | (simp; done) | (simp [*]; done)), H', ⟨by have := HJ13.out; have := HJ27.out; first | omega | exact Nat.le_refl _⟩, ⟨by (with_reducible repeat (first | refine blk_drewN ?_ _ | refine blk_drew ?_ | refine blk_alloc ?_ _)); exact BK147.out⟩, ⟨by (with_reducible repeat (first | refine blk_drewN ?_ _ | refine blk_drew ?_ | refine blk_alloc ?_ _)); exact BK150.out⟩, ⟨by repeat (first | (with_reducible first | exact HB.out | apply below_alloc | apply pw_below_drewN | apply below_drew1 | refine below_set ?_ GE147.out | refine below_set ?_ GE150.out) | exact HB.out)⟩⟩
                  case rest =>
                    clear HC33
                    try clear c1
                    try clear p1
                    try clear q1
                    try clear hx1
                    try clear c2
                    try clear p2
                    try clear c3
                    try clear c4
                    try clear c4b0
                    try clear c5
                    try clear c5b0
                    try clear c6
                    try clear c6b0
                    try clear c6b1
                    try clear c12
                    try clear p14
                    try clear q14
                    try clear hx14
                    try clear c20
                    try clear c23
                    try clear c23b0
                    try clear c23b1
                    try clear c24
                    try clear c25
                    try clear c26
                    try clear c29
                    try clear c30
                    try clear c34
                    try clear c36
                    try clear c36b0
                    try clear c36b1
                    try clear c37
                    try clear c40
                    try clear c41
                    try clear c44
                    try clear hcz10_0
                    try clear hcz10_1
                    try clear hcz10_2
                    try clear hcz10_3
                    try clear hcz10_4
                    try clear hcz13_0
                    try clear hcz13_1
                    try clear hcz13_2
                    try clear hcz13_3
                    try clear hcz16_0
                    try clear hcz16_1
                    try clear hcz16_2
                    try clear hcz16_3
                    try clear hcz16_4
                    try clear hcz18_0
                    try clear hcz18_1
                    try clear hcz18_2
                    try clear hcz18_3
                    try clear hcz18_4
                    try clear hcz21_0
                    try clear hcz21_1
                    try clear hcz21_2
                    try clear hcz21_3
                    try clear hcz22_0
                    try clear hcz22_1
                    try clear hcz22_2
                    try clear hcz22_3
                    try clear hcz22_4
                    try clear hcz25_0
                    try clear hcz25_1
                    try clear hcz25_2
                    try clear hcz25_3
                    try clear hcz27_0
                    try clear hcz27_1
                    try clear hcz27_2
                    try clear hcz27_3
                    try clear hcz31_0
                    try clear hcz31_1
                    try clear hcz31_2
                    try clear hcz31_3
                    try clear hcz32_0
                    try clear hcz32_1
                    try clear hcz32_2
                    try clear hcz32_3
                    try clear hcz32_4
                    try clear hcz35_0
                    try clear hcz35_1
                    try clear hcz35_2
                    try clear hcz35_3
                    try clear hcz35_4
                    try clear hcz38_0
                    try clear hcz38_1
                    try clear hcz38_2
                    try clear hcz38_3
                    try clear hcz42_0
                    try clear hcz42_1
                    try clear hcz42_2
                    try clear hcz42_3
                    try clear hcz43_0
                    try clear hcz43_1
                    try clear hcz43_2
                    try clear hcz43_3
                    try clear hcz43_4
                    try clear hcz45_0
                    try clear hcz45_1
                    try clear hcz45_2
                    try clear hcz45_3
                    try clear hcz46_0
                    try clear hcz46_1
                    try clear hcz46_2
                    try clear hcz46_3
                    try clear hcz46_4
                    try clear hcz8_0
                    try clear hcz8_1
                    try clear hcz8_2
                    try clear hcz8_3
                    try clear hcz8_4
                    try clear hfz10_0
                    try clear hfz10_1
                    try clear hfz10_2
                    try clear hfz10_3
                    try clear hfz10_4
                    try clear hfz13_0
                    try clear hfz13_1
                    try clear hfz13_2
                    try clear hfz13_3
                    try clear hfz16_0
                    try clear hfz16_1
                    try clear hfz16_2
                    try clear hfz16_3
                    try clear hfz16_4
                    try clear hfz18_0
                    try clear hfz18_1
                    try clear hfz18_2
                    try clear hfz18_3
                    try clear hfz18_4
                    try clear hfz21_0
                    try clear hfz21_1
                    try clear hfz21_2
                    try clear hfz21_3
                    try clear hfz22_0
                    try clear hfz22_1
                    try clear hfz22_2
                    try clear hfz22_3
                    try clear hfz22_4
                    try clear hfz25_0
                    try clear hfz25_1
                    try clear hfz25_2
                    try clear hfz25_3
                    try clear hfz27_0
                    try clear hfz27_1
                    try clear hfz27_2
                    try clear hfz27_3
                    try clear hfz31_0
                    try clear hfz31_1
                    try clear hfz31_2
                    try clear hfz31_3
                    try clear hfz32_0
                    try clear hfz32_1
                    try clear hfz32_2
                    try clear hfz32_3
                    try clear hfz32_4
                    try clear hfz35_0
                    try clear hfz35_1
                    try clear hfz35_2
                    try clear hfz35_3
                    try clear hfz35_4
                    try clear hfz38_0
                    try clear hfz38_1
                    try clear hfz38_2
                    try clear hfz38_3
                    try clear hfz42_0
                    try clear hfz42_1
                    try clear hfz42_2
                    try clear hfz42_3
                    try clear hfz43_0
                    try clear hfz43_1
                    try clear hfz43_2
                    try clear hfz43_3
                    try clear hfz43_4
                    try clear hfz45_0
                    try clear hfz45_1
                    try clear hfz45_2
                    try clear hfz45_3
                    try clear hfz46_0
                    try clear hfz46_1
                    try clear hfz46_2
                    try clear hfz46_3
                    try clear hfz46_4
                    try clear hfz8_0
                    try clear hfz8_1
                    try clear hfz8_2
                    try clear hfz8_3
                    try clear hfz8_4
                    try clear hx149_0
                    try clear hx149_1
                    try clear hx149_2
                    try clear hx149_3
                    try clear p1
                    try clear p14
                    try clear p149
                    try clear p2
                    try clear q1
                    try clear q14
                    try clear q149
                    obtain ⟨kq, x5_32, x6_32, rfl, rfl, HA, HJ32, BK147, BK150, HB⟩ := hcut
                    cases kq with
                    | zero => exact absurd HA.out (by simp [ins_Encode.j2])
                    | succ kj32 =>
                      have H := HA.out
                      clear HA
                      simp only [ins_Encode.j2] at H
                      replace H := Option.bind_eq_some_iff.mp H
                      obtain ⟨t152, A470, H⟩ := H
                      replace H : (ins_Encode.l0 kj32 x5_32 x6_32 t152 (t152.length : Int) 0) = some (r1, r2) := H
                      have A47 := Aside0.mk A470
                      clear A470
                      have H' := Aside0.mk H
                      clear H
                      have hnb48 := NB150_147.out
                      have hnc48 := NB147_150.out
                      have hcz49_0 : wc.cell? ⟨gb150, 0, none⟩ = some (.string ((rd_T97 rowsL a0_0).f0)) := (blk_cell BK150.out 0).trans rfl
                      have hcz49_1 : wc.cell? ⟨gb150, 1, none⟩ = some (.int .u64 ((rd_T97 rowsL a0_0).f1.f0)) := (blk_cell BK150.out 1).trans rfl
                      have hcz49_2 : wc.cell? ⟨gb150, 2, none⟩ = some (.int .u64 ((rd_T97 rowsL a0_0).f1.f1)) := (blk_cell BK150.out 2).trans rfl
                      have hcz49_3 : wc.cell? ⟨gb150, 3, none⟩ = some (.int .u64 ((rd_T97 rowsL a0_0).f1.f2)) := (blk_cell BK150.out 3).trans rfl
                      have hfz49_0 := blk_frozen BK150.out 0
                      have hfz49_1 := blk_frozen BK150.out 1
                      have hfz49_2 := blk_frozen BK150.out 2
                      have hfz49_3 := blk_frozen BK150.out 3
                      go_wp2_with (first | ((with_reducible refine gate_callee (f := 55) rfl ?_); refine goesL_ (some 85) rfl rfl Tryd.func55 (by kernel_rfl) rfl #[.string ((rd_T97 rowsL a0_0).f0)] rfl (by (try simp only [List.map_toArray, List.map_cons, List.map_nil]); first | done | rfl | (simp only [List.length_drop, List.length_take]; rfl)) ?_; (with_reducible refine (ins_parts.calls ((rd_T97 rowsL a0_0).f0) t152 _ A47.out).mono ?_); rintro e w50 ⟨v153, rfl, ho0, hb⟩; refine ⟨_, rfl, ?_⟩; have n0_ := Aside0.mk (Kd.R_lower ho0 (below_size (by repeat (first | (with_reducible first | exact HB.out | apply below_alloc | apply pw_below_drewN | apply below_drew1 | refine below_set ?_ GE147.out | refine below_set ?_ GE150.out) | exact HB.out)))); have n1_ := Aside0.mk (blk_below (g := gb147) (o := .cells #[.int .i64 a0_0, .int .i64 a0_1, .int .i64 a0_2, .int .i64 a0_3, .int .i64 a0_4] 43 (0, 0)) (by (with_reducible repeat (first | refine blk_drewN ?_ _ | refine blk_drew ?_ | refine blk_alloc ?_ _)); exact BK147.out) hb); have n2_ := Aside0.mk (blk_below (g := gb150) (o := .cells #[.string ((rd_T97 rowsL a0_0).f0), .int .u64 ((rd_T97 rowsL a0_0).f1.f0), .int .u64 ((rd_T97 rowsL a0_0).f1.f1), .int .u64 ((rd_T97 rowsL a0_0).f1.f2)] 97 (0, 0)) (by (with_reducible repeat (first | refine blk_drewN ?_ _ | refine blk_drew ?_ | refine blk_alloc ?_ _)); exact BK150.out) hb); have n3_ := Aside0.mk (below_step (by repeat (first | (with_reducible first | exact HB.out | apply below_alloc | apply pw_below_drewN | apply below_drew1 | refine below_set ?_ GE147.out | refine below_set ?_ GE150.out) | exact HB.out)) hb); clear BK147; clear BK150; clear HB; have HO154 := n0_; have BK147 := n1_; have BK150 := n2_; have HB := n3_; clear n0_ n1_ n2_ n3_; (try clear hb); (try clear hb2); (try clear hk); (try clear hi); (try clear ho0); obtain ⟨Ao51, co51, eo51⟩ := Kd.R_slice HO154.out; subst eo51))
                      go_loopg [5, 87] kj32 (fun kq v5 v87 w' => ∃ (x5_4 : Int) (x87_4 : Int), v5 = .int .u64 x5_4 ∧ v87 = .int .i64 x87_4 ∧ Aside0 (ins_Encode.l0 kq x5_4 x6_32 t152 (t152.length : Int) x87_4 = some (r1, r2)) ∧ Aside0 (kq ≤ kj32) ∧ Aside0 (Kd.R k103 103 w' w.heap.size (fun _ => True) (.slice Ao51 t152.length co51) t152) ∧ Aside0 (w'.heap[gb147]? = some (.cells #[.int .i64 a0_0, .int .i64 a0_1, .int .i64 a0_2, .int .i64 a0_3, .int .i64 a0_4] 43 (0, 0))) ∧ Aside0 (w'.heap[gb150]? = some (.cells #[.string ((rd_T97 rowsL a0_0).f0), .int .u64 ((rd_T97 rowsL a0_0).f1.f0), .int .u64 ((rd_T97 rowsL a0_0).f1.f1), .int .u64 ((rd_T97 rowsL a0_0).f1.f2)] 97 (0, 0))) ∧ Aside0 (Below w.heap.size w w'))
                      case atStart => exact ⟨(x5_32), (0), (by first | rfl | (simp; done) | (simp [*]; done)), (by first | rfl | (simp; done) | (simp [*]; done)), H', ⟨Nat.le_refl _⟩, ⟨by (with_reducible repeat (first | apply Kd.R_alloc | apply Kd.R_drewN | apply Kd.R_drew)); exact HO154.out⟩, ⟨by (with_reducible repeat (first | refine blk_drewN ?_ _ | refine blk_drew ?_ | refine blk_alloc ?_ _)); exact BK147.out⟩, ⟨by (with_reducible repeat (first | refine blk_drewN ?_ _ | refine blk_drew ?_ | refine blk_alloc ?_ _)); exact BK150.out⟩, ⟨by repeat (first | (with_reducible first | exact HB.out | apply below_alloc | apply pw_below_drewN | apply below_drew1 | refine below_set ?_ GE147.out | refine below_set ?_ GE150.out) | exact HB.out)⟩⟩
                      case round =>
                        clear H'
                        try clear c1
                        try clear p1
                        try clear q1
                        try clear hx1
                        try clear c2
                        try clear p2
                        try clear c3
                        try clear c4
                        try clear c4b0
                        try clear c5
                        try clear c5b0
                        try clear c6
                        try clear c6b0
                        try clear c6b1
                        try clear c12
                        try clear p14
                        try clear q14
                        try clear hx14
                        try clear c20
                        try clear c23
                        try clear c23b0
                        try clear c23b1
                        try clear c24
                        try clear c25
                        try clear c26
                        try clear c29
                        try clear c30
                        try clear c34
                        try clear c36
                        try clear c36b0
                        try clear c36b1
                        try clear c37
                        try clear c40
                        try clear c41
                        try clear c44
                        try clear c48
                        try clear hcz10_0
                        try clear hcz10_1
                        try clear hcz10_2
                        try clear hcz10_3
                        try clear hcz10_4
                        try clear hcz13_0
                        try clear hcz13_1
                        try clear hcz13_2
                        try clear hcz13_3
                        try clear hcz16_0
                        try clear hcz16_1
                        try clear hcz16_2
                        try clear hcz16_3
                        try clear hcz16_4
                        try clear hcz18_0
                        try clear hcz18_1
                        try clear hcz18_2
                        try clear hcz18_3
                        try clear hcz18_4
                        try clear hcz21_0
                        try clear hcz21_1
                        try clear hcz21_2
                        try clear hcz21_3
                        try clear hcz22_0
                        try clear hcz22_1
                        try clear hcz22_2
                        try clear hcz22_3
                        try clear hcz22_4
                        try clear hcz25_0
                        try clear hcz25_1
                        try clear hcz25_2
                        try clear hcz25_3
                        try clear hcz27_0
                        try clear hcz27_1
                        try clear hcz27_2
                        try clear hcz27_3
                        try clear hcz31_0
                        try clear hcz31_1
                        try clear hcz31_2
                        try clear hcz31_3
                        try clear hcz32_0
                        try clear hcz32_1
                        try clear hcz32_2
                        try clear hcz32_3
                        try clear hcz32_4
                        try clear hcz35_0
                        try clear hcz35_1
                        try clear hcz35_2
                        try clear hcz35_3
                        try clear hcz35_4
                        try clear hcz38_0
                        try clear hcz38_1
                        try clear hcz38_2
                        try clear hcz38_3
                        try clear hcz42_0
                        try clear hcz42_1
                        try clear hcz42_2
                        try clear hcz42_3
                        try clear hcz43_0
                        try clear hcz43_1
                        try clear hcz43_2
                        try clear hcz43_3
                        try clear hcz43_4
                        try clear hcz45_0
                        try clear hcz45_1
                        try clear hcz45_2
                        try clear hcz45_3
                        try clear hcz46_0
                        try clear hcz46_1
                        try clear hcz46_2
                        try clear hcz46_3
                        try clear hcz46_4
                        try clear hcz49_0
                        try clear hcz49_1
                        try clear hcz49_2
                        try clear hcz49_3
                        try clear hcz8_0
                        try clear hcz8_1
                        try clear hcz8_2
                        try clear hcz8_3
                        try clear hcz8_4
                        try clear hfz10_0
                        try clear hfz10_1
                        try clear hfz10_2
                        try clear hfz10_3
                        try clear hfz10_4
                        try clear hfz13_0
                        try clear hfz13_1
                        try clear hfz13_2
                        try clear hfz13_3
                        try clear hfz16_0
                        try clear hfz16_1
                        try clear hfz16_2
                        try clear hfz16_3
                        try clear hfz16_4
                        try clear hfz18_0
                        try clear hfz18_1
                        try clear hfz18_2
                        try clear hfz18_3
                        try clear hfz18_4
                        try clear hfz21_0
                        try clear hfz21_1
                        try clear hfz21_2
                        try clear hfz21_3
                        try clear hfz22_0
                        try clear hfz22_1
                        try clear hfz22_2
                        try clear hfz22_3
                        try clear hfz22_4
                        try clear hfz25_0
                        try clear hfz25_1
                        try clear hfz25_2
                        try clear hfz25_3
                        try clear hfz27_0
                        try clear hfz27_1
                        try clear hfz27_2
                        try clear hfz27_3
                        try clear hfz31_0
                        try clear hfz31_1
                        try clear hfz31_2
                        try clear hfz31_3
                        try clear hfz32_0
                        try clear hfz32_1
                        try clear hfz32_2
                        try clear hfz32_3
                        try clear hfz32_4
                        try clear hfz35_0
                        try clear hfz35_1
                        try clear hfz35_2
                        try clear hfz35_3
                        try clear hfz35_4
                        try clear hfz38_0
                        try clear hfz38_1
                        try clear hfz38_2
                        try clear hfz38_3
                        try clear hfz42_0
                        try clear hfz42_1
                        try clear hfz42_2
                        try clear hfz42_3
                        try clear hfz43_0
                        try clear hfz43_1
                        try clear hfz43_2
                        try clear hfz43_3
                        try clear hfz43_4
                        try clear hfz45_0
                        try clear hfz45_1
                        try clear hfz45_2
                        try clear hfz45_3
                        try clear hfz46_0
                        try clear hfz46_1
                        try clear hfz46_2
                        try clear hfz46_3
                        try clear hfz46_4
                        try clear hfz49_0
                        try clear hfz49_1
                        try clear hfz49_2
                        try clear hfz49_3
                        try clear hfz8_0
                        try clear hfz8_1
                        try clear hfz8_2
                        try clear hfz8_3
                        try clear hfz8_4
                        try clear hx149_0
                        try clear hx149_1
                        try clear hx149_2
                        try clear hx149_3
                        try clear p1
                        try clear p14
                        try clear p149
                        try clear p2
                        try clear q1
                        try clear q14
                        try clear q149
                        obtain ⟨x5_4, x87_4, rfl, rfl, HA, HK4, HO_85, BK147, BK150, HB⟩ := hrel
                        cases gk with
                        | zero => exact absurd HA.out (by simp [ins_Encode.l0])
                        | succ k4 =>
                          have H := HA.out
                          clear HA
                          simp only [ins_Encode.l0] at H
                          by_cases c52 : x87_4 < (t152.length : Int)
                          · rw [if_pos c52] at H
                            have c52b0 : decide (x87_4 < (t152.length : Int)) = true := decide_eq_true c52
                            clear c52
                            by_cases c53 : 0 ≤ x87_4
                            · rw [if_pos c53] at H
                              have c53b0 : decide (0 ≤ x87_4) = true := decide_eq_true c53
                              clear c53
                              by_cases c54 : x87_4 < (t152.length : Int)
                              · rw [if_pos c54] at H
                                have c54b0 : decide (x87_4 < (t152.length : Int)) = true := decide_eq_true c54
                                clear c54
                                replace H := Option.bind_eq_some_iff.mp H
                                obtain ⟨⟨t157, t158⟩, A550, H⟩ := H
                                replace H : ((bits_Put.f x5_4 ((rd_T103 t152 x87_4).f2) ((rd_T103 t152 x87_4).f1) t157).bind fun bt159 => (ins_Encode.l0 k4 bt159.1 x6_32 t152 (t152.length : Int) (wrap64 (x87_4 + 1)))) = some (r1, r2) := H
                                have A55 := Aside0.mk A550
                                clear A550
                                replace H := Option.bind_eq_some_iff.mp H
                                obtain ⟨⟨t159, t160⟩, A560, H⟩ := H
                                replace H : (ins_Encode.l0 k4 t159 x6_32 t152 (t152.length : Int) (wrap64 (x87_4 + 1))) = some (r1, r2) := H
                                have A56 := Aside0.mk A560
                                clear A560
                                have H' := Aside0.mk H
                                clear H
                                have p155 : 0 ≤ (x87_4 : Int) := of_decide_eq_true (by first | (with_reducible assumption) | assumption)
                                have q155 : x87_4 < (t152.length : Int) := of_decide_eq_true (by first | (with_reducible assumption) | assumption)
                                obtain ⟨ad155, e155, hx155_0, hx155_1, hx155_2⟩ := at_T103 (Kd.R_reads' HO_85.out).2.2 x87_4 p155 q155
                                cases e155
                                replace p155 := eq_true p155
                                replace q155 := eq_true q155
                                go_wp2_with (first | ((with_reducible refine gate_dst (N := 8) rfl ?_); refine box_event ?hg (N := 8) ?hd (cs := #[.int .i64 0, .int .i64 0, .int .i64 0]) (t := 103) ?hr ?_; (case hd => rfl); (case hg => rfl); (case hr => first | (go_simp; done) | (go_simp; rfl)); intro gb156 hg w57 hbox hb; have n0_ := Aside0.mk (Kd.R_below (Kd.R_elderB (by (with_reducible repeat (first | apply Kd.R_alloc | apply Kd.R_drewN | apply Kd.R_drew)); exact HO_85.out) gb156 (Nat.le_of_eq hg.symm)) hb); have n1_ := Aside0.mk (blk_below (g := gb147) (o := .cells #[.int .i64 a0_0, .int .i64 a0_1, .int .i64 a0_2, .int .i64 a0_3, .int .i64 a0_4] 43 (0, 0)) (by (with_reducible repeat (first | refine blk_drewN ?_ _ | refine blk_drew ?_ | refine blk_alloc ?_ _)); exact BK147.out) hb); have n2_ := Aside0.mk (blk_below (g := gb150) (o := .cells #[.string ((rd_T97 rowsL a0_0).f0), .int .u64 ((rd_T97 rowsL a0_0).f1.f0), .int .u64 ((rd_T97 rowsL a0_0).f1.f1), .int .u64 ((rd_T97 rowsL a0_0).f1.f2)] 97 (0, 0)) (by (with_reducible repeat (first | refine blk_drewN ?_ _ | refine blk_drew ?_ | refine blk_alloc ?_ _)); exact BK150.out) hb); have n3_ := Aside0.mk (below_step (by repeat (first | (with_reducible first | exact HB.out | apply below_alloc | apply pw_below_drewN | apply below_drew1 | refine below_set ?_ GE147.out | refine below_set ?_ GE150.out) | exact HB.out)) hb); have n4_ := Aside0.mk (hbox); have n5_ := Aside0.mk ((by rw [hg]; exact (below_size (by repeat (first | (with_reducible first | exact HB.out | apply below_alloc | apply pw_below_drewN | apply below_drew1 | refine below_set ?_ GE147.out | refine below_set ?_ GE150.out) | exact HB.out))) : w.heap.size ≤ gb156)); have n6_ := Aside0.mk ((by rw [hg]; exact (below_size (by repeat (first | (with_reducible first | exact HB.out | apply below_alloc | apply pw_below_drewN | apply below_drew1 | refine below_set ?_ GE147.out | refine below_set ?_ GE150.out) | exact HB.out))) : w.heap.size ≤ gb156)); have n7_ := Aside0.mk ((by rw [hg]; exact Nat.ne_of_lt (blk_lt (g := gb147) (o := .cells #[.int .i64 a0_0, .int .i64 a0_1, .int .i64 a0_2, .int .i64 a0_3, .int .i64 a0_4] 43 (0, 0)) (by (with_reducible repeat (first | refine blk_drewN ?_ _ | refine blk_drew ?_ | refine blk_alloc ?_ _)); exact BK147.out)) : gb147 ≠ gb156)); have n8_ := Aside0.mk ((by rw [hg]; exact Nat.ne_of_gt (blk_lt (g := gb147) (o := .cells #[.int .i64 a0_0, .int .i64 a0_1, .int .i64 a0_2, .int .i64 a0_3, .int .i64 a0_4] 43 (0, 0)) (by (with_reducible repeat (first | refine blk_drewN ?_ _ | refine blk_drew ?_ | refine blk_alloc ?_ _)); exact BK147.out)) : gb156 ≠ gb147)); have n9_ := Aside0.mk ((by rw [hg]; exact Nat.ne_of_lt (blk_lt (g := gb150) (o := .cells #[.string ((rd_T97 rowsL a0_0).f0), .int .u64 ((rd_T97 rowsL a0_0).f1.f0), .int .u64 ((rd_T97 rowsL a0_0).f1.f1), .int .u64 ((rd_T97 rowsL a0_0).f1.f2)] 97 (0, 0)) (by (with_reducible repeat (first | refine blk_drewN ?_ _ | refine blk_drew ?_ | refine blk_alloc ?_ _)); exact BK150.out)) : gb150 ≠ gb156)); have n10_ := Aside0.mk ((by rw [hg]; exact Nat.ne_of_gt (blk_lt (g := gb150) (o := .cells #[.string ((rd_T97 rowsL a0_0).f0), .int .u64 ((rd_T97 rowsL a0_0).f1.f0), .int .u64 ((rd_T97 rowsL a0_0).f1.f1), .int .u64 ((rd_T97 rowsL a0_0).f1.f2)] 97 (0, 0)) (by (with_reducible repeat (first | refine blk_drewN ?_ _ | refine blk_drew ?_ | refine blk_alloc ?_ _)); exact BK150.out)) : gb156 ≠ gb150)); clear HO_85; clear BK147; clear BK150; clear HB; have HO_85 := n0_; have BK147 := n1_; have BK150 := n2_; have HB := n3_; have BK156 := n4_; have GW156 := n5_; have GE156 := n6_; have NB147_156 := n7_; have NB156_147 := n8_; have NB150_156 := n9_; have NB156_150 := n10_; clear n0_ n1_ n2_ n3_ n4_ n5_ n6_ n7_ n8_ n9_ n10_; clear hb hbox hg; have hnb58 := NB156_147.out; have hnc58 := NB147_156.out; have hnb59 := NB156_150.out; have hnc59 := NB150_156.out; have hcz60_0 : w57.cell? ⟨gb156, 0, none⟩ = some (.int .i64 0) := (blk_cell BK156.out 0).trans rfl; have hcz60_1 : w57.cell? ⟨gb156, 1, none⟩ = some (.int .i64 0) := (blk_cell BK156.out 1).trans rfl; have hcz60_2 : w57.cell? ⟨gb156, 2, none⟩ = some (.int .i64 0) := (blk_cell BK156.out 2).trans rfl; have hfz60_0 := blk_frozen BK156.out 0; have hfz60_1 := blk_frozen BK156.out 1; have hfz60_2 := blk_frozen BK156.out 2) | ((with_reducible refine gate_callee (f := 56) rfl ?_); refine goesL_ (some 97) rfl rfl Tryd.func56 (by kernel_rfl) rfl #[.int .u64 x6_32, .int .i64 ((rd_T103 t152 x87_4).f0), .int .i64 ((rd_T103 t152 x87_4).f1)] rfl (by (try simp only [List.map_toArray, List.map_cons, List.map_nil]); first | done | rfl | (simp only [List.length_drop, List.length_take]; rfl)) ?_; (with_reducible refine (bits_Field.calls x6_32 ((rd_T103 t152 x87_4).f0) ((rd_T103 t152 x87_4).f1) t157 t158 _ A55.out).mono ?_); rintro e w' ⟨rfl, ⟨nd, rfl⟩⟩; refine ⟨_, rfl, ?_⟩) | ((with_reducible refine gate_callee (f := 57) rfl ?_); refine goesL_ (some 107) rfl rfl Tryd.func57 (by kernel_rfl) rfl #[.int .u64 x5_4, .int .i64 ((rd_T103 t152 x87_4).f2), .int .i64 ((rd_T103 t152 x87_4).f1), .int .u64 t157] rfl (by (try simp only [List.map_toArray, List.map_cons, List.map_nil]); first | done | rfl | (simp only [List.length_drop, List.length_take]; rfl)) ?_; (with_reducible refine (bits_Put.calls x5_4 ((rd_T103 t152 x87_4).f2) ((rd_T103 t152 x87_4).f1) t157 t159 t160 _ A56.out).mono ?_); rintro e w' ⟨rfl, ⟨nd, rfl⟩⟩; refine ⟨_, rfl, ?_⟩))
                                go_roundg k4
                                case measure => have := HJ13.out; have := HJ27.out; have := HJ32.out; have := HK4.out; omega
                                case rel => exact ⟨(t159), (wrap64 (x87_4 + 1)), (by first | rfl | (simp; done) | (simp [*]; done)), (by first | rfl | (simp; done) | (simp [*]; done)), H', ⟨by have := HJ13.out; have := HJ27.out; have := HJ32.out; have := HK4.out; omega⟩, ⟨by (with_reducible repeat (first | apply Kd.R_alloc | apply Kd.R_drewN | apply Kd.R_drew)); exact Kd.R_mono (Kd.R_far (p := ⟨gb156, 2, none⟩) (Kd.R_far (p := ⟨gb156, 1, none⟩) (Kd.R_far (p := ⟨gb156, 0, none⟩) (Kd.R_mono HO_85.out (fun k_ hk => (⟨hk, hk.2⟩ : _ ∧ k_ ≠ gb156))) (fun _ hk => hk.2) (.int .i64 ((rd_T103 t152 x87_4).f0))) (fun _ hk => hk.2) (.int .i64 ((rd_T103 t152 x87_4).f1))) (fun _ hk => hk.2) (.int .i64 ((rd_T103 t152 x87_4).f2))) (fun _ hk => trivial)⟩, ⟨by (with_reducible repeat (first | refine blk_drewN ?_ _ | refine blk_drew ?_ | refine blk_alloc ?_ _)); refine blk_far ?_ NB147_156.out _; (with_reducible repeat (first | refine blk_drewN ?_ _ | refine blk_drew ?_ | refine blk_alloc ?_ _)); refine blk_far ?_ NB147_156.out _; (with_reducible repeat (first | refine blk_drewN ?_ _ | refine blk_drew ?_ | refine blk_alloc ?_ _)); refine blk_far ?_ NB147_156.out _; (with_reducible repeat (first | refine blk_drewN ?_ _ | refine blk_drew ?_ | refine blk_alloc ?_ _)); exact BK147.out⟩, ⟨by (with_reducible repeat (first | refine blk_drewN ?_ _ | refine blk_drew ?_ | refine blk_alloc ?_ _)); refine blk_far ?_ NB150_156.out _; (with_reducible repeat (first | refine blk_drewN ?_ _ | refine blk_drew ?_ | refine blk_alloc ?_ _)); refine blk_far ?_ NB150_156.out _; (with_reducible repeat (first | refine blk_drewN ?_ _ | refine blk_drew ?_ | refine blk_alloc ?_ _)); refine blk_far ?_ NB150_156.out _; (with_reducible repeat (first | refine blk_drewN ?_ _ | refine blk_drew ?_ | refine blk_alloc ?_ _)); exact BK150.out⟩, ⟨by repeat (first | (with_reducible first | exact HB.out | apply below_alloc | apply pw_below_drewN | apply below_drew1 | refine below_set ?_ GE147.out | refine below_set ?_ GE150.out | refine below_set ?_ GE156.out) | exact HB.out)⟩⟩
                              · rw [if_neg c54] at H
                                exact absurd H (by simp)
                            · rw [if_neg c53] at H
                              exact absurd H (by simp)
                          · rw [if_neg c52] at H
                            have c52b0 : decide (x87_4 < (t152.length : Int)) = false := decide_eq_false c52
                            clear c52
                            simp only [Option.some.injEq, Prod.mk.injEq] at H
                            obtain ⟨rfl, rfl⟩ := H
                            go_wp2
                            go_ret2
                            exact ⟨by first | rfl | (simp [errW_none, errW_some] <;> rfl) | (simp [*, errW_none, errW_some] <;> rfl), by repeat (first | (with_reducible first | exact HB.out | apply below_alloc | apply pw_below_drewN | apply below_drew1 | refine below_set ?_ GE147.out | refine below_set ?_ GE150.out) | exact HB.out)⟩
      · rw [if_neg c5] at H
        exact absurd H (by simp)
    · rw [if_neg c4] at H
      exact absurd H (by simp)
  · replace c3 := Bool.eq_false_iff.mpr c3
    subst c3
    have H1 : (some (0, 1)) = some (r1, r2) := by rw [if_neg (show ¬ (false = true) by decide)] at H; exact H
    clear H
    have H := H1
    clear H1
    simp only [Option.some.injEq, Prod.mk.injEq] at H
    obtain ⟨rfl, rfl⟩ := H
    go_enter Tryd.func25, Tryd.ntmps25
    go_wp2_with (first | ((with_reducible refine gate_dst (N := 1) rfl ?_); refine box_event ?hg (N := 1) ?hd (cs := #[.int .i64 a0_0, .int .i64 a0_1, .int .i64 a0_2, .int .i64 a0_3, .int .i64 a0_4]) (t := 43) ?hr ?_; (case hd => rfl); (case hg => rfl); (case hr => first | (go_simp; done) | (go_simp; rfl)); intro gb147 hg w61 hbox hb; have n0_ := Aside0.mk (below_step (by repeat (first | (with_reducible first | exact HB.out | apply below_alloc | apply pw_below_drewN | apply below_drew1) | exact HB.out)) hb); have n1_ := Aside0.mk (hbox); have n2_ := Aside0.mk ((by rw [hg]; exact (below_size (by repeat (first | (with_reducible first | exact HB.out | apply below_alloc | apply pw_below_drewN | apply below_drew1) | exact HB.out))) : w.heap.size ≤ gb147)); have n3_ := Aside0.mk ((by rw [hg]; exact (below_size (by repeat (first | (with_reducible first | exact HB.out | apply below_alloc | apply pw_below_drewN | apply below_drew1) | exact HB.out))) : w.heap.size ≤ gb147)); clear HB; have HB := n0_; have BK147 := n1_; have GW147 := n2_; have GE147 := n3_; clear n0_ n1_ n2_ n3_; clear hb hbox hg; have hcz62_0 : w61.cell? ⟨gb147, 0, none⟩ = some (.int .i64 a0_0) := (blk_cell BK147.out 0).trans rfl; have hcz62_1 : w61.cell? ⟨gb147, 1, none⟩ = some (.int .i64 a0_1) := (blk_cell BK147.out 1).trans rfl; have hcz62_2 : w61.cell? ⟨gb147, 2, none⟩ = some (.int .i64 a0_2) := (blk_cell BK147.out 2).trans rfl; have hcz62_3 : w61.cell? ⟨gb147, 3, none⟩ = some (.int .i64 a0_3) := (blk_cell BK147.out 3).trans rfl; have hcz62_4 : w61.cell? ⟨gb147, 4, none⟩ = some (.int .i64 a0_4) := (blk_cell BK147.out 4).trans rfl; have hfz62_0 := blk_frozen BK147.out 0; have hfz62_1 := blk_frozen BK147.out 1; have hfz62_2 := blk_frozen BK147.out 2; have hfz62_3 := blk_frozen BK147.out 3; have hfz62_4 := blk_frozen BK147.out 4) | ((with_reducible refine gate_callee (f := 53) rfl ?_); refine goesL_ (some 12) rfl rfl Tryd.func53 (by kernel_rfl) rfl #[.agg #[.int .i64 a0_0, .int .i64 a0_1, .int .i64 a0_2, .int .i64 a0_3, .int .i64 a0_4]] rfl (by (try simp only [List.map_toArray, List.map_cons, List.map_nil]); first | done | rfl | (simp only [List.length_drop, List.length_take]; rfl)) ?_; (with_reducible refine (ins_May.calls k a0_0 a0_1 a0_2 a0_3 a0_4 false _ A2.out ?side1).mono ?_); (case side1 => (with_reducible first | exact hG | exact GlobOk.drewN hG _ | exact GlobOk.drew hG | (refine GlobOk.of_below hG ?_; repeat (first | (with_reducible first | exact HB.out | apply below_alloc | apply pw_below_drewN | apply below_drew1 | refine below_set ?_ GE147.out) | exact HB.out)))); rintro e w63 ⟨rfl, hb⟩; refine ⟨_, rfl, ?_⟩; have n0_ := Aside0.mk (blk_below (g := gb147) (o := .cells #[.int .i64 a0_0, .int .i64 a0_1, .int .i64 a0_2, .int .i64 a0_3, .int .i64 a0_4] 43 (0, 0)) (by (with_reducible repeat (first | refine blk_drewN ?_ _ | refine blk_drew ?_ | refine blk_alloc ?_ _)); exact BK147.out) hb); have n1_ := Aside0.mk (below_step (by repeat (first | (with_reducible first | exact HB.out | apply below_alloc | apply pw_below_drewN | apply below_drew1 | refine below_set ?_ GE147.out) | exact HB.out)) hb); clear BK147; clear HB; have BK147 := n0_; have HB := n1_; clear n0_ n1_; (try clear hb); (try clear hb2); (try clear hk); (try clear hi)))
    go_ret2
    exact ⟨by first | rfl | (simp [errW_none, errW_some] <;> rfl) | (simp [*, errW_none, errW_some] <;> rfl), by repeat (first | (with_reducible first | exact HB.out | apply below_alloc | apply pw_below_drewN | apply below_drew1 | refine below_set ?_ GE147.out) | exact HB.out)⟩
end Go.Proofs.YtaoajlaocphgdaaDoor.PA
end
section
namespace Go.Proofs.YtaoajlaocphgdaaDoor.PA
open Go.RowKit Go.Proofs.YtaoajlaocphgdaaDoorW.PrintWords Go.Proofs.YtaoajlaocphgdaaDoorW.PrintLast Go.Proofs.YtaoajlaocphgdaaDoorW.PrintMore
set_option linter.unusedVariables false
set_option linter.unusedSimpArgs false
def mayGo : List S25 → Int → Bool → Bool
  | [], _, fin => fin
  | r :: t, last, fin => if r.f0 < last then false else if r.f0 ≥ r.f1 then false else if Int.tmod (Go.bits .or .u64 r.f0 r.f1) 8 = 0 then (if r.f1 > 1073741824 then false else if IntKind.u64.wrap (r.f1 - r.f0) > 65536 then false else mayGo t r.f1 fin) else false
def LayV.regions (l : LayV) : List S25 := [⟨l.a0, l.a1, l.a2, l.a3⟩, ⟨l.a4, l.a5, l.a6, l.a7⟩, ⟨l.a8, l.a9, l.a10, l.a11⟩, ⟨l.a12, l.a13, l.a14, l.a15⟩, ⟨l.a16, l.a17, l.a18, l.a19⟩]
def mayL (l : LayV) : Bool := mayGo l.regions 0 (if IntKind.u64.wrap (l.a5 - l.a4) ≥ 16 then decide (IntKind.u64.wrap (l.a9 - l.a8) ≥ 16) else false)
theorem may_l0 (xs : List S25) (hx : xs.length ≤ 5) (l : LayV) : ∀ (n : Nat) (i : Nat) (last : Int) (k : Nat), xs.length = i + n → n < k →
    wrap_May.l0 k last xs xs.length i l.a0 l.a1 l.a2 l.a3 l.a4 l.a5 l.a6 l.a7 l.a8 l.a9 l.a10 l.a11 l.a12 l.a13 l.a14 l.a15 l.a16 l.a17 l.a18 l.a19 = some (mayGo (xs.drop i) last (if IntKind.u64.wrap (l.a5 - l.a4) ≥ 16 then decide (IntKind.u64.wrap (l.a9 - l.a8) ≥ 16) else false)) := by
  intro n
  induction n with
  | zero =>
    intro i last k hn hk
    obtain ⟨k, rfl⟩ : ∃ k', k = k' + 1 := ⟨k - 1, by omega⟩
    rw [wrap_May.l0, if_neg (by omega), List.drop_eq_nil_of_le (by omega)]
    simp only [mayGo]
    split <;> rfl
  | succ n ih =>
    intro i last k hn hk
    obtain ⟨k, rfl⟩ : ∃ k', k = k' + 1 := ⟨k - 1, by omega⟩
    have hlt : i < xs.length := by omega
    have hd : xs.drop i = xs[i] :: xs.drop (i + 1) := List.drop_eq_getElem_cons hlt
    have hr : rd_T25 xs (i : Int) = xs[i] := by
      simp [rd_T25, List.getD_eq_getElem?_getD, List.getElem?_eq_getElem hlt]
    have hw : wrap64 ((i : Int) + 1) = ((i + 1 : Nat) : Int) := by
      rw [show (i : Int) + 1 = ((i + 1 : Nat) : Int) from by omega]
      exact IntWalk.wrap64_in _ (by omega)
    rw [wrap_May.l0, if_pos (by omega), if_pos (by omega), if_pos (by omega), hr, hd, hw]
    simp only [mayGo]
    rw [ih (i + 1) _ k (by omega) (by omega)]
    repeat' split
    all_goals rfl
theorem may_f (l : LayV) (k : Nat) (hk : 6 ≤ k) : wrap_May.f k l.a0 l.a1 l.a2 l.a3 l.a4 l.a5 l.a6 l.a7 l.a8 l.a9 l.a10 l.a11 l.a12 l.a13 l.a14 l.a15 l.a16 l.a17 l.a18 l.a19 = some (mayL l) := by
  unfold wrap_May.f
  exact may_l0 l.regions (Nat.le_refl 5) l 5 0 0 k rfl (by omega)
theorem mayGo_cons {r : S25} {t : List S25} {last : Int} {fin : Bool} (h : mayGo (r :: t) last fin = true) : last ≤ r.f0 ∧ r.f0 < r.f1 ∧ r.f1 ≤ 1073741824 ∧ Int.tmod (Go.bits .or .u64 r.f0 r.f1) 8 = 0 ∧ IntKind.u64.wrap (r.f1 - r.f0) ≤ 65536 ∧ mayGo t r.f1 fin = true := by
  simp only [mayGo] at h
  split at h
  · cases h
  · split at h
    · cases h
    · split at h
      · split at h
        · cases h
        · split at h
          · cases h
          · exact ⟨by omega, by omega, by omega, by assumption, by omega, h⟩
      · cases h
theorem mayL_ok {l : LayV} (h : mayL l = true) : LayOk l ∧ 16 ≤ l.a5 - l.a4 ∧ 0 ≤ l.a12 ∧ l.a12 < l.a13 := by
  unfold mayL LayV.regions at h
  obtain ⟨a1, a2, a3, _, _, h⟩ := mayGo_cons h
  obtain ⟨b1, b2, b3, _, _, h⟩ := mayGo_cons h
  obtain ⟨c1, c2, c3, _, _, h⟩ := mayGo_cons h
  obtain ⟨d1, d2, d3, _, _, h⟩ := mayGo_cons h
  obtain ⟨e1, e2, e3, _, _, h⟩ := mayGo_cons h
  simp only [mayGo] at h a1 a2 a3 b1 b2 b3 c1 c2 c3 d1 d2 d3 e1 e2 e3
  split at h
  · rename_i h5
    rw [IntWalk.u64_in (l.a5 - l.a4) (by omega)] at h5
    exact ⟨⟨by omega, by omega, by omega, by omega, by omega, by omega⟩, by omega, by omega, by omega⟩
  · cases h
theorem bits_may_some (a b : Int) : ∃ r, bits_may.f a b = some r := by
  unfold bits_may.f
  repeat' split
  all_goals exact ⟨_, rfl⟩
theorem bits_mask_some (a : Int) (h : 0 ≤ a) : ∃ r, bits_mask.f a = some r := by unfold bits_mask.f; rw [if_pos h]; exact ⟨_, rfl⟩
theorem bits_may_pos {a b : Int} (h : bits_may.f a b = some true) : 0 ≤ a ∧ 0 ≤ b := by
  unfold bits_may.f at h
  repeat' split at h
  all_goals first | (cases h; done) | exact ⟨by omega, by omega⟩ | simp at h
theorem bits_Field_some (x a b : Int) : ∃ r, bits_Field.f x a b = some r := by
  unfold bits_Field.f
  obtain ⟨r, hr⟩ := bits_may_some a b
  rw [hr]
  simp only [Option.bind_some]
  cases r with
  | false => exact ⟨_, rfl⟩
  | true =>
    obtain ⟨h1, h2⟩ := bits_may_pos hr
    obtain ⟨m, hm⟩ := bits_mask_some b h2
    rw [if_pos rfl, if_pos h1, hm]
    exact ⟨_, rfl⟩
theorem bits_Put_some (x a b y : Int) : ∃ r, bits_Put.f x a b y = some r := by
  unfold bits_Put.f
  obtain ⟨r, hr⟩ := bits_may_some a b
  rw [hr]
  simp only [Option.bind_some]
  cases r with
  | false => exact ⟨_, rfl⟩
  | true =>
    obtain ⟨h1, h2⟩ := bits_may_pos hr
    obtain ⟨m, hm⟩ := bits_mask_some b h2
    rw [if_pos rfl, hm]
    simp only [Option.bind_some]
    rw [if_pos h1]
    exact ⟨_, rfl⟩
theorem bits_Sign_some (x n : Int) : ∃ r, bits_Sign.f x n = some r := by
  unfold bits_Sign.f
  split
  · exact ⟨_, rfl⟩
  · split
    · exact ⟨_, rfl⟩
    · rw [if_pos (by rw [IntWalk.wrap64_in _ (by omega)]; omega)]
      exact ⟨_, rfl⟩
theorem bits_Fits_some (x n : Int) : ∃ r, bits_Fits.f x n = some r := by
  unfold bits_Fits.f
  obtain ⟨r, hr⟩ := bits_Sign_some (IntKind.u64.wrap x) n
  rw [hr]
  repeat' split
  all_goals exact ⟨_, rfl⟩
theorem bits_FitsU_some (x n : Int) : ∃ r, bits_FitsU.f x n = some r := by
  unfold bits_FitsU.f
  split
  · split
    · obtain ⟨r, hr⟩ := bits_mask_some n (by omega)
      rw [hr]
      exact ⟨_, rfl⟩
    · exact ⟨_, rfl⟩
  · exact ⟨_, rfl⟩
theorem ins_shift_some (x : Int) : ∃ r, ins_shift.f x = some r := by
  unfold ins_shift.f
  repeat' split
  all_goals exact ⟨_, rfl⟩
theorem ins_reg_some (x : Int) (b : Bool) : ∃ r, ins_reg.f x b = some r := by
  unfold ins_reg.f
  repeat' split
  all_goals exact ⟨_, rfl⟩
theorem ins_has_some (k : Nat) (f : ByteArray) : ∃ r, ins_has.f (k + 1) f = some r := by
  simp only [ins_has.f, ins_has.j0]
  repeat' split
  all_goals exact ⟨_, rfl⟩
theorem ins_Form_some (x : Int) : ∃ r, ins_Form.f x = some r ∧ ((x < 0 ∨ 42 < x) → r.toList = []) := by
  unfold ins_Form.f
  split
  · exact ⟨_, rfl, fun _ => by rw [ByteArray.toList, ByteArray.toList.loop]; rfl⟩
  · split
    · exact ⟨_, rfl, fun _ => by rw [ByteArray.toList, ByteArray.toList.loop]; rfl⟩
    · rw [if_pos (by omega), if_pos (by omega)]
      exact ⟨_, rfl, fun h => by omega⟩
theorem ins_imm_some (a b c d e : Int) (h : 0 ≤ a ∧ a < 43) : ∃ r, ins_imm.f a b c d e = some r := by
  unfold ins_imm.f
  rw [if_pos h.1, if_pos h.2]
  obtain ⟨r1, h1⟩ := ins_shift_some a
  obtain ⟨r2, h2⟩ := bits_FitsU_some (IntKind.u64.wrap e) 6
  obtain ⟨r3, h3⟩ := bits_Fits_some e 12
  obtain ⟨r4, h4⟩ := bits_Fits_some e 13
  obtain ⟨r5, h5⟩ := bits_Fits_some e 32
  obtain ⟨r6, h6⟩ := bits_Fits_some e 21
  rw [h1, h2, h3, h4, h5, h6]
  simp only [Option.bind_some]
  repeat' split
  all_goals exact ⟨_, rfl⟩
theorem ins_May_some (k : Nat) (a b c d e : Int) : ∃ r, ins_May.f (k + 1) a b c d e = some r ∧ (r = true → 0 ≤ a ∧ a < 43) := by
  unfold ins_May.f
  obtain ⟨f, hf, hfe⟩ := ins_Form_some a
  obtain ⟨g, hg⟩ := ins_has_some k f
  rw [hf]
  simp only [Option.bind_some, hg]
  split
  · exact ⟨_, rfl, fun h => by cases h⟩
  · rename_i hne
    have hb : 0 ≤ a ∧ a < 43 := by
      apply Classical.byContradiction
      intro hn
      exact hne (hfe (by omega))
    obtain ⟨r1, h1⟩ := ins_reg_some b g.1
    obtain ⟨r2, h2⟩ := ins_reg_some c g.2.1
    obtain ⟨r3, h3⟩ := ins_reg_some d g.2.2
    obtain ⟨r4, h4⟩ := ins_imm_some a b c d e hb
    rw [h1, h2, h3, h4]
    simp only [Option.bind_some]
    repeat' split
    all_goals exact ⟨_, rfl, fun _ => hb⟩
theorem ins_parts_some (f : ByteArray) : ∃ r, ins_parts.f f = some r ∧ r.length ≤ 4 := by
  unfold ins_parts.f
  repeat' split
  all_goals exact ⟨_, rfl, by simp⟩
theorem encode_l0 (y : Int) (xs : List S103) (hx : xs.length ≤ 4) : ∀ (n i k : Nat) (w : Int), xs.length = i + n → n < k → ∃ r, ins_Encode.l0 k w y xs xs.length i = some r := by
  intro n
  induction n with
  | zero =>
    intro i k w hn hk
    obtain ⟨k, rfl⟩ : ∃ k', k = k' + 1 := ⟨k - 1, by omega⟩
    rw [ins_Encode.l0, if_neg (by omega)]
    exact ⟨_, rfl⟩
  | succ n ih =>
    intro i k w hn hk
    obtain ⟨k, rfl⟩ : ∃ k', k = k' + 1 := ⟨k - 1, by omega⟩
    have hw : wrap64 ((i : Int) + 1) = ((i + 1 : Nat) : Int) := by
      rw [show (i : Int) + 1 = ((i + 1 : Nat) : Int) from by omega]
      exact IntWalk.wrap64_in _ (by omega)
    rw [ins_Encode.l0, if_pos (by omega), if_pos (by omega), if_pos (by omega), hw]
    obtain ⟨r1, h1⟩ := bits_Field_some y ((rd_T103 xs i).f0) ((rd_T103 xs i).f1)
    rw [h1]
    simp only [Option.bind_some]
    obtain ⟨r2, h2⟩ := bits_Put_some w ((rd_T103 xs i).f2) ((rd_T103 xs i).f1) r1.1
    rw [h2]
    simp only [Option.bind_some]
    exact ih (i + 1) k _ (by omega) (by omega)
theorem encode_j2 (k : Nat) (a b : Int) (f : ByteArray) (c d e : Int) : ∃ r, ins_Encode.j2 (k + 6) a b f c d e = some r := by
  rw [ins_Encode.j2]
  obtain ⟨r, hr, hl⟩ := ins_parts_some f
  rw [hr]
  simp only [Option.bind_some]
  exact encode_l0 _ r hl r.length 0 _ _ (by omega) (by omega)
theorem encode_j1 (k : Nat) (x a b c d e : Int) (f : ByteArray) (g h i : Int) : ∃ r, ins_Encode.j1 (k + 7) x a b c d e f g h i = some r := by
  rw [ins_Encode.j1]
  obtain ⟨r, hr⟩ := ins_shift_some a
  rw [hr]
  simp only [Option.bind_some]
  repeat' split
  all_goals exact encode_j2 _ _ _ _ _ _ _
theorem encode_j0 (k : Nat) (x : Int) (t : Bool) (a b c d e : Int) (f : ByteArray) (g h i : Int) : ∃ r, ins_Encode.j0 (k + 8) x t a b c d e f g h i = some r := by
  rw [ins_Encode.j0]
  repeat' split
  all_goals exact encode_j1 _ _ _ _ _ _ _ _ _ _ _
theorem encode_some (k : Nat) (a b c d e : Int) : ∃ r, ins_Encode.f (k + 8) a b c d e = some r := by
  unfold ins_Encode.f
  obtain ⟨r, hr, hb⟩ := ins_May_some (k + 7) a b c d e
  rw [hr]
  simp only [Option.bind_some]
  split
  · rename_i h
    obtain ⟨h1, h2⟩ := hb h
    rw [if_pos h1, if_pos h2]
    repeat' split
    all_goals first | exact ⟨_, rfl⟩ | exact encode_j0 _ _ _ _ _ _ _ _ _ _ _ _
  · exact ⟨_, rfl⟩
def encP (x : S43) : Int × Int := (ins_Encode.f 20 x.f0 x.f1 x.f2 x.f3 x.f4).getD (0, 0)
theorem encode_f (x : S43) : ins_Encode.f 20 x.f0 x.f1 x.f2 x.f3 x.f4 = some ((encP x).1, (encP x).2) := by
  obtain ⟨r, hr⟩ := encode_some 12 x.f0 x.f1 x.f2 x.f3 x.f4
  unfold encP
  rw [hr]
  rfl
end Go.Proofs.YtaoajlaocphgdaaDoor.PA
end
section
namespace Go.Proofs.YtaoajlaocphgdaaDoor.PA
open Go.RowKit Go.Proofs.YtaoajlaocphgdaaDoorW.PrintWords Go.Proofs.YtaoajlaocphgdaaDoorW.PrintLast Go.Proofs.YtaoajlaocphgdaaDoorW.PrintMore
set_option linter.unusedVariables false
def badN (n : Int) : Bool := decide (n < 0) || decide (n > 64)
theorem badN_lt {n : Int} (h : n < 0) : badN n = true := by simp [badN, h]
theorem badN_gt {n : Int} (h : n > 64) : badN n = true := by simp [badN, h]
theorem badN_no {n : Int} (h : ¬ n < 0) (h2 : ¬ n > 64) : badN n = false := by simp [badN, h, h2]
theorem bad_calls (n : Int) (w : World) : Calls Tryd.prog 22 #[.int .i64 n] w fun e w' => e = .returned (.bool (badN n)) ∧ w = w' := by
  by_cases h : n < 0
  · rw [badN_lt h]
    go_enter Tryd.func22, Tryd.ntmps22
    go_wp2
    go_ret
    exact ⟨rfl, rfl⟩
  · by_cases h2 : n > 64
    · rw [badN_gt h2]
      go_enter Tryd.func22, Tryd.ntmps22
      go_wp2
      go_ret
      exact ⟨rfl, rfl⟩
    · rw [badN_no h h2]
      go_enter Tryd.func22, Tryd.ntmps22
      go_wp2
      go_ret
      exact ⟨rfl, rfl⟩
def badAt (l : List Int) : Int := match l.findIdx? badN with | some i => (i : Int) | none => -1
theorem rd_get (l : List Int) (j : Nat) (h : j < l.length) : rd l (j : Int) = l[j] := by
  simp [rd, List.getD_eq_getElem?_getD, List.getElem?_eq_getElem h]
theorem badAt_yes {l : List Int} {k : Nat} (hk : k < l.length) (h : ∀ j, j < k → badN (rd l (j : Int)) = false) (hb : badN (rd l (k : Int)) = true) : badAt l = k := by
  have : l.findIdx? badN = some k := by
    rw [List.findIdx?_eq_some_iff_getElem]
    refine ⟨hk, by rw [← rd_get l k hk]; exact hb, fun j hj => ?_⟩
    rw [← rd_get l j (by omega), h j hj]
    simp
  simp [badAt, this]
theorem badAt_no {l : List Int} (h : ∀ j, j < l.length → badN (rd l (j : Int)) = false) : badAt l = -1 := by
  have : l.findIdx? badN = none := by
    rw [List.findIdx?_eq_none_iff]
    intro x hx
    obtain ⟨j, hj, rfl⟩ := List.getElem_of_mem hx
    rw [← rd_get l j hj]
    exact h j hj
  simp [badAt, this]
theorem any_bad (l : List Int) : decide (0 ≤ badAt l) = l.any badN := by
  unfold badAt
  cases h : l.findIdx? badN with
  | none =>
    rw [List.findIdx?_eq_none_iff] at h
    have : l.any badN = false := by
      rw [List.any_eq_false]
      intro x hx
      simp [h x hx]
    simp [this]
  | some i =>
    obtain ⟨hi, hb, _⟩ := List.findIdx?_eq_some_iff_getElem.1 h
    have : l.any badN = true := List.any_eq_true.2 ⟨_, List.getElem_mem hi, hb⟩
    simp only [this, decide_eq_true_eq]
    omega
theorem index_calls (A0 : Option Addr) (c0 : Nat) (l0 : List Int) (w : World) (hr0 : Kd.C (Kd.int .i64) w A0 l0.length l0) :
    Calls Tryd.prog 41 #[.slice A0 l0.length c0, .func (.func 22) #[] #[]] w fun e w' => e = .returned (.int .i64 (badAt l0)) ∧ w = w' := by
  have hm : l0.length ≤ 9223372036854775807 := hr0.2.1
  have HR := Aside0.mk hr0
  clear hr0
  go_enter Tryd.func41, Tryd.ntmps41
  go_wp2
  go_loop [5, 8] (fun _ i => ∃ k : Nat, k ≤ l0.length ∧ i = .int .i64 k ∧ Aside0 (∀ j, j < k → badN (rd l0 (j : Int)) = false)) (fun _ i => l0.length - (intOf i).toNat)
  case atStart => exact ⟨0, Nat.zero_le _, rfl, ⟨fun j hj => absurd hj (Nat.not_lt_zero j)⟩⟩
  case round =>
    obtain ⟨k, hk, rfl, HJ⟩ := hrel
    by_cases hlt : k < l0.length
    · obtain ⟨ad, rfl, hc⟩ := Kd.at_int HR.out (k : Int) (by omega) (by omega)
      rw [Int.toNat_natCast] at hc
      cases hb : badN (rd l0 (k : Int)) with
      | true =>
        have HY := Aside0.mk (badAt_yes hlt HJ.out hb)
        have HC := Aside0.mk (bad_calls (rd l0 (k : Int)))
        rw [hb] at HC
        clear hb
        go_wp2_with (go_at_call 22; refine (HC.out _).mono ?_; rintro e w' ⟨rfl, rfl⟩)
        go_ret
        exact ⟨by rw [HY.out]; rfl, rfl⟩
      | false =>
        have HN : Aside0 (∀ j, j < k + 1 → badN (rd l0 (j : Int)) = false) := ⟨fun j hj => by
          rcases Nat.lt_succ_iff_lt_or_eq.1 hj with h | h
          · exact HJ.out j h
          · rw [h]; exact hb⟩
        have HC := Aside0.mk (bad_calls (rd l0 (k : Int)))
        rw [hb] at HC
        clear hb
        go_wp2_with (go_at_call 22; refine (HC.out _).mono ?_; rintro e w' ⟨rfl, rfl⟩)
        go_round
        case rel => exact ⟨k + 1, by omega, by go_num, HN⟩
        case measure => simp [intOf]; omega
    · have HY := Aside0.mk (badAt_no (l := l0) fun j hj => HJ.out j (by omega))
      go_wp2
      go_ret
      exact ⟨by rw [HY.out]; rfl, rfl⟩
def slices_ContainsFunc_int_int__22.f (l0 : List Int) : Option Bool := some (l0.any badN)
theorem slices_ContainsFunc_int_int__22.calls (A0 : Option Addr) (c0 : Nat) (l0 : List Int) (r : Bool) (w : World) (hr0 : Kd.C (Kd.int .i64) w A0 l0.length l0) (hc0 : l0.length ≤ c0) (h : slices_ContainsFunc_int_int__22.f l0 = some r) :
    Calls Tryd.prog 21 #[.slice A0 l0.length c0, .func (.func 22) #[] #[]] w fun e w' => e = .returned (.bool r) ∧ Below w.heap.size w w' := by
  have HX := Aside0.mk (index_calls A0 c0 l0 w hr0)
  clear hr0
  obtain rfl := Option.some.inj h
  clear h
  rw [← any_bad]
  go_enter Tryd.func21, Tryd.ntmps21
  go_wp2_with (go_at_call 41; refine HX.out.mono ?_; rintro e w' ⟨rfl, rfl⟩)
  go_ret
  exact ⟨rfl, Below.refl _ _⟩
end Go.Proofs.YtaoajlaocphgdaaDoor.PA
end
section
namespace Go.Proofs
open Go.Shelf
def Tryd.lays144_ren : Go.Shelf.Ren := ⟨fun | 144 => 42 | 143 => 74 | 219 => 94 | 217 => 104 | 225 => 105 | 224 => 106 | 267 => 107 | 266 => 110 | 314 => 111 | n => n, fun | 9 => 9 | 4 => 4 | 3 => 3 | 5 => 5 | 46 => 99 | 146 => 164 | 51 => 46 | n => n, fun | 1 => 1 | n => n⟩
theorem Tryd.lays144 : Go.Proofs.Lays.n144 Tryd.prog Tryd.lays144_ren := {
  mixed := by kernel_rfl
  f143 := Tryd.func74.trans (congrArg some (by kernel_rfl))
  f144 := Tryd.func42.trans (congrArg some (by kernel_rfl))
  f217 := Tryd.func104.trans (congrArg some (by kernel_rfl))
  f219 := Tryd.func94.trans (congrArg some (by kernel_rfl))
  f224 := Tryd.func106.trans (congrArg some (by kernel_rfl))
  f225 := Tryd.func105.trans (congrArg some (by kernel_rfl))
  f266 := Tryd.func110.trans (congrArg some (by kernel_rfl))
  f267 := Tryd.func107.trans (congrArg some (by kernel_rfl))
  f314 := Tryd.func111.trans (congrArg some (by kernel_rfl))
  t3 := Tryd.underlying3
  a3 := Tryd.isAgg3
  z3 := Tryd.sizeOf3
  v3 := Tryd.zeroValue3
  t4 := Tryd.underlying4
  a4 := Tryd.isAgg4
  z4 := Tryd.sizeOf4
  v4 := Tryd.zeroValue4
  t5 := Tryd.underlying5
  a5 := Tryd.isAgg5
  z5 := Tryd.sizeOf5
  v5 := Tryd.zeroValue5
  t9 := Tryd.underlying9
  a9 := Tryd.isAgg9
  z9 := Tryd.sizeOf9
  v9 := Tryd.zeroValue9
  t46 := Tryd.underlying99
  a46 := Tryd.isAgg99
  z46 := Tryd.sizeOf99
  v46 := Tryd.zeroValue99
  t51 := Tryd.underlying46
  a51 := Tryd.isAgg46
  z51 := Tryd.sizeOf46
  v51 := Tryd.zeroValue46
  t146 := Tryd.underlying164
  a146 := Tryd.isAgg164
  z146 := Tryd.sizeOf164
  v146 := Tryd.zeroValue164
  g1 := by kernel_rfl }
open Go.RowKit Go.Lib in
theorem Tryd.strings_Contains_one (s : ByteArray) (c : UInt8) (w : World) :
    Calls Tryd.prog 42 #[.string s, .string ⟨#[c]⟩] w fun e w' => e = .returned (.bool (decide (0 ≤ Lib.indexByte s.data.toList c))) ∧ w' = w := Any.strings_Contains_one Tryd.lays144 s c w
def Tryd.lays271_ren : Go.Shelf.Ren := ⟨fun | 271 => 75 | 120 => 95 | 197 => 96 | 260 => 108 | n => n, fun | 9 => 9 | 21 => 21 | 3 => 3 | 4 => 4 | 5 => 5 | 105 => 132 | 119 => 166 | 0 => 0 | 46 => 99 | 139 => 169 | 138 => 168 | n => n, fun | 3 => 2 | 4 => 3 | n => n⟩
theorem Tryd.lays271 : Go.Proofs.Lays.n271 Tryd.prog Tryd.lays271_ren := {
  mixed := by kernel_rfl
  f120 := Tryd.func95.trans (congrArg some (by kernel_rfl))
  f197 := Tryd.func96.trans (congrArg some (by kernel_rfl))
  f260 := Tryd.func108.trans (congrArg some (by kernel_rfl))
  f271 := Tryd.func75.trans (congrArg some (by kernel_rfl))
  t0 := Tryd.underlying0
  a0 := Tryd.isAgg0
  z0 := Tryd.sizeOf0
  v0 := Tryd.zeroValue0
  t3 := Tryd.underlying3
  a3 := Tryd.isAgg3
  z3 := Tryd.sizeOf3
  v3 := Tryd.zeroValue3
  t4 := Tryd.underlying4
  a4 := Tryd.isAgg4
  z4 := Tryd.sizeOf4
  v4 := Tryd.zeroValue4
  t5 := Tryd.underlying5
  a5 := Tryd.isAgg5
  z5 := Tryd.sizeOf5
  v5 := Tryd.zeroValue5
  t9 := Tryd.underlying9
  a9 := Tryd.isAgg9
  z9 := Tryd.sizeOf9
  v9 := Tryd.zeroValue9
  t21 := Tryd.underlying21
  a21 := Tryd.isAgg21
  z21 := Tryd.sizeOf21
  v21 := Tryd.zeroValue21
  t46 := Tryd.underlying99
  a46 := Tryd.isAgg99
  z46 := Tryd.sizeOf99
  v46 := Tryd.zeroValue99
  t105 := Tryd.underlying132
  a105 := Tryd.isAgg132
  z105 := Tryd.sizeOf132
  v105 := Tryd.zeroValue132
  t119 := Tryd.underlying166
  a119 := Tryd.isAgg166
  z119 := Tryd.sizeOf166
  t138 := Tryd.underlying168
  a138 := Tryd.isAgg168
  z138 := Tryd.sizeOf168
  v138 := Tryd.zeroValue168
  t139 := Tryd.underlying169
  a139 := Tryd.isAgg169
  z139 := Tryd.sizeOf169
  v139 := Tryd.zeroValue169
  g3 := by kernel_rfl
  g4 := by kernel_rfl }
open Go.RowKit Go.Lib in
theorem Tryd.utf8_DecodeLastRuneInString (s : ByteArray) (w : World) (hs : s.size ≤ 9223372036854775807) (hT : Lib.Utf8Tabs 2 3 w) :
    Calls Tryd.prog 75 #[.string s] w fun e w' => e = .returned (.tuple #[.int .i32 (Lib.decodeLastL s.data.toList).1, .int .i64 (Lib.decodeLastL s.data.toList).2]) ∧ Below w.heap.size w w' := Any.utf8_DecodeLastRuneInString Tryd.lays271 s w hs hT
end Go.Proofs
end
section
namespace Go.Proofs.YtaoajlaocphgdaaDoor.PA
open Go.RowKit Go.Lib Go.Proofs.YtaoajlaocphgdaaDoorW.PrintWords Go.Proofs.YtaoajlaocphgdaaDoorW.PrintLast Go.Proofs.YtaoajlaocphgdaaDoorW.PrintMore
set_option linter.unusedVariables false
def inUpto (c : Int) (set : ByteArray) (k : Nat) : Bool := (set.data.toList.take k).any fun b => (b.toNat : Int) == c
def inSet (c : Int) (set : ByteArray) : Bool := inUpto c set set.size
theorem inUpto_succ (c : Int) (set : ByteArray) (k : Nat) (h : k < set.size) : inUpto c set (k + 1) = (inUpto c set k || ((set[k].toNat : Int) == c)) := by
  unfold inUpto
  have h' : k < set.data.toList.length := by rw [data_length]; exact h
  rw [List.take_succ_eq_append_getElem h', List.any_append]
  simp
  rfl
theorem inUpto_yes (c : Int) (set : ByteArray) (k : Nat) (h : k < set.size) (hi : inUpto c set k = true) : inUpto c set (k + 1) = true := by rw [inUpto_succ c set k h, hi]; rfl
theorem inUpto_eq (c : Int) (set : ByteArray) (k : Nat) (h : k < set.size) (hc : c = (set[k].toNat : Int)) : inUpto c set (k + 1) = true := by
  rw [inUpto_succ c set k h, hc]; simp
theorem inUpto_no (c : Int) (set : ByteArray) (k : Nat) (h : k < set.size) (hi : inUpto c set k = false) (hc : ¬ c = (set[k].toNat : Int)) : inUpto c set (k + 1) = false := by
  rw [inUpto_succ c set k h, hi]; simp; exact fun e => hc e.symm
def Asc (set : ByteArray) : Prop := ∀ i (h : i < set.size), (set[i]'h).toNat < 128
theorem inSet_high {c : Int} {set : ByteArray} (ha : Asc set) (h : 128 ≤ c) : inSet c set = false := by
  unfold inSet inUpto
  rw [List.any_eq_false]
  intro b hb
  have hb := List.mem_of_mem_take hb
  obtain ⟨i, hi, rfl⟩ := List.getElem_of_mem hb
  have hi' : i < set.size := by rw [← data_length]; exact hi
  have h1 := ha i hi'
  have h2 : set.data.toList[i] = set[i]'hi' := by rw [Array.getElem_toList]; rfl
  rw [h2]
  simp only [beq_iff_eq]
  omega
def AllIn (s set : ByteArray) (k : Nat) : Prop := ∀ j (h : j < s.size), j < k → inSet ((s[j]'h).toNat : Int) set = true
def LeftOf (s set r : ByteArray) : Prop := (AllIn s set s.size ∧ r = ⟨#[]⟩) ∨ ∃ p, ∃ h : p < s.size, AllIn s set p ∧ inSet ((s[p]'h).toNat : Int) set = false ∧ r = s.extract p s.size
theorem next_rune (wr : World) (b : Nat) (s : ByteArray) (k : Nat) (hk : k < s.size) {B : Nat} {w : World} (hI : wr.heap[b]? = some (.stringIter s k)) (hB : Below B w wr) (hb : B ≤ b) :
    ∃ (w1 : World) (c : Int) (d : Nat), (∀ ty, (Instr.next (.pointer (some ⟨b, 0, none⟩)) true ty).run Tryd.prog wr = .ok (.tuple #[.bool true, .int .i64 k, .int .i32 c]) w1) ∧
      w1.heap[b]? = some (.stringIter s (k + d)) ∧ Below B w w1 ∧ w1.heap.size = wr.heap.size ∧ (∀ j, j ≠ b → w1.heap[j]? = wr.heap[j]?) ∧ ((s[k]'hk).toNat < 128 → c = ((s[k]'hk).toNat : Int) ∧ d = 1) ∧ (128 ≤ (s[k]'hk).toNat → 128 ≤ c) := by
  refine ⟨_, ((Utf8.decode s k).1 : Int), (Utf8.decode s k).2, fun ty => run_next_any_at wr b s k ty hI hk, iterAt_heap _ _ _ _ _ hI, below_iterAt hB hb _ _, iterAt_size _ _ _ _, fun j hj => iterAt_other _ _ _ _ _ hj, fun h => ?_, fun h => ?_⟩
  · rw [decode_ascii s k hk h]; exact ⟨rfl, rfl⟩
  · have := (decode_high s k hk h).1; omega
theorem next_none (wr : World) (b : Nat) (s : ByteArray) (k : Nat) (hk : ¬ k < s.size) (hI : wr.heap[b]? = some (.stringIter s k)) :
    ∀ ty, (Instr.next (.pointer (some ⟨b, 0, none⟩)) true ty).run Tryd.prog wr = .ok (.tuple #[.bool false]) wr := fun ty => run_next_end_at wr b s k ty hI hk
set_option maxHeartbeats 2000000 in
theorem cutLeft_calls (s set : ByteArray) (w : World) (hs : s.size ≤ 140737488351232) (hz : set.size ≤ 140737488351232) (hA : Asc set) :
    Calls Tryd.prog 44 #[.string s, .string set] w fun e w' => (∃ r, LeftOf s set r ∧ e = .returned (.string r)) ∧ Below w.heap.size w w' := by
  have HZ := Aside0.mk hA
  clear hA
  go_enter Tryd.func44, Tryd.ntmps44
  go_wp2
  go_loopg [5, 6, 7, 9] s.size (fun g _ _ _ _ wr => ∃ k : Nat, g + k = s.size ∧ Aside0 (wr.heap[w.heap.size]? = some (.stringIter s k)) ∧ Aside0 (AllIn s set k) ∧ Aside0 (Below w.heap.size w wr))
  case atStart => exact ⟨0, rfl, ⟨World.iter_heap w s 0⟩, ⟨fun j h hj => absurd hj (Nat.not_lt_zero j)⟩, ⟨(Below.refl _ _).alloc (Nat.le_refl _) _⟩⟩
  case round =>
    obtain ⟨k, hg, HI, HL, HB⟩ := hrel
    by_cases hlt : k < s.size
    · obtain ⟨w1, c, d, hn, hi1, hb1, hz1, ho1, hlo, hhi⟩ := next_rune wr w.heap.size s k hlt HI.out HB.out (Nat.le_refl _)
      have F := Aside0.mk (And.intro hi1 (And.intro hb1 (And.intro hz1 (And.intro ho1 (And.intro hlo hhi)))))
      clear hi1 hb1 hz1 ho1 hlo hhi
      go_wp2
      go_loopg [7, 9] set.size (fun g u7 _ w2 => ∃ m : Nat, g + m = set.size ∧ u7 = .bool (inUpto c set m) ∧ Aside0 (w2.heap[w1.heap.size]? = some (.stringIter set m)) ∧ Aside0 (Below w1.heap.size w1 w2))
      case atStart => exact ⟨0, rfl, by simp [inUpto], ⟨World.iter_heap w1 set 0⟩, ⟨(Below.refl _ _).alloc (Nat.le_refl _) _⟩⟩
      case round =>
        obtain ⟨m, hm, rfl, HI2, HB2⟩ := hrel
        by_cases hm2 : m < set.size
        · obtain ⟨w3, c3, d3, hn3, hi3, hb3, hz3, ho3, hlo3, _⟩ := next_rune wr w1.heap.size set m hm2 HI2.out HB2.out (Nat.le_refl _)
          obtain ⟨rfl, rfl⟩ := hlo3 (HZ.out m hm2)
          have F3 := Aside0.mk (And.intro hi3 (And.intro hb3 (And.intro hz3 ho3)))
          clear hi3 hb3 hz3 ho3
          cases hin : inUpto c set m with
          | true =>
            have E := Aside0.mk (inUpto_yes c set m hm2 hin)
            clear hin
            go_wp2
            go_roundg (set.size - (m + 1))
            case measure => omega
            case rel => exact ⟨m + 1, by omega, by rw [E.out], ⟨F3.out.1⟩, ⟨F3.out.2.1⟩⟩
          | false =>
            by_cases hcd : c = ((set[m]'hm2).toNat : Int)
            · have E := Aside0.mk (inUpto_eq c set m hm2 hcd)
              have hcd' : (c == ((set[m]'hm2).toNat : Int)) = true := beq_iff_eq.2 hcd
              clear hin hcd
              go_wp2
              go_roundg (set.size - (m + 1))
              case measure => omega
              case rel => exact ⟨m + 1, by omega, by rw [E.out], ⟨F3.out.1⟩, ⟨F3.out.2.1⟩⟩
            · have E := Aside0.mk (inUpto_no c set m hm2 hin hcd)
              have hcd' : (c == ((set[m]'hm2).toNat : Int)) = false := beq_eq_false_iff_ne.2 hcd
              clear hin hcd
              go_wp2
              go_roundg (set.size - (m + 1))
              case measure => omega
              case rel => exact ⟨m + 1, by omega, by rw [E.out], ⟨F3.out.1⟩, ⟨F3.out.2.1⟩⟩
        · have hn4 := next_none wr w1.heap.size set m hm2 HI2.out
          obtain rfl : m = set.size := by omega
          cases hin : inUpto c set set.size with
          | true =>
            have hlow : (s[k]'hlt).toNat < 128 := by
              rcases Nat.lt_or_ge (s[k]'hlt).toNat 128 with h | h
              · exact h
              · have := inSet_high HZ.out (F.out.2.2.2.2.2 h)
                rw [inSet, hin] at this
                cases this
            obtain ⟨hc, rfl⟩ := F.out.2.2.2.2.1 hlow
            have hL : AllIn s set (k + 1) := fun j h hj => by
              rcases Nat.lt_succ_iff_lt_or_eq.1 hj with hj | rfl
              · exact HL.out j h hj
              · rw [← hc]; exact hin
            have HL' := Aside0.mk hL
            have hwz : w.heap.size < w1.heap.size := (Array.getElem?_eq_some_iff.1 F.out.1).1
            clear hL hc hlow
            go_wp2
            go_roundg (s.size - (k + 1))
            case measure => omega
            case rel => exact ⟨k + 1, by omega, ⟨(HB2.out.block _ hwz).trans F.out.1⟩, HL', ⟨below_then F.out.2.1 (Nat.le_of_lt hwz) HB2.out⟩⟩
          | false =>
            have hno : inSet ((s[k]'hlt).toNat : Int) set = false := by
              rcases Nat.lt_or_ge (s[k]'hlt).toNat 128 with h | h
              · rw [← (F.out.2.2.2.2.1 h).1]; exact hin
              · exact inSet_high HZ.out (by omega)
            have HN := Aside0.mk hno
            have hwz : w.heap.size < w1.heap.size := (Array.getElem?_eq_some_iff.1 F.out.1).1
            clear hno
            go_wp2
            go_ret
            exact ⟨⟨_, .inr ⟨k, hlt, HL.out, HN.out, rfl⟩, rfl⟩, below_then F.out.2.1 (Nat.le_of_lt hwz) HB2.out⟩
    · have hn := next_none wr w.heap.size s k hlt HI.out
      obtain rfl : k = s.size := by omega
      go_wp2
      go_ret
      exact ⟨⟨_, .inl ⟨HL.out, rfl⟩, rfl⟩, HB.out⟩
theorem decode_empty : Utf8.decode ⟨#[]⟩ 0 = (0, 1) := by decide
theorem decodeL_cons (b : UInt8) (r : List UInt8) : (b.toNat < 128 → decodeL (b :: r) = (b.toNat, 1)) ∧ (128 ≤ b.toNat → 128 ≤ (decodeL (b :: r)).1) := by
  have hsz : 0 < (⟨(b :: r).toArray⟩ : ByteArray).size := by simp [ByteArray.size]
  have hb : (⟨(b :: r).toArray⟩ : ByteArray)[0]'hsz = b := rfl
  unfold decodeL
  exact ⟨fun h => by rw [decode_ascii _ 0 hsz (by rw [hb]; exact h), hb], fun h => (decode_high _ 0 hsz (by rw [hb]; exact h)).1⟩
theorem last_rune (l : List UInt8) (b : UInt8) (hb : l.getLast? = some b) : (b.toNat < 128 → decodeLastL l = (b.toNat, 1)) ∧ (128 ≤ b.toNat → 128 ≤ (decodeLastL l).1) := by
  have hne : l ≠ [] := by rintro rfl; cases hb
  have hlen : 0 < l.length := List.length_pos_iff.2 hne
  have hg : l.getD (l.length - 1) 0 = b := by
    rw [List.getD_eq_getElem?_getD, ← List.getLast?_eq_getElem?, hb]; rfl
  unfold decodeLastL
  rw [if_neg hne, hg]
  refine ⟨fun h => by rw [if_pos h], fun h => ?_⟩
  rw [if_neg (by omega)]
  simp only
  split
  · rename_i he
    cases hx : l.drop (lastStart l) with
    | nil =>
      rw [hx] at he
      have : (decodeL []).2 = 1 := by unfold decodeL; exact congrArg Prod.snd decode_empty
      rw [this] at he
      have := List.drop_eq_nil_iff.1 hx
      omega
    | cons c r =>
      rw [hx] at he
      rcases Nat.lt_or_ge c.toNat 128 with hc | hc
      · rw [(decodeL_cons c r).1 hc] at he
        have hr : r = [] := by
          have := congrArg List.length hx
          rw [List.length_drop, List.length_cons] at this
          exact List.eq_nil_of_length_eq_zero (by simp only at he; omega)
        have : l.getLast? = some c := by
          have h2 : l = l.take (lastStart l) ++ [c] := by rw [← hr, ← hx, List.take_append_drop]
          rw [h2]; simp
        rw [hb] at this
        obtain rfl := Option.some.inj this
        omega
      · exact (decodeL_cons c r).2 hc
  · decide
def RightOf (s set r : ByteArray) : Prop := (s.size = 0 → r = ⟨#[]⟩) ∧ ((∃ p, ∃ h : p < s.size, inSet ((s[p]'h).toNat : Int) set = false) → 0 < r.size)
def CutTo (s set x : ByteArray) : Prop := x.size ≤ s.size ∧ (∀ j (h : j < s.size) (h2 : j < x.size), x[j]'h2 = s[j]'h) ∧ ∀ j (h : j < s.size), x.size ≤ j → inSet ((s[j]'h).toNat : Int) set = true
theorem CutTo.less {s set x : ByteArray} (h : CutTo s set x) (hx : 0 < x.size) (hb : inSet ((x[x.size - 1]'(by omega)).toNat : Int) set = true) (y : ByteArray) (hy : y = x.extract 0 (x.size - 1)) : CutTo s set y ∧ y.size = x.size - 1 := by
  subst hy
  have hz : (x.extract 0 (x.size - 1)).size = x.size - 1 := by rw [ByteArray.size_extract]; omega
  refine ⟨⟨by have := h.1; omega, fun j h1 h2 => ?_, fun j h1 h2 => ?_⟩, hz⟩
  · rw [ByteArray.getElem_extract]
    simp only [Nat.zero_add]
    exact h.2.1 j h1 (by omega)
  · rw [hz] at h2
    by_cases hj : j = x.size - 1
    · subst hj
      rw [← h.2.1 _ h1 (by omega)]
      exact hb
    · exact h.2.2 j h1 (by omega)
theorem CutTo.keeps {s set x : ByteArray} (h : CutTo s set x) : (∃ p, ∃ h : p < s.size, inSet ((s[p]'h).toNat : Int) set = false) → 0 < x.size := by
  rintro ⟨p, hp, hn⟩
  rcases Nat.eq_zero_or_pos x.size with h0 | h0
  · rw [h.2.2 p hp (by omega)] at hn
    cases hn
  · exact h0
theorem byte_last (x : ByteArray) (h : 0 < x.size) : x.data.toList.getLast? = some (x[x.size - 1]'(by omega)) := by
  have hl : x.data.toList.length = x.size := data_length x
  rw [List.getLast?_eq_getElem?, hl, List.getElem?_eq_getElem (by omega)]
  rw [Array.getElem_toList]
  rfl
set_option maxHeartbeats 4000000 in
theorem cutRight_calls (s set : ByteArray) (w : World) (hs : s.size ≤ 140737488351232) (hz : set.size ≤ 140737488351232) (hA : Asc set) (hG : GlobOk w) :
    Calls Tryd.prog 43 #[.string s, .string set] w fun e w' => (∃ r, RightOf s set r ∧ e = .returned (.string r)) ∧ Below w.heap.size w w' := by
  have HZ := Aside0.mk hA
  clear hA
  go_enter Tryd.func43, Tryd.ntmps43
  go_wp2
  go_loopg [0, 5, 6, 7, 9] s.size (fun g u0 _ _ _ _ wr => ∃ x : ByteArray, x.size = g ∧ u0 = .string x ∧ Aside0 (CutTo s set x) ∧ Aside0 (Below w.heap.size w wr))
  case atStart => exact ⟨s, rfl, rfl, ⟨Nat.le_refl _, fun _ _ _ => rfl, fun j h1 h2 => absurd h1 (by omega)⟩, ⟨Below.refl _ _⟩⟩
  case round =>
    obtain ⟨x, rfl, rfl, HX, HB⟩ := hrel
    have hxs : x.size ≤ 140737488351232 := by have := HX.out.1; omega
    by_cases hlt : 0 < x.size
    · have HT := hG.of_below HB.out
      have hlast := last_rune _ _ (byte_last x hlt)
      obtain ⟨c, n, hcn⟩ : ∃ c n, decodeLastL x.data.toList = (c, n) := ⟨_, _, rfl⟩
      have HC := Aside0.mk (Tryd.utf8_DecodeLastRuneInString x wr (by omega) HT.utf8)
      rw [hcn] at hlast HC
      have HL := Aside0.mk hlast
      clear hlast hcn HT
      go_wp2_with (go_at_call 75; refine HC.out.mono ?_; rintro e w1 ⟨rfl, hb1⟩)
      have HB1 := Aside0.mk (below_then HB.out HB.out.size hb1)
      clear hb1
      go_wp2
      go_loopg [7, 9] set.size (fun g u7 _ w2 => ∃ m : Nat, g + m = set.size ∧ u7 = .bool (inUpto (c : Int) set m) ∧ Aside0 (w2.heap[w1.heap.size]? = some (.stringIter set m)) ∧ Aside0 (Below w1.heap.size w1 w2))
      case atStart => exact ⟨0, rfl, by simp [inUpto], ⟨World.iter_heap w1 set 0⟩, ⟨(Below.refl _ _).alloc (Nat.le_refl _) _⟩⟩
      case round =>
        obtain ⟨m, hm, rfl, HI2, HB2⟩ := hrel
        by_cases hm2 : m < set.size
        · obtain ⟨w3, c3, d3, hn3, hi3, hb3, hz3, ho3, hlo3, _⟩ := next_rune wr w1.heap.size set m hm2 HI2.out HB2.out (Nat.le_refl _)
          obtain ⟨rfl, rfl⟩ := hlo3 (HZ.out m hm2)
          have F3 := Aside0.mk (And.intro hi3 (And.intro hb3 (And.intro hz3 ho3)))
          clear hi3 hb3 hz3 ho3
          cases hin : inUpto (c : Int) set m with
          | true =>
            have E := Aside0.mk (inUpto_yes c set m hm2 hin)
            clear hin
            go_wp2
            go_roundg (set.size - (m + 1))
            case measure => omega
            case rel => exact ⟨m + 1, by omega, by rw [E.out], ⟨F3.out.1⟩, ⟨F3.out.2.1⟩⟩
          | false =>
            by_cases hcd : (c : Int) = ((set[m]'hm2).toNat : Int)
            · have E := Aside0.mk (inUpto_eq c set m hm2 hcd)
              have hcd' : ((c : Int) == ((set[m]'hm2).toNat : Int)) = true := beq_iff_eq.2 hcd
              have hcd2 : (c == ((set[m]'hm2).toNat)) = true := beq_iff_eq.2 (by omega)
              clear hin hcd
              go_wp2
              go_roundg (set.size - (m + 1))
              case measure => omega
              case rel => exact ⟨m + 1, by omega, by rw [E.out], ⟨F3.out.1⟩, ⟨F3.out.2.1⟩⟩
            · have E := Aside0.mk (inUpto_no c set m hm2 hin hcd)
              have hcd' : ((c : Int) == ((set[m]'hm2).toNat : Int)) = false := beq_eq_false_iff_ne.2 hcd
              have hcd2 : (c == ((set[m]'hm2).toNat)) = false := beq_eq_false_iff_ne.2 (by omega)
              clear hin hcd
              go_wp2
              go_roundg (set.size - (m + 1))
              case measure => omega
              case rel => exact ⟨m + 1, by omega, by rw [E.out], ⟨F3.out.1⟩, ⟨F3.out.2.1⟩⟩
        · have hn4 := next_none wr w1.heap.size set m hm2 HI2.out
          obtain rfl : m = set.size := by omega
          have hB2 := Aside0.mk (below_then HB1.out HB1.out.size HB2.out)
          cases hin : inUpto (c : Int) set set.size with
          | true =>
            have hlow : (x[x.size - 1]'(by omega)).toNat < 128 := by
              rcases Nat.lt_or_ge (x[x.size - 1]'(by omega)).toNat 128 with h | h
              · exact h
              · have := inSet_high HZ.out (c := (c : Int)) (by have := HL.out.2 h; omega)
                rw [inSet, hin] at this
                cases this
            have h1 := HL.out.1 hlow
            simp only [Prod.mk.injEq] at h1
            obtain ⟨rfl, rfl⟩ := h1
            have HL' := Aside0.mk (HX.out.less hlt hin _ rfl)
            clear hlow hin
            go_wp2
            go_roundg (x.size - 1)
            case measure => omega
            case rel => exact ⟨_, HL'.out.2, rfl, ⟨HL'.out.1⟩, hB2⟩
          | false =>
            go_wp2
            go_ret
            exact ⟨⟨_, ⟨fun h0 => absurd HX.out.1 (by omega), HX.out.keeps⟩, rfl⟩, hB2.out⟩
    · have hx0 : x.size = 0 := by omega
      have HE := Aside0.mk (show x = ⟨#[]⟩ from by
        obtain ⟨⟨l⟩⟩ := x
        have : l.length = 0 := hx0
        rw [List.eq_nil_of_length_eq_zero this])
      clear hx0
      go_wp2
      go_ret
      exact ⟨⟨_, ⟨fun _ => HE.out, HX.out.keeps⟩, rfl⟩, HB.out⟩
end Go.Proofs.YtaoajlaocphgdaaDoor.PA
end
section
namespace Go.Proofs.YtaoajlaocphgdaaDoor.PA
open Go.RowKit Go.Lib Go.Proofs.YtaoajlaocphgdaaDoorW.PrintWords Go.Proofs.YtaoajlaocphgdaaDoorW.PrintLast Go.Proofs.YtaoajlaocphgdaaDoorW.PrintMore
set_option linter.unusedVariables false
def isLetter (c : Nat) : Bool := (97 ≤ c && c ≤ 122) || c == 95
def isCh (c : Nat) : Bool := isLetter c || (48 ≤ c && c ≤ 57)
def nameB (l : List UInt8) : Bool := decide (1 ≤ l.length) && decide (l.length ≤ 24) && isLetter (l.getD 0 0).toNat && l.all fun c => isCh c.toNat
def obj_Name.f (a0 : ByteArray) : Option Bool := if a0.size ≤ 140737488351232 then some (nameB a0.data.toList) else none
def lettersS : ByteArray := ⟨#[97, 98, 99, 100, 101, 102, 103, 104, 105, 106, 107, 108, 109, 110, 111, 112, 113, 114, 115, 116, 117, 118, 119, 120, 121, 122, 95]⟩
def charsS : ByteArray := ⟨#[97, 98, 99, 100, 101, 102, 103, 104, 105, 106, 107, 108, 109, 110, 111, 112, 113, 114, 115, 116, 117, 118, 119, 120, 121, 122, 95, 48, 49, 50, 51, 52, 53, 54, 55, 56, 57]⟩
theorem letters_at : ∀ n : Nat, n < 256 → decide (0 ≤ Lib.indexByte lettersS.data.toList (UInt8.ofNat n)) = isLetter n := by decide +kernel
theorem chars_at : ∀ n : Nat, n < 256 → inSet (n : Int) charsS = isCh n := by decide +kernel
theorem chars_asc : Asc charsS := by unfold Asc; decide +kernel
theorem extract_one (s : ByteArray) (hs : 1 ≤ s.size) : s.extract 0 1 = ⟨#[s[0]'hs]⟩ := by
  apply ByteArray.ext
  apply Array.ext'
  rw [Lib.extract_data]
  obtain ⟨⟨l⟩⟩ := s
  cases l with
  | nil => exact absurd hs (by decide)
  | cons b r => rfl
theorem contains_calls (s : ByteArray) (hs : 1 ≤ s.size) (w : World) :
    Calls Tryd.prog 42 #[.string lettersS, .string (s.extract 0 1)] w fun e w' => e = .returned (.bool (isLetter (s[0]'hs).toNat)) ∧ w' = w := by
  rw [extract_one s hs, ← letters_at _ (s[0]'hs).toNat_lt, UInt8.ofNat_toNat]
  exact Tryd.strings_Contains_one lettersS (s[0]'hs) w
theorem chars_eq : ((⟨#[97, 98, 99, 100, 101, 102, 103, 104, 105, 106, 107, 108, 109, 110, 111, 112, 113, 114, 115, 116, 117, 118, 119, 120, 121, 122, 95]⟩ : ByteArray) ++ ⟨#[48, 49, 50, 51, 52, 53, 54, 55, 56, 57]⟩) = charsS := by decide +kernel
theorem chars_in (b : UInt8) : inSet (b.toNat : Int) charsS = isCh b.toNat := chars_at _ b.toNat_lt
theorem nameB_all {l : List UInt8} (h : nameB l = true) : ∀ c ∈ l, isCh c.toNat = true := by
  unfold nameB at h
  rw [Bool.and_eq_true] at h
  exact fun c hc => List.all_eq_true.1 h.2 c hc
theorem getD_zero (s : ByteArray) (hs : 1 ≤ s.size) : s.data.toList.getD 0 0 = s[0]'hs := by
  obtain ⟨⟨l⟩⟩ := s
  cases l with
  | nil => exact absurd hs (by decide)
  | cons b r => rfl
theorem mem_data {s : ByteArray} {c : UInt8} (h : c ∈ s.data.toList) : ∃ j, ∃ hj : j < s.size, s[j]'hj = c := by
  obtain ⟨j, hj, rfl⟩ := List.getElem_of_mem h
  exact ⟨j, by rw [← data_length]; exact hj, by rw [Array.getElem_toList]; rfl⟩
theorem data_mem (s : ByteArray) (j : Nat) (h : j < s.size) : s[j]'h ∈ s.data.toList := by
  have : s.data.toList[j]'(by rw [data_length]; exact h) = s[j]'h := by rw [Array.getElem_toList]; rfl
  rw [← this]
  exact List.getElem_mem _
theorem left_name (s r : ByteArray) (hs : 1 ≤ s.size) (hs2 : s.size ≤ 24) (hl : isLetter (s[0]'hs).toNat = true) (h : LeftOf s charsS r) :
    (nameB s.data.toList = true ∧ r.size = 0) ∨ (nameB s.data.toList = false ∧ ∃ p, ∃ h : p < r.size, inSet ((r[p]'h).toNat : Int) charsS = false) := by
  rcases h with ⟨ha, rfl⟩ | ⟨p, hp, _, hn, rfl⟩
  · left
    refine ⟨?_, rfl⟩
    unfold nameB
    rw [data_length, getD_zero s hs, hl, decide_eq_true hs, decide_eq_true hs2]
    simp only [Bool.and_true, Bool.true_and, List.all_eq_true]
    intro c hc
    obtain ⟨j, hj, rfl⟩ := mem_data hc
    rw [← chars_in]
    exact ha j hj hj
  · right
    refine ⟨?_, 0, ?_, ?_⟩
    · cases hb : nameB s.data.toList with
      | false => rfl
      | true =>
        have := nameB_all hb _ (data_mem s p hp)
        rw [← chars_in, hn] at this
        cases this
    · rw [ByteArray.size_extract]; omega
    · rw [ByteArray.getElem_extract]
      exact hn
theorem ascii_loop (s : ByteArray) (ha : ∀ c ∈ s.data.toList, c.toNat < 128) (hz : s.size ≤ 24) : ∀ (d : Nat) (i : Int), 0 ≤ i → i ≤ s.size → (s.size : Int) - i = d → obj_onlyASCII.l0 (d + 1) s (s.size : Int) i = some true := by
  intro d
  induction d with
  | zero =>
    intro i h0 h1 hd
    simp only [obj_onlyASCII.l0]
    rw [if_neg (by omega)]
  | succ d ih =>
    intro i h0 h1 hd
    have hlt : i < (s.size : Int) := by omega
    simp only [obj_onlyASCII.l0]
    rw [if_pos hlt, if_pos h0, if_pos hlt]
    have hw : wrap64 (i + 1) = i + 1 := by unfold wrap64; omega
    have hb : ¬ bt s i ≥ 128 := by
      obtain ⟨n, rfl⟩ := Int.eq_ofNat_of_zero_le h0
      have hn : n < s.size := by omega
      have := ha _ (data_mem s n hn)
      unfold bt
      rw [dif_pos (by simpa using hn)]
      simp only [Int.toNat_natCast]
      omega
    rw [if_neg hb, hw]
    exact ih (i + 1) (by omega) (by omega) (by omega)
theorem name_ascii (s : ByteArray) (hs2 : s.size ≤ 24) (h : nameB s.data.toList = true) : obj_onlyASCII.f (s.size + 1) s = some true := by
  unfold obj_onlyASCII.f
  refine ascii_loop s (fun c hc => ?_) hs2 s.size 0 (by omega) (by omega) (by omega)
  have := nameB_all h c hc
  unfold isCh isLetter at this
  simp at this
  omega
theorem name_calls (s : ByteArray) (w : World) (hs : 1 ≤ s.size) (hs2 : s.size ≤ 24) (hl : isLetter (s[0]'hs).toNat = true) (hG : GlobOk w) :
    Calls Tryd.prog 23 #[.string s] w fun e w' => e = .returned (.bool (nameB s.data.toList)) ∧ Below w.heap.size w w' := by
  have HC := Aside0.mk (contains_calls s hs)
  rw [hl] at HC
  have HG := Aside0.mk hG
  obtain ⟨b, hb⟩ : ∃ b, nameB s.data.toList = b := ⟨_, rfl⟩
  rw [hb]
  have HY := Aside0.mk hb
  clear hb
  have i1 : (1 : Int) ≤ (s.size : Int) := by omega
  have i2 : (s.size : Int) ≤ 24 := by omega
  have HL := Aside0.mk (fun r => left_name s r hs hs2 hl)
  have HN := Aside0.mk (name_ascii s hs2)
  clear hG hl
  go_enter Tryd.func23, Tryd.ntmps23
  go_wp2_with (go_at_call 42; refine (HC.out _).mono ?_; rintro e w1 ⟨rfl, rfl⟩)
  go_wp2_with fail
  simp only [chars_eq]
  refine (cutLeft_calls s charsS _ (by omega) (by decide) chars_asc).mono ?_
  rintro e w2 ⟨⟨r, hr, rfl⟩, hb⟩
  have HB := Aside0.mk hb
  have HR := Aside0.mk (HL.out r hr)
  have hrs : r.size ≤ s.size := by
    rcases hr with ⟨_, rfl⟩ | ⟨p, hp, _, _, rfl⟩
    · exact Nat.zero_le _
    · rw [ByteArray.size_extract]; omega
  clear hb hr
  go_wp2_with fail
  simp only [chars_eq]
  refine (cutRight_calls r charsS _ (by omega) (by decide) chars_asc (HG.out.of_below HB.out)).mono ?_
  rintro e w3 ⟨⟨x, hx, rfl⟩, hb⟩
  have HB3 := Aside0.mk (below_then HB.out HB.out.size hb)
  clear hb
  rcases HR.out with ⟨hn, h0⟩ | ⟨hn, hp⟩
  · have hx0 : x = ⟨#[]⟩ := hx.1 h0
    have HO := HN.out hn
    obtain rfl : b = true := HY.out.symm.trans hn
    clear hn h0 hx
    subst hx0
    go_wp2_with (go_at_call 45; refine (obj_onlyASCII.calls _ s true _ HO).mono ?_; rintro e w' ⟨rfl, ⟨nd, rfl⟩⟩)
    go_ret
    exact ⟨rfl, pw_below_drewN HB3.out _⟩
  · have hx0 : 0 < x.size := hx.2 hp
    have hxn : ¬ x.toList = [] := by
      intro e
      rw [toList_data] at e
      have := data_length x
      rw [e] at this
      simp at this
      omega
    obtain rfl : b = false := HY.out.symm.trans hn
    clear hn hp hx
    go_wp2_with fail
    go_ret
    exact ⟨rfl, HB3.out⟩
theorem name_short (s : ByteArray) (w : World) (hs : s.size < 1 ∨ 24 < s.size) (hz : s.size ≤ 140737488351232) :
    Calls Tryd.prog 23 #[.string s] w fun e w' => e = .returned (.bool false) ∧ Below w.heap.size w w' := by
  rcases hs with h | h
  · have i1 : (s.size : Int) < 1 := by omega
    go_enter Tryd.func23, Tryd.ntmps23
    go_wp2_with fail
    go_ret
    exact ⟨rfl, Below.refl _ _⟩
  · have i1 : ¬ (s.size : Int) < 1 := by omega
    have i2 : (24 : Int) < (s.size : Int) := by omega
    go_enter Tryd.func23, Tryd.ntmps23
    go_wp2_with fail
    go_ret
    exact ⟨rfl, Below.refl _ _⟩
theorem name_first (s : ByteArray) (w : World) (hs : 1 ≤ s.size) (hs2 : s.size ≤ 24) (hl : isLetter (s[0]'hs).toNat = false) :
    Calls Tryd.prog 23 #[.string s] w fun e w' => e = .returned (.bool false) ∧ Below w.heap.size w w' := by
  have HC := Aside0.mk (contains_calls s hs)
  rw [hl] at HC
  have i1 : (1 : Int) ≤ (s.size : Int) := by omega
  have i2 : (s.size : Int) ≤ 24 := by omega
  clear hl
  go_enter Tryd.func23, Tryd.ntmps23
  go_wp2_with (go_at_call 42; refine (HC.out _).mono ?_; rintro e w1 ⟨rfl, rfl⟩)
  go_ret
  exact ⟨rfl, Below.refl _ _⟩
theorem obj_Name.calls (a0 : ByteArray) (r : Bool) (w : World) (h : obj_Name.f a0 = some r) (hG : GlobOk w) :
    Calls Tryd.prog 23 #[.string a0] w fun e w' => e = .returned (.bool r) ∧ Below w.heap.size w w' := by
  unfold obj_Name.f at h
  split at h
  · rename_i hz
    obtain rfl := Option.some.inj h
    by_cases hs : 1 ≤ a0.size
    · by_cases hs2 : a0.size ≤ 24
      · cases hl : isLetter (a0[0]'hs).toNat with
        | true => exact name_calls a0 w hs hs2 hl hG
        | false =>
          have : nameB a0.data.toList = false := by
            unfold nameB
            rw [getD_zero a0 hs, hl]
            simp
          rw [this]
          exact name_first a0 w hs hs2 hl
      · have : nameB a0.data.toList = false := by
          unfold nameB
          rw [data_length, decide_eq_false hs2]
          simp
        rw [this]
        exact name_short a0 w (.inr (by omega)) hz
    · have : nameB a0.data.toList = false := by
        unfold nameB
        rw [data_length, decide_eq_false hs]
        rfl
      rw [this]
      exact name_short a0 w (.inl (by omega)) hz
  · cases h
end Go.Proofs.YtaoajlaocphgdaaDoor.PA
end
section
namespace Go.Proofs.YtaoajlaocphgdaaDoor.PA
open Go.RowKit Go.Proofs.YtaoajlaocphgdaaDoorW.PrintWords Go.Proofs.YtaoajlaocphgdaaDoorW.PrintLast Go.Proofs.YtaoajlaocphgdaaDoorW.PrintMore
set_option linter.unusedVariables false
structure Sets (w w1 : World) (g : Nat) (t : TypeId) (cs : Array Value) : Prop where
  at_ : w1.heap[g]? = some (.cells cs t (0, 0))
  other : ∀ k, k ≠ g → w1.heap[k]? = w.heap[k]?
  size : w1.heap.size = w.heap.size
  os : w1.os = w.os
  tape : w1.tape = w.tape
  output : w1.output = w.output
theorem Sets.below {w w1 a : World} {g B : Nat} {t : TypeId} {cs : Array Value} (h : Sets w w1 g t cs) (hB : Below B a w) (hg : B ≤ g) : Below B a w1 :=
  hB.trans ⟨h.os, h.tape, h.output, by rw [h.size]; exact Nat.le_refl _, fun i hi => h.other i (by omega)⟩
theorem Sets.row {α : Type} {d : Kd α} {e base : Nat} {v : Value} {xs : List α} {w w1 : World} {g : Nat} {t : TypeId} {cs cs' : Array Value} (hs : Sets w w1 g t cs') (h : d.R e w base (fun _ => True) v xs) (hb : w.heap[g]? = some (.cells cs t (0, 0))) (ht : ∀ q, q ∈ e :: d.E → q ≠ t) : d.R e w1 base (fun _ => True) v xs :=
  Kd.R_mono (Kd.R_step (Kd.R_types h hb ht) (fun k ho _ => hs.other k ho.2)) (fun _ _ => trivial)
theorem Sets.blk {w w1 : World} {g g' : Nat} {t : TypeId} {cs : Array Value} {o : Obj} (hs : Sets w w1 g t cs) (h : w.heap[g']? = some o) (hne : g' ≠ g) : w1.heap[g']? = some o := (hs.other g' hne).trans h
section
variable {P : Program} {ops : Array Oper} {Q : Exit → Act → World → Prop} {rest : List Oper} {o : Oper} {a : Act} {W : World}
theorem run_store_row (g : Nat) (t ty : TypeId) (cs cs' : Array Value) (hb : W.heap[g]? = some (.cells cs t (0, 0))) (hi : (P.info? ty).map (·.size) = some cs'.size) (hsz : cs.size = cs'.size) (h1 : cs'.all (·.oneCell') = true) :
    (Instr.storeAt ty (.pointer (some ⟨g, 0, none⟩)) (.agg cs')).run P W = .ok () (W.setRow g cs') := by
  simp only [Instr.storeAt, Instr.sureAddr, Sem.run_bind, Sem.run_pure, Result.andThen_ok]
  exact run_storeVar_row W g t ty cs cs' hb hi hsz h1
theorem sets_row (g : Nat) (t : TypeId) (cs cs' : Array Value) (hb : W.heap[g]? = some (.cells cs t (0, 0))) : Sets W (W.setRow g cs') g t cs' := by
  refine ⟨?_, ?_, ?_, rfl, rfl, rfl⟩
  · simp [World.setRow, Array.getElem?_modify, hb]
  · intro k hk
    simp [World.setRow, Array.getElem?_modify, Ne.symm hk]
  · simp [World.setRow]
theorem store_event {ty : TypeId} {x y : Operand} (hgd : o.guard = none) (ho : o.op = .store ty x y) (g : Nat) (t : TypeId) (cs cs' : Array Value) (hx : a.eval x = .pointer (some ⟨g, 0, none⟩)) (hy : a.eval y = .agg cs')
    (hb : W.heap[g]? = some (.cells cs t (0, 0))) (hi : (P.info? ty).map (·.size) = some cs'.size) (hsz : cs.size = cs'.size) (h1 : cs'.all (·.oneCell') = true)
    (h : ∀ w1, Sets W w1 g t cs' → wpList P ops Q rest (a.put o.dst undef) w1) : wpList P ops Q (o :: rest) a W := by
  refine wpList_plain hgd fun K hK => ?_
  unfold Oper.wp execOp
  simp only [ho, hx, hy, Sem.run_bind, run_store_row g t ty cs cs' hb hi hsz h1, Result.andThen_ok, Sem.run_pure]
  exact hK _ _ (h _ (sets_row g t cs cs' hb))
end
end Go.Proofs.YtaoajlaocphgdaaDoor.PA
end
section
namespace Go.Proofs.YtaoajlaocphgdaaDoor.PA
open Go.RowKit Go.Proofs.YtaoajlaocphgdaaDoorW.PrintWords Go.Proofs.YtaoajlaocphgdaaDoorW.PrintLast Go.Proofs.YtaoajlaocphgdaaDoorW.PrintMore
set_option linter.unusedVariables false
set_option linter.unusedSimpArgs false
def codeL (ps : List Int) (l : LayV) : List S43 := finalL (placeOf l ps) (allP l ps) 0
def wordsL (ps : List Int) (l : LayV) : List Int := (codeL ps l).map fun x => (encP x).1
def relsL (name : ByteArray) (ps : List Int) (l : LayV) : List S49 := [⟨4 * ((preP l ps).length : Int), 2, name, 0⟩]
def noCells : Array Value := #[.slice none 0 0, .slice none 0 0, .slice none 0 0, .slice none 0 0, .slice none 0 0]
def objCells (u v : Value) : Array Value := #[u, .slice none 0 0, .slice none 0 0, v, .slice none 0 0]
theorem code_length (ps : List Int) (l : LayV) : (codeL ps l).length = (allP l ps).length := finalL_length _ _ _
theorem pre_length (l : LayV) (ps : List Int) (h : ps.length ≤ 6) : (preP l ps).length ≤ 100 := by
  have := all_length l ps h
  simp only [allP, noP, leftP, midP, List.length_append] at this
  omega
theorem bad_range {ps : List Int} (h : ps.any badN = false) : ∀ n ∈ ps, 0 ≤ n ∧ n ≤ 64 := by
  intro n hn
  have := List.any_eq_false.1 h n hn
  simp [badN] at this
  omega
set_option maxHeartbeats 16000000 in
set_option maxRecDepth 100000 in
theorem cap_no (name : ByteArray) (A1 : Option Addr) (c1 : Nat) (ps : List Int) (l : LayV) (w : World) (hr : Kd.C (Kd.int .i64) w A1 ps.length ps) (hc : ps.length ≤ c1) (hG : GlobOk w) (hsz : name.size ≤ 140737488351232)
    (hno : (mayL l && nameB name.data.toList && !decide ((6 : Int) < (ps.length : Int)) && !ps.any badN) = false) :
    Calls Tryd.prog 10 #[.string name, .slice A1 ps.length c1, .agg (layArr l)] w fun e w' => e = .returned (.tuple #[.agg noCells, .int .i64 1]) ∧ Below w.heap.size w w' := by
  have HR := Aside0.mk hr
  have HC := Aside0.mk hc
  have HG := Aside0.mk hG
  have HB := Aside0.mk (Below.refl w.heap.size w)
  obtain ⟨m, hm⟩ : ∃ m, m = mayL l := ⟨_, rfl⟩
  obtain ⟨nm, hnm⟩ : ∃ m, m = nameB name.data.toList := ⟨_, rfl⟩
  obtain ⟨bd, hbd⟩ : ∃ m, m = ps.any badN := ⟨_, rfl⟩
  obtain ⟨lg, hlg⟩ : ∃ m, m = decide ((6 : Int) < (ps.length : Int)) := ⟨_, rfl⟩
  rw [← hm, ← hnm, ← hbd, ← hlg] at hno
  have HM := Aside0.mk (show wrap_May.f 6 l.a0 l.a1 l.a2 l.a3 l.a4 l.a5 l.a6 l.a7 l.a8 l.a9 l.a10 l.a11 l.a12 l.a13 l.a14 l.a15 l.a16 l.a17 l.a18 l.a19 = some m from hm ▸ may_f l 6 (Nat.le_refl _))
  have HN := Aside0.mk (show obj_Name.f name = some nm from by unfold obj_Name.f; rw [if_pos hsz, hnm])
  have HF := Aside0.mk (show slices_ContainsFunc_int_int__22.f ps = some bd from by rw [hbd]; rfl)
  replace hlg := hlg.symm
  clear hr hc hG hm hnm hbd hsz
  go_enter Tryd.func10, Tryd.ntmps10
  go_wp2_with (first | ((with_reducible refine gate_dst (N := 5) rfl ?_); refine box_event ?hg (N := 5) ?hd (cs := layArr l) (t := 27) ?hr ?_; (case hd => rfl); (case hg => rfl); (case hr => (refine exec_box (by rfl) (by rfl) (run_boxL l _))); intro g5 hg5 w1 B5 hb1; have HB1 := Aside0.mk (below_step HB.out hb1); have HG1 := Aside0.mk (HG.out.of_below hb1); have HR1 := Aside0.mk (Kd.C_below HR.out hb1); have HK5 := Aside0.mk B5; have HE5 := Aside0.mk (show w.heap.size ≤ g5 by rw [hg5]; exact HB.out.size); clear HB hb1 B5 hg5) | ((with_reducible refine gate_dst (N := 6) rfl ?_); refine box_event ?hg (N := 6) ?hd (cs := noCells) (t := 35) ?hr ?_; (case hd => rfl); (case hg => rfl); (case hr => first | (go_simp; done) | (go_simp; rfl)); intro g6 hg6 w2 B6 hb2; have HB2 := Aside0.mk (below_step HB1.out hb2); have HG2 := Aside0.mk (HG1.out.of_below hb2); have HR2 := Aside0.mk (Kd.C_below HR1.out hb2); have HK52 := Aside0.mk (blk_below HK5.out hb2); have HE6 := Aside0.mk (show w.heap.size ≤ g6 by rw [hg6]; exact HB1.out.size); have HK6 := Aside0.mk B6; clear HB1 HG1 HR1 HK5 hb2 B6 hg6))
  refine (slices_ContainsFunc_int_int__22.calls _ _ ps bd _ HR2.out HC.out HF.out).mono ?_
  rintro e w3 ⟨rfl, hb3⟩
  have HB3 := Aside0.mk (below_step HB2.out hb3)
  have HG3 := Aside0.mk (HG2.out.of_below hb3)
  have HK53 := Aside0.mk (blk_below HK52.out hb3)
  have HK63 := Aside0.mk (blk_below HK6.out hb3)
  clear hb3 HB2 HG2 HK52 HK6
  go_wp2_with (first | ((with_reducible refine gate_dst (N := 18) rfl ?_); refine wpList_load_row (by rfl) 27 _ (by rfl) g5 (by rfl) 27 (layArr l) (0, 0) _ HK53.out Tryd.underlying27 rfl (by kernel_rfl) ?_))
  refine (wrap_May.calls 6 l.a0 l.a1 l.a2 l.a3 l.a4 l.a5 l.a6 l.a7 l.a8 l.a9 l.a10 l.a11 l.a12 l.a13 l.a14 l.a15 l.a16 l.a17 l.a18 l.a19 m _ HM.out).mono ?_
  rintro e w4 ⟨rfl, hb4⟩
  have HB4 := Aside0.mk (below_step HB3.out hb4)
  have HG4 := Aside0.mk (HG3.out.of_below hb4)
  have HK64 := Aside0.mk (blk_below HK63.out hb4)
  clear hb4 HB3 HG3 HK53 HK63
  cases m with
  | false =>
    go_wp2_with (first | (refine store_event (by rfl) (ty := 35) (by rfl) g6 35 noCells noCells (by rfl) (by rfl) HK64.out (by kernel_rfl) rfl (by kernel_rfl) ?_; intro w9 hs9; have HK9 := Aside0.mk hs9.at_; have HB9 := Aside0.mk (hs9.below HB4.out HE6.out); clear hs9))
    refine bodyPost_ret (results_ct rfl _ _ g6 35 noCells (0, 0) _ rfl HK9.out Tryd.underlying35 rfl (by kernel_rfl)) rfl ?_
    exact ⟨rfl, HB9.out⟩
  | true =>
    go_wp2_with fail
    refine (obj_Name.calls name nm _ HN.out HG4.out).mono ?_
    rintro e w5 ⟨rfl, hb5⟩
    have HB5 := Aside0.mk (below_step HB4.out hb5)
    have HK65 := Aside0.mk (blk_below HK64.out hb5)
    clear hb5 HB4 HG4 HK64
    cases nm with
    | false =>
      go_wp2_with (first | (refine store_event (by rfl) (ty := 35) (by rfl) g6 35 noCells noCells (by rfl) (by rfl) HK65.out (by kernel_rfl) rfl (by kernel_rfl) ?_; intro w9 hs9; have HK9 := Aside0.mk hs9.at_; have HB9 := Aside0.mk (hs9.below HB5.out HE6.out); clear hs9))
      refine bodyPost_ret (results_ct rfl _ _ g6 35 noCells (0, 0) _ rfl HK9.out Tryd.underlying35 rfl (by kernel_rfl)) rfl ?_
      exact ⟨rfl, HB9.out⟩
    | true =>
      cases lg with
      | true =>
        go_wp2_with (first | (refine store_event (by rfl) (ty := 35) (by rfl) g6 35 noCells noCells (by rfl) (by rfl) HK65.out (by kernel_rfl) rfl (by kernel_rfl) ?_; intro w9 hs9; have HK9 := Aside0.mk hs9.at_; have HB9 := Aside0.mk (hs9.below HB5.out HE6.out); clear hs9))
        refine bodyPost_ret (results_ct rfl _ _ g6 35 noCells (0, 0) _ rfl HK9.out Tryd.underlying35 rfl (by kernel_rfl)) rfl ?_
        exact ⟨rfl, HB9.out⟩
      | false =>
        cases bd with
        | true =>
          go_wp2_with (first | (refine store_event (by rfl) (ty := 35) (by rfl) g6 35 noCells noCells (by rfl) (by rfl) HK65.out (by kernel_rfl) rfl (by kernel_rfl) ?_; intro w9 hs9; have HK9 := Aside0.mk hs9.at_; have HB9 := Aside0.mk (hs9.below HB5.out HE6.out); clear hs9))
          refine bodyPost_ret (results_ct rfl _ _ g6 35 noCells (0, 0) _ rfl HK9.out Tryd.underlying35 rfl (by kernel_rfl)) rfl ?_
          exact ⟨rfl, HB9.out⟩
        | false => simp at hno
set_option maxHeartbeats 16000000 in
set_option maxRecDepth 100000 in
theorem cap_yes (name : ByteArray) (A1 : Option Addr) (c1 : Nat) (ps : List Int) (l : LayV) (w : World) (hr : Kd.C (Kd.int .i64) w A1 ps.length ps) (hc : ps.length ≤ c1) (hG : GlobOk w) (hsz : name.size ≤ 140737488351232)
    (hm : mayL l = true) (hn : nameB name.data.toList = true) (hp : ps.length ≤ 6) (hbad : ps.any badN = false) :
    Calls Tryd.prog 10 #[.string name, .slice A1 ps.length c1, .agg (layArr l)] w fun e w' => ∃ u v : Value, e = .returned (.tuple #[.agg (objCells u v), .int .i64 0]) ∧ Kd.R (Kd.int .u32) 46 w' w.heap.size (fun _ => True) u (wordsL ps l) ∧ Kd.R k49 49 w' w.heap.size (fun _ => True) v (relsL name ps l) ∧ Below w.heap.size w w' := by
  have HR := Aside0.mk hr
  have HC := Aside0.mk hc
  have HG := Aside0.mk hG
  have HB := Aside0.mk (Below.refl w.heap.size w)
  have HM := Aside0.mk (show wrap_May.f 6 l.a0 l.a1 l.a2 l.a3 l.a4 l.a5 l.a6 l.a7 l.a8 l.a9 l.a10 l.a11 l.a12 l.a13 l.a14 l.a15 l.a16 l.a17 l.a18 l.a19 = some true from hm ▸ may_f l 6 (Nat.le_refl _))
  have HN := Aside0.mk (show obj_Name.f name = some true from by unfold obj_Name.f; rw [if_pos hsz, hn])
  have HF := Aside0.mk (show slices_ContainsFunc_int_int__22.f ps = some false from by rw [← hbad]; rfl)
  have hlg : decide ((6 : Int) < (ps.length : Int)) = false := decide_eq_false (by omega)
  obtain ⟨code, hcode⟩ : ∃ c, c = codeL ps l := ⟨_, rfl⟩
  obtain ⟨pn, hpn⟩ : ∃ c, c = (preP l ps).length := ⟨_, rfl⟩
  have hW : ∀ W : World, Kd.C (Kd.int .i64) W A1 ps.length ps → Calls Tryd.prog 24 #[.slice A1 ps.length c1, .agg (layArr l)] W fun e w' => ∃ v0_ : Value, e = .returned (.tuple #[v0_, .int .i64 (pn : Int)]) ∧ k43.R 43 w' W.heap.size (fun _ => True) v0_ code ∧ Below W.heap.size W w' := by
    intro W hW
    rw [hcode, hpn]
    exact wrapper_calls A1 c1 ps l W hW (mayL_ok hm).1 hp (bad_range hbad)
  have HW := Aside0.mk hW
  have hpl : pn ≤ 100 := hpn ▸ pre_length l ps hp
  have hcl : code.length ≤ 100 := by rw [hcode, code_length]; exact all_length l ps hp
  have HWD := Aside0.mk (show wordsL ps l = code.map fun x => (encP x).1 from by rw [hcode]; rfl)
  have HRL := Aside0.mk (show relsL name ps l = [⟨4 * (pn : Int), 2, name, 0⟩] from by rw [hpn]; rfl)
  clear hr hc hG hm hn hbad hsz hcode hpn hW
  go_enter Tryd.func10, Tryd.ntmps10
  go_wp2_with (first | ((with_reducible refine gate_dst (N := 5) rfl ?_); refine box_event ?hg (N := 5) ?hd (cs := layArr l) (t := 27) ?hr ?_; (case hd => rfl); (case hg => rfl); (case hr => (refine exec_box (by rfl) (by rfl) (run_boxL l _))); intro g5 hg5 w1 B5 hb1; have HB1 := Aside0.mk (below_step HB.out hb1); have HG1 := Aside0.mk (HG.out.of_below hb1); have HR1 := Aside0.mk (Kd.C_below HR.out hb1); have HK5 := Aside0.mk B5; have HE5 := Aside0.mk (show w.heap.size ≤ g5 by rw [hg5]; exact HB.out.size); clear HB hb1 B5 hg5) | ((with_reducible refine gate_dst (N := 6) rfl ?_); refine box_event ?hg (N := 6) ?hd (cs := noCells) (t := 35) ?hr ?_; (case hd => rfl); (case hg => rfl); (case hr => first | (go_simp; done) | (go_simp; rfl)); intro g6 hg6 w2 B6 hb2; have HB2 := Aside0.mk (below_step HB1.out hb2); have HG2 := Aside0.mk (HG1.out.of_below hb2); have HR2 := Aside0.mk (Kd.C_below HR1.out hb2); have HK52 := Aside0.mk (blk_below HK5.out hb2); have HE6 := Aside0.mk (show w.heap.size ≤ g6 by rw [hg6]; exact HB1.out.size); have HK6 := Aside0.mk B6; clear HB1 HG1 HR1 HK5 hb2 B6 hg6))
  refine (slices_ContainsFunc_int_int__22.calls _ _ ps false _ HR2.out HC.out HF.out).mono ?_
  rintro e w3 ⟨rfl, hb3⟩
  have HB3 := Aside0.mk (below_step HB2.out hb3)
  have HG3 := Aside0.mk (HG2.out.of_below hb3)
  have HK53 := Aside0.mk (blk_below HK52.out hb3)
  have HK63 := Aside0.mk (blk_below HK6.out hb3)
  have HR3 := Aside0.mk (Kd.C_below HR2.out hb3)
  clear hb3 HB2 HG2 HK52 HK6 HR2
  go_wp2_with (first | ((with_reducible refine gate_dst (N := 18) rfl ?_); refine wpList_load_row (by rfl) 27 _ (by rfl) g5 (by rfl) 27 (layArr l) (0, 0) _ HK53.out Tryd.underlying27 rfl (by kernel_rfl) ?_))
  refine (wrap_May.calls 6 l.a0 l.a1 l.a2 l.a3 l.a4 l.a5 l.a6 l.a7 l.a8 l.a9 l.a10 l.a11 l.a12 l.a13 l.a14 l.a15 l.a16 l.a17 l.a18 l.a19 true _ HM.out).mono ?_
  rintro e w4 ⟨rfl, hb4⟩
  have HB4 := Aside0.mk (below_step HB3.out hb4)
  have HG4 := Aside0.mk (HG3.out.of_below hb4)
  have HK64 := Aside0.mk (blk_below HK63.out hb4)
  have HR4 := Aside0.mk (Kd.C_below HR3.out hb4)
  have HK54 := Aside0.mk (blk_below HK53.out hb4)
  clear hb4 HB3 HG3 HK53 HK63 HR3
  go_wp2_with fail
  refine (obj_Name.calls name true _ HN.out HG4.out).mono ?_
  rintro e w5 ⟨rfl, hb5⟩
  have HB5 := Aside0.mk (below_step HB4.out hb5)
  have HG5 := Aside0.mk (HG4.out.of_below hb5)
  have HK65 := Aside0.mk (blk_below HK64.out hb5)
  have HK55 := Aside0.mk (blk_below HK54.out hb5)
  have HR5 := Aside0.mk (Kd.C_below HR4.out hb5)
  clear hb5 HB4 HG4 HK64 HK54 HR4
  go_wp2_with (first | ((with_reducible refine gate_dst (N := 37) rfl ?_); refine wpList_load_row (by rfl) 27 _ (by rfl) g5 (by rfl) 27 (layArr l) (0, 0) _ HK55.out Tryd.underlying27 rfl (by kernel_rfl) ?_))
  refine (HW.out _ HR5.out).mono ?_
  rintro e w6 ⟨v9, rfl, hR9, hb6⟩
  have HB6 := Aside0.mk (below_step HB5.out hb6)
  have HG6 := Aside0.mk (HG5.out.of_below hb6)
  have HK66 := Aside0.mk (blk_below HK65.out hb6)
  have HC6 := Aside0.mk (Kd.R_lower hR9 HB5.out.size)
  obtain ⟨Ac, cc, rfl⟩ := Kd.R_slice hR9
  clear hb6 HB5 HG5 HK65 HK55 HR5 hR9
  have hw4 : IntKind.i64.wrap (4 * (pn : Int)) = 4 * pn := IntWalk.i64_in _ (by omega)
  have hcc : code.length ≤ 9223372036854775807 := by omega
  go_wp2_with (first | ((with_reducible refine gate_dst (N := 45) rfl ?_); refine Kd.R_lit k49 (w0 := w) w.heap.size 49 ?hg (N := 45) ?hd (xs := [(⟨4 * (pn : Int), 2, name, 0⟩ : S49)]) (inner := [.int .i64 (4 * (pn : Int)), .int .i64 2, .string name, .int .i64 0]) (ok := fun _ => True) (okp := fun _ => True) ?hr ?hp (fun _ hk => hk) trivial HB6.out HB6.out.size (by simp) ?_; (case hd => rfl); (case hg => rfl); (case hr => first | (go_simp; done) | (go_simp; rfl)); (case hp => exact (Reps.c4 (show Kd.M k49 _ _ _ (⟨4 * (pn : Int), 2, name, 0⟩ : S49) [.int .i64 (4 * (pn : Int)), .int .i64 2, .string name, .int .i64 0] from (k49_mkM _ _ _ (⟨4 * (pn : Int), 2, name, 0⟩ : S49) )) (Reps.none _ _))); intro v3 w7 ho7 hb7 hg7 hnew7; obtain ⟨A3, c3, hv3⟩ := Kd.R_slice ho7; replace hv3 : v3 = .slice A3 1 c3 := hv3; subst hv3; have HR7 := Aside0.mk ho7; have HB7 := Aside0.mk hb7; have HG7 := Aside0.mk hg7; clear ho7 hb7 hg7 hnew7; have HK67 := Aside0.mk (blk_grown HK66.out HG7.out (by intro e; cases e))) | ((with_reducible refine gate_dst (N := 11) rfl ?_); refine box_event ?hg (N := 11) ?hd (cs := noCells) (t := 35) ?hr ?_; (case hd => rfl); (case hg => rfl); (case hr => first | (go_simp; done) | (go_simp; rfl)); intro g11 hg11 w8 B11 hb8; have HS8 := Aside0.mk hb8; have HE11 := Aside0.mk hg11; have HK11 := Aside0.mk B11; clear hb8 hg11 B11) | (refine store_event (by rfl) (ty := 35) (by rfl) g11 35 noCells (objCells (.slice none 0 0) (.slice A3 1 c3)) (by rfl) (by rfl) HK11.out (by kernel_rfl) rfl (by kernel_rfl) ?_; intro w9 hs9; have HS9 := Aside0.mk hs9; clear hs9))
  have HB9 := Aside0.mk (HS9.out.below (below_step HB7.out HS8.out) (by rw [HE11.out]; exact HB7.out.size))
  have hlt6 := blk_lt HK67.out
  have hne6 : g6 ≠ g11 := by have := HE11.out; omega
  have HC9 := Aside0.mk (HS9.out.row (Kd.R_below (Kd.R_grown HC6.out HG7.out (by intro k _ e; cases e)) HS8.out) HK11.out (by decide))
  have HR9 := Aside0.mk (HS9.out.row (Kd.R_below HR7.out HS8.out) HK11.out (by decide))
  have HK69 := Aside0.mk (HS9.out.blk (blk_below HK67.out HS8.out) hne6)
  have HK119 := Aside0.mk HS9.out.at_
  have HN6 := Aside0.mk hne6
  have HE11' := Aside0.mk (show w.heap.size ≤ g11 by rw [HE11.out]; exact HB7.out.size)
  clear HS9 HS8 HK11 HE11 HG7 HK67 HK66 HC6 HR7 HB7 hlt6 hne6 HB6
  go_loopg [49] code.length (fun k v49 w' => ∃ (i : Nat) (u : Value), v49 = .int .i64 i ∧ Aside0 (i + k = code.length) ∧ Aside0 (Kd.R k43 43 w' w.heap.size (fun _ => True) (.slice Ac code.length cc) code) ∧ Aside0 (Kd.R (Kd.int .u32) 46 w' w.heap.size (fun _ => True) u ((code.take i).map fun x => (encP x).1)) ∧
    Aside0 (Kd.R k49 49 w' w.heap.size (fun _ => True) (.slice A3 1 c3) [(⟨4 * (pn : Int), 2, name, 0⟩ : S49)]) ∧ Aside0 (w'.heap[g6]? = some (.cells noCells 35 (0, 0))) ∧ Aside0 (w'.heap[g11]? = some (.cells (objCells u (.slice A3 1 c3)) 35 (0, 0))) ∧ Aside0 (Below w.heap.size w w'))
  case atStart => exact ⟨0, _, rfl, ⟨Nat.zero_add _⟩, HC9, ⟨by rw [List.take_zero]; exact Kd.R_nil _ _ _ _ _⟩, HR9, HK69, HK119, HB9⟩
  case round =>
    clear HC9 HR9 HK69 HK119 HB9
    obtain ⟨i, u, rfl, HI, HC9, HU9, HR9, HK69, HK119, HB9⟩ := hrel
    have HGr := Aside0.mk (HG.out.of_below HB9.out)
    by_cases hlt : i < code.length
    · obtain ⟨x, hx⟩ : ∃ x, x = rd_T43 code i := ⟨_, rfl⟩
      obtain ⟨ad, e51, x0, x1, x2, x3, x4⟩ := at_T43 (Kd.R_reads' HC9.out).2.2 i (by omega) (by omega)
      cases e51
      rw [← hx] at x0 x1 x2 x3 x4
      simp only [Int.toNat_natCast] at x0 x1 x2 x3 x4
      have HX := Aside0.mk hx
      clear hx
      have HEN := Aside0.mk (encode_f x)
      go_wp2_with (first | ((with_reducible refine gate_dst (N := 13) rfl ?_); refine box_event ?hg (N := 13) ?hd (cs := #[.int .i64 0, .int .i64 0, .int .i64 0, .int .i64 0, .int .i64 0]) (t := 43) ?hr ?_; (case hd => rfl); (case hg => rfl); (case hr => first | (go_simp; done) | (go_simp; rfl)); intro g13 hg13 w10 B13 hb10; have HS10 := Aside0.mk hb10; have HE13 := Aside0.mk hg13; have HK13 := Aside0.mk B13; clear hb10 hg13 B13) | (refine store_event (by rfl) (ty := 43) (by rfl) g13 43 #[.int .i64 0, .int .i64 0, .int .i64 0, .int .i64 0, .int .i64 0] #[.int .i64 x.f0, .int .i64 x.f1, .int .i64 x.f2, .int .i64 x.f3, .int .i64 x.f4] (by rfl) (by rfl) HK13.out (by kernel_rfl) rfl (by kernel_rfl) ?_; intro w11 hs11; have HS11 := Aside0.mk hs11; clear hs11) | ((with_reducible refine gate_dst (N := 54) rfl ?_); refine wpList_load_row (by rfl) 43 _ (by rfl) g13 (by rfl) 43 #[.int .i64 x.f0, .int .i64 x.f1, .int .i64 x.f2, .int .i64 x.f3, .int .i64 x.f4] (0, 0) _ HS11.out.at_ Tryd.underlying43 rfl (by kernel_rfl) ?_))
      have hb11 := HS11.out.below HS10.out (by rw [HE13.out]; exact Nat.le_refl _)
      refine (ins_Encode.calls 20 x.f0 x.f1 x.f2 x.f3 x.f4 (encP x).1 (encP x).2 _ HEN.out (HGr.out.of_below hb11)).mono ?_
      rintro e w12 ⟨rfl, hb12⟩
      have hbb := below_step hb11 hb12
      have HC12 := Aside0.mk (Kd.R_below HC9.out hbb)
      have HU12 := Aside0.mk (Kd.R_below HU9.out hbb)
      have HR12 := Aside0.mk (Kd.R_below HR9.out hbb)
      have HK612 := Aside0.mk (blk_below HK69.out hbb)
      have HK1112 := Aside0.mk (blk_below HK119.out hbb)
      have HB12 := Aside0.mk (below_step HB9.out hbb)
      have c0 : w12.cell? ⟨g11, 0, none⟩ = some u := (blk_cell HK1112.out 0).trans rfl
      clear hb11 hb12 hbb HC9 HU9 HR9 HK69 HK119 HB9 HS11 HS10 HE13 HK13 x0 x1 x2 x3 x4 HGr
      obtain ⟨y, hy⟩ : ∃ y, y = (encP x).1 := ⟨_, rfl⟩
      rw [← hy]
      obtain ⟨us, hus⟩ : ∃ us, us = (code.take i).map fun x => (encP x).1 := ⟨_, rfl⟩
      rw [← hus] at HU12
      have hul : us.length ≤ 100 := by rw [hus, List.length_map, List.length_take]; omega
      have HUS := Aside0.mk (show (code.take (i + 1)).map (fun x => (encP x).1) = us ++ [y] from by
        rw [hus, List.take_succ_eq_append_getElem hlt, List.map_append, hy, HX.out]
        simp [rd_T43, List.getD_eq_getElem?_getD, List.getElem?_eq_getElem hlt])
      clear hy hus HEN
      go_wp2_with (at_builtin; refine Kd.R_append (Kd.int .u32) (w0 := w) w.heap.size rfl (.tmp 59) (.tmp 61) 29 46 (.int .u32 0) 4 rfl Tryd.underlying29 info46 rfl (by decide) (by omega) u us y [.int .u32 y] (fun _ => True) (fun _ => False) rfl rfl ?aP (fun _ hk => hk.elim) ?aF ?aO ?aB ?aS ?aL ?_; (case aP => exact rfl); (case aB => exact HB12.out); (case aF => exact (fun _ _ => trivial)); (case aO => exact HU12.out); (case aS => exact HB12.out.size); (case aL => omega))
      intro v13 w13 ho hb hg hat
      have HB13 := Aside0.mk hb
      have HU13 := Aside0.mk ho
      have HC13 := Aside0.mk (Kd.R_over' HC12.out (Kd.R_typed HU12.out) (by decide) hg)
      have HR13 := Aside0.mk (Kd.R_over' HR12.out (Kd.R_typed HU12.out) (by decide) hg)
      have HK613 := Aside0.mk (blk_grown HK612.out hg (Kd.R_ne HU12.out HK612.out (by decide)))
      have HK1113 := Aside0.mk (blk_grown HK1112.out hg (Kd.R_ne HU12.out HK1112.out (by decide)))
      have c13 : w13.cell? ⟨g11, 0, none⟩ = some u := (blk_cell HK1113.out 0).trans rfl
      have f13 : w13.frozen? ⟨g11, 0, none⟩ = false := blk_frozen HK1113.out 0
      obtain ⟨Av, cv, hv⟩ := Kd.R_slice ho
      have hv1 : v13.oneCell' = true := by rw [hv]; rfl
      have HV := Aside0.mk hv
      clear hb ho hg hat c0 HC12 HU12 HR12 HK612 HK1112 HB12 hv
      rw [show (us ++ [y]).length = us.length + 1 from by simp] at HV
      obtain rfl := HV.out
      clear HV hv1
      go_wp2_with fail
      have hi1 : wrap64 ((i : Int) + 1) = ((i + 1 : Nat) : Int) := IntWalk.wrap64_in _ (by omega)
      go_roundg (code.length - (i + 1))
      case measure => have := HI.out; omega
      case rel => exact ⟨i + 1, _, by go_num, ⟨by omega⟩, ⟨Kd.R_set HC13.out HK1113.out (by decide) 0 _⟩, ⟨by rw [HUS.out]; exact Kd.R_set HU13.out HK1113.out (by decide) 0 _⟩, ⟨Kd.R_set HR13.out HK1113.out (by decide) 0 _⟩, ⟨blk_far HK613.out HN6.out _⟩, ⟨blk_put HK1113.out 0 _ rfl⟩, ⟨below_set HB13.out HE11'.out⟩⟩
    · obtain rfl : i = code.length := by have := HI.out; omega
      rw [List.take_length] at HU9
      have HO1 := Aside0.mk (show (objCells u (.slice A3 1 c3)).all (·.oneCell') = true from by obtain ⟨Au, cu, hu⟩ := Kd.R_slice HU9.out; rw [hu]; simp [objCells, Value.oneCell'])
      go_wp2_with (first | ((with_reducible refine gate_dst (N := 65) rfl ?_); refine wpList_load_row (by rfl) 35 _ (by rfl) g11 (by rfl) 35 (objCells u (.slice A3 1 c3)) (0, 0) _ HK119.out Tryd.underlying35 rfl (by kernel_rfl) ?_) | (refine store_event (by rfl) (ty := 35) (by rfl) g6 35 noCells (objCells u (.slice A3 1 c3)) (by rfl) (by rfl) HK69.out (by kernel_rfl) rfl (HO1.out) ?_; intro w14 hs14; have HS14 := Aside0.mk hs14; clear hs14))
      refine bodyPost_ret (results_ct rfl _ _ g6 35 (objCells u (.slice A3 1 c3)) (0, 0) _ rfl HS14.out.at_ Tryd.underlying35 rfl (by kernel_rfl)) rfl ?_
      exact ⟨u, _, rfl, by rw [HWD.out]; exact HS14.out.row HU9.out HK69.out (by decide), by rw [HRL.out]; exact HS14.out.row HR9.out HK69.out (by decide), HS14.out.below HB9.out HE6.out⟩
end Go.Proofs.YtaoajlaocphgdaaDoor.PA
end
section
namespace Go.Proofs.YtaoajlaocphgdaaDoor.PA
open Go.RowKit Go.Proofs.YtaoajlaocphgdaaDoorW.PrintWords Go.Proofs.YtaoajlaocphgdaaDoorW.PrintLast Go.Proofs.YtaoajlaocphgdaaDoorW.PrintMore
set_option linter.unusedVariables false
set_option linter.unusedSimpArgs false
def layC : LayV := ⟨65536, 81920, 0, 0, 131072, 139280, 0, 0, 196608, 262144, 0, 0, 262144, 262208, 0, 0, 327680, 328704, 0, 0⟩
def lay0 : LayV := ⟨0, 0, 0, 0, 0, 0, 0, 0, 0, 0, 0, 0, 0, 0, 0, 0, 0, 0, 0, 0⟩
theorem run_build27 (W : World) : (Instr.build 27 #[(0, .agg #[.int .u64 65536, .int .u64 81920, .int .i64 0, .int .i64 0]), (1, .agg #[.int .u64 131072, .int .u64 139280, .int .i64 0, .int .i64 0]), (2, .agg #[.int .u64 196608, .int .u64 262144, .int .i64 0, .int .i64 0]), (3, .agg #[.int .u64 262144, .int .u64 262208, .int .i64 0, .int .i64 0]), (4, .agg #[.int .u64 327680, .int .u64 328704, .int .i64 0, .int .i64 0])]).run Tryd.prog W = .ok (.agg (layArr layC)) W := by kernel_rfl
set_option maxHeartbeats 4000000 in
set_option maxRecDepth 100000 in
theorem layout_calls (w : World) : Calls Tryd.prog 17 #[] w fun e w' => e = .returned (.agg (layArr layC)) ∧ Below w.heap.size w w' := by
  have HB := Aside0.mk (Below.refl w.heap.size w)
  go_enter Tryd.func17, Tryd.ntmps17
  go_wp2_with (first | ((with_reducible refine gate_dst (N := 0) rfl ?_); refine box_event ?hg (N := 0) ?hd (cs := layArr lay0) (t := 27) ?hr ?_; (case hd => rfl); (case hg => rfl); (case hr => kernel_rfl); intro g0 hg0 w1 B0 hb1; have HB1 := Aside0.mk hb1; have HE0 := Aside0.mk hg0; have HK0 := Aside0.mk B0; clear hb1 hg0 B0) | ((with_reducible refine gate_dst (N := 6) rfl ?_); refine Kd.event_run (v := .agg (layArr layC)) (w1 := w1) (by rfl) ?hrun ?_; (case hrun => refine exec_build (parts := #[(0, .tmp 1), (1, .tmp 2), (2, .tmp 3), (3, .tmp 4), (4, .tmp 5)]) (by rfl) ?_ (run_build27 _); simp [Act.eval])) | (refine store_event (by rfl) (ty := 27) (by rfl) g0 27 (layArr lay0) (layArr layC) (by rfl) (by rfl) HK0.out (by kernel_rfl) rfl (by kernel_rfl) ?_; intro w2 hs2; have HS2 := Aside0.mk hs2; clear hs2))
  refine bodyPost_ret (results_cell_row rfl _ _ g0 27 (layArr layC) (0, 0) _ rfl HS2.out.at_ Tryd.underlying27 rfl (by kernel_rfl)) rfl ?_
  exact ⟨rfl, HS2.out.below HB1.out (by rw [HE0.out]; exact Nat.le_refl _)⟩
end Go.Proofs.YtaoajlaocphgdaaDoor.PA
end
section
namespace Go.Proofs.YtaoajlaocphgdaaDoor.PA
open Go.RowKit Go.Proofs.YtaoajlaocphgdaaDoorW.PrintWords Go.Proofs.YtaoajlaocphgdaaDoorW.PrintLast Go.Proofs.YtaoajlaocphgdaaDoorW.PrintMore
set_option linter.unusedVariables false
set_option linter.unusedSimpArgs false
theorem may_layC : mayL layC = true := by decide
theorem may_lay0 : mayL lay0 = false := by decide
theorem name_f : nameB (⟨#[102]⟩ : ByteArray).data.toList = true := by decide
theorem name_F : nameB (⟨#[70]⟩ : ByteArray).data.toList = false := by decide
theorem len2 : (codeL [0, 2] layC).length = 46 := by decide
theorem len0 : (codeL [] layC).length = 38 := by decide
theorem last2 : (codeL [0, 2] layC)[45]? = some ⟨42, 0, 0, 0, 0⟩ := by rfl
theorem row42 : rd_T97 rowsL 42 = ⟨⟨#[69]⟩, ⟨115, 0, 0⟩⟩ := by rfl
theorem enc42 : encP ⟨42, 0, 0, 0, 0⟩ = (1048691, 0) := by
  simp [encP, ins_Encode.f, ins_May.f, ins_Form.f, row42, ByteArray.toList_eq, ins_has.f, ins_has.j0, ins_reg.f, ins_imm.f]
theorem word2 : rd (wordsL [0, 2] layC) 45 = 1048691 := by
  have h := last2
  simp only [rd, wordsL, List.getD_eq_getElem?_getD, List.getElem?_map]
  rw [show (45 : Int).toNat = 45 from rfl, h]
  simp [enc42]
theorem wlen2 : (wordsL [0, 2] layC).length = 46 := by rw [wordsL, List.length_map, len2]
theorem wlen0 : (wordsL [] layC).length = 38 := by rw [wordsL, List.length_map, len0]
theorem run_build0 (W : World) : (Instr.build 27 #[]).run Tryd.prog W = .ok (.agg (layArr lay0)) W := by kernel_rfl
theorem may_at (l : LayV) (b : Bool) (h : mayL l = b) (w : World) : Calls Tryd.prog 13 #[.agg (layArr l)] w fun e w' => e = .returned (.bool b) ∧ Below w.heap.size w w' :=
  wrap_May.calls 6 l.a0 l.a1 l.a2 l.a3 l.a4 l.a5 l.a6 l.a7 l.a8 l.a9 l.a10 l.a11 l.a12 l.a13 l.a14 l.a15 l.a16 l.a17 l.a18 l.a19 b w (h ▸ may_f l 6 (Nat.le_refl _))
def caponierlaw19_awake.f : Option Bool := some true
set_option maxHeartbeats 16000000 in
set_option maxRecDepth 100000 in
theorem caponierlaw19_awake.calls (r : Bool) (w : World) (h : caponierlaw19_awake.f = some r) (hG : GlobOk w) :
    Calls Tryd.prog 9 #[] w fun e w' => e = .returned (.bool r) ∧ Below w.heap.size w w' := by
  obtain rfl := Option.some.inj h
  clear h
  have HB := Aside0.mk (Below.refl w.heap.size w)
  have HG := Aside0.mk hG
  clear hG
  go_enter Tryd.func9, Tryd.ntmps9
  go_wp2_with (first | ((with_reducible refine gate_dst (N := 9) rfl ?_); refine Kd.R_lit (Kd.int .i64) (w0 := w) w.heap.size 3 ?hg (N := 9) ?hd (xs := ([0, 2] : List Int)) (inner := [.int .i64 0, .int .i64 2]) (ok := fun _ => True) (okp := fun _ => True) ?hr ?hp (fun _ hk => hk) trivial HB.out (Nat.le_refl _) (by simp) ?_; (case hd => rfl); (case hg => rfl); (case hr => first | (go_simp; done) | (go_simp; rfl)); (case hp => exact (Reps.one (show Kd.M (Kd.int .i64) _ _ _ 0 [.int .i64 0] from rfl) (Reps.one (show Kd.M (Kd.int .i64) _ _ _ 2 [.int .i64 2] from rfl) (Reps.none _ _)))); intro v9 w1 ho hb1 hg1 hn1; obtain ⟨A9, c9, hv9⟩ := Kd.R_slice ho; replace hv9 : v9 = .slice A9 2 c9 := hv9; subst hv9; have HR1 := Aside0.mk ho; have HB1 := Aside0.mk hb1; clear ho hb1 hg1 hn1))
  refine (layout_calls w1).mono ?_
  rintro e w2 ⟨rfl, hb2⟩
  have HB2 := Aside0.mk (below_step HB1.out hb2)
  have HR2 := Aside0.mk (Kd.R_below HR1.out hb2)
  clear hb2 HB1 HR1
  go_wp2_with fail
  refine (cap_yes ⟨#[102]⟩ A9 c9 [0, 2] layC w2 (Kd.R_reads' HR2.out).2.2 (Kd.R_reads' HR2.out).2.1 (HG.out.of_below HB2.out) (by decide) may_layC name_f (by decide) (by decide)).mono ?_
  rintro e w3 ⟨u3, v3, rfl, hu3, hv3, hb3⟩
  obtain ⟨Au, cu, hu⟩ := Kd.R_slice hu3
  rw [wlen2] at hu
  subst hu
  obtain ⟨Av, cv, hv⟩ := Kd.R_slice hv3
  replace hv : v3 = .slice Av 1 cv := hv
  subst hv
  have HB3 := Aside0.mk (below_step HB2.out hb3)
  have HU3 := Aside0.mk (Kd.R_lower hu3 HB2.out.size)
  have HV3 := Aside0.mk (Kd.R_lower hv3 HB2.out.size)
  clear hu3 hv3 hb3 HB2 HR2
  go_wp2_with (first | ((with_reducible refine gate_dst (N := 1) rfl ?_); refine box_event ?hg (N := 1) ?hd (cs := noCells) (t := 35) ?hr ?_; (case hd => rfl); (case hg => rfl); (case hr => first | (go_simp; done) | (go_simp; rfl)); intro g1 hg1 wa1 Ba1 hba1; have HA1 := Aside0.mk hba1; have HE1 := Aside0.mk hg1; have HK1 := Aside0.mk Ba1; clear hba1 hg1 Ba1) | (refine store_event (by rfl) (ty := 35) (by rfl) g1 35 noCells (objCells (.slice Au 46 cu) (.slice Av 1 cv)) (by rfl) (by rfl) HK1.out (by kernel_rfl) rfl (by kernel_rfl) ?_; intro wb1 hs1; have HS1 := Aside0.mk hs1; clear hs1))
  have hX1 := HS1.out.below HA1.out (by rw [HE1.out]; exact Nat.le_refl _)
  refine (layout_calls _).mono ?_
  rintro e w4 ⟨rfl, hb4⟩
  have hx4 := below_step hX1 hb4
  have HB4 := Aside0.mk (below_step HB3.out hx4)
  have HU4 := Aside0.mk (Kd.R_below HU3.out hx4)
  have HV4 := Aside0.mk (Kd.R_below HV3.out hx4)
  have HK14 := Aside0.mk (blk_below HS1.out.at_ hb4)
  clear hX1 hb4 hx4 HB3 HU3 HV3 HS1 HA1 HE1 HK1
  go_wp2_with fail
  refine (cap_yes ⟨#[102]⟩ none 0 [] layC w4 (Kd.R_reads' (Kd.R_nil (Kd.int .i64) 3 w4 0 (fun _ => True))).2.2 (Nat.le_refl 0) (HG.out.of_below HB4.out) (by decide) may_layC name_f (by decide) (by decide)).mono ?_
  rintro e w5 ⟨u5, v5, rfl, hu5, hv5, hb5⟩
  obtain ⟨Au5, cu5, hu⟩ := Kd.R_slice hu5
  rw [wlen0] at hu
  subst hu
  obtain ⟨Av5, cv5, hv⟩ := Kd.R_slice hv5
  replace hv : v5 = .slice Av5 1 cv5 := hv
  subst hv
  have HB5 := Aside0.mk (below_step HB4.out hb5)
  have HU5 := Aside0.mk (Kd.R_below HU4.out hb5)
  have HV5 := Aside0.mk (Kd.R_below HV4.out hb5)
  have HK15 := Aside0.mk (blk_below HK14.out hb5)
  clear hu5 hv5 hb5 HB4 HU4 HV4 HK14
  go_wp2_with (first | ((with_reducible refine gate_dst (N := 3) rfl ?_); refine box_event ?hg (N := 3) ?hd (cs := noCells) (t := 35) ?hr ?_; (case hd => rfl); (case hg => rfl); (case hr => first | (go_simp; done) | (go_simp; rfl)); intro g3 hg3 wa3 Ba3 hba3; have HA3 := Aside0.mk hba3; have HE3 := Aside0.mk hg3; have HK3 := Aside0.mk Ba3; clear hba3 hg3 Ba3) | (refine store_event (by rfl) (ty := 35) (by rfl) g3 35 noCells (objCells (.slice Au5 38 cu5) (.slice Av5 1 cv5)) (by rfl) (by rfl) HK3.out (by kernel_rfl) rfl (by kernel_rfl) ?_; intro wb3 hs3; have HS3 := Aside0.mk hs3; clear hs3))
  have hX1 := HS3.out.below HA3.out (by rw [HE3.out]; exact Nat.le_refl _)
  refine (layout_calls _).mono ?_
  rintro e w6 ⟨rfl, hb6⟩
  have hx6 := below_step hX1 hb6
  have HB6 := Aside0.mk (below_step HB5.out hx6)
  have HU6 := Aside0.mk (Kd.R_below HU5.out hx6)
  have HV6 := Aside0.mk (Kd.R_below HV5.out hx6)
  have HK16 := Aside0.mk (blk_below HK15.out hx6)
  have HK36 := Aside0.mk (blk_below HS3.out.at_ hb6)
  clear hX1 hb6 hx6 HB5 HU5 HV5 HS3 HA3 HE3 HK3 HK15
  go_wp2_with fail
  refine (cap_no ⟨#[70]⟩ none 0 [] layC w6 (Kd.R_reads' (Kd.R_nil (Kd.int .i64) 3 w6 0 (fun _ => True))).2.2 (Nat.le_refl 0) (HG.out.of_below HB6.out) (by decide) (by rw [name_F]; simp)).mono ?_
  rintro e w7 ⟨rfl, hb7⟩
  have HB7 := Aside0.mk (below_step HB6.out hb7)
  have HU7 := Aside0.mk (Kd.R_below HU6.out hb7)
  have HV7 := Aside0.mk (Kd.R_below HV6.out hb7)
  have HK17 := Aside0.mk (blk_below HK16.out hb7)
  have HK37 := Aside0.mk (blk_below HK36.out hb7)
  clear hb7 HB6 HU6 HV6 HK16 HK36
  go_upto_region 4 with (first | ((with_reducible refine gate_dst (N := 5) rfl ?_); refine box_event ?hg (N := 5) ?hd (cs := noCells) (t := 35) ?hr ?_; (case hd => rfl); (case hg => rfl); (case hr => first | (go_simp; done) | (go_simp; rfl)); intro g5 hg5 wa5 Ba5 hba5; have HA5 := Aside0.mk hba5; have HE5 := Aside0.mk hg5; have HK5 := Aside0.mk Ba5; clear hba5 hg5 Ba5) | (refine store_event (by rfl) (ty := 35) (by rfl) g5 35 noCells noCells (by rfl) (by rfl) HK5.out (by kernel_rfl) rfl (by kernel_rfl) ?_; intro w8 hs5; have HS5 := Aside0.mk hs5; clear hs5))
  have hX := HS5.out.below HA5.out (by rw [HE5.out]; exact Nat.le_refl _)
  have HB8 := Aside0.mk (below_step HB7.out hX)
  have HU8 := Aside0.mk (Kd.R_below HU7.out hX)
  have HV8 := Aside0.mk (Kd.R_below HV7.out hX)
  have HK18 := blk_below HK17.out hX
  have HK38 := blk_below HK37.out hX
  have q10 : w8.cell? ⟨g1, 0, none⟩ = some (.slice Au 46 cu) := (blk_cell HK18 0).trans rfl
  have q13 : w8.cell? ⟨g1, 3, none⟩ = some (.slice Av 1 cv) := (blk_cell HK18 3).trans rfl
  have q30 : w8.cell? ⟨g3, 0, none⟩ = some (.slice Au5 38 cu5) := (blk_cell HK38 0).trans rfl
  obtain ⟨gu, cpu, hvu, _, _⟩ := Kd.R_form HU8.out (by rw [wlen2]; decide)
  obtain rfl := (Value.slice.inj hvu).1
  clear hvu
  obtain ⟨adu, eu, qu⟩ := Kd.at_int (Kd.R_reads' HU8.out).2.2 45 (by decide) (by rw [wlen2]; decide)
  obtain rfl := Option.some.inj eu
  rw [word2] at qu
  replace qu : w8.cell? ((⟨gu, 0, none⟩ : Addr).add 45) = some (.int .u32 1048691) := qu
  rw [add_plain] at qu
  obtain ⟨gv, cpv, hvv, _, _⟩ := Kd.R_form HV8.out (by decide)
  obtain rfl := (Value.slice.inj hvv).1
  clear hvv
  obtain ⟨adv, ev, qv0, qv1, qv2, qv3⟩ := at_T49 (Kd.R_reads' HV8.out).2.2 0 (by decide) (by decide)
  obtain rfl := Option.some.inj ev
  rw [show (rd_T49 (relsL ⟨#[102]⟩ [0, 2] layC) 0).f2 = ⟨#[102]⟩ from rfl] at qv2
  replace qv2 : w8.cell? ⟨gv, 2, none⟩ = some (.string ⟨#[102]⟩) := qv2
  clear hX HB7 HU7 HV7 HK17 HK37 HS5 HA5 HE5 HK5 HK18 HK38 qv0 qv1 qv3
  go_wp2_with fail
  refine (layout_calls _).mono ?_
  rintro e w9 ⟨rfl, hb9⟩
  have HB9 := Aside0.mk (below_step HB8.out hb9)
  clear hb9 q10 q13 q30 qu qv2
  go_wp2_with fail
  refine (may_at layC true may_layC w9).mono ?_
  rintro e w10 ⟨rfl, hb10⟩
  have HB10 := Aside0.mk (below_step HB9.out hb10)
  clear hb10
  go_wp2_with (first | ((with_reducible refine gate_dst (N := 77) rfl ?_); (try (refine gate_guard (by rfl) ?_; dsimp only)); refine Kd.event_run (v := .agg (layArr lay0)) (w1 := w10) (by rfl) ?hrun ?_; (case hrun => refine exec_build (parts := #[]) (by rfl) ?_ (run_build0 _); rfl)))
  refine (may_at lay0 false may_lay0 w10).mono ?_
  rintro e w11 ⟨rfl, hb11⟩
  have HB11 := Aside0.mk (below_step HB10.out hb11)
  clear hb11
  go_wp2_with fail
  go_ret
  exact ⟨rfl, HB11.out⟩
end Go.Proofs.YtaoajlaocphgdaaDoor.PA
end
section
namespace Go.Proofs.YtaoajlaocphgdaaDoor.PA
open Go.RowKit Go.Proofs.YtaoajlaocphgdaaDoorW.PrintWords Go.Proofs.YtaoajlaocphgdaaDoorW.PrintLast Go.Proofs.YtaoajlaocphgdaaDoorW.PrintMore
attribute [local go_sem] max2_int min2_int max_two min_two max_three min_three max_four min_four   -- for this text's walks alone
set_option linter.unusedVariables false
set_option linter.unusedSimpArgs false
mutual
def caponierref02_Form.j0 : Nat → Int → Bool → Option (ByteArray)
  | 0, _, _ => none
  | k + 1, x0, x3 => if x3 = true then (some (⟨#[]⟩ : ByteArray)) else (if x0 ≤ 15 then (some (⟨#[82]⟩ : ByteArray)) else (if x0 ≤ 28 then (caponierref02_Form.j1 k x0 true) else (caponierref02_Form.j1 k x0 (x0 == 41))))
def caponierref02_Form.j1 : Nat → Int → Bool → Option (ByteArray)
  | 0, _, _ => none
  | k + 1, x0, x13 => if x13 = true then (some (⟨#[73]⟩ : ByteArray)) else (if x0 ≤ 31 then (some (⟨#[83]⟩ : ByteArray)) else (if x0 ≤ 37 then (some (⟨#[66]⟩ : ByteArray)) else (if x0 ≤ 39 then (some (⟨#[85]⟩ : ByteArray)) else (if x0 = 40 then (some (⟨#[74]⟩ : ByteArray)) else (some (⟨#[69]⟩ : ByteArray))))))
end
def caponierref02_Form.f (k : Nat) (a0 : Int) : Option (ByteArray) := if a0 < 0 then (caponierref02_Form.j0 k a0 true) else (caponierref02_Form.j0 k a0 (decide (a0 > 42)))
theorem caponierref02_Form.mono_l : ∀ k, (∀ y0 y1, LeO (caponierref02_Form.j0 k y0 y1) (caponierref02_Form.j0 (k + 1) y0 y1)) ∧ (∀ y0 y1, LeO (caponierref02_Form.j1 k y0 y1) (caponierref02_Form.j1 (k + 1) y0 y1))
  | 0 => ⟨fun _ _ r h => by simp [caponierref02_Form.j0] at h, fun _ _ r h => by simp [caponierref02_Form.j1] at h⟩
  | k + 1 => by
    obtain ⟨ih0, ih1⟩ := caponierref02_Form.mono_l k
    refine ⟨?_, ?_⟩
    · intro y0 y1
      unfold caponierref02_Form.j0
      repeat' first
      | (with_reducible exact ih0 _ _)
      | (with_reducible exact ih1 _ _)
      | (with_reducible exact LeO.refl _)
      | (with_reducible exact LeO.none _)
      | (with_reducible refine LeO.ite ?_ ?_)
      | (with_reducible refine LeO.bind ?_ (fun _ => ?_))
      | exact ih0 _ _
      | exact ih1 _ _
      | exact LeO.none _
      | refine LeO.ite ?_ ?_
      | refine LeO.bind ?_ (fun _ => ?_)
    · intro y0 y1
      unfold caponierref02_Form.j1
      repeat' first
      | (with_reducible exact ih0 _ _)
      | (with_reducible exact ih1 _ _)
      | (with_reducible exact LeO.refl _)
      | (with_reducible exact LeO.none _)
      | (with_reducible refine LeO.ite ?_ ?_)
      | (with_reducible refine LeO.bind ?_ (fun _ => ?_))
      | exact ih0 _ _
      | exact ih1 _ _
      | exact LeO.none _
      | refine LeO.ite ?_ ?_
      | refine LeO.bind ?_ (fun _ => ?_)
theorem caponierref02_Form.mono : ∀ a0 k, LeO (caponierref02_Form.f k a0) (caponierref02_Form.f (k + 1) a0) := by
  intro a0 k
  obtain ⟨ih0, ih1⟩ := caponierref02_Form.mono_l k
  unfold caponierref02_Form.f
  repeat' first
      | (with_reducible exact ih0 _ _)
      | (with_reducible exact ih1 _ _)
      | (with_reducible exact LeO.refl _)
      | (with_reducible exact LeO.none _)
      | (with_reducible refine LeO.ite ?_ ?_)
      | (with_reducible refine LeO.bind ?_ (fun _ => ?_))
      | exact ih0 _ _
      | exact ih1 _ _
      | exact LeO.none _
      | refine LeO.ite ?_ ?_
      | refine LeO.bind ?_ (fun _ => ?_)
set_option maxHeartbeats 8000000 in
set_option maxRecDepth 100000 in
theorem caponierref02_Form.calls (k : Nat) (a0 : Int) (r : ByteArray) (w : World) (h : caponierref02_Form.f k a0 = some r) :
    Calls Tryd.prog 16 #[.int .i64 a0] w fun e w' => e = .returned (.string r) ∧ Drawn0 w w' := by
  have H : (if a0 < 0 then (caponierref02_Form.j0 k a0 true) else (caponierref02_Form.j0 k a0 (decide (a0 > 42)))) = some r := h
  clear h
  have HC2 := Aside0.mk H
  clear H
  go_enter Tryd.func16, Tryd.ntmps16
  go_upto_region 1 with (fail)
  go_cut [3] (fun v3 wc => ∃ (kq : Nat) (x3_1 : Bool), v3 = .bool x3_1 ∧ Aside0 (caponierref02_Form.j0 kq a0 x3_1 = some r) ∧ Aside0 (kq ≤ k) ∧ Drawn0 w wc)
  case first =>
    have H := HC2.out
    clear HC2
    by_cases c3 : a0 < 0
    · rw [if_pos c3] at H
      have c3b0 : decide (a0 < 0) = true := decide_eq_true c3
      clear c3
      (first | rw [c3b0] | (simp only [i64_w, i32_w]; rw [c3b0]) | skip)
      have H' := Aside0.mk H
      clear H
      go_wp2
      go_meet
      case rel => exact ⟨_, (true), (by first | rfl | (simp; done) | (simp [*]; done)), H', ⟨by first | omega | exact Nat.le_refl _⟩, by repeat (first | exact Drawn0.refl _ | apply Drawn0.step)⟩
    · rw [if_neg c3] at H
      have c3b0 : decide (a0 < 0) = false := decide_eq_false c3
      clear c3
      (first | rw [c3b0] | (simp only [i64_w, i32_w]; rw [c3b0]) | skip)
      have H' := Aside0.mk H
      clear H
      go_wp2
      go_meet
      case rel => exact ⟨_, (decide (a0 > 42)), (by first | rfl | (simp; done) | (simp [*]; done)), H', ⟨by first | omega | exact Nat.le_refl _⟩, by repeat (first | exact Drawn0.refl _ | apply Drawn0.step)⟩
  case rest =>
    clear HC2
    try clear c1
    try clear p2
    try clear c3
    try clear c3b0
    obtain ⟨kq, x3_1, rfl, HA, HJ1, ⟨mc1, rfl⟩⟩ := hcut
    cases kq with
    | zero => exact absurd HA.out (by simp [caponierref02_Form.j0])
    | succ kj1 =>
      have H := HA.out
      clear HA
      simp only [caponierref02_Form.j0] at H
      by_cases c4 : x3_1 = true
      · subst c4
        have H1 : (some (⟨#[]⟩ : ByteArray)) = some r := by rw [if_pos rfl] at H; exact H
        clear H
        have H := H1
        clear H1
        obtain rfl := Option.some.inj H
        go_wp2
        go_ret
        exact ⟨by first | rfl | (simp; done) | (simp [*]; done), by repeat (first | exact Drawn0.refl _ | apply Drawn0.step)⟩
      · replace c4 := Bool.eq_false_iff.mpr c4
        subst c4
        have H1 : (if a0 ≤ 15 then (some (⟨#[82]⟩ : ByteArray)) else (if a0 ≤ 28 then (caponierref02_Form.j1 kj1 a0 true) else (caponierref02_Form.j1 kj1 a0 (a0 == 41)))) = some r := by rw [if_neg (show ¬ (false = true) by decide)] at H; exact H
        clear H
        have H := H1
        clear H1
        by_cases c5 : a0 ≤ 15
        · rw [if_pos c5] at H
          have c5b0 : decide (a0 ≤ 15) = true := decide_eq_true c5
          clear c5
          obtain rfl := Option.some.inj H
          go_wp2
          go_ret
          exact ⟨by first | rfl | (simp; done) | (simp [*]; done), by repeat (first | exact Drawn0.refl _ | apply Drawn0.step)⟩
        · rw [if_neg c5] at H
          have c5b0 : decide (a0 ≤ 15) = false := decide_eq_false c5
          clear c5
          have HC6 := Aside0.mk H
          clear H
          go_upto_region 5 with (fail)
          go_cut [13] (fun v13 wc => ∃ (kq : Nat) (x13_5 : Bool), v13 = .bool x13_5 ∧ Aside0 (caponierref02_Form.j1 kq a0 x13_5 = some r) ∧ Aside0 (kq ≤ kj1) ∧ Drawn0 w wc)
          case first =>
            have H := HC6.out
            clear HC6
            by_cases c7 : a0 ≤ 28
            · rw [if_pos c7] at H
              have c7b0 : decide (a0 ≤ 28) = true := decide_eq_true c7
              clear c7
              (first | rw [c7b0] | (simp only [i64_w, i32_w]; rw [c7b0]) | skip)
              have H' := Aside0.mk H
              clear H
              go_wp2
              go_meet
              case rel => exact ⟨_, (true), (by first | rfl | (simp; done) | (simp [*]; done)), H', ⟨by have := HJ1.out; first | omega | exact Nat.le_refl _⟩, by repeat (first | exact Drawn0.refl _ | apply Drawn0.step)⟩
            · rw [if_neg c7] at H
              have c7b0 : decide (a0 ≤ 28) = false := decide_eq_false c7
              clear c7
              (first | rw [c7b0] | (simp only [i64_w, i32_w]; rw [c7b0]) | skip)
              have H' := Aside0.mk H
              clear H
              go_wp2
              go_meet
              case rel => exact ⟨_, ((a0 == 41)), (by first | rfl | (simp; done) | (simp [*]; done)), H', ⟨by have := HJ1.out; first | omega | exact Nat.le_refl _⟩, by repeat (first | exact Drawn0.refl _ | apply Drawn0.step)⟩
          case rest =>
            clear HC6
            try clear c1
            try clear p2
            try clear c3
            try clear c3b0
            try clear c4
            try clear c5
            try clear c5b0
            try clear c7
            try clear c7b0
            try clear p2
            obtain ⟨kq, x13_5, rfl, HA, HJ5, ⟨mc5, rfl⟩⟩ := hcut
            cases kq with
            | zero => exact absurd HA.out (by simp [caponierref02_Form.j1])
            | succ kj5 =>
              have H := HA.out
              clear HA
              simp only [caponierref02_Form.j1] at H
              by_cases c8 : x13_5 = true
              · subst c8
                have H1 : (some (⟨#[73]⟩ : ByteArray)) = some r := by rw [if_pos rfl] at H; exact H
                clear H
                have H := H1
                clear H1
                obtain rfl := Option.some.inj H
                go_wp2
                go_ret
                exact ⟨by first | rfl | (simp; done) | (simp [*]; done), by repeat (first | exact Drawn0.refl _ | apply Drawn0.step)⟩
              · replace c8 := Bool.eq_false_iff.mpr c8
                subst c8
                have H1 : (if a0 ≤ 31 then (some (⟨#[83]⟩ : ByteArray)) else (if a0 ≤ 37 then (some (⟨#[66]⟩ : ByteArray)) else (if a0 ≤ 39 then (some (⟨#[85]⟩ : ByteArray)) else (if a0 = 40 then (some (⟨#[74]⟩ : ByteArray)) else (some (⟨#[69]⟩ : ByteArray)))))) = some r := by rw [if_neg (show ¬ (false = true) by decide)] at H; exact H
                clear H
                have H := H1
                clear H1
                by_cases c9 : a0 ≤ 31
                · rw [if_pos c9] at H
                  have c9b0 : decide (a0 ≤ 31) = true := decide_eq_true c9
                  clear c9
                  obtain rfl := Option.some.inj H
                  go_wp2
                  go_ret
                  exact ⟨by first | rfl | (simp; done) | (simp [*]; done), by repeat (first | exact Drawn0.refl _ | apply Drawn0.step)⟩
                · rw [if_neg c9] at H
                  have c9b0 : decide (a0 ≤ 31) = false := decide_eq_false c9
                  clear c9
                  by_cases c10 : a0 ≤ 37
                  · rw [if_pos c10] at H
                    have c10b0 : decide (a0 ≤ 37) = true := decide_eq_true c10
                    clear c10
                    obtain rfl := Option.some.inj H
                    go_wp2
                    go_ret
                    exact ⟨by first | rfl | (simp; done) | (simp [*]; done), by repeat (first | exact Drawn0.refl _ | apply Drawn0.step)⟩
                  · rw [if_neg c10] at H
                    have c10b0 : decide (a0 ≤ 37) = false := decide_eq_false c10
                    clear c10
                    by_cases c11 : a0 ≤ 39
                    · rw [if_pos c11] at H
                      have c11b0 : decide (a0 ≤ 39) = true := decide_eq_true c11
                      clear c11
                      obtain rfl := Option.some.inj H
                      go_wp2
                      go_ret
                      exact ⟨by first | rfl | (simp; done) | (simp [*]; done), by repeat (first | exact Drawn0.refl _ | apply Drawn0.step)⟩
                    · rw [if_neg c11] at H
                      have c11b0 : decide (a0 ≤ 39) = false := decide_eq_false c11
                      clear c11
                      by_cases c12 : a0 = 40
                      · rw [if_pos c12] at H
                        have c12b0 : (a0 == 40) = true := beq_iff_eq.mpr c12
                        have c12b1 : (a0 != 40) = false := bne_eq_false_iff_eq.mpr c12
                        clear c12
                        obtain rfl := Option.some.inj H
                        go_wp2
                        go_ret
                        exact ⟨by first | rfl | (simp; done) | (simp [*]; done), by repeat (first | exact Drawn0.refl _ | apply Drawn0.step)⟩
                      · rw [if_neg c12] at H
                        have c12b0 : (a0 == 40) = false := beq_eq_false_iff_ne.mpr c12
                        have c12b1 : (a0 != 40) = true := bne_iff_ne.mpr c12
                        obtain rfl := Option.some.inj H
                        go_wp2
                        go_ret
                        exact ⟨by first | rfl | (simp; done) | (simp [*]; done), by repeat (first | exact Drawn0.refl _ | apply Drawn0.step)⟩
def caponierref02_Shift.f (a0 : Int) : Option (Bool) := if a0 ≥ 22 then (some (decide (a0 ≤ 24))) else (some false)
set_option maxHeartbeats 8000000 in
set_option maxRecDepth 100000 in
theorem caponierref02_Shift.calls (a0 : Int) (r : Bool) (w : World) (h : caponierref02_Shift.f a0 = some r) :
    Calls Tryd.prog 35 #[.int .i64 a0] w fun e w' => e = .returned (.bool r) ∧ Drawn0 w w' := by
  have H : (if a0 ≥ 22 then (some (decide (a0 ≤ 24))) else (some false)) = some r := h
  clear h
  by_cases c2 : a0 ≥ 22
  · rw [if_pos c2] at H
    have c2b0 : decide (22 ≤ a0) = true := decide_eq_true c2
    clear c2
    obtain rfl := Option.some.inj H
    go_enter Tryd.func35, Tryd.ntmps35
    go_wp2
    go_ret
    exact ⟨by first | rfl | (simp; done) | (simp [*]; done), by repeat (first | exact Drawn0.refl _ | apply Drawn0.step)⟩
  · rw [if_neg c2] at H
    have c2b0 : decide (22 ≤ a0) = false := decide_eq_false c2
    clear c2
    obtain rfl := Option.some.inj H
    go_enter Tryd.func35, Tryd.ntmps35
    go_wp2
    go_ret
    exact ⟨by first | rfl | (simp; done) | (simp [*]; done), by repeat (first | exact Drawn0.refl _ | apply Drawn0.step)⟩
end Go.Proofs.YtaoajlaocphgdaaDoor.PA
end
