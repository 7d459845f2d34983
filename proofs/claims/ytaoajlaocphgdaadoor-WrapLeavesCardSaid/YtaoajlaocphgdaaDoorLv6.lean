/-
Texts of this proof, put together: part 6.
-/
import Derived.Test.YtaoajlaocphgdaaDoorLv5

section
namespace Go.Proofs.YtaoajlaocphgdaaDoor.PA
open Go.RowKit Go.Proofs.YtaoajlaocphgdaaDoorW.PrintWords Go.Proofs.YtaoajlaocphgdaaDoorW.PrintLast Go.Proofs.YtaoajlaocphgdaaDoorW.PrintMore
attribute [local go_sem] max2_int min2_int max_two min_two max_three min_three max_four min_four   -- for this text's walks alone
set_option linter.unusedVariables false
set_option linter.unusedSimpArgs false
mutual
def caponierref02_as.j0 : Nat → Int → Int → ByteArray → Bool → Int → Int → Int → Int → Int → Option (Int × Int × Int × Int × Int)
  | 0, _, _, _, _, _, _, _, _, _ => none
  | k + 1, x0, x1, x6, x20, x404000, x404001, x404002, x404003, x404004 => if x20 = true then ((caponierref02_field.f k x0 7 5).bind fun t405 => (caponierref02_as.j1 k x0 x1 x6 x404000 (wrap64 (t405)) x404002 x404003 x404004)) else (caponierref02_as.j1 k x0 x1 x6 x404000 x404001 x404002 x404003 x404004)
def caponierref02_as.j1 : Nat → Int → Int → ByteArray → Int → Int → Int → Int → Int → Option (Int × Int × Int × Int × Int)
  | 0, _, _, _, _, _, _, _, _ => none
  | k + 1, x0, x1, x6, x404000, x404001, x404002, x404003, x404004 => if x6.toList = ([85] : List UInt8) then (caponierref02_as.j2 k x0 x1 x6 false x404000 x404001 x404002 x404003 x404004) else (if x6.toList = ([74] : List UInt8) then (caponierref02_as.j2 k x0 x1 x6 false x404000 x404001 x404002 x404003 x404004) else (caponierref02_as.j2 k x0 x1 x6 (x6.toList != ([69] : List UInt8)) x404000 x404001 x404002 x404003 x404004))
def caponierref02_as.j2 : Nat → Int → Int → ByteArray → Bool → Int → Int → Int → Int → Int → Option (Int × Int × Int × Int × Int)
  | 0, _, _, _, _, _, _, _, _, _ => none
  | k + 1, x0, x1, x6, x34, x404000, x404001, x404002, x404003, x404004 => if x34 = true then ((caponierref02_field.f k x0 15 5).bind fun t406 => (caponierref02_as.j3 k x0 x1 x6 x404000 x404001 (wrap64 (t406)) x404003 x404004)) else (caponierref02_as.j3 k x0 x1 x6 x404000 x404001 x404002 x404003 x404004)
def caponierref02_as.j3 : Nat → Int → Int → ByteArray → Int → Int → Int → Int → Int → Option (Int × Int × Int × Int × Int)
  | 0, _, _, _, _, _, _, _, _ => none
  | k + 1, x0, x1, x6, x404000, x404001, x404002, x404003, x404004 => if x6.toList = ([82] : List UInt8) then (caponierref02_as.j4 k x0 x1 x6 true x404000 x404001 x404002 x404003 x404004) else (if x6.toList = ([83] : List UInt8) then (caponierref02_as.j4 k x0 x1 x6 true x404000 x404001 x404002 x404003 x404004) else (caponierref02_as.j4 k x0 x1 x6 (x6.toList == ([66] : List UInt8)) x404000 x404001 x404002 x404003 x404004))
def caponierref02_as.j4 : Nat → Int → Int → ByteArray → Bool → Int → Int → Int → Int → Int → Option (Int × Int × Int × Int × Int)
  | 0, _, _, _, _, _, _, _, _, _ => none
  | k + 1, x0, x1, x6, x48, x404000, x404001, x404002, x404003, x404004 => if x48 = true then ((caponierref02_field.f k x0 20 5).bind fun t407 => (caponierref02_as.j5 k x0 x1 x6 x404000 x404001 x404002 (wrap64 (t407)) x404004)) else (caponierref02_as.j5 k x0 x1 x6 x404000 x404001 x404002 x404003 x404004)
def caponierref02_as.j5 : Nat → Int → Int → ByteArray → Int → Int → Int → Int → Int → Option (Int × Int × Int × Int × Int)
  | 0, _, _, _, _, _, _, _, _ => none
  | k + 1, x0, x1, x6, x404000, x404001, x404002, x404003, x404004 => if x6.toList = ([73] : List UInt8) then ((caponierref02_field.f k x0 20 12).bind fun t408 => ((caponierref01_Sign.f k t408 12).bind fun t409 => ((caponierref02_Shift.f x1).bind fun t410 => (if t410 = true then ((caponierref02_field.f k x0 20 6).bind fun t411 => (some (x404000, x404001, x404002, x404003, wrap64 (t411)))) else (some (x404000, x404001, x404002, x404003, t409)))))) else (if x6.toList = ([83] : List UInt8) then ((caponierref02_field.f k x0 7 5).bind fun t412 => ((caponierref02_field.f k x0 25 7).bind fun t413 => ((caponierref01_Sign.f k (IntKind.u64.wrap (t412 + (IntKind.u64.wrap (t413 * 32)))) 12).bind fun t414 => (some (x404000, x404001, x404002, x404003, t414))))) else (if x6.toList = ([66] : List UInt8) then ((caponierref02_field.f k x0 8 4).bind fun t415 => ((caponierref02_field.f k x0 25 6).bind fun t416 => ((caponierref02_field.f k x0 7 1).bind fun t417 => ((caponierref02_field.f k x0 31 1).bind fun t418 => ((caponierref01_Sign.f k (IntKind.u64.wrap ((IntKind.u64.wrap ((IntKind.u64.wrap ((IntKind.u64.wrap (t415 * 2)) + (IntKind.u64.wrap (t416 * 32)))) + (IntKind.u64.wrap (t417 * 2048)))) + (IntKind.u64.wrap (t418 * 4096)))) 13).bind fun t419 => (some (x404000, x404001, x404002, x404003, t419))))))) else (if x6.toList = ([85] : List UInt8) then ((caponierref02_field.f k x0 12 20).bind fun t420 => ((caponierref01_Sign.f k (IntKind.u64.wrap (t420 * 4096)) 32).bind fun t421 => (some (x404000, x404001, x404002, x404003, t421)))) else (if x6.toList = ([74] : List UInt8) then ((caponierref02_field.f k x0 21 10).bind fun t422 => ((caponierref02_field.f k x0 20 1).bind fun t423 => ((caponierref02_field.f k x0 12 8).bind fun t424 => ((caponierref02_field.f k x0 31 1).bind fun t425 => ((caponierref01_Sign.f k (IntKind.u64.wrap ((IntKind.u64.wrap ((IntKind.u64.wrap ((IntKind.u64.wrap (t422 * 2)) + (IntKind.u64.wrap (t423 * 2048)))) + (IntKind.u64.wrap (t424 * 4096)))) + (IntKind.u64.wrap (t425 * 1048576)))) 21).bind fun t426 => (some (x404000, x404001, x404002, x404003, t426))))))) else (some (x404000, x404001, x404002, x404003, x404004))))))
end
def caponierref02_as.f (k : Nat) (a0 : Int) (a1 : Int) : Option (Int × Int × Int × Int × Int) := (caponierref02_Form.f k a1).bind fun t404 => (if t404.toList = ([83] : List UInt8) then (caponierref02_as.j0 k a0 a1 t404 false a1 0 0 0 0) else (if t404.toList = ([66] : List UInt8) then (caponierref02_as.j0 k a0 a1 t404 false a1 0 0 0 0) else (caponierref02_as.j0 k a0 a1 t404 (t404.toList != ([69] : List UInt8)) a1 0 0 0 0)))
theorem caponierref02_as.mono_l : ∀ k, (∀ y0 y1 y2 y3 y4 y5 y6 y7 y8, LeO (caponierref02_as.j0 k y0 y1 y2 y3 y4 y5 y6 y7 y8) (caponierref02_as.j0 (k + 1) y0 y1 y2 y3 y4 y5 y6 y7 y8)) ∧ (∀ y0 y1 y2 y3 y4 y5 y6 y7, LeO (caponierref02_as.j1 k y0 y1 y2 y3 y4 y5 y6 y7) (caponierref02_as.j1 (k + 1) y0 y1 y2 y3 y4 y5 y6 y7)) ∧ (∀ y0 y1 y2 y3 y4 y5 y6 y7 y8, LeO (caponierref02_as.j2 k y0 y1 y2 y3 y4 y5 y6 y7 y8) (caponierref02_as.j2 (k + 1) y0 y1 y2 y3 y4 y5 y6 y7 y8)) ∧ (∀ y0 y1 y2 y3 y4 y5 y6 y7, LeO (caponierref02_as.j3 k y0 y1 y2 y3 y4 y5 y6 y7) (caponierref02_as.j3 (k + 1) y0 y1 y2 y3 y4 y5 y6 y7)) ∧ (∀ y0 y1 y2 y3 y4 y5 y6 y7 y8, LeO (caponierref02_as.j4 k y0 y1 y2 y3 y4 y5 y6 y7 y8) (caponierref02_as.j4 (k + 1) y0 y1 y2 y3 y4 y5 y6 y7 y8)) ∧ (∀ y0 y1 y2 y3 y4 y5 y6 y7, LeO (caponierref02_as.j5 k y0 y1 y2 y3 y4 y5 y6 y7) (caponierref02_as.j5 (k + 1) y0 y1 y2 y3 y4 y5 y6 y7))
  | 0 => ⟨fun _ _ _ _ _ _ _ _ _ r h => by simp [caponierref02_as.j0] at h, fun _ _ _ _ _ _ _ _ r h => by simp [caponierref02_as.j1] at h, fun _ _ _ _ _ _ _ _ _ r h => by simp [caponierref02_as.j2] at h, fun _ _ _ _ _ _ _ _ r h => by simp [caponierref02_as.j3] at h, fun _ _ _ _ _ _ _ _ _ r h => by simp [caponierref02_as.j4] at h, fun _ _ _ _ _ _ _ _ r h => by simp [caponierref02_as.j5] at h⟩
  | k + 1 => by
    obtain ⟨ih0, ih1, ih2, ih3, ih4, ih5⟩ := caponierref02_as.mono_l k
    refine ⟨?_, ?_, ?_, ?_, ?_, ?_⟩
    · intro y0 y1 y2 y3 y4 y5 y6 y7 y8
      unfold caponierref02_as.j0
      repeat' first
      | (with_reducible exact ih0 _ _ _ _ _ _ _ _ _)
      | (with_reducible exact ih1 _ _ _ _ _ _ _ _)
      | (with_reducible exact ih2 _ _ _ _ _ _ _ _ _)
      | (with_reducible exact ih3 _ _ _ _ _ _ _ _)
      | (with_reducible exact ih4 _ _ _ _ _ _ _ _ _)
      | (with_reducible exact ih5 _ _ _ _ _ _ _ _)
      | (with_reducible exact caponierref01_Sign.mono _ _ _)
      | (with_reducible exact caponierref02_Form.mono _ _)
      | (with_reducible exact caponierref02_field.mono _ _ _ _)
      | (with_reducible exact LeO.refl _)
      | (with_reducible exact LeO.none _)
      | (with_reducible refine LeO.ite ?_ ?_)
      | (with_reducible refine LeO.bind ?_ (fun _ => ?_))
      | exact ih0 _ _ _ _ _ _ _ _ _
      | exact ih1 _ _ _ _ _ _ _ _
      | exact ih2 _ _ _ _ _ _ _ _ _
      | exact ih3 _ _ _ _ _ _ _ _
      | exact ih4 _ _ _ _ _ _ _ _ _
      | exact ih5 _ _ _ _ _ _ _ _
      | exact caponierref01_Sign.mono _ _ _
      | exact caponierref02_Form.mono _ _
      | exact caponierref02_field.mono _ _ _ _
      | exact LeO.none _
      | refine LeO.ite ?_ ?_
      | refine LeO.bind ?_ (fun _ => ?_)
    · intro y0 y1 y2 y3 y4 y5 y6 y7
      unfold caponierref02_as.j1
      repeat' first
      | (with_reducible exact ih0 _ _ _ _ _ _ _ _ _)
      | (with_reducible exact ih1 _ _ _ _ _ _ _ _)
      | (with_reducible exact ih2 _ _ _ _ _ _ _ _ _)
      | (with_reducible exact ih3 _ _ _ _ _ _ _ _)
      | (with_reducible exact ih4 _ _ _ _ _ _ _ _ _)
      | (with_reducible exact ih5 _ _ _ _ _ _ _ _)
      | (with_reducible exact caponierref01_Sign.mono _ _ _)
      | (with_reducible exact caponierref02_Form.mono _ _)
      | (with_reducible exact caponierref02_field.mono _ _ _ _)
      | (with_reducible exact LeO.refl _)
      | (with_reducible exact LeO.none _)
      | (with_reducible refine LeO.ite ?_ ?_)
      | (with_reducible refine LeO.bind ?_ (fun _ => ?_))
      | exact ih0 _ _ _ _ _ _ _ _ _
      | exact ih1 _ _ _ _ _ _ _ _
      | exact ih2 _ _ _ _ _ _ _ _ _
      | exact ih3 _ _ _ _ _ _ _ _
      | exact ih4 _ _ _ _ _ _ _ _ _
      | exact ih5 _ _ _ _ _ _ _ _
      | exact caponierref01_Sign.mono _ _ _
      | exact caponierref02_Form.mono _ _
      | exact caponierref02_field.mono _ _ _ _
      | exact LeO.none _
      | refine LeO.ite ?_ ?_
      | refine LeO.bind ?_ (fun _ => ?_)
    · intro y0 y1 y2 y3 y4 y5 y6 y7 y8
      unfold caponierref02_as.j2
      repeat' first
      | (with_reducible exact ih0 _ _ _ _ _ _ _ _ _)
      | (with_reducible exact ih1 _ _ _ _ _ _ _ _)
      | (with_reducible exact ih2 _ _ _ _ _ _ _ _ _)
      | (with_reducible exact ih3 _ _ _ _ _ _ _ _)
      | (with_reducible exact ih4 _ _ _ _ _ _ _ _ _)
      | (with_reducible exact ih5 _ _ _ _ _ _ _ _)
      | (with_reducible exact caponierref01_Sign.mono _ _ _)
      | (with_reducible exact caponierref02_Form.mono _ _)
      | (with_reducible exact caponierref02_field.mono _ _ _ _)
      | (with_reducible exact LeO.refl _)
      | (with_reducible exact LeO.none _)
      | (with_reducible refine LeO.ite ?_ ?_)
      | (with_reducible refine LeO.bind ?_ (fun _ => ?_))
      | exact ih0 _ _ _ _ _ _ _ _ _
      | exact ih1 _ _ _ _ _ _ _ _
      | exact ih2 _ _ _ _ _ _ _ _ _
      | exact ih3 _ _ _ _ _ _ _ _
      | exact ih4 _ _ _ _ _ _ _ _ _
      | exact ih5 _ _ _ _ _ _ _ _
      | exact caponierref01_Sign.mono _ _ _
      | exact caponierref02_Form.mono _ _
      | exact caponierref02_field.mono _ _ _ _
      | exact LeO.none _
      | refine LeO.ite ?_ ?_
      | refine LeO.bind ?_ (fun _ => ?_)
    · intro y0 y1 y2 y3 y4 y5 y6 y7
      unfold caponierref02_as.j3
      repeat' first
      | (with_reducible exact ih0 _ _ _ _ _ _ _ _ _)
      | (with_reducible exact ih1 _ _ _ _ _ _ _ _)
      | (with_reducible exact ih2 _ _ _ _ _ _ _ _ _)
      | (with_reducible exact ih3 _ _ _ _ _ _ _ _)
      | (with_reducible exact ih4 _ _ _ _ _ _ _ _ _)
      | (with_reducible exact ih5 _ _ _ _ _ _ _ _)
      | (with_reducible exact caponierref01_Sign.mono _ _ _)
      | (with_reducible exact caponierref02_Form.mono _ _)
      | (with_reducible exact caponierref02_field.mono _ _ _ _)
      | (with_reducible exact LeO.refl _)
      | (with_reducible exact LeO.none _)
      | (with_reducible refine LeO.ite ?_ ?_)
      | (with_reducible refine LeO.bind ?_ (fun _ => ?_))
      | exact ih0 _ _ _ _ _ _ _ _ _
      | exact ih1 _ _ _ _ _ _ _ _
      | exact ih2 _ _ _ _ _ _ _ _ _
      | exact ih3 _ _ _ _ _ _ _ _
      | exact ih4 _ _ _ _ _ _ _ _ _
      | exact ih5 _ _ _ _ _ _ _ _
      | exact caponierref01_Sign.mono _ _ _
      | exact caponierref02_Form.mono _ _
      | exact caponierref02_field.mono _ _ _ _
      | exact LeO.none _
      | refine LeO.ite ?_ ?_
      | refine LeO.bind ?_ (fun _ => ?_)
    · intro y0 y1 y2 y3 y4 y5 y6 y7 y8
      unfold caponierref02_as.j4
      repeat' first
      | (with_reducible exact ih0 _ _ _ _ _ _ _ _ _)
      | (with_reducible exact ih1 _ _ _ _ _ _ _ _)
      | (with_reducible exact ih2 _ _ _ _ _ _ _ _ _)
      | (with_reducible exact ih3 _ _ _ _ _ _ _ _)
      | (with_reducible exact ih4 _ _ _ _ _ _ _ _ _)
      | (with_reducible exact ih5 _ _ _ _ _ _ _ _)
      | (with_reducible exact caponierref01_Sign.mono _ _ _)
      | (with_reducible exact caponierref02_Form.mono _ _)
      | (with_reducible exact caponierref02_field.mono _ _ _ _)
      | (with_reducible exact LeO.refl _)
      | (with_reducible exact LeO.none _)
      | (with_reducible refine LeO.ite ?_ ?_)
      | (with_reducible refine LeO.bind ?_ (fun _ => ?_))
      | exact ih0 _ _ _ _ _ _ _ _ _
      | exact ih1 _ _ _ _ _ _ _ _
      | exact ih2 _ _ _ _ _ _ _ _ _
      | exact ih3 _ _ _ _ _ _ _ _
      | exact ih4 _ _ _ _ _ _ _ _ _
      | exact ih5 _ _ _ _ _ _ _ _
      | exact caponierref01_Sign.mono _ _ _
      | exact caponierref02_Form.mono _ _
      | exact caponierref02_field.mono _ _ _ _
      | exact LeO.none _
      | refine LeO.ite ?_ ?_
      | refine LeO.bind ?_ (fun _ => ?_)
    · intro y0 y1 y2 y3 y4 y5 y6 y7
      unfold caponierref02_as.j5
      repeat' first
      | (with_reducible exact ih0 _ _ _ _ _ _ _ _ _)
      | (with_reducible exact ih1 _ _ _ _ _ _ _ _)
      | (with_reducible exact ih2 _ _ _ _ _ _ _ _ _)
      | (with_reducible exact ih3 _ _ _ _ _ _ _ _)
      | (with_reducible exact ih4 _ _ _ _ _ _ _ _ _)
      | (with_reducible exact ih5 _ _ _ _ _ _ _ _)
      | (with_reducible exact caponierref01_Sign.mono _ _ _)
      | (with_reducible exact caponierref02_Form.mono _ _)
      | (with_reducible exact caponierref02_field.mono _ _ _ _)
      | (with_reducible exact LeO.refl _)
      | (with_reducible exact LeO.none _)
      | (with_reducible refine LeO.ite ?_ ?_)
      | (with_reducible refine LeO.bind ?_ (fun _ => ?_))
      | exact ih0 _ _ _ _ _ _ _ _ _
      | exact ih1 _ _ _ _ _ _ _ _
      | exact ih2 _ _ _ _ _ _ _ _ _
      | exact ih3 _ _ _ _ _ _ _ _
      | exact ih4 _ _ _ _ _ _ _ _ _
      | exact ih5 _ _ _ _ _ _ _ _
      | exact caponierref01_Sign.mono _ _ _
      | exact caponierref02_Form.mono _ _
      | exact caponierref02_field.mono _ _ _ _
      | exact LeO.none _
      | refine LeO.ite ?_ ?_
      | refine LeO.bind ?_ (fun _ => ?_)
theorem caponierref02_as.mono : ∀ a0 a1 k, LeO (caponierref02_as.f k a0 a1) (caponierref02_as.f (k + 1) a0 a1) := by
  intro a0 a1 k
  obtain ⟨ih0, ih1, ih2, ih3, ih4, ih5⟩ := caponierref02_as.mono_l k
  unfold caponierref02_as.f
  repeat' first
      | (with_reducible exact ih0 _ _ _ _ _ _ _ _ _)
      | (with_reducible exact ih1 _ _ _ _ _ _ _ _)
      | (with_reducible exact ih2 _ _ _ _ _ _ _ _ _)
      | (with_reducible exact ih3 _ _ _ _ _ _ _ _)
      | (with_reducible exact ih4 _ _ _ _ _ _ _ _ _)
      | (with_reducible exact ih5 _ _ _ _ _ _ _ _)
      | (with_reducible exact caponierref01_Sign.mono _ _ _)
      | (with_reducible exact caponierref02_Form.mono _ _)
      | (with_reducible exact caponierref02_field.mono _ _ _ _)
      | (with_reducible exact LeO.refl _)
      | (with_reducible exact LeO.none _)
      | (with_reducible refine LeO.ite ?_ ?_)
      | (with_reducible refine LeO.bind ?_ (fun _ => ?_))
      | exact ih0 _ _ _ _ _ _ _ _ _
      | exact ih1 _ _ _ _ _ _ _ _
      | exact ih2 _ _ _ _ _ _ _ _ _
      | exact ih3 _ _ _ _ _ _ _ _
      | exact ih4 _ _ _ _ _ _ _ _ _
      | exact ih5 _ _ _ _ _ _ _ _
      | exact caponierref01_Sign.mono _ _ _
      | exact caponierref02_Form.mono _ _
      | exact caponierref02_field.mono _ _ _ _
      | exact LeO.none _
      | refine LeO.ite ?_ ?_
      | refine LeO.bind ?_ (fun _ => ?_)
set_option maxHeartbeats 8000000 in
set_option maxRecDepth 100000 in
theorem caponierref02_as.calls (k : Nat) (a0 : Int) (a1 : Int) (r1 : Int) (r2 : Int) (r3 : Int) (r4 : Int) (r5 : Int) (w : World) (h : caponierref02_as.f k a0 a1 = some (r1, r2, r3, r4, r5)) :
    Calls Tryd.prog 29 #[.int .u32 a0, .int .i64 a1] w fun e w' => e = .returned (.agg #[.int .i64 r1, .int .i64 r2, .int .i64 r3, .int .i64 r4, .int .i64 r5]) ∧ Below w.heap.size w w' := by
  have hu43 := Tryd.underlying43
  have HB := Aside0.mk (Below.refl w.heap.size w)
  have H : ((caponierref02_Form.f k a1).bind fun t404 => (if t404.toList = ([83] : List UInt8) then (caponierref02_as.j0 k a0 a1 t404 false a1 0 0 0 0) else (if t404.toList = ([66] : List UInt8) then (caponierref02_as.j0 k a0 a1 t404 false a1 0 0 0 0) else (caponierref02_as.j0 k a0 a1 t404 (t404.toList != ([69] : List UInt8)) a1 0 0 0 0)))) = some (r1, r2, r3, r4, r5) := h
  clear h
  replace H := Option.bind_eq_some_iff.mp H
  obtain ⟨t404, A30, H⟩ := H
  replace H : (if t404.toList = ([83] : List UInt8) then (caponierref02_as.j0 k a0 a1 t404 false a1 0 0 0 0) else (if t404.toList = ([66] : List UInt8) then (caponierref02_as.j0 k a0 a1 t404 false a1 0 0 0 0) else (caponierref02_as.j0 k a0 a1 t404 (t404.toList != ([69] : List UInt8)) a1 0 0 0 0))) = some (r1, r2, r3, r4, r5) := H
  have A3 := Aside0.mk A30
  clear A30
  have HC4 := Aside0.mk H
  clear H
  go_enter Tryd.func29, Tryd.ntmps29
  go_upto_region 3 with (first | ((with_reducible refine gate_dst (N := 4) rfl ?_); refine box_event ?hg (N := 4) ?hd (cs := #[.int .i64 0, .int .i64 0, .int .i64 0, .int .i64 0, .int .i64 0]) (t := 43) ?hr ?_; (case hd => rfl); (case hg => rfl); (case hr => first | (go_simp; done) | (go_simp; rfl)); intro gb402 hg w5 hbox hb; have n0_ := Aside0.mk (below_step (by repeat (first | (with_reducible first | exact HB.out | apply below_alloc | apply pw_below_drewN | apply below_drew1) | exact HB.out)) hb); have n1_ := Aside0.mk (hbox); have n2_ := Aside0.mk ((by rw [hg]; exact (below_size (by repeat (first | (with_reducible first | exact HB.out | apply below_alloc | apply pw_below_drewN | apply below_drew1) | exact HB.out))) : w.heap.size ≤ gb402)); have n3_ := Aside0.mk ((by rw [hg]; exact (below_size (by repeat (first | (with_reducible first | exact HB.out | apply below_alloc | apply pw_below_drewN | apply below_drew1) | exact HB.out))) : w.heap.size ≤ gb402)); clear HB; have HB := n0_; have BK402 := n1_; have GW402 := n2_; have GE402 := n3_; clear n0_ n1_ n2_ n3_; clear hb hbox hg) | ((with_reducible refine gate_dst (N := 5) rfl ?_); refine box_event ?hg (N := 5) ?hd (cs := #[.int .i64 0, .int .i64 0, .int .i64 0, .int .i64 0, .int .i64 0]) (t := 43) ?hr ?_; (case hd => rfl); (case hg => rfl); (case hr => first | (go_simp; done) | (go_simp; rfl)); intro gb403 hg w6 hbox hb; have n0_ := Aside0.mk (blk_below (g := gb402) (o := .cells #[.int .i64 0, .int .i64 0, .int .i64 0, .int .i64 0, .int .i64 0] 43 (0, 0)) (by (with_reducible repeat (first | refine blk_drewN ?_ _ | refine blk_drew ?_ | refine blk_alloc ?_ _)); exact BK402.out) hb); have n1_ := Aside0.mk (below_step (by repeat (first | (with_reducible first | exact HB.out | apply below_alloc | apply pw_below_drewN | apply below_drew1 | refine below_set ?_ GE402.out) | exact HB.out)) hb); have n2_ := Aside0.mk (hbox); have n3_ := Aside0.mk ((by rw [hg]; exact (below_size (by repeat (first | (with_reducible first | exact HB.out | apply below_alloc | apply pw_below_drewN | apply below_drew1 | refine below_set ?_ GE402.out) | exact HB.out))) : w.heap.size ≤ gb403)); have n4_ := Aside0.mk ((by rw [hg]; exact (below_size (by repeat (first | (with_reducible first | exact HB.out | apply below_alloc | apply pw_below_drewN | apply below_drew1 | refine below_set ?_ GE402.out) | exact HB.out))) : w.heap.size ≤ gb403)); have n5_ := Aside0.mk ((by rw [hg]; exact Nat.ne_of_lt (blk_lt (g := gb402) (o := .cells #[.int .i64 0, .int .i64 0, .int .i64 0, .int .i64 0, .int .i64 0] 43 (0, 0)) (by (with_reducible repeat (first | refine blk_drewN ?_ _ | refine blk_drew ?_ | refine blk_alloc ?_ _)); exact BK402.out)) : gb402 ≠ gb403)); have n6_ := Aside0.mk ((by rw [hg]; exact Nat.ne_of_gt (blk_lt (g := gb402) (o := .cells #[.int .i64 0, .int .i64 0, .int .i64 0, .int .i64 0, .int .i64 0] 43 (0, 0)) (by (with_reducible repeat (first | refine blk_drewN ?_ _ | refine blk_drew ?_ | refine blk_alloc ?_ _)); exact BK402.out)) : gb403 ≠ gb402)); clear BK402; clear HB; have BK402 := n0_; have HB := n1_; have BK403 := n2_; have GW403 := n3_; have GE403 := n4_; have NB402_403 := n5_; have NB403_402 := n6_; clear n0_ n1_ n2_ n3_ n4_ n5_ n6_; clear hb hbox hg; have hnb7 := NB403_402.out; have hnc7 := NB402_403.out; have hcz8_0 : w6.cell? ⟨gb403, 0, none⟩ = some (.int .i64 0) := (blk_cell BK403.out 0).trans rfl; have hcz8_1 : w6.cell? ⟨gb403, 1, none⟩ = some (.int .i64 0) := (blk_cell BK403.out 1).trans rfl; have hcz8_2 : w6.cell? ⟨gb403, 2, none⟩ = some (.int .i64 0) := (blk_cell BK403.out 2).trans rfl; have hcz8_3 : w6.cell? ⟨gb403, 3, none⟩ = some (.int .i64 0) := (blk_cell BK403.out 3).trans rfl; have hcz8_4 : w6.cell? ⟨gb403, 4, none⟩ = some (.int .i64 0) := (blk_cell BK403.out 4).trans rfl; have hfz8_0 := blk_frozen BK403.out 0; have hfz8_1 := blk_frozen BK403.out 1; have hfz8_2 := blk_frozen BK403.out 2; have hfz8_3 := blk_frozen BK403.out 3; have hfz8_4 := blk_frozen BK403.out 4) | ((with_reducible refine gate_callee (f := 16) rfl ?_); refine goesL_ (some 10) rfl rfl Tryd.func16 (by kernel_rfl) rfl #[.int .i64 a1] rfl (by (try simp only [List.map_toArray, List.map_cons, List.map_nil]); first | done | rfl | (simp only [List.length_drop, List.length_take]; rfl)) ?_; (with_reducible refine (caponierref02_Form.calls k a1 t404 _ A3.out).mono ?_); rintro e w' ⟨rfl, ⟨nd, rfl⟩⟩; refine ⟨_, rfl, ?_⟩))
  (try simp only [Act.put, List.setIfInBounds_toArray, List.set_cons_zero, List.set_cons_succ])
  go_cut [20] (fun v20 wc => ∃ (kq : Nat) (x20_3 : Bool), v20 = .bool x20_3 ∧ Aside0 (caponierref02_as.j0 kq a0 a1 t404 x20_3 a1 0 0 0 0 = some (r1, r2, r3, r4, r5)) ∧ Aside0 (kq ≤ k) ∧ Aside0 (wc.heap[gb402]? = some (.cells #[.int .i64 0, .int .i64 0, .int .i64 0, .int .i64 0, .int .i64 0] 43 (0, 0))) ∧ Aside0 (wc.heap[gb403]? = some (.cells #[.int .i64 a1, .int .i64 0, .int .i64 0, .int .i64 0, .int .i64 0] 43 (0, 0))) ∧ Aside0 (Below w.heap.size w wc))
  case first =>
    have H := HC4.out
    clear HC4
    by_cases c9 : t404.toList = ([83] : List UInt8)
    · rw [if_pos c9] at H
      have c9b0 : (t404.toList == ([83] : List UInt8)) = true := beq_iff_eq.mpr c9
      have c9b1 : (t404.toList != ([83] : List UInt8)) = false := bne_eq_false_iff_eq.mpr c9
      clear c9
      (first | rw [c9b0] | (simp only [i64_w, i32_w]; rw [c9b0]) | skip)
      have H' := Aside0.mk H
      clear H
      go_wp2
      go_meet
      case rel => exact ⟨_, (false), (by first | rfl | (simp; done) | (simp [*]; done)), H', ⟨by first | omega | exact Nat.le_refl _⟩, ⟨by (with_reducible repeat (first | refine blk_drewN ?_ _ | refine blk_drew ?_ | refine blk_alloc ?_ _)); refine blk_far ?_ NB402_403.out _; (with_reducible repeat (first | refine blk_drewN ?_ _ | refine blk_drew ?_ | refine blk_alloc ?_ _)); refine blk_far ?_ NB402_403.out _; (with_reducible repeat (first | refine blk_drewN ?_ _ | refine blk_drew ?_ | refine blk_alloc ?_ _)); refine blk_far ?_ NB402_403.out _; (with_reducible repeat (first | refine blk_drewN ?_ _ | refine blk_drew ?_ | refine blk_alloc ?_ _)); refine blk_far ?_ NB402_403.out _; (with_reducible repeat (first | refine blk_drewN ?_ _ | refine blk_drew ?_ | refine blk_alloc ?_ _)); refine blk_far ?_ NB402_403.out _; (with_reducible repeat (first | refine blk_drewN ?_ _ | refine blk_drew ?_ | refine blk_alloc ?_ _)); exact BK402.out⟩, ⟨by (with_reducible repeat (first | refine blk_drewN ?_ _ | refine blk_drew ?_ | refine blk_alloc ?_ _)); refine blk_put (cs := #[.int .i64 a1, .int .i64 0, .int .i64 0, .int .i64 0, .int .i64 0]) ?_ 4 _ rfl; (with_reducible repeat (first | refine blk_drewN ?_ _ | refine blk_drew ?_ | refine blk_alloc ?_ _)); refine blk_put (cs := #[.int .i64 a1, .int .i64 0, .int .i64 0, .int .i64 0, .int .i64 0]) ?_ 3 _ rfl; (with_reducible repeat (first | refine blk_drewN ?_ _ | refine blk_drew ?_ | refine blk_alloc ?_ _)); refine blk_put (cs := #[.int .i64 a1, .int .i64 0, .int .i64 0, .int .i64 0, .int .i64 0]) ?_ 2 _ rfl; (with_reducible repeat (first | refine blk_drewN ?_ _ | refine blk_drew ?_ | refine blk_alloc ?_ _)); refine blk_put (cs := #[.int .i64 a1, .int .i64 0, .int .i64 0, .int .i64 0, .int .i64 0]) ?_ 1 _ rfl; (with_reducible repeat (first | refine blk_drewN ?_ _ | refine blk_drew ?_ | refine blk_alloc ?_ _)); refine blk_put (cs := #[.int .i64 0, .int .i64 0, .int .i64 0, .int .i64 0, .int .i64 0]) ?_ 0 _ rfl; (with_reducible repeat (first | refine blk_drewN ?_ _ | refine blk_drew ?_ | refine blk_alloc ?_ _)); exact BK403.out⟩, ⟨by repeat (first | (with_reducible first | exact HB.out | apply below_alloc | apply pw_below_drewN | apply below_drew1 | refine below_set ?_ GE402.out | refine below_set ?_ GE403.out) | exact HB.out)⟩⟩
    · rw [if_neg c9] at H
      have c9b0 : (t404.toList == ([83] : List UInt8)) = false := beq_eq_false_iff_ne.mpr c9
      have c9b1 : (t404.toList != ([83] : List UInt8)) = true := bne_iff_ne.mpr c9
      (first | rw [c9b0] | (simp only [i64_w, i32_w]; rw [c9b0]) | skip)
      by_cases c10 : t404.toList = ([66] : List UInt8)
      · rw [if_pos c10] at H
        have c10b0 : (t404.toList == ([66] : List UInt8)) = true := beq_iff_eq.mpr c10
        have c10b1 : (t404.toList != ([66] : List UInt8)) = false := bne_eq_false_iff_eq.mpr c10
        clear c10
        have H' := Aside0.mk H
        clear H
        go_wp2
        go_meet
        case rel => exact ⟨_, (false), (by first | rfl | (simp; done) | (simp [*]; done)), H', ⟨by first | omega | exact Nat.le_refl _⟩, ⟨by (with_reducible repeat (first | refine blk_drewN ?_ _ | refine blk_drew ?_ | refine blk_alloc ?_ _)); refine blk_far ?_ NB402_403.out _; (with_reducible repeat (first | refine blk_drewN ?_ _ | refine blk_drew ?_ | refine blk_alloc ?_ _)); refine blk_far ?_ NB402_403.out _; (with_reducible repeat (first | refine blk_drewN ?_ _ | refine blk_drew ?_ | refine blk_alloc ?_ _)); refine blk_far ?_ NB402_403.out _; (with_reducible repeat (first | refine blk_drewN ?_ _ | refine blk_drew ?_ | refine blk_alloc ?_ _)); refine blk_far ?_ NB402_403.out _; (with_reducible repeat (first | refine blk_drewN ?_ _ | refine blk_drew ?_ | refine blk_alloc ?_ _)); refine blk_far ?_ NB402_403.out _; (with_reducible repeat (first | refine blk_drewN ?_ _ | refine blk_drew ?_ | refine blk_alloc ?_ _)); exact BK402.out⟩, ⟨by (with_reducible repeat (first | refine blk_drewN ?_ _ | refine blk_drew ?_ | refine blk_alloc ?_ _)); refine blk_put (cs := #[.int .i64 a1, .int .i64 0, .int .i64 0, .int .i64 0, .int .i64 0]) ?_ 4 _ rfl; (with_reducible repeat (first | refine blk_drewN ?_ _ | refine blk_drew ?_ | refine blk_alloc ?_ _)); refine blk_put (cs := #[.int .i64 a1, .int .i64 0, .int .i64 0, .int .i64 0, .int .i64 0]) ?_ 3 _ rfl; (with_reducible repeat (first | refine blk_drewN ?_ _ | refine blk_drew ?_ | refine blk_alloc ?_ _)); refine blk_put (cs := #[.int .i64 a1, .int .i64 0, .int .i64 0, .int .i64 0, .int .i64 0]) ?_ 2 _ rfl; (with_reducible repeat (first | refine blk_drewN ?_ _ | refine blk_drew ?_ | refine blk_alloc ?_ _)); refine blk_put (cs := #[.int .i64 a1, .int .i64 0, .int .i64 0, .int .i64 0, .int .i64 0]) ?_ 1 _ rfl; (with_reducible repeat (first | refine blk_drewN ?_ _ | refine blk_drew ?_ | refine blk_alloc ?_ _)); refine blk_put (cs := #[.int .i64 0, .int .i64 0, .int .i64 0, .int .i64 0, .int .i64 0]) ?_ 0 _ rfl; (with_reducible repeat (first | refine blk_drewN ?_ _ | refine blk_drew ?_ | refine blk_alloc ?_ _)); exact BK403.out⟩, ⟨by repeat (first | (with_reducible first | exact HB.out | apply below_alloc | apply pw_below_drewN | apply below_drew1 | refine below_set ?_ GE402.out | refine below_set ?_ GE403.out) | exact HB.out)⟩⟩
      · rw [if_neg c10] at H
        have c10b0 : (t404.toList == ([66] : List UInt8)) = false := beq_eq_false_iff_ne.mpr c10
        have c10b1 : (t404.toList != ([66] : List UInt8)) = true := bne_iff_ne.mpr c10
        have H' := Aside0.mk H
        clear H
        go_wp2
        go_meet
        case rel => exact ⟨_, ((t404.toList != ([69] : List UInt8))), (by first | rfl | (simp; done) | (simp [*]; done)), H', ⟨by first | omega | exact Nat.le_refl _⟩, ⟨by (with_reducible repeat (first | refine blk_drewN ?_ _ | refine blk_drew ?_ | refine blk_alloc ?_ _)); refine blk_far ?_ NB402_403.out _; (with_reducible repeat (first | refine blk_drewN ?_ _ | refine blk_drew ?_ | refine blk_alloc ?_ _)); refine blk_far ?_ NB402_403.out _; (with_reducible repeat (first | refine blk_drewN ?_ _ | refine blk_drew ?_ | refine blk_alloc ?_ _)); refine blk_far ?_ NB402_403.out _; (with_reducible repeat (first | refine blk_drewN ?_ _ | refine blk_drew ?_ | refine blk_alloc ?_ _)); refine blk_far ?_ NB402_403.out _; (with_reducible repeat (first | refine blk_drewN ?_ _ | refine blk_drew ?_ | refine blk_alloc ?_ _)); refine blk_far ?_ NB402_403.out _; (with_reducible repeat (first | refine blk_drewN ?_ _ | refine blk_drew ?_ | refine blk_alloc ?_ _)); exact BK402.out⟩, ⟨by (with_reducible repeat (first | refine blk_drewN ?_ _ | refine blk_drew ?_ | refine blk_alloc ?_ _)); refine blk_put (cs := #[.int .i64 a1, .int .i64 0, .int .i64 0, .int .i64 0, .int .i64 0]) ?_ 4 _ rfl; (with_reducible repeat (first | refine blk_drewN ?_ _ | refine blk_drew ?_ | refine blk_alloc ?_ _)); refine blk_put (cs := #[.int .i64 a1, .int .i64 0, .int .i64 0, .int .i64 0, .int .i64 0]) ?_ 3 _ rfl; (with_reducible repeat (first | refine blk_drewN ?_ _ | refine blk_drew ?_ | refine blk_alloc ?_ _)); refine blk_put (cs := #[.int .i64 a1, .int .i64 0, .int .i64 0, .int .i64 0, .int .i64 0]) ?_ 2 _ rfl; (with_reducible repeat (first | refine blk_drewN ?_ _ | refine blk_drew ?_ | refine blk_alloc ?_ _)); refine blk_put (cs := #[.int .i64 a1, .int .i64 0, .int .i64 0, .int .i64 0, .int .i64 0]) ?_ 1 _ rfl; (with_reducible repeat (first | refine blk_drewN ?_ _ | refine blk_drew ?_ | refine blk_alloc ?_ _)); refine blk_put (cs := #[.int .i64 0, .int .i64 0, .int .i64 0, .int .i64 0, .int .i64 0]) ?_ 0 _ rfl; (with_reducible repeat (first | refine blk_drewN ?_ _ | refine blk_drew ?_ | refine blk_alloc ?_ _)); exact BK403.out⟩, ⟨by repeat (first | (with_reducible first | exact HB.out | apply below_alloc | apply pw_below_drewN | apply below_drew1 | refine below_set ?_ GE402.out | refine below_set ?_ GE403.out) | exact HB.out)⟩⟩
  case rest =>
    clear HC4
    try clear c1
    try clear c2
    try clear p2
    try clear c7
    try clear c9
    try clear c9b0
    try clear c9b1
    try clear c10
    try clear c10b0
    try clear c10b1
    try clear hcz8_0
    try clear hcz8_1
    try clear hcz8_2
    try clear hcz8_3
    try clear hcz8_4
    try clear hfz8_0
    try clear hfz8_1
    try clear hfz8_2
    try clear hfz8_3
    try clear hfz8_4
    obtain ⟨kq, x20_3, rfl, HA, HJ3, BK402, BK403, HB⟩ := hcut
    cases kq with
    | zero => exact absurd HA.out (by simp [caponierref02_as.j0])
    | succ kj3 =>
      have H := HA.out
      clear HA
      simp only [caponierref02_as.j0] at H
      have HC11 := Aside0.mk H
      clear H
      go_upto_if 20 with (fail)
      go_cut [] (fun wc => ∃ (kq : Nat) (x404001_10 : Int), Aside0 (caponierref02_as.j1 kq a0 a1 t404 a1 x404001_10 0 0 0 = some (r1, r2, r3, r4, r5)) ∧ Aside0 (kq ≤ kj3) ∧ Aside0 (wc.heap[gb402]? = some (.cells #[.int .i64 0, .int .i64 0, .int .i64 0, .int .i64 0, .int .i64 0] 43 (0, 0))) ∧ Aside0 (wc.heap[gb403]? = some (.cells #[.int .i64 a1, .int .i64 x404001_10, .int .i64 0, .int .i64 0, .int .i64 0] 43 (0, 0))) ∧ Aside0 (Below w.heap.size w wc))
      case first =>
        have H := HC11.out
        clear HC11
        by_cases c12 : x20_3 = true
        · subst c12
          have H1 : ((caponierref02_field.f kj3 a0 7 5).bind fun t405 => (caponierref02_as.j1 kj3 a0 a1 t404 a1 (wrap64 (t405)) 0 0 0)) = some (r1, r2, r3, r4, r5) := by rw [if_pos rfl] at H; exact H
          clear H
          have H := H1
          clear H1
          replace H := Option.bind_eq_some_iff.mp H
          obtain ⟨t405, A130, H⟩ := H
          replace H : (caponierref02_as.j1 kj3 a0 a1 t404 a1 (wrap64 (t405)) 0 0 0) = some (r1, r2, r3, r4, r5) := H
          have A13 := Aside0.mk A130
          clear A130
          have H' := Aside0.mk H
          clear H
          go_wp2_with (first | ((with_reducible refine gate_callee (f := 61) rfl ?_); refine goesL_ (some 22) rfl rfl Tryd.func61 (by kernel_rfl) rfl #[.int .u32 a0, .int .i64 7, .int .i64 5] rfl (by (try simp only [List.map_toArray, List.map_cons, List.map_nil]); first | done | rfl | (simp only [List.length_drop, List.length_take]; rfl)) ?_; (with_reducible refine (caponierref02_field.calls kj3 a0 7 5 t405 _ A13.out).mono ?_); rintro e w' ⟨rfl, ⟨nd, rfl⟩⟩; refine ⟨_, rfl, ?_⟩; (try (rw [drewN_self wc]; generalize hq_ : World.drewN wc _ = wc; have n0_ : Aside0 (wc.heap[gb402]? = some (.cells #[.int .i64 0, .int .i64 0, .int .i64 0, .int .i64 0, .int .i64 0] 43 (0, 0))) := ⟨by rw [← hq_]; exact (by (with_reducible repeat (first | refine blk_drewN ?_ _ | refine blk_drew ?_ | refine blk_alloc ?_ _)); exact BK402.out)⟩; have n1_ : Aside0 (wc.heap[gb403]? = some (.cells #[.int .i64 a1, .int .i64 0, .int .i64 0, .int .i64 0, .int .i64 0] 43 (0, 0))) := ⟨by rw [← hq_]; exact (by (with_reducible repeat (first | refine blk_drewN ?_ _ | refine blk_drew ?_ | refine blk_alloc ?_ _)); exact BK403.out)⟩; have n2_ : Aside0 (Below w.heap.size w wc) := ⟨by rw [← hq_]; exact (by repeat (first | (with_reducible first | exact HB.out | apply below_alloc | apply pw_below_drewN | apply below_drew1 | refine below_set ?_ GE402.out | refine below_set ?_ GE403.out) | exact HB.out))⟩; clear BK402 BK403 HB hq_; have BK402 := n0_; have BK403 := n1_; have HB := n2_; clear n0_ n1_ n2_)); have hnb14 := NB403_402.out; have hnc14 := NB402_403.out; have hcz15_0 : wc.cell? ⟨gb403, 0, none⟩ = some (.int .i64 a1) := (blk_cell BK403.out 0).trans rfl; have hcz15_1 : wc.cell? ⟨gb403, 1, none⟩ = some (.int .i64 0) := (blk_cell BK403.out 1).trans rfl; have hcz15_2 : wc.cell? ⟨gb403, 2, none⟩ = some (.int .i64 0) := (blk_cell BK403.out 2).trans rfl; have hcz15_3 : wc.cell? ⟨gb403, 3, none⟩ = some (.int .i64 0) := (blk_cell BK403.out 3).trans rfl; have hcz15_4 : wc.cell? ⟨gb403, 4, none⟩ = some (.int .i64 0) := (blk_cell BK403.out 4).trans rfl; have hfz15_0 := blk_frozen BK403.out 0; have hfz15_1 := blk_frozen BK403.out 1; have hfz15_2 := blk_frozen BK403.out 2; have hfz15_3 := blk_frozen BK403.out 3; have hfz15_4 := blk_frozen BK403.out 4))
          go_meet
          case rel => exact ⟨_, (wrap64 (t405)), H', ⟨by have := HJ3.out; first | omega | exact Nat.le_refl _⟩, ⟨by (with_reducible repeat (first | refine blk_drewN ?_ _ | refine blk_drew ?_ | refine blk_alloc ?_ _)); refine blk_far ?_ NB402_403.out _; (with_reducible repeat (first | refine blk_drewN ?_ _ | refine blk_drew ?_ | refine blk_alloc ?_ _)); exact BK402.out⟩, ⟨by (with_reducible repeat (first | refine blk_drewN ?_ _ | refine blk_drew ?_ | refine blk_alloc ?_ _)); refine blk_put (cs := #[.int .i64 a1, .int .i64 0, .int .i64 0, .int .i64 0, .int .i64 0]) ?_ 1 _ rfl; (with_reducible repeat (first | refine blk_drewN ?_ _ | refine blk_drew ?_ | refine blk_alloc ?_ _)); exact BK403.out⟩, ⟨by repeat (first | (with_reducible first | exact HB.out | apply below_alloc | apply pw_below_drewN | apply below_drew1 | refine below_set ?_ GE402.out | refine below_set ?_ GE403.out) | exact HB.out)⟩⟩
        · replace c12 := Bool.eq_false_iff.mpr c12
          subst c12
          have H1 : (caponierref02_as.j1 kj3 a0 a1 t404 a1 0 0 0 0) = some (r1, r2, r3, r4, r5) := by rw [if_neg (show ¬ (false = true) by decide)] at H; exact H
          clear H
          have H := H1
          clear H1
          have H' := Aside0.mk H
          clear H
          go_wp2
          go_meet
          case rel => exact ⟨_, (0), H', ⟨by have := HJ3.out; first | omega | exact Nat.le_refl _⟩, ⟨by (with_reducible repeat (first | refine blk_drewN ?_ _ | refine blk_drew ?_ | refine blk_alloc ?_ _)); exact BK402.out⟩, ⟨by (with_reducible repeat (first | refine blk_drewN ?_ _ | refine blk_drew ?_ | refine blk_alloc ?_ _)); exact BK403.out⟩, ⟨by repeat (first | (with_reducible first | exact HB.out | apply below_alloc | apply pw_below_drewN | apply below_drew1 | refine below_set ?_ GE402.out | refine below_set ?_ GE403.out) | exact HB.out)⟩⟩
      case rest =>
        clear HC11
        try clear c1
        try clear c2
        try clear p2
        try clear c6
        try clear p6
        try clear c7
        try clear c9
        try clear c9b0
        try clear c9b1
        try clear c10
        try clear c10b0
        try clear c10b1
        try clear c12
        try clear c14
        try clear hcz15_0
        try clear hcz15_1
        try clear hcz15_2
        try clear hcz15_3
        try clear hcz15_4
        try clear hcz8_0
        try clear hcz8_1
        try clear hcz8_2
        try clear hcz8_3
        try clear hcz8_4
        try clear hfz15_0
        try clear hfz15_1
        try clear hfz15_2
        try clear hfz15_3
        try clear hfz15_4
        try clear hfz8_0
        try clear hfz8_1
        try clear hfz8_2
        try clear hfz8_3
        try clear hfz8_4
        try clear p2
        obtain ⟨kq, x404001_10, HA, HJ10, BK402, BK403, HB⟩ := hcut
        cases kq with
        | zero => exact absurd HA.out (by simp [caponierref02_as.j1])
        | succ kj10 =>
          have H := HA.out
          clear HA
          simp only [caponierref02_as.j1] at H
          have HC16 := Aside0.mk H
          clear H
          go_upto_region 5 with (fail)
          go_cut [34] (fun v34 wc => ∃ (kq : Nat) (x34_15 : Bool), v34 = .bool x34_15 ∧ Aside0 (caponierref02_as.j2 kq a0 a1 t404 x34_15 a1 x404001_10 0 0 0 = some (r1, r2, r3, r4, r5)) ∧ Aside0 (kq ≤ kj10) ∧ Aside0 (wc.heap[gb402]? = some (.cells #[.int .i64 0, .int .i64 0, .int .i64 0, .int .i64 0, .int .i64 0] 43 (0, 0))) ∧ Aside0 (wc.heap[gb403]? = some (.cells #[.int .i64 a1, .int .i64 x404001_10, .int .i64 0, .int .i64 0, .int .i64 0] 43 (0, 0))) ∧ Aside0 (Below w.heap.size w wc))
          case first =>
            have H := HC16.out
            clear HC16
            by_cases c17 : t404.toList = ([85] : List UInt8)
            · rw [if_pos c17] at H
              have c17b0 : (t404.toList == ([85] : List UInt8)) = true := beq_iff_eq.mpr c17
              have c17b1 : (t404.toList != ([85] : List UInt8)) = false := bne_eq_false_iff_eq.mpr c17
              clear c17
              (first | rw [c17b0] | (simp only [i64_w, i32_w]; rw [c17b0]) | skip)
              have H' := Aside0.mk H
              clear H
              go_wp2
              go_meet
              case rel => exact ⟨_, (false), (by first | rfl | (simp; done) | (simp [*]; done)), H', ⟨by have := HJ3.out; have := HJ10.out; first | omega | exact Nat.le_refl _⟩, ⟨by (with_reducible repeat (first | refine blk_drewN ?_ _ | refine blk_drew ?_ | refine blk_alloc ?_ _)); exact BK402.out⟩, ⟨by (with_reducible repeat (first | refine blk_drewN ?_ _ | refine blk_drew ?_ | refine blk_alloc ?_ _)); exact BK403.out⟩, ⟨by repeat (first | (with_reducible first | exact HB.out | apply below_alloc | apply pw_below_drewN | apply below_drew1 | refine below_set ?_ GE402.out | refine below_set ?_ GE403.out) | exact HB.out)⟩⟩
            · rw [if_neg c17] at H
              have c17b0 : (t404.toList == ([85] : List UInt8)) = false := beq_eq_false_iff_ne.mpr c17
              have c17b1 : (t404.toList != ([85] : List UInt8)) = true := bne_iff_ne.mpr c17
              (first | rw [c17b0] | (simp only [i64_w, i32_w]; rw [c17b0]) | skip)
              by_cases c18 : t404.toList = ([74] : List UInt8)
              · rw [if_pos c18] at H
                have c18b0 : (t404.toList == ([74] : List UInt8)) = true := beq_iff_eq.mpr c18
                have c18b1 : (t404.toList != ([74] : List UInt8)) = false := bne_eq_false_iff_eq.mpr c18
                clear c18
                have H' := Aside0.mk H
                clear H
                go_wp2
                go_meet
                case rel => exact ⟨_, (false), (by first | rfl | (simp; done) | (simp [*]; done)), H', ⟨by have := HJ3.out; have := HJ10.out; first | omega | exact Nat.le_refl _⟩, ⟨by (with_reducible repeat (first | refine blk_drewN ?_ _ | refine blk_drew ?_ | refine blk_alloc ?_ _)); exact BK402.out⟩, ⟨by (with_reducible repeat (first | refine blk_drewN ?_ _ | refine blk_drew ?_ | refine blk_alloc ?_ _)); exact BK403.out⟩, ⟨by repeat (first | (with_reducible first | exact HB.out | apply below_alloc | apply pw_below_drewN | apply below_drew1 | refine below_set ?_ GE402.out | refine below_set ?_ GE403.out) | exact HB.out)⟩⟩
              · rw [if_neg c18] at H
                have c18b0 : (t404.toList == ([74] : List UInt8)) = false := beq_eq_false_iff_ne.mpr c18
                have c18b1 : (t404.toList != ([74] : List UInt8)) = true := bne_iff_ne.mpr c18
                have H' := Aside0.mk H
                clear H
                go_wp2
                go_meet
                case rel => exact ⟨_, ((t404.toList != ([69] : List UInt8))), (by first | rfl | (simp; done) | (simp [*]; done)), H', ⟨by have := HJ3.out; have := HJ10.out; first | omega | exact Nat.le_refl _⟩, ⟨by (with_reducible repeat (first | refine blk_drewN ?_ _ | refine blk_drew ?_ | refine blk_alloc ?_ _)); exact BK402.out⟩, ⟨by (with_reducible repeat (first | refine blk_drewN ?_ _ | refine blk_drew ?_ | refine blk_alloc ?_ _)); exact BK403.out⟩, ⟨by repeat (first | (with_reducible first | exact HB.out | apply below_alloc | apply pw_below_drewN | apply below_drew1 | refine below_set ?_ GE402.out | refine below_set ?_ GE403.out) | exact HB.out)⟩⟩
          case rest =>
            clear HC16
            try clear c1
            try clear c2
            try clear p2
            try clear c6
            try clear p6
            try clear c7
            try clear c9
            try clear c9b0
            try clear c9b1
            try clear c10
            try clear c10b0
            try clear c10b1
            try clear c12
            try clear c14
            try clear c16
            try clear c17
            try clear c17b0
            try clear c17b1
            try clear c18
            try clear c18b0
            try clear c18b1
            try clear hcz15_0
            try clear hcz15_1
            try clear hcz15_2
            try clear hcz15_3
            try clear hcz15_4
            try clear hcz8_0
            try clear hcz8_1
            try clear hcz8_2
            try clear hcz8_3
            try clear hcz8_4
            try clear hfz15_0
            try clear hfz15_1
            try clear hfz15_2
            try clear hfz15_3
            try clear hfz15_4
            try clear hfz8_0
            try clear hfz8_1
            try clear hfz8_2
            try clear hfz8_3
            try clear hfz8_4
            try clear p2
            try clear p6
            obtain ⟨kq, x34_15, rfl, HA, HJ15, BK402, BK403, HB⟩ := hcut
            cases kq with
            | zero => exact absurd HA.out (by simp [caponierref02_as.j2])
            | succ kj15 =>
              have H := HA.out
              clear HA
              simp only [caponierref02_as.j2] at H
              have HC19 := Aside0.mk H
              clear H
              go_upto_if 34 with (fail)
              go_cut [] (fun wc => ∃ (kq : Nat) (x404002_18 : Int), Aside0 (caponierref02_as.j3 kq a0 a1 t404 a1 x404001_10 x404002_18 0 0 = some (r1, r2, r3, r4, r5)) ∧ Aside0 (kq ≤ kj15) ∧ Aside0 (wc.heap[gb402]? = some (.cells #[.int .i64 0, .int .i64 0, .int .i64 0, .int .i64 0, .int .i64 0] 43 (0, 0))) ∧ Aside0 (wc.heap[gb403]? = some (.cells #[.int .i64 a1, .int .i64 x404001_10, .int .i64 x404002_18, .int .i64 0, .int .i64 0] 43 (0, 0))) ∧ Aside0 (Below w.heap.size w wc))
              case first =>
                have H := HC19.out
                clear HC19
                by_cases c20 : x34_15 = true
                · subst c20
                  have H1 : ((caponierref02_field.f kj15 a0 15 5).bind fun t406 => (caponierref02_as.j3 kj15 a0 a1 t404 a1 x404001_10 (wrap64 (t406)) 0 0)) = some (r1, r2, r3, r4, r5) := by rw [if_pos rfl] at H; exact H
                  clear H
                  have H := H1
                  clear H1
                  replace H := Option.bind_eq_some_iff.mp H
                  obtain ⟨t406, A210, H⟩ := H
                  replace H : (caponierref02_as.j3 kj15 a0 a1 t404 a1 x404001_10 (wrap64 (t406)) 0 0) = some (r1, r2, r3, r4, r5) := H
                  have A21 := Aside0.mk A210
                  clear A210
                  have H' := Aside0.mk H
                  clear H
                  go_wp2_with (first | ((with_reducible refine gate_callee (f := 61) rfl ?_); refine goesL_ (some 36) rfl rfl Tryd.func61 (by kernel_rfl) rfl #[.int .u32 a0, .int .i64 15, .int .i64 5] rfl (by (try simp only [List.map_toArray, List.map_cons, List.map_nil]); first | done | rfl | (simp only [List.length_drop, List.length_take]; rfl)) ?_; (with_reducible refine (caponierref02_field.calls kj15 a0 15 5 t406 _ A21.out).mono ?_); rintro e w' ⟨rfl, ⟨nd, rfl⟩⟩; refine ⟨_, rfl, ?_⟩; (try (rw [drewN_self wc]; generalize hq_ : World.drewN wc _ = wc; have n0_ : Aside0 (wc.heap[gb402]? = some (.cells #[.int .i64 0, .int .i64 0, .int .i64 0, .int .i64 0, .int .i64 0] 43 (0, 0))) := ⟨by rw [← hq_]; exact (by (with_reducible repeat (first | refine blk_drewN ?_ _ | refine blk_drew ?_ | refine blk_alloc ?_ _)); exact BK402.out)⟩; have n1_ : Aside0 (wc.heap[gb403]? = some (.cells #[.int .i64 a1, .int .i64 x404001_10, .int .i64 0, .int .i64 0, .int .i64 0] 43 (0, 0))) := ⟨by rw [← hq_]; exact (by (with_reducible repeat (first | refine blk_drewN ?_ _ | refine blk_drew ?_ | refine blk_alloc ?_ _)); exact BK403.out)⟩; have n2_ : Aside0 (Below w.heap.size w wc) := ⟨by rw [← hq_]; exact (by repeat (first | (with_reducible first | exact HB.out | apply below_alloc | apply pw_below_drewN | apply below_drew1 | refine below_set ?_ GE402.out | refine below_set ?_ GE403.out) | exact HB.out))⟩; clear BK402 BK403 HB hq_; have BK402 := n0_; have BK403 := n1_; have HB := n2_; clear n0_ n1_ n2_)); have hnb22 := NB403_402.out; have hnc22 := NB402_403.out; have hcz23_0 : wc.cell? ⟨gb403, 0, none⟩ = some (.int .i64 a1) := (blk_cell BK403.out 0).trans rfl; have hcz23_1 : wc.cell? ⟨gb403, 1, none⟩ = some (.int .i64 x404001_10) := (blk_cell BK403.out 1).trans rfl; have hcz23_2 : wc.cell? ⟨gb403, 2, none⟩ = some (.int .i64 0) := (blk_cell BK403.out 2).trans rfl; have hcz23_3 : wc.cell? ⟨gb403, 3, none⟩ = some (.int .i64 0) := (blk_cell BK403.out 3).trans rfl; have hcz23_4 : wc.cell? ⟨gb403, 4, none⟩ = some (.int .i64 0) := (blk_cell BK403.out 4).trans rfl; have hfz23_0 := blk_frozen BK403.out 0; have hfz23_1 := blk_frozen BK403.out 1; have hfz23_2 := blk_frozen BK403.out 2; have hfz23_3 := blk_frozen BK403.out 3; have hfz23_4 := blk_frozen BK403.out 4))
                  go_meet
                  case rel => exact ⟨_, (wrap64 (t406)), H', ⟨by have := HJ3.out; have := HJ10.out; have := HJ15.out; first | omega | exact Nat.le_refl _⟩, ⟨by (with_reducible repeat (first | refine blk_drewN ?_ _ | refine blk_drew ?_ | refine blk_alloc ?_ _)); refine blk_far ?_ NB402_403.out _; (with_reducible repeat (first | refine blk_drewN ?_ _ | refine blk_drew ?_ | refine blk_alloc ?_ _)); exact BK402.out⟩, ⟨by (with_reducible repeat (first | refine blk_drewN ?_ _ | refine blk_drew ?_ | refine blk_alloc ?_ _)); refine blk_put (cs := #[.int .i64 a1, .int .i64 x404001_10, .int .i64 0, .int .i64 0, .int .i64 0]) ?_ 2 _ rfl; (with_reducible repeat (first | refine blk_drewN ?_ _ | refine blk_drew ?_ | refine blk_alloc ?_ _)); exact BK403.out⟩, ⟨by repeat (first | (with_reducible first | exact HB.out | apply below_alloc | apply pw_below_drewN | apply below_drew1 | refine below_set ?_ GE402.out | refine below_set ?_ GE403.out) | exact HB.out)⟩⟩
                · replace c20 := Bool.eq_false_iff.mpr c20
                  subst c20
                  have H1 : (caponierref02_as.j3 kj15 a0 a1 t404 a1 x404001_10 0 0 0) = some (r1, r2, r3, r4, r5) := by rw [if_neg (show ¬ (false = true) by decide)] at H; exact H
                  clear H
                  have H := H1
                  clear H1
                  have H' := Aside0.mk H
                  clear H
                  go_wp2
                  go_meet
                  case rel => exact ⟨_, (0), H', ⟨by have := HJ3.out; have := HJ10.out; have := HJ15.out; first | omega | exact Nat.le_refl _⟩, ⟨by (with_reducible repeat (first | refine blk_drewN ?_ _ | refine blk_drew ?_ | refine blk_alloc ?_ _)); exact BK402.out⟩, ⟨by (with_reducible repeat (first | refine blk_drewN ?_ _ | refine blk_drew ?_ | refine blk_alloc ?_ _)); exact BK403.out⟩, ⟨by repeat (first | (with_reducible first | exact HB.out | apply below_alloc | apply pw_below_drewN | apply below_drew1 | refine below_set ?_ GE402.out | refine below_set ?_ GE403.out) | exact HB.out)⟩⟩
              case rest =>
                clear HC19
                try clear c1
                try clear c2
                try clear p2
                try clear c6
                try clear p6
                try clear c7
                try clear c9
                try clear c9b0
                try clear c9b1
                try clear c10
                try clear c10b0
                try clear c10b1
                try clear c12
                try clear c14
                try clear c16
                try clear c17
                try clear c17b0
                try clear c17b1
                try clear c18
                try clear c18b0
                try clear c18b1
                try clear c20
                try clear c22
                try clear hcz15_0
                try clear hcz15_1
                try clear hcz15_2
                try clear hcz15_3
                try clear hcz15_4
                try clear hcz23_0
                try clear hcz23_1
                try clear hcz23_2
                try clear hcz23_3
                try clear hcz23_4
                try clear hcz8_0
                try clear hcz8_1
                try clear hcz8_2
                try clear hcz8_3
                try clear hcz8_4
                try clear hfz15_0
                try clear hfz15_1
                try clear hfz15_2
                try clear hfz15_3
                try clear hfz15_4
                try clear hfz23_0
                try clear hfz23_1
                try clear hfz23_2
                try clear hfz23_3
                try clear hfz23_4
                try clear hfz8_0
                try clear hfz8_1
                try clear hfz8_2
                try clear hfz8_3
                try clear hfz8_4
                try clear p2
                try clear p6
                obtain ⟨kq, x404002_18, HA, HJ18, BK402, BK403, HB⟩ := hcut
                cases kq with
                | zero => exact absurd HA.out (by simp [caponierref02_as.j3])
                | succ kj18 =>
                  have H := HA.out
                  clear HA
                  simp only [caponierref02_as.j3] at H
                  have HC24 := Aside0.mk H
                  clear H
                  go_upto_region 7 with (fail)
                  go_cut [48] (fun v48 wc => ∃ (kq : Nat) (x48_23 : Bool), v48 = .bool x48_23 ∧ Aside0 (caponierref02_as.j4 kq a0 a1 t404 x48_23 a1 x404001_10 x404002_18 0 0 = some (r1, r2, r3, r4, r5)) ∧ Aside0 (kq ≤ kj18) ∧ Aside0 (wc.heap[gb402]? = some (.cells #[.int .i64 0, .int .i64 0, .int .i64 0, .int .i64 0, .int .i64 0] 43 (0, 0))) ∧ Aside0 (wc.heap[gb403]? = some (.cells #[.int .i64 a1, .int .i64 x404001_10, .int .i64 x404002_18, .int .i64 0, .int .i64 0] 43 (0, 0))) ∧ Aside0 (Below w.heap.size w wc))
                  case first =>
                    have H := HC24.out
                    clear HC24
                    by_cases c25 : t404.toList = ([82] : List UInt8)
                    · rw [if_pos c25] at H
                      have c25b0 : (t404.toList == ([82] : List UInt8)) = true := beq_iff_eq.mpr c25
                      have c25b1 : (t404.toList != ([82] : List UInt8)) = false := bne_eq_false_iff_eq.mpr c25
                      clear c25
                      (first | rw [c25b0] | (simp only [i64_w, i32_w]; rw [c25b0]) | skip)
                      have H' := Aside0.mk H
                      clear H
                      go_wp2
                      go_meet
                      case rel => exact ⟨_, (true), (by first | rfl | (simp; done) | (simp [*]; done)), H', ⟨by have := HJ3.out; have := HJ10.out; have := HJ15.out; have := HJ18.out; first | omega | exact Nat.le_refl _⟩, ⟨by (with_reducible repeat (first | refine blk_drewN ?_ _ | refine blk_drew ?_ | refine blk_alloc ?_ _)); exact BK402.out⟩, ⟨by (with_reducible repeat (first | refine blk_drewN ?_ _ | refine blk_drew ?_ | refine blk_alloc ?_ _)); exact BK403.out⟩, ⟨by repeat (first | (with_reducible first | exact HB.out | apply below_alloc | apply pw_below_drewN | apply below_drew1 | refine below_set ?_ GE402.out | refine below_set ?_ GE403.out) | exact HB.out)⟩⟩
                    · rw [if_neg c25] at H
                      have c25b0 : (t404.toList == ([82] : List UInt8)) = false := beq_eq_false_iff_ne.mpr c25
                      have c25b1 : (t404.toList != ([82] : List UInt8)) = true := bne_iff_ne.mpr c25
                      (first | rw [c25b0] | (simp only [i64_w, i32_w]; rw [c25b0]) | skip)
                      by_cases c26 : t404.toList = ([83] : List UInt8)
                      · rw [if_pos c26] at H
                        have c26b0 : (t404.toList == ([83] : List UInt8)) = true := beq_iff_eq.mpr c26
                        have c26b1 : (t404.toList != ([83] : List UInt8)) = false := bne_eq_false_iff_eq.mpr c26
                        clear c26
                        have H' := Aside0.mk H
                        clear H
                        go_wp2
                        go_meet
                        case rel => exact ⟨_, (true), (by first | rfl | (simp; done) | (simp [*]; done)), H', ⟨by have := HJ3.out; have := HJ10.out; have := HJ15.out; have := HJ18.out; first | omega | exact Nat.le_refl _⟩, ⟨by (with_reducible repeat (first | refine blk_drewN ?_ _ | refine blk_drew ?_ | refine blk_alloc ?_ _)); exact BK402.out⟩, ⟨by (with_reducible repeat (first | refine blk_drewN ?_ _ | refine blk_drew ?_ | refine blk_alloc ?_ _)); exact BK403.out⟩, ⟨by repeat (first | (with_reducible first | exact HB.out | apply below_alloc | apply pw_below_drewN | apply below_drew1 | refine below_set ?_ GE402.out | refine below_set ?_ GE403.out) | exact HB.out)⟩⟩
                      · rw [if_neg c26] at H
                        have c26b0 : (t404.toList == ([83] : List UInt8)) = false := beq_eq_false_iff_ne.mpr c26
                        have c26b1 : (t404.toList != ([83] : List UInt8)) = true := bne_iff_ne.mpr c26
                        have H' := Aside0.mk H
                        clear H
                        go_wp2
                        go_meet
                        case rel => exact ⟨_, ((t404.toList == ([66] : List UInt8))), (by first | rfl | (simp; done) | (simp [*]; done)), H', ⟨by have := HJ3.out; have := HJ10.out; have := HJ15.out; have := HJ18.out; first | omega | exact Nat.le_refl _⟩, ⟨by (with_reducible repeat (first | refine blk_drewN ?_ _ | refine blk_drew ?_ | refine blk_alloc ?_ _)); exact BK402.out⟩, ⟨by (with_reducible repeat (first | refine blk_drewN ?_ _ | refine blk_drew ?_ | refine blk_alloc ?_ _)); exact BK403.out⟩, ⟨by repeat (first | (with_reducible first | exact HB.out | apply below_alloc | apply pw_below_drewN | apply below_drew1 | refine below_set ?_ GE402.out | refine below_set ?_ GE403.out) | exact HB.out)⟩⟩
                  case rest =>
                    clear HC24
                    try clear c1
                    try clear c2
                    try clear p2
                    try clear c6
                    try clear p6
                    try clear c7
                    try clear c9
                    try clear c9b0
                    try clear c9b1
                    try clear c10
                    try clear c10b0
                    try clear c10b1
                    try clear c12
                    try clear c14
                    try clear c16
                    try clear c17
                    try clear c17b0
                    try clear c17b1
                    try clear c18
                    try clear c18b0
                    try clear c18b1
                    try clear c20
                    try clear c22
                    try clear c25
                    try clear c25b0
                    try clear c25b1
                    try clear c26
                    try clear c26b0
                    try clear c26b1
                    try clear hcz15_0
                    try clear hcz15_1
                    try clear hcz15_2
                    try clear hcz15_3
                    try clear hcz15_4
                    try clear hcz23_0
                    try clear hcz23_1
                    try clear hcz23_2
                    try clear hcz23_3
                    try clear hcz23_4
                    try clear hcz8_0
                    try clear hcz8_1
                    try clear hcz8_2
                    try clear hcz8_3
                    try clear hcz8_4
                    try clear hfz15_0
                    try clear hfz15_1
                    try clear hfz15_2
                    try clear hfz15_3
                    try clear hfz15_4
                    try clear hfz23_0
                    try clear hfz23_1
                    try clear hfz23_2
                    try clear hfz23_3
                    try clear hfz23_4
                    try clear hfz8_0
                    try clear hfz8_1
                    try clear hfz8_2
                    try clear hfz8_3
                    try clear hfz8_4
                    try clear p2
                    try clear p6
                    obtain ⟨kq, x48_23, rfl, HA, HJ23, BK402, BK403, HB⟩ := hcut
                    cases kq with
                    | zero => exact absurd HA.out (by simp [caponierref02_as.j4])
                    | succ kj23 =>
                      have H := HA.out
                      clear HA
                      simp only [caponierref02_as.j4] at H
                      have HC27 := Aside0.mk H
                      clear H
                      go_upto_if 48 with (fail)
                      go_cut [] (fun wc => ∃ (kq : Nat) (x404003_26 : Int), Aside0 (caponierref02_as.j5 kq a0 a1 t404 a1 x404001_10 x404002_18 x404003_26 0 = some (r1, r2, r3, r4, r5)) ∧ Aside0 (kq ≤ kj23) ∧ Aside0 (wc.heap[gb402]? = some (.cells #[.int .i64 0, .int .i64 0, .int .i64 0, .int .i64 0, .int .i64 0] 43 (0, 0))) ∧ Aside0 (wc.heap[gb403]? = some (.cells #[.int .i64 a1, .int .i64 x404001_10, .int .i64 x404002_18, .int .i64 x404003_26, .int .i64 0] 43 (0, 0))) ∧ Aside0 (Below w.heap.size w wc))
                      case first =>
                        have H := HC27.out
                        clear HC27
                        by_cases c28 : x48_23 = true
                        · subst c28
                          have H1 : ((caponierref02_field.f kj23 a0 20 5).bind fun t407 => (caponierref02_as.j5 kj23 a0 a1 t404 a1 x404001_10 x404002_18 (wrap64 (t407)) 0)) = some (r1, r2, r3, r4, r5) := by rw [if_pos rfl] at H; exact H
                          clear H
                          have H := H1
                          clear H1
                          replace H := Option.bind_eq_some_iff.mp H
                          obtain ⟨t407, A290, H⟩ := H
                          replace H : (caponierref02_as.j5 kj23 a0 a1 t404 a1 x404001_10 x404002_18 (wrap64 (t407)) 0) = some (r1, r2, r3, r4, r5) := H
                          have A29 := Aside0.mk A290
                          clear A290
                          have H' := Aside0.mk H
                          clear H
                          go_wp2_with (first | ((with_reducible refine gate_callee (f := 61) rfl ?_); refine goesL_ (some 50) rfl rfl Tryd.func61 (by kernel_rfl) rfl #[.int .u32 a0, .int .i64 20, .int .i64 5] rfl (by (try simp only [List.map_toArray, List.map_cons, List.map_nil]); first | done | rfl | (simp only [List.length_drop, List.length_take]; rfl)) ?_; (with_reducible refine (caponierref02_field.calls kj23 a0 20 5 t407 _ A29.out).mono ?_); rintro e w' ⟨rfl, ⟨nd, rfl⟩⟩; refine ⟨_, rfl, ?_⟩; (try (rw [drewN_self wc]; generalize hq_ : World.drewN wc _ = wc; have n0_ : Aside0 (wc.heap[gb402]? = some (.cells #[.int .i64 0, .int .i64 0, .int .i64 0, .int .i64 0, .int .i64 0] 43 (0, 0))) := ⟨by rw [← hq_]; exact (by (with_reducible repeat (first | refine blk_drewN ?_ _ | refine blk_drew ?_ | refine blk_alloc ?_ _)); exact BK402.out)⟩; have n1_ : Aside0 (wc.heap[gb403]? = some (.cells #[.int .i64 a1, .int .i64 x404001_10, .int .i64 x404002_18, .int .i64 0, .int .i64 0] 43 (0, 0))) := ⟨by rw [← hq_]; exact (by (with_reducible repeat (first | refine blk_drewN ?_ _ | refine blk_drew ?_ | refine blk_alloc ?_ _)); exact BK403.out)⟩; have n2_ : Aside0 (Below w.heap.size w wc) := ⟨by rw [← hq_]; exact (by repeat (first | (with_reducible first | exact HB.out | apply below_alloc | apply pw_below_drewN | apply below_drew1 | refine below_set ?_ GE402.out | refine below_set ?_ GE403.out) | exact HB.out))⟩; clear BK402 BK403 HB hq_; have BK402 := n0_; have BK403 := n1_; have HB := n2_; clear n0_ n1_ n2_)); have hnb30 := NB403_402.out; have hnc30 := NB402_403.out; have hcz31_0 : wc.cell? ⟨gb403, 0, none⟩ = some (.int .i64 a1) := (blk_cell BK403.out 0).trans rfl; have hcz31_1 : wc.cell? ⟨gb403, 1, none⟩ = some (.int .i64 x404001_10) := (blk_cell BK403.out 1).trans rfl; have hcz31_2 : wc.cell? ⟨gb403, 2, none⟩ = some (.int .i64 x404002_18) := (blk_cell BK403.out 2).trans rfl; have hcz31_3 : wc.cell? ⟨gb403, 3, none⟩ = some (.int .i64 0) := (blk_cell BK403.out 3).trans rfl; have hcz31_4 : wc.cell? ⟨gb403, 4, none⟩ = some (.int .i64 0) := (blk_cell BK403.out 4).trans rfl; have hfz31_0 := blk_frozen BK403.out 0; have hfz31_1 := blk_frozen BK403.out 1; have hfz31_2 := blk_frozen BK403.out 2; have hfz31_3 := blk_frozen BK403.out 3; have hfz31_4 := blk_frozen BK403.out 4))
                          go_meet
                          case rel => exact ⟨_, (wrap64 (t407)), H', ⟨by have := HJ3.out; have := HJ10.out; have := HJ15.out; have := HJ18.out; have := HJ23.out; first | omega | exact Nat.le_refl _⟩, ⟨by (with_reducible repeat (first | refine blk_drewN ?_ _ | refine blk_drew ?_ | refine blk_alloc ?_ _)); refine blk_far ?_ NB402_403.out _; (with_reducible repeat (first | refine blk_drewN ?_ _ | refine blk_drew ?_ | refine blk_alloc ?_ _)); exact BK402.out⟩, ⟨by (with_reducible repeat (first | refine blk_drewN ?_ _ | refine blk_drew ?_ | refine blk_alloc ?_ _)); refine blk_put (cs := #[.int .i64 a1, .int .i64 x404001_10, .int .i64 x404002_18, .int .i64 0, .int .i64 0]) ?_ 3 _ rfl; (with_reducible repeat (first | refine blk_drewN ?_ _ | refine blk_drew ?_ | refine blk_alloc ?_ _)); exact BK403.out⟩, ⟨by repeat (first | (with_reducible first | exact HB.out | apply below_alloc | apply pw_below_drewN | apply below_drew1 | refine below_set ?_ GE402.out | refine below_set ?_ GE403.out) | exact HB.out)⟩⟩
                        · replace c28 := Bool.eq_false_iff.mpr c28
                          subst c28
                          have H1 : (caponierref02_as.j5 kj23 a0 a1 t404 a1 x404001_10 x404002_18 0 0) = some (r1, r2, r3, r4, r5) := by rw [if_neg (show ¬ (false = true) by decide)] at H; exact H
                          clear H
                          have H := H1
                          clear H1
                          have H' := Aside0.mk H
                          clear H
                          go_wp2
                          go_meet
                          case rel => exact ⟨_, (0), H', ⟨by have := HJ3.out; have := HJ10.out; have := HJ15.out; have := HJ18.out; have := HJ23.out; first | omega | exact Nat.le_refl _⟩, ⟨by (with_reducible repeat (first | refine blk_drewN ?_ _ | refine blk_drew ?_ | refine blk_alloc ?_ _)); exact BK402.out⟩, ⟨by (with_reducible repeat (first | refine blk_drewN ?_ _ | refine blk_drew ?_ | refine blk_alloc ?_ _)); exact BK403.out⟩, ⟨by repeat (first | (with_reducible first | exact HB.out | apply below_alloc | apply pw_below_drewN | apply below_drew1 | refine below_set ?_ GE402.out | refine below_set ?_ GE403.out) | exact HB.out)⟩⟩
                      case rest =>
                        clear HC27
                        try clear c1
                        try clear c2
                        try clear p2
                        try clear c3
                        try clear c6
                        try clear p6
                        try clear c7
                        try clear c9
                        try clear c9b0
                        try clear c9b1
                        try clear c10
                        try clear c10b0
                        try clear c10b1
                        try clear c12
                        try clear c14
                        try clear c16
                        try clear c17
                        try clear c17b0
                        try clear c17b1
                        try clear c18
                        try clear c18b0
                        try clear c18b1
                        try clear c20
                        try clear c22
                        try clear c25
                        try clear c25b0
                        try clear c25b1
                        try clear c26
                        try clear c26b0
                        try clear c26b1
                        try clear c28
                        try clear c29
                        try clear c30
                        try clear hcz15_0
                        try clear hcz15_1
                        try clear hcz15_2
                        try clear hcz15_3
                        try clear hcz15_4
                        try clear hcz23_0
                        try clear hcz23_1
                        try clear hcz23_2
                        try clear hcz23_3
                        try clear hcz23_4
                        try clear hcz31_0
                        try clear hcz31_1
                        try clear hcz31_2
                        try clear hcz31_3
                        try clear hcz31_4
                        try clear hcz8_0
                        try clear hcz8_1
                        try clear hcz8_2
                        try clear hcz8_3
                        try clear hcz8_4
                        try clear hfz15_0
                        try clear hfz15_1
                        try clear hfz15_2
                        try clear hfz15_3
                        try clear hfz15_4
                        try clear hfz23_0
                        try clear hfz23_1
                        try clear hfz23_2
                        try clear hfz23_3
                        try clear hfz23_4
                        try clear hfz31_0
                        try clear hfz31_1
                        try clear hfz31_2
                        try clear hfz31_3
                        try clear hfz31_4
                        try clear hfz8_0
                        try clear hfz8_1
                        try clear hfz8_2
                        try clear hfz8_3
                        try clear hfz8_4
                        try clear p2
                        try clear p6
                        obtain ⟨kq, x404003_26, HA, HJ26, BK402, BK403, HB⟩ := hcut
                        cases kq with
                        | zero => exact absurd HA.out (by simp [caponierref02_as.j5])
                        | succ kj26 =>
                          have H := HA.out
                          clear HA
                          simp only [caponierref02_as.j5] at H
                          by_cases c32 : t404.toList = ([73] : List UInt8)
                          · rw [if_pos c32] at H
                            have c32b0 : (t404.toList == ([73] : List UInt8)) = true := beq_iff_eq.mpr c32
                            have c32b1 : (t404.toList != ([73] : List UInt8)) = false := bne_eq_false_iff_eq.mpr c32
                            clear c32
                            replace H := Option.bind_eq_some_iff.mp H
                            obtain ⟨t408, A330, H⟩ := H
                            replace H : ((caponierref01_Sign.f kj26 t408 12).bind fun t409 => ((caponierref02_Shift.f a1).bind fun t410 => (if t410 = true then ((caponierref02_field.f kj26 a0 20 6).bind fun t411 => (some (a1, x404001_10, x404002_18, x404003_26, wrap64 (t411)))) else (some (a1, x404001_10, x404002_18, x404003_26, t409))))) = some (r1, r2, r3, r4, r5) := H
                            have A33 := Aside0.mk A330
                            clear A330
                            replace H := Option.bind_eq_some_iff.mp H
                            obtain ⟨t409, A340, H⟩ := H
                            replace H : ((caponierref02_Shift.f a1).bind fun t410 => (if t410 = true then ((caponierref02_field.f kj26 a0 20 6).bind fun t411 => (some (a1, x404001_10, x404002_18, x404003_26, wrap64 (t411)))) else (some (a1, x404001_10, x404002_18, x404003_26, t409)))) = some (r1, r2, r3, r4, r5) := H
                            have A34 := Aside0.mk A340
                            clear A340
                            replace H := Option.bind_eq_some_iff.mp H
                            obtain ⟨t410, A350, H⟩ := H
                            replace H : (if t410 = true then ((caponierref02_field.f kj26 a0 20 6).bind fun t411 => (some (a1, x404001_10, x404002_18, x404003_26, wrap64 (t411)))) else (some (a1, x404001_10, x404002_18, x404003_26, t409))) = some (r1, r2, r3, r4, r5) := H
                            have A35 := Aside0.mk A350
                            clear A350
                            by_cases c36 : t410 = true
                            · subst c36
                              have H1 : ((caponierref02_field.f kj26 a0 20 6).bind fun t411 => (some (a1, x404001_10, x404002_18, x404003_26, wrap64 (t411)))) = some (r1, r2, r3, r4, r5) := by rw [if_pos rfl] at H; exact H
                              clear H
                              have H := H1
                              clear H1
                              replace H := Option.bind_eq_some_iff.mp H
                              obtain ⟨t411, A370, H⟩ := H
                              replace H : (some (a1, x404001_10, x404002_18, x404003_26, wrap64 (t411))) = some (r1, r2, r3, r4, r5) := H
                              have A37 := Aside0.mk A370
                              clear A370
                              simp only [Option.some.injEq, Prod.mk.injEq] at H
                              obtain ⟨rfl, rfl, rfl, rfl, rfl⟩ := H
                              go_wp2_with (first | ((with_reducible refine gate_callee (f := 61) rfl ?_); refine goesL_ (some 57) rfl rfl Tryd.func61 (by kernel_rfl) rfl #[.int .u32 a0, .int .i64 20, .int .i64 12] rfl (by (try simp only [List.map_toArray, List.map_cons, List.map_nil]); first | done | rfl | (simp only [List.length_drop, List.length_take]; rfl)) ?_; (with_reducible refine (caponierref02_field.calls kj26 a0 20 12 t408 _ A33.out).mono ?_); rintro e w' ⟨rfl, ⟨nd, rfl⟩⟩; refine ⟨_, rfl, ?_⟩; (try (rw [drewN_self wc]; generalize hq_ : World.drewN wc _ = wc; have n0_ : Aside0 (wc.heap[gb402]? = some (.cells #[.int .i64 0, .int .i64 0, .int .i64 0, .int .i64 0, .int .i64 0] 43 (0, 0))) := ⟨by rw [← hq_]; exact (by (with_reducible repeat (first | refine blk_drewN ?_ _ | refine blk_drew ?_ | refine blk_alloc ?_ _)); exact BK402.out)⟩; have n1_ : Aside0 (wc.heap[gb403]? = some (.cells #[.int .i64 a1, .int .i64 x404001_10, .int .i64 x404002_18, .int .i64 x404003_26, .int .i64 0] 43 (0, 0))) := ⟨by rw [← hq_]; exact (by (with_reducible repeat (first | refine blk_drewN ?_ _ | refine blk_drew ?_ | refine blk_alloc ?_ _)); exact BK403.out)⟩; have n2_ : Aside0 (Below w.heap.size w wc) := ⟨by rw [← hq_]; exact (by repeat (first | (with_reducible first | exact HB.out | apply below_alloc | apply pw_below_drewN | apply below_drew1 | refine below_set ?_ GE402.out | refine below_set ?_ GE403.out) | exact HB.out))⟩; clear BK402 BK403 HB hq_; have BK402 := n0_; have BK403 := n1_; have HB := n2_; clear n0_ n1_ n2_))) | ((with_reducible refine gate_callee (f := 62) rfl ?_); refine goesL_ (some 58) rfl rfl Tryd.func62 (by kernel_rfl) rfl #[.int .u64 t408, .int .i64 12] rfl (by (try simp only [List.map_toArray, List.map_cons, List.map_nil]); first | done | rfl | (simp only [List.length_drop, List.length_take]; rfl)) ?_; (with_reducible refine (caponierref01_Sign.calls kj26 t408 12 t409 _ A34.out).mono ?_); rintro e w' ⟨rfl, ⟨nd, rfl⟩⟩; refine ⟨_, rfl, ?_⟩; (try (rw [drewN_self wc]; generalize hq_ : World.drewN wc _ = wc; have n0_ : Aside0 (wc.heap[gb402]? = some (.cells #[.int .i64 0, .int .i64 0, .int .i64 0, .int .i64 0, .int .i64 0] 43 (0, 0))) := ⟨by rw [← hq_]; exact (by (with_reducible repeat (first | refine blk_drewN ?_ _ | refine blk_drew ?_ | refine blk_alloc ?_ _)); exact BK402.out)⟩; have n1_ : Aside0 (wc.heap[gb403]? = some (.cells #[.int .i64 a1, .int .i64 x404001_10, .int .i64 x404002_18, .int .i64 x404003_26, .int .i64 0] 43 (0, 0))) := ⟨by rw [← hq_]; exact (by (with_reducible repeat (first | refine blk_drewN ?_ _ | refine blk_drew ?_ | refine blk_alloc ?_ _)); exact BK403.out)⟩; have n2_ : Aside0 (Below w.heap.size w wc) := ⟨by rw [← hq_]; exact (by repeat (first | (with_reducible first | exact HB.out | apply below_alloc | apply pw_below_drewN | apply below_drew1 | refine below_set ?_ GE402.out | refine below_set ?_ GE403.out) | exact HB.out))⟩; clear BK402 BK403 HB hq_; have BK402 := n0_; have BK403 := n1_; have HB := n2_; clear n0_ n1_ n2_)); have hnb38 := NB403_402.out; have hnc38 := NB402_403.out; have hcz39_0 : wc.cell? ⟨gb403, 0, none⟩ = some (.int .i64 a1) := (blk_cell BK403.out 0).trans rfl; have hcz39_1 : wc.cell? ⟨gb403, 1, none⟩ = some (.int .i64 x404001_10) := (blk_cell BK403.out 1).trans rfl; have hcz39_2 : wc.cell? ⟨gb403, 2, none⟩ = some (.int .i64 x404002_18) := (blk_cell BK403.out 2).trans rfl; have hcz39_3 : wc.cell? ⟨gb403, 3, none⟩ = some (.int .i64 x404003_26) := (blk_cell BK403.out 3).trans rfl; have hcz39_4 : wc.cell? ⟨gb403, 4, none⟩ = some (.int .i64 0) := (blk_cell BK403.out 4).trans rfl; have hfz39_0 := blk_frozen BK403.out 0; have hfz39_1 := blk_frozen BK403.out 1; have hfz39_2 := blk_frozen BK403.out 2; have hfz39_3 := blk_frozen BK403.out 3; have hfz39_4 := blk_frozen BK403.out 4) | ((with_reducible refine gate_callee (f := 35) rfl ?_); refine goesL_ (some 61) rfl rfl Tryd.func35 (by kernel_rfl) rfl #[.int .i64 a1] rfl (by (try simp only [List.map_toArray, List.map_cons, List.map_nil]); first | done | rfl | (simp only [List.length_drop, List.length_take]; rfl)) ?_; (with_reducible refine (caponierref02_Shift.calls a1 true _ A35.out).mono ?_); rintro e w' ⟨rfl, ⟨nd, rfl⟩⟩; refine ⟨_, rfl, ?_⟩) | ((with_reducible refine gate_callee (f := 61) rfl ?_); refine goesL_ (some 63) rfl rfl Tryd.func61 (by kernel_rfl) rfl #[.int .u32 a0, .int .i64 20, .int .i64 6] rfl (by (try simp only [List.map_toArray, List.map_cons, List.map_nil]); first | done | rfl | (simp only [List.length_drop, List.length_take]; rfl)) ?_; (with_reducible refine (caponierref02_field.calls kj26 a0 20 6 t411 _ A37.out).mono ?_); rintro e w' ⟨rfl, ⟨nd, rfl⟩⟩; refine ⟨_, rfl, ?_⟩; have hcz40_0 : wc.cell? ⟨gb402, 0, none⟩ = some (.int .i64 0) := (blk_cell BK402.out 0).trans rfl; have hcz40_1 : wc.cell? ⟨gb402, 1, none⟩ = some (.int .i64 0) := (blk_cell BK402.out 1).trans rfl; have hcz40_2 : wc.cell? ⟨gb402, 2, none⟩ = some (.int .i64 0) := (blk_cell BK402.out 2).trans rfl; have hcz40_3 : wc.cell? ⟨gb402, 3, none⟩ = some (.int .i64 0) := (blk_cell BK402.out 3).trans rfl; have hcz40_4 : wc.cell? ⟨gb402, 4, none⟩ = some (.int .i64 0) := (blk_cell BK402.out 4).trans rfl; have hfz40_0 := blk_frozen BK402.out 0; have hfz40_1 := blk_frozen BK402.out 1; have hfz40_2 := blk_frozen BK402.out 2; have hfz40_3 := blk_frozen BK402.out 3; have hfz40_4 := blk_frozen BK402.out 4))
                              refine bodyPost_ret (results_cell_row rfl _ _ gb402 43 #[.int .i64 a1, .int .i64 x404001_10, .int .i64 x404002_18, .int .i64 x404003_26, .int .i64 (wrap64 (t411))] (0, 0) _ rfl (by (with_reducible repeat (first | refine blk_drewN ?_ _ | refine blk_drew ?_ | refine blk_alloc ?_ _)); refine blk_put (cs := #[.int .i64 a1, .int .i64 x404001_10, .int .i64 x404002_18, .int .i64 x404003_26, .int .i64 0]) ?_ 4 _ rfl; (with_reducible repeat (first | refine blk_drewN ?_ _ | refine blk_drew ?_ | refine blk_alloc ?_ _)); refine blk_put (cs := #[.int .i64 a1, .int .i64 x404001_10, .int .i64 x404002_18, .int .i64 0, .int .i64 0]) ?_ 3 _ rfl; (with_reducible repeat (first | refine blk_drewN ?_ _ | refine blk_drew ?_ | refine blk_alloc ?_ _)); refine blk_put (cs := #[.int .i64 a1, .int .i64 x404001_10, .int .i64 0, .int .i64 0, .int .i64 0]) ?_ 2 _ rfl; (with_reducible repeat (first | refine blk_drewN ?_ _ | refine blk_drew ?_ | refine blk_alloc ?_ _)); refine blk_put (cs := #[.int .i64 a1, .int .i64 0, .int .i64 0, .int .i64 0, .int .i64 0]) ?_ 1 _ rfl; (with_reducible repeat (first | refine blk_drewN ?_ _ | refine blk_drew ?_ | refine blk_alloc ?_ _)); refine blk_put (cs := #[.int .i64 0, .int .i64 0, .int .i64 0, .int .i64 0, .int .i64 0]) ?_ 0 _ rfl; (with_reducible repeat (first | refine blk_drewN ?_ _ | refine blk_drew ?_ | refine blk_alloc ?_ _)); refine blk_far ?_ NB402_403.out _; (with_reducible repeat (first | refine blk_drewN ?_ _ | refine blk_drew ?_ | refine blk_alloc ?_ _)); refine blk_far ?_ NB402_403.out _; (with_reducible repeat (first | refine blk_drewN ?_ _ | refine blk_drew ?_ | refine blk_alloc ?_ _)); exact BK402.out) Tryd.underlying43 rfl (by kernel_rfl)) rfl ?_
                              exact ⟨by first | rfl | (simp [errW_none, errW_some] <;> rfl) | (simp [*, errW_none, errW_some] <;> rfl), by repeat (first | (with_reducible first | exact HB.out | apply below_alloc | apply pw_below_drewN | apply below_drew1 | refine below_set ?_ GE402.out | refine below_set ?_ GE403.out) | exact HB.out)⟩
                            · replace c36 := Bool.eq_false_iff.mpr c36
                              subst c36
                              have H1 : (some (a1, x404001_10, x404002_18, x404003_26, t409)) = some (r1, r2, r3, r4, r5) := by rw [if_neg (show ¬ (false = true) by decide)] at H; exact H
                              clear H
                              have H := H1
                              clear H1
                              simp only [Option.some.injEq, Prod.mk.injEq] at H
                              obtain ⟨rfl, rfl, rfl, rfl, rfl⟩ := H
                              go_wp2_with (first | ((with_reducible refine gate_callee (f := 61) rfl ?_); refine goesL_ (some 57) rfl rfl Tryd.func61 (by kernel_rfl) rfl #[.int .u32 a0, .int .i64 20, .int .i64 12] rfl (by (try simp only [List.map_toArray, List.map_cons, List.map_nil]); first | done | rfl | (simp only [List.length_drop, List.length_take]; rfl)) ?_; (with_reducible refine (caponierref02_field.calls kj26 a0 20 12 t408 _ A33.out).mono ?_); rintro e w' ⟨rfl, ⟨nd, rfl⟩⟩; refine ⟨_, rfl, ?_⟩; (try (rw [drewN_self wc]; generalize hq_ : World.drewN wc _ = wc; have n0_ : Aside0 (wc.heap[gb402]? = some (.cells #[.int .i64 0, .int .i64 0, .int .i64 0, .int .i64 0, .int .i64 0] 43 (0, 0))) := ⟨by rw [← hq_]; exact (by (with_reducible repeat (first | refine blk_drewN ?_ _ | refine blk_drew ?_ | refine blk_alloc ?_ _)); exact BK402.out)⟩; have n1_ : Aside0 (wc.heap[gb403]? = some (.cells #[.int .i64 a1, .int .i64 x404001_10, .int .i64 x404002_18, .int .i64 x404003_26, .int .i64 0] 43 (0, 0))) := ⟨by rw [← hq_]; exact (by (with_reducible repeat (first | refine blk_drewN ?_ _ | refine blk_drew ?_ | refine blk_alloc ?_ _)); exact BK403.out)⟩; have n2_ : Aside0 (Below w.heap.size w wc) := ⟨by rw [← hq_]; exact (by repeat (first | (with_reducible first | exact HB.out | apply below_alloc | apply pw_below_drewN | apply below_drew1 | refine below_set ?_ GE402.out | refine below_set ?_ GE403.out) | exact HB.out))⟩; clear BK402 BK403 HB hq_; have BK402 := n0_; have BK403 := n1_; have HB := n2_; clear n0_ n1_ n2_))) | ((with_reducible refine gate_callee (f := 62) rfl ?_); refine goesL_ (some 58) rfl rfl Tryd.func62 (by kernel_rfl) rfl #[.int .u64 t408, .int .i64 12] rfl (by (try simp only [List.map_toArray, List.map_cons, List.map_nil]); first | done | rfl | (simp only [List.length_drop, List.length_take]; rfl)) ?_; (with_reducible refine (caponierref01_Sign.calls kj26 t408 12 t409 _ A34.out).mono ?_); rintro e w' ⟨rfl, ⟨nd, rfl⟩⟩; refine ⟨_, rfl, ?_⟩; (try (rw [drewN_self wc]; generalize hq_ : World.drewN wc _ = wc; have n0_ : Aside0 (wc.heap[gb402]? = some (.cells #[.int .i64 0, .int .i64 0, .int .i64 0, .int .i64 0, .int .i64 0] 43 (0, 0))) := ⟨by rw [← hq_]; exact (by (with_reducible repeat (first | refine blk_drewN ?_ _ | refine blk_drew ?_ | refine blk_alloc ?_ _)); exact BK402.out)⟩; have n1_ : Aside0 (wc.heap[gb403]? = some (.cells #[.int .i64 a1, .int .i64 x404001_10, .int .i64 x404002_18, .int .i64 x404003_26, .int .i64 0] 43 (0, 0))) := ⟨by rw [← hq_]; exact (by (with_reducible repeat (first | refine blk_drewN ?_ _ | refine blk_drew ?_ | refine blk_alloc ?_ _)); exact BK403.out)⟩; have n2_ : Aside0 (Below w.heap.size w wc) := ⟨by rw [← hq_]; exact (by repeat (first | (with_reducible first | exact HB.out | apply below_alloc | apply pw_below_drewN | apply below_drew1 | refine below_set ?_ GE402.out | refine below_set ?_ GE403.out) | exact HB.out))⟩; clear BK402 BK403 HB hq_; have BK402 := n0_; have BK403 := n1_; have HB := n2_; clear n0_ n1_ n2_)); have hnb41 := NB403_402.out; have hnc41 := NB402_403.out; have hcz42_0 : wc.cell? ⟨gb403, 0, none⟩ = some (.int .i64 a1) := (blk_cell BK403.out 0).trans rfl; have hcz42_1 : wc.cell? ⟨gb403, 1, none⟩ = some (.int .i64 x404001_10) := (blk_cell BK403.out 1).trans rfl; have hcz42_2 : wc.cell? ⟨gb403, 2, none⟩ = some (.int .i64 x404002_18) := (blk_cell BK403.out 2).trans rfl; have hcz42_3 : wc.cell? ⟨gb403, 3, none⟩ = some (.int .i64 x404003_26) := (blk_cell BK403.out 3).trans rfl; have hcz42_4 : wc.cell? ⟨gb403, 4, none⟩ = some (.int .i64 0) := (blk_cell BK403.out 4).trans rfl; have hfz42_0 := blk_frozen BK403.out 0; have hfz42_1 := blk_frozen BK403.out 1; have hfz42_2 := blk_frozen BK403.out 2; have hfz42_3 := blk_frozen BK403.out 3; have hfz42_4 := blk_frozen BK403.out 4) | ((with_reducible refine gate_callee (f := 35) rfl ?_); refine goesL_ (some 61) rfl rfl Tryd.func35 (by kernel_rfl) rfl #[.int .i64 a1] rfl (by (try simp only [List.map_toArray, List.map_cons, List.map_nil]); first | done | rfl | (simp only [List.length_drop, List.length_take]; rfl)) ?_; (with_reducible refine (caponierref02_Shift.calls a1 false _ A35.out).mono ?_); rintro e w' ⟨rfl, ⟨nd, rfl⟩⟩; refine ⟨_, rfl, ?_⟩; have hcz43_0 : wc.cell? ⟨gb402, 0, none⟩ = some (.int .i64 0) := (blk_cell BK402.out 0).trans rfl; have hcz43_1 : wc.cell? ⟨gb402, 1, none⟩ = some (.int .i64 0) := (blk_cell BK402.out 1).trans rfl; have hcz43_2 : wc.cell? ⟨gb402, 2, none⟩ = some (.int .i64 0) := (blk_cell BK402.out 2).trans rfl; have hcz43_3 : wc.cell? ⟨gb402, 3, none⟩ = some (.int .i64 0) := (blk_cell BK402.out 3).trans rfl; have hcz43_4 : wc.cell? ⟨gb402, 4, none⟩ = some (.int .i64 0) := (blk_cell BK402.out 4).trans rfl; have hfz43_0 := blk_frozen BK402.out 0; have hfz43_1 := blk_frozen BK402.out 1; have hfz43_2 := blk_frozen BK402.out 2; have hfz43_3 := blk_frozen BK402.out 3; have hfz43_4 := blk_frozen BK402.out 4))
                              refine bodyPost_ret (results_cell_row rfl _ _ gb402 43 #[.int .i64 a1, .int .i64 x404001_10, .int .i64 x404002_18, .int .i64 x404003_26, .int .i64 t409] (0, 0) _ rfl (by (with_reducible repeat (first | refine blk_drewN ?_ _ | refine blk_drew ?_ | refine blk_alloc ?_ _)); refine blk_put (cs := #[.int .i64 a1, .int .i64 x404001_10, .int .i64 x404002_18, .int .i64 x404003_26, .int .i64 0]) ?_ 4 _ rfl; (with_reducible repeat (first | refine blk_drewN ?_ _ | refine blk_drew ?_ | refine blk_alloc ?_ _)); refine blk_put (cs := #[.int .i64 a1, .int .i64 x404001_10, .int .i64 x404002_18, .int .i64 0, .int .i64 0]) ?_ 3 _ rfl; (with_reducible repeat (first | refine blk_drewN ?_ _ | refine blk_drew ?_ | refine blk_alloc ?_ _)); refine blk_put (cs := #[.int .i64 a1, .int .i64 x404001_10, .int .i64 0, .int .i64 0, .int .i64 0]) ?_ 2 _ rfl; (with_reducible repeat (first | refine blk_drewN ?_ _ | refine blk_drew ?_ | refine blk_alloc ?_ _)); refine blk_put (cs := #[.int .i64 a1, .int .i64 0, .int .i64 0, .int .i64 0, .int .i64 0]) ?_ 1 _ rfl; (with_reducible repeat (first | refine blk_drewN ?_ _ | refine blk_drew ?_ | refine blk_alloc ?_ _)); refine blk_put (cs := #[.int .i64 0, .int .i64 0, .int .i64 0, .int .i64 0, .int .i64 0]) ?_ 0 _ rfl; (with_reducible repeat (first | refine blk_drewN ?_ _ | refine blk_drew ?_ | refine blk_alloc ?_ _)); refine blk_far ?_ NB402_403.out _; (with_reducible repeat (first | refine blk_drewN ?_ _ | refine blk_drew ?_ | refine blk_alloc ?_ _)); exact BK402.out) Tryd.underlying43 rfl (by kernel_rfl)) rfl ?_
                              exact ⟨by first | rfl | (simp [errW_none, errW_some] <;> rfl) | (simp [*, errW_none, errW_some] <;> rfl), by repeat (first | (with_reducible first | exact HB.out | apply below_alloc | apply pw_below_drewN | apply below_drew1 | refine below_set ?_ GE402.out | refine below_set ?_ GE403.out) | exact HB.out)⟩
                          · rw [if_neg c32] at H
                            have c32b0 : (t404.toList == ([73] : List UInt8)) = false := beq_eq_false_iff_ne.mpr c32
                            have c32b1 : (t404.toList != ([73] : List UInt8)) = true := bne_iff_ne.mpr c32
                            by_cases c44 : t404.toList = ([83] : List UInt8)
                            · rw [if_pos c44] at H
                              have c44b0 : (t404.toList == ([83] : List UInt8)) = true := beq_iff_eq.mpr c44
                              have c44b1 : (t404.toList != ([83] : List UInt8)) = false := bne_eq_false_iff_eq.mpr c44
                              clear c44
                              replace H := Option.bind_eq_some_iff.mp H
                              obtain ⟨t412, A450, H⟩ := H
                              replace H : ((caponierref02_field.f kj26 a0 25 7).bind fun t413 => ((caponierref01_Sign.f kj26 (IntKind.u64.wrap (t412 + (IntKind.u64.wrap (t413 * 32)))) 12).bind fun t414 => (some (a1, x404001_10, x404002_18, x404003_26, t414)))) = some (r1, r2, r3, r4, r5) := H
                              have A45 := Aside0.mk A450
                              clear A450
                              replace H := Option.bind_eq_some_iff.mp H
                              obtain ⟨t413, A460, H⟩ := H
                              replace H : ((caponierref01_Sign.f kj26 (IntKind.u64.wrap (t412 + (IntKind.u64.wrap (t413 * 32)))) 12).bind fun t414 => (some (a1, x404001_10, x404002_18, x404003_26, t414))) = some (r1, r2, r3, r4, r5) := H
                              have A46 := Aside0.mk A460
                              clear A460
                              replace H := Option.bind_eq_some_iff.mp H
                              obtain ⟨t414, A470, H⟩ := H
                              replace H : (some (a1, x404001_10, x404002_18, x404003_26, t414)) = some (r1, r2, r3, r4, r5) := H
                              have A47 := Aside0.mk A470
                              clear A470
                              simp only [Option.some.injEq, Prod.mk.injEq] at H
                              obtain ⟨rfl, rfl, rfl, rfl, rfl⟩ := H
                              go_wp2_with (first | ((with_reducible refine gate_callee (f := 61) rfl ?_); refine goesL_ (some 69) rfl rfl Tryd.func61 (by kernel_rfl) rfl #[.int .u32 a0, .int .i64 7, .int .i64 5] rfl (by (try simp only [List.map_toArray, List.map_cons, List.map_nil]); first | done | rfl | (simp only [List.length_drop, List.length_take]; rfl)) ?_; (with_reducible refine (caponierref02_field.calls kj26 a0 7 5 t412 _ A45.out).mono ?_); rintro e w' ⟨rfl, ⟨nd, rfl⟩⟩; refine ⟨_, rfl, ?_⟩; (try (rw [drewN_self wc]; generalize hq_ : World.drewN wc _ = wc; have n0_ : Aside0 (wc.heap[gb402]? = some (.cells #[.int .i64 0, .int .i64 0, .int .i64 0, .int .i64 0, .int .i64 0] 43 (0, 0))) := ⟨by rw [← hq_]; exact (by (with_reducible repeat (first | refine blk_drewN ?_ _ | refine blk_drew ?_ | refine blk_alloc ?_ _)); exact BK402.out)⟩; have n1_ : Aside0 (wc.heap[gb403]? = some (.cells #[.int .i64 a1, .int .i64 x404001_10, .int .i64 x404002_18, .int .i64 x404003_26, .int .i64 0] 43 (0, 0))) := ⟨by rw [← hq_]; exact (by (with_reducible repeat (first | refine blk_drewN ?_ _ | refine blk_drew ?_ | refine blk_alloc ?_ _)); exact BK403.out)⟩; have n2_ : Aside0 (Below w.heap.size w wc) := ⟨by rw [← hq_]; exact (by repeat (first | (with_reducible first | exact HB.out | apply below_alloc | apply pw_below_drewN | apply below_drew1 | refine below_set ?_ GE402.out | refine below_set ?_ GE403.out) | exact HB.out))⟩; clear BK402 BK403 HB hq_; have BK402 := n0_; have BK403 := n1_; have HB := n2_; clear n0_ n1_ n2_))) | ((with_reducible refine gate_callee (f := 61) rfl ?_); refine goesL_ (some 71) rfl rfl Tryd.func61 (by kernel_rfl) rfl #[.int .u32 a0, .int .i64 25, .int .i64 7] rfl (by (try simp only [List.map_toArray, List.map_cons, List.map_nil]); first | done | rfl | (simp only [List.length_drop, List.length_take]; rfl)) ?_; (with_reducible refine (caponierref02_field.calls kj26 a0 25 7 t413 _ A46.out).mono ?_); rintro e w' ⟨rfl, ⟨nd, rfl⟩⟩; refine ⟨_, rfl, ?_⟩; (try (rw [drewN_self wc]; generalize hq_ : World.drewN wc _ = wc; have n0_ : Aside0 (wc.heap[gb402]? = some (.cells #[.int .i64 0, .int .i64 0, .int .i64 0, .int .i64 0, .int .i64 0] 43 (0, 0))) := ⟨by rw [← hq_]; exact (by (with_reducible repeat (first | refine blk_drewN ?_ _ | refine blk_drew ?_ | refine blk_alloc ?_ _)); exact BK402.out)⟩; have n1_ : Aside0 (wc.heap[gb403]? = some (.cells #[.int .i64 a1, .int .i64 x404001_10, .int .i64 x404002_18, .int .i64 x404003_26, .int .i64 0] 43 (0, 0))) := ⟨by rw [← hq_]; exact (by (with_reducible repeat (first | refine blk_drewN ?_ _ | refine blk_drew ?_ | refine blk_alloc ?_ _)); exact BK403.out)⟩; have n2_ : Aside0 (Below w.heap.size w wc) := ⟨by rw [← hq_]; exact (by repeat (first | (with_reducible first | exact HB.out | apply below_alloc | apply pw_below_drewN | apply below_drew1 | refine below_set ?_ GE402.out | refine below_set ?_ GE403.out) | exact HB.out))⟩; clear BK402 BK403 HB hq_; have BK402 := n0_; have BK403 := n1_; have HB := n2_; clear n0_ n1_ n2_))) | ((with_reducible refine gate_callee (f := 62) rfl ?_); refine goesL_ (some 74) rfl rfl Tryd.func62 (by kernel_rfl) rfl #[.int .u64 (IntKind.u64.wrap (t412 + (IntKind.u64.wrap (t413 * 32)))), .int .i64 12] rfl (by (try simp only [List.map_toArray, List.map_cons, List.map_nil]); first | done | rfl | (simp only [List.length_drop, List.length_take]; rfl)) ?_; (with_reducible refine (caponierref01_Sign.calls kj26 (IntKind.u64.wrap (t412 + (IntKind.u64.wrap (t413 * 32)))) 12 t414 _ A47.out).mono ?_); rintro e w' ⟨rfl, ⟨nd, rfl⟩⟩; refine ⟨_, rfl, ?_⟩; (try (rw [drewN_self wc]; generalize hq_ : World.drewN wc _ = wc; have n0_ : Aside0 (wc.heap[gb402]? = some (.cells #[.int .i64 0, .int .i64 0, .int .i64 0, .int .i64 0, .int .i64 0] 43 (0, 0))) := ⟨by rw [← hq_]; exact (by (with_reducible repeat (first | refine blk_drewN ?_ _ | refine blk_drew ?_ | refine blk_alloc ?_ _)); exact BK402.out)⟩; have n1_ : Aside0 (wc.heap[gb403]? = some (.cells #[.int .i64 a1, .int .i64 x404001_10, .int .i64 x404002_18, .int .i64 x404003_26, .int .i64 0] 43 (0, 0))) := ⟨by rw [← hq_]; exact (by (with_reducible repeat (first | refine blk_drewN ?_ _ | refine blk_drew ?_ | refine blk_alloc ?_ _)); exact BK403.out)⟩; have n2_ : Aside0 (Below w.heap.size w wc) := ⟨by rw [← hq_]; exact (by repeat (first | (with_reducible first | exact HB.out | apply below_alloc | apply pw_below_drewN | apply below_drew1 | refine below_set ?_ GE402.out | refine below_set ?_ GE403.out) | exact HB.out))⟩; clear BK402 BK403 HB hq_; have BK402 := n0_; have BK403 := n1_; have HB := n2_; clear n0_ n1_ n2_)); have hnb48 := NB403_402.out; have hnc48 := NB402_403.out; have hcz49_0 : wc.cell? ⟨gb403, 0, none⟩ = some (.int .i64 a1) := (blk_cell BK403.out 0).trans rfl; have hcz49_1 : wc.cell? ⟨gb403, 1, none⟩ = some (.int .i64 x404001_10) := (blk_cell BK403.out 1).trans rfl; have hcz49_2 : wc.cell? ⟨gb403, 2, none⟩ = some (.int .i64 x404002_18) := (blk_cell BK403.out 2).trans rfl; have hcz49_3 : wc.cell? ⟨gb403, 3, none⟩ = some (.int .i64 x404003_26) := (blk_cell BK403.out 3).trans rfl; have hcz49_4 : wc.cell? ⟨gb403, 4, none⟩ = some (.int .i64 0) := (blk_cell BK403.out 4).trans rfl; have hfz49_0 := blk_frozen BK403.out 0; have hfz49_1 := blk_frozen BK403.out 1; have hfz49_2 := blk_frozen BK403.out 2; have hfz49_3 := blk_frozen BK403.out 3; have hfz49_4 := blk_frozen BK403.out 4; have hcz50_0 : wc.cell? ⟨gb402, 0, none⟩ = some (.int .i64 0) := (blk_cell BK402.out 0).trans rfl; have hcz50_1 : wc.cell? ⟨gb402, 1, none⟩ = some (.int .i64 0) := (blk_cell BK402.out 1).trans rfl; have hcz50_2 : wc.cell? ⟨gb402, 2, none⟩ = some (.int .i64 0) := (blk_cell BK402.out 2).trans rfl; have hcz50_3 : wc.cell? ⟨gb402, 3, none⟩ = some (.int .i64 0) := (blk_cell BK402.out 3).trans rfl; have hcz50_4 : wc.cell? ⟨gb402, 4, none⟩ = some (.int .i64 0) := (blk_cell BK402.out 4).trans rfl; have hfz50_0 := blk_frozen BK402.out 0; have hfz50_1 := blk_frozen BK402.out 1; have hfz50_2 := blk_frozen BK402.out 2; have hfz50_3 := blk_frozen BK402.out 3; have hfz50_4 := blk_frozen BK402.out 4))
                              refine bodyPost_ret (results_cell_row rfl _ _ gb402 43 #[.int .i64 a1, .int .i64 x404001_10, .int .i64 x404002_18, .int .i64 x404003_26, .int .i64 t414] (0, 0) _ rfl (by (with_reducible repeat (first | refine blk_drewN ?_ _ | refine blk_drew ?_ | refine blk_alloc ?_ _)); refine blk_put (cs := #[.int .i64 a1, .int .i64 x404001_10, .int .i64 x404002_18, .int .i64 x404003_26, .int .i64 0]) ?_ 4 _ rfl; (with_reducible repeat (first | refine blk_drewN ?_ _ | refine blk_drew ?_ | refine blk_alloc ?_ _)); refine blk_put (cs := #[.int .i64 a1, .int .i64 x404001_10, .int .i64 x404002_18, .int .i64 0, .int .i64 0]) ?_ 3 _ rfl; (with_reducible repeat (first | refine blk_drewN ?_ _ | refine blk_drew ?_ | refine blk_alloc ?_ _)); refine blk_put (cs := #[.int .i64 a1, .int .i64 x404001_10, .int .i64 0, .int .i64 0, .int .i64 0]) ?_ 2 _ rfl; (with_reducible repeat (first | refine blk_drewN ?_ _ | refine blk_drew ?_ | refine blk_alloc ?_ _)); refine blk_put (cs := #[.int .i64 a1, .int .i64 0, .int .i64 0, .int .i64 0, .int .i64 0]) ?_ 1 _ rfl; (with_reducible repeat (first | refine blk_drewN ?_ _ | refine blk_drew ?_ | refine blk_alloc ?_ _)); refine blk_put (cs := #[.int .i64 0, .int .i64 0, .int .i64 0, .int .i64 0, .int .i64 0]) ?_ 0 _ rfl; (with_reducible repeat (first | refine blk_drewN ?_ _ | refine blk_drew ?_ | refine blk_alloc ?_ _)); refine blk_far ?_ NB402_403.out _; (with_reducible repeat (first | refine blk_drewN ?_ _ | refine blk_drew ?_ | refine blk_alloc ?_ _)); exact BK402.out) Tryd.underlying43 rfl (by kernel_rfl)) rfl ?_
                              exact ⟨by first | rfl | (simp [errW_none, errW_some] <;> rfl) | (simp [*, errW_none, errW_some] <;> rfl), by repeat (first | (with_reducible first | exact HB.out | apply below_alloc | apply pw_below_drewN | apply below_drew1 | refine below_set ?_ GE402.out | refine below_set ?_ GE403.out) | exact HB.out)⟩
                            · rw [if_neg c44] at H
                              have c44b0 : (t404.toList == ([83] : List UInt8)) = false := beq_eq_false_iff_ne.mpr c44
                              have c44b1 : (t404.toList != ([83] : List UInt8)) = true := bne_iff_ne.mpr c44
                              by_cases c51 : t404.toList = ([66] : List UInt8)
                              · rw [if_pos c51] at H
                                have c51b0 : (t404.toList == ([66] : List UInt8)) = true := beq_iff_eq.mpr c51
                                have c51b1 : (t404.toList != ([66] : List UInt8)) = false := bne_eq_false_iff_eq.mpr c51
                                clear c51
                                replace H := Option.bind_eq_some_iff.mp H
                                obtain ⟨t415, A520, H⟩ := H
                                replace H : ((caponierref02_field.f kj26 a0 25 6).bind fun t416 => ((caponierref02_field.f kj26 a0 7 1).bind fun t417 => ((caponierref02_field.f kj26 a0 31 1).bind fun t418 => ((caponierref01_Sign.f kj26 (IntKind.u64.wrap ((IntKind.u64.wrap ((IntKind.u64.wrap ((IntKind.u64.wrap (t415 * 2)) + (IntKind.u64.wrap (t416 * 32)))) + (IntKind.u64.wrap (t417 * 2048)))) + (IntKind.u64.wrap (t418 * 4096)))) 13).bind fun t419 => (some (a1, x404001_10, x404002_18, x404003_26, t419)))))) = some (r1, r2, r3, r4, r5) := H
                                have A52 := Aside0.mk A520
                                clear A520
                                replace H := Option.bind_eq_some_iff.mp H
                                obtain ⟨t416, A530, H⟩ := H
                                replace H : ((caponierref02_field.f kj26 a0 7 1).bind fun t417 => ((caponierref02_field.f kj26 a0 31 1).bind fun t418 => ((caponierref01_Sign.f kj26 (IntKind.u64.wrap ((IntKind.u64.wrap ((IntKind.u64.wrap ((IntKind.u64.wrap (t415 * 2)) + (IntKind.u64.wrap (t416 * 32)))) + (IntKind.u64.wrap (t417 * 2048)))) + (IntKind.u64.wrap (t418 * 4096)))) 13).bind fun t419 => (some (a1, x404001_10, x404002_18, x404003_26, t419))))) = some (r1, r2, r3, r4, r5) := H
                                have A53 := Aside0.mk A530
                                clear A530
                                replace H := Option.bind_eq_some_iff.mp H
                                obtain ⟨t417, A540, H⟩ := H
                                replace H : ((caponierref02_field.f kj26 a0 31 1).bind fun t418 => ((caponierref01_Sign.f kj26 (IntKind.u64.wrap ((IntKind.u64.wrap ((IntKind.u64.wrap ((IntKind.u64.wrap (t415 * 2)) + (IntKind.u64.wrap (t416 * 32)))) + (IntKind.u64.wrap (t417 * 2048)))) + (IntKind.u64.wrap (t418 * 4096)))) 13).bind fun t419 => (some (a1, x404001_10, x404002_18, x404003_26, t419)))) = some (r1, r2, r3, r4, r5) := H
                                have A54 := Aside0.mk A540
                                clear A540
                                replace H := Option.bind_eq_some_iff.mp H
                                obtain ⟨t418, A550, H⟩ := H
                                replace H : ((caponierref01_Sign.f kj26 (IntKind.u64.wrap ((IntKind.u64.wrap ((IntKind.u64.wrap ((IntKind.u64.wrap (t415 * 2)) + (IntKind.u64.wrap (t416 * 32)))) + (IntKind.u64.wrap (t417 * 2048)))) + (IntKind.u64.wrap (t418 * 4096)))) 13).bind fun t419 => (some (a1, x404001_10, x404002_18, x404003_26, t419))) = some (r1, r2, r3, r4, r5) := H
                                have A55 := Aside0.mk A550
                                clear A550
                                replace H := Option.bind_eq_some_iff.mp H
                                obtain ⟨t419, A560, H⟩ := H
                                replace H : (some (a1, x404001_10, x404002_18, x404003_26, t419)) = some (r1, r2, r3, r4, r5) := H
                                have A56 := Aside0.mk A560
                                clear A560
                                simp only [Option.some.injEq, Prod.mk.injEq] at H
                                obtain ⟨rfl, rfl, rfl, rfl, rfl⟩ := H
                                go_wp2_with (first | ((with_reducible refine gate_callee (f := 61) rfl ?_); refine goesL_ (some 79) rfl rfl Tryd.func61 (by kernel_rfl) rfl #[.int .u32 a0, .int .i64 8, .int .i64 4] rfl (by (try simp only [List.map_toArray, List.map_cons, List.map_nil]); first | done | rfl | (simp only [List.length_drop, List.length_take]; rfl)) ?_; (with_reducible refine (caponierref02_field.calls kj26 a0 8 4 t415 _ A52.out).mono ?_); rintro e w' ⟨rfl, ⟨nd, rfl⟩⟩; refine ⟨_, rfl, ?_⟩; (try (rw [drewN_self wc]; generalize hq_ : World.drewN wc _ = wc; have n0_ : Aside0 (wc.heap[gb402]? = some (.cells #[.int .i64 0, .int .i64 0, .int .i64 0, .int .i64 0, .int .i64 0] 43 (0, 0))) := ⟨by rw [← hq_]; exact (by (with_reducible repeat (first | refine blk_drewN ?_ _ | refine blk_drew ?_ | refine blk_alloc ?_ _)); exact BK402.out)⟩; have n1_ : Aside0 (wc.heap[gb403]? = some (.cells #[.int .i64 a1, .int .i64 x404001_10, .int .i64 x404002_18, .int .i64 x404003_26, .int .i64 0] 43 (0, 0))) := ⟨by rw [← hq_]; exact (by (with_reducible repeat (first | refine blk_drewN ?_ _ | refine blk_drew ?_ | refine blk_alloc ?_ _)); exact BK403.out)⟩; have n2_ : Aside0 (Below w.heap.size w wc) := ⟨by rw [← hq_]; exact (by repeat (first | (with_reducible first | exact HB.out | apply below_alloc | apply pw_below_drewN | apply below_drew1 | refine below_set ?_ GE402.out | refine below_set ?_ GE403.out) | exact HB.out))⟩; clear BK402 BK403 HB hq_; have BK402 := n0_; have BK403 := n1_; have HB := n2_; clear n0_ n1_ n2_))) | ((with_reducible refine gate_callee (f := 61) rfl ?_); refine goesL_ (some 82) rfl rfl Tryd.func61 (by kernel_rfl) rfl #[.int .u32 a0, .int .i64 25, .int .i64 6] rfl (by (try simp only [List.map_toArray, List.map_cons, List.map_nil]); first | done | rfl | (simp only [List.length_drop, List.length_take]; rfl)) ?_; (with_reducible refine (caponierref02_field.calls kj26 a0 25 6 t416 _ A53.out).mono ?_); rintro e w' ⟨rfl, ⟨nd, rfl⟩⟩; refine ⟨_, rfl, ?_⟩; (try (rw [drewN_self wc]; generalize hq_ : World.drewN wc _ = wc; have n0_ : Aside0 (wc.heap[gb402]? = some (.cells #[.int .i64 0, .int .i64 0, .int .i64 0, .int .i64 0, .int .i64 0] 43 (0, 0))) := ⟨by rw [← hq_]; exact (by (with_reducible repeat (first | refine blk_drewN ?_ _ | refine blk_drew ?_ | refine blk_alloc ?_ _)); exact BK402.out)⟩; have n1_ : Aside0 (wc.heap[gb403]? = some (.cells #[.int .i64 a1, .int .i64 x404001_10, .int .i64 x404002_18, .int .i64 x404003_26, .int .i64 0] 43 (0, 0))) := ⟨by rw [← hq_]; exact (by (with_reducible repeat (first | refine blk_drewN ?_ _ | refine blk_drew ?_ | refine blk_alloc ?_ _)); exact BK403.out)⟩; have n2_ : Aside0 (Below w.heap.size w wc) := ⟨by rw [← hq_]; exact (by repeat (first | (with_reducible first | exact HB.out | apply below_alloc | apply pw_below_drewN | apply below_drew1 | refine below_set ?_ GE402.out | refine below_set ?_ GE403.out) | exact HB.out))⟩; clear BK402 BK403 HB hq_; have BK402 := n0_; have BK403 := n1_; have HB := n2_; clear n0_ n1_ n2_))) | ((with_reducible refine gate_callee (f := 61) rfl ?_); refine goesL_ (some 86) rfl rfl Tryd.func61 (by kernel_rfl) rfl #[.int .u32 a0, .int .i64 7, .int .i64 1] rfl (by (try simp only [List.map_toArray, List.map_cons, List.map_nil]); first | done | rfl | (simp only [List.length_drop, List.length_take]; rfl)) ?_; (with_reducible refine (caponierref02_field.calls kj26 a0 7 1 t417 _ A54.out).mono ?_); rintro e w' ⟨rfl, ⟨nd, rfl⟩⟩; refine ⟨_, rfl, ?_⟩; (try (rw [drewN_self wc]; generalize hq_ : World.drewN wc _ = wc; have n0_ : Aside0 (wc.heap[gb402]? = some (.cells #[.int .i64 0, .int .i64 0, .int .i64 0, .int .i64 0, .int .i64 0] 43 (0, 0))) := ⟨by rw [← hq_]; exact (by (with_reducible repeat (first | refine blk_drewN ?_ _ | refine blk_drew ?_ | refine blk_alloc ?_ _)); exact BK402.out)⟩; have n1_ : Aside0 (wc.heap[gb403]? = some (.cells #[.int .i64 a1, .int .i64 x404001_10, .int .i64 x404002_18, .int .i64 x404003_26, .int .i64 0] 43 (0, 0))) := ⟨by rw [← hq_]; exact (by (with_reducible repeat (first | refine blk_drewN ?_ _ | refine blk_drew ?_ | refine blk_alloc ?_ _)); exact BK403.out)⟩; have n2_ : Aside0 (Below w.heap.size w wc) := ⟨by rw [← hq_]; exact (by repeat (first | (with_reducible first | exact HB.out | apply below_alloc | apply pw_below_drewN | apply below_drew1 | refine below_set ?_ GE402.out | refine below_set ?_ GE403.out) | exact HB.out))⟩; clear BK402 BK403 HB hq_; have BK402 := n0_; have BK403 := n1_; have HB := n2_; clear n0_ n1_ n2_))) | ((with_reducible refine gate_callee (f := 61) rfl ?_); refine goesL_ (some 90) rfl rfl Tryd.func61 (by kernel_rfl) rfl #[.int .u32 a0, .int .i64 31, .int .i64 1] rfl (by (try simp only [List.map_toArray, List.map_cons, List.map_nil]); first | done | rfl | (simp only [List.length_drop, List.length_take]; rfl)) ?_; (with_reducible refine (caponierref02_field.calls kj26 a0 31 1 t418 _ A55.out).mono ?_); rintro e w' ⟨rfl, ⟨nd, rfl⟩⟩; refine ⟨_, rfl, ?_⟩; (try (rw [drewN_self wc]; generalize hq_ : World.drewN wc _ = wc; have n0_ : Aside0 (wc.heap[gb402]? = some (.cells #[.int .i64 0, .int .i64 0, .int .i64 0, .int .i64 0, .int .i64 0] 43 (0, 0))) := ⟨by rw [← hq_]; exact (by (with_reducible repeat (first | refine blk_drewN ?_ _ | refine blk_drew ?_ | refine blk_alloc ?_ _)); exact BK402.out)⟩; have n1_ : Aside0 (wc.heap[gb403]? = some (.cells #[.int .i64 a1, .int .i64 x404001_10, .int .i64 x404002_18, .int .i64 x404003_26, .int .i64 0] 43 (0, 0))) := ⟨by rw [← hq_]; exact (by (with_reducible repeat (first | refine blk_drewN ?_ _ | refine blk_drew ?_ | refine blk_alloc ?_ _)); exact BK403.out)⟩; have n2_ : Aside0 (Below w.heap.size w wc) := ⟨by rw [← hq_]; exact (by repeat (first | (with_reducible first | exact HB.out | apply below_alloc | apply pw_below_drewN | apply below_drew1 | refine below_set ?_ GE402.out | refine below_set ?_ GE403.out) | exact HB.out))⟩; clear BK402 BK403 HB hq_; have BK402 := n0_; have BK403 := n1_; have HB := n2_; clear n0_ n1_ n2_))) | ((with_reducible refine gate_callee (f := 62) rfl ?_); refine goesL_ (some 93) rfl rfl Tryd.func62 (by kernel_rfl) rfl #[.int .u64 (IntKind.u64.wrap ((IntKind.u64.wrap ((IntKind.u64.wrap ((IntKind.u64.wrap (t415 * 2)) + (IntKind.u64.wrap (t416 * 32)))) + (IntKind.u64.wrap (t417 * 2048)))) + (IntKind.u64.wrap (t418 * 4096)))), .int .i64 13] rfl (by (try simp only [List.map_toArray, List.map_cons, List.map_nil]); first | done | rfl | (simp only [List.length_drop, List.length_take]; rfl)) ?_; (with_reducible refine (caponierref01_Sign.calls kj26 (IntKind.u64.wrap ((IntKind.u64.wrap ((IntKind.u64.wrap ((IntKind.u64.wrap (t415 * 2)) + (IntKind.u64.wrap (t416 * 32)))) + (IntKind.u64.wrap (t417 * 2048)))) + (IntKind.u64.wrap (t418 * 4096)))) 13 t419 _ A56.out).mono ?_); rintro e w' ⟨rfl, ⟨nd, rfl⟩⟩; refine ⟨_, rfl, ?_⟩; (try (rw [drewN_self wc]; generalize hq_ : World.drewN wc _ = wc; have n0_ : Aside0 (wc.heap[gb402]? = some (.cells #[.int .i64 0, .int .i64 0, .int .i64 0, .int .i64 0, .int .i64 0] 43 (0, 0))) := ⟨by rw [← hq_]; exact (by (with_reducible repeat (first | refine blk_drewN ?_ _ | refine blk_drew ?_ | refine blk_alloc ?_ _)); exact BK402.out)⟩; have n1_ : Aside0 (wc.heap[gb403]? = some (.cells #[.int .i64 a1, .int .i64 x404001_10, .int .i64 x404002_18, .int .i64 x404003_26, .int .i64 0] 43 (0, 0))) := ⟨by rw [← hq_]; exact (by (with_reducible repeat (first | refine blk_drewN ?_ _ | refine blk_drew ?_ | refine blk_alloc ?_ _)); exact BK403.out)⟩; have n2_ : Aside0 (Below w.heap.size w wc) := ⟨by rw [← hq_]; exact (by repeat (first | (with_reducible first | exact HB.out | apply below_alloc | apply pw_below_drewN | apply below_drew1 | refine below_set ?_ GE402.out | refine below_set ?_ GE403.out) | exact HB.out))⟩; clear BK402 BK403 HB hq_; have BK402 := n0_; have BK403 := n1_; have HB := n2_; clear n0_ n1_ n2_)); have hnb57 := NB403_402.out; have hnc57 := NB402_403.out; have hcz58_0 : wc.cell? ⟨gb403, 0, none⟩ = some (.int .i64 a1) := (blk_cell BK403.out 0).trans rfl; have hcz58_1 : wc.cell? ⟨gb403, 1, none⟩ = some (.int .i64 x404001_10) := (blk_cell BK403.out 1).trans rfl; have hcz58_2 : wc.cell? ⟨gb403, 2, none⟩ = some (.int .i64 x404002_18) := (blk_cell BK403.out 2).trans rfl; have hcz58_3 : wc.cell? ⟨gb403, 3, none⟩ = some (.int .i64 x404003_26) := (blk_cell BK403.out 3).trans rfl; have hcz58_4 : wc.cell? ⟨gb403, 4, none⟩ = some (.int .i64 0) := (blk_cell BK403.out 4).trans rfl; have hfz58_0 := blk_frozen BK403.out 0; have hfz58_1 := blk_frozen BK403.out 1; have hfz58_2 := blk_frozen BK403.out 2; have hfz58_3 := blk_frozen BK403.out 3; have hfz58_4 := blk_frozen BK403.out 4; have hcz59_0 : wc.cell? ⟨gb402, 0, none⟩ = some (.int .i64 0) := (blk_cell BK402.out 0).trans rfl; have hcz59_1 : wc.cell? ⟨gb402, 1, none⟩ = some (.int .i64 0) := (blk_cell BK402.out 1).trans rfl; have hcz59_2 : wc.cell? ⟨gb402, 2, none⟩ = some (.int .i64 0) := (blk_cell BK402.out 2).trans rfl; have hcz59_3 : wc.cell? ⟨gb402, 3, none⟩ = some (.int .i64 0) := (blk_cell BK402.out 3).trans rfl; have hcz59_4 : wc.cell? ⟨gb402, 4, none⟩ = some (.int .i64 0) := (blk_cell BK402.out 4).trans rfl; have hfz59_0 := blk_frozen BK402.out 0; have hfz59_1 := blk_frozen BK402.out 1; have hfz59_2 := blk_frozen BK402.out 2; have hfz59_3 := blk_frozen BK402.out 3; have hfz59_4 := blk_frozen BK402.out 4))
                                refine bodyPost_ret (results_cell_row rfl _ _ gb402 43 #[.int .i64 a1, .int .i64 x404001_10, .int .i64 x404002_18, .int .i64 x404003_26, .int .i64 t419] (0, 0) _ rfl (by (with_reducible repeat (first | refine blk_drewN ?_ _ | refine blk_drew ?_ | refine blk_alloc ?_ _)); refine blk_put (cs := #[.int .i64 a1, .int .i64 x404001_10, .int .i64 x404002_18, .int .i64 x404003_26, .int .i64 0]) ?_ 4 _ rfl; (with_reducible repeat (first | refine blk_drewN ?_ _ | refine blk_drew ?_ | refine blk_alloc ?_ _)); refine blk_put (cs := #[.int .i64 a1, .int .i64 x404001_10, .int .i64 x404002_18, .int .i64 0, .int .i64 0]) ?_ 3 _ rfl; (with_reducible repeat (first | refine blk_drewN ?_ _ | refine blk_drew ?_ | refine blk_alloc ?_ _)); refine blk_put (cs := #[.int .i64 a1, .int .i64 x404001_10, .int .i64 0, .int .i64 0, .int .i64 0]) ?_ 2 _ rfl; (with_reducible repeat (first | refine blk_drewN ?_ _ | refine blk_drew ?_ | refine blk_alloc ?_ _)); refine blk_put (cs := #[.int .i64 a1, .int .i64 0, .int .i64 0, .int .i64 0, .int .i64 0]) ?_ 1 _ rfl; (with_reducible repeat (first | refine blk_drewN ?_ _ | refine blk_drew ?_ | refine blk_alloc ?_ _)); refine blk_put (cs := #[.int .i64 0, .int .i64 0, .int .i64 0, .int .i64 0, .int .i64 0]) ?_ 0 _ rfl; (with_reducible repeat (first | refine blk_drewN ?_ _ | refine blk_drew ?_ | refine blk_alloc ?_ _)); refine blk_far ?_ NB402_403.out _; (with_reducible repeat (first | refine blk_drewN ?_ _ | refine blk_drew ?_ | refine blk_alloc ?_ _)); exact BK402.out) Tryd.underlying43 rfl (by kernel_rfl)) rfl ?_
                                exact ⟨by first | rfl | (simp [errW_none, errW_some] <;> rfl) | (simp [*, errW_none, errW_some] <;> rfl), by repeat (first | (with_reducible first | exact HB.out | apply below_alloc | apply pw_below_drewN | apply below_drew1 | refine below_set ?_ GE402.out | refine below_set ?_ GE403.out) | exact HB.out)⟩
                              · rw [if_neg c51] at H
                                have c51b0 : (t404.toList == ([66] : List UInt8)) = false := beq_eq_false_iff_ne.mpr c51
                                have c51b1 : (t404.toList != ([66] : List UInt8)) = true := bne_iff_ne.mpr c51
                                by_cases c60 : t404.toList = ([85] : List UInt8)
                                · rw [if_pos c60] at H
                                  have c60b0 : (t404.toList == ([85] : List UInt8)) = true := beq_iff_eq.mpr c60
                                  have c60b1 : (t404.toList != ([85] : List UInt8)) = false := bne_eq_false_iff_eq.mpr c60
                                  clear c60
                                  replace H := Option.bind_eq_some_iff.mp H
                                  obtain ⟨t420, A610, H⟩ := H
                                  replace H : ((caponierref01_Sign.f kj26 (IntKind.u64.wrap (t420 * 4096)) 32).bind fun t421 => (some (a1, x404001_10, x404002_18, x404003_26, t421))) = some (r1, r2, r3, r4, r5) := H
                                  have A61 := Aside0.mk A610
                                  clear A610
                                  replace H := Option.bind_eq_some_iff.mp H
                                  obtain ⟨t421, A620, H⟩ := H
                                  replace H : (some (a1, x404001_10, x404002_18, x404003_26, t421)) = some (r1, r2, r3, r4, r5) := H
                                  have A62 := Aside0.mk A620
                                  clear A620
                                  simp only [Option.some.injEq, Prod.mk.injEq] at H
                                  obtain ⟨rfl, rfl, rfl, rfl, rfl⟩ := H
                                  go_wp2_with (first | ((with_reducible refine gate_callee (f := 61) rfl ?_); refine goesL_ (some 98) rfl rfl Tryd.func61 (by kernel_rfl) rfl #[.int .u32 a0, .int .i64 12, .int .i64 20] rfl (by (try simp only [List.map_toArray, List.map_cons, List.map_nil]); first | done | rfl | (simp only [List.length_drop, List.length_take]; rfl)) ?_; (with_reducible refine (caponierref02_field.calls kj26 a0 12 20 t420 _ A61.out).mono ?_); rintro e w' ⟨rfl, ⟨nd, rfl⟩⟩; refine ⟨_, rfl, ?_⟩; (try (rw [drewN_self wc]; generalize hq_ : World.drewN wc _ = wc; have n0_ : Aside0 (wc.heap[gb402]? = some (.cells #[.int .i64 0, .int .i64 0, .int .i64 0, .int .i64 0, .int .i64 0] 43 (0, 0))) := ⟨by rw [← hq_]; exact (by (with_reducible repeat (first | refine blk_drewN ?_ _ | refine blk_drew ?_ | refine blk_alloc ?_ _)); exact BK402.out)⟩; have n1_ : Aside0 (wc.heap[gb403]? = some (.cells #[.int .i64 a1, .int .i64 x404001_10, .int .i64 x404002_18, .int .i64 x404003_26, .int .i64 0] 43 (0, 0))) := ⟨by rw [← hq_]; exact (by (with_reducible repeat (first | refine blk_drewN ?_ _ | refine blk_drew ?_ | refine blk_alloc ?_ _)); exact BK403.out)⟩; have n2_ : Aside0 (Below w.heap.size w wc) := ⟨by rw [← hq_]; exact (by repeat (first | (with_reducible first | exact HB.out | apply below_alloc | apply pw_below_drewN | apply below_drew1 | refine below_set ?_ GE402.out | refine below_set ?_ GE403.out) | exact HB.out))⟩; clear BK402 BK403 HB hq_; have BK402 := n0_; have BK403 := n1_; have HB := n2_; clear n0_ n1_ n2_))) | ((with_reducible refine gate_callee (f := 62) rfl ?_); refine goesL_ (some 100) rfl rfl Tryd.func62 (by kernel_rfl) rfl #[.int .u64 (IntKind.u64.wrap (t420 * 4096)), .int .i64 32] rfl (by (try simp only [List.map_toArray, List.map_cons, List.map_nil]); first | done | rfl | (simp only [List.length_drop, List.length_take]; rfl)) ?_; (with_reducible refine (caponierref01_Sign.calls kj26 (IntKind.u64.wrap (t420 * 4096)) 32 t421 _ A62.out).mono ?_); rintro e w' ⟨rfl, ⟨nd, rfl⟩⟩; refine ⟨_, rfl, ?_⟩; (try (rw [drewN_self wc]; generalize hq_ : World.drewN wc _ = wc; have n0_ : Aside0 (wc.heap[gb402]? = some (.cells #[.int .i64 0, .int .i64 0, .int .i64 0, .int .i64 0, .int .i64 0] 43 (0, 0))) := ⟨by rw [← hq_]; exact (by (with_reducible repeat (first | refine blk_drewN ?_ _ | refine blk_drew ?_ | refine blk_alloc ?_ _)); exact BK402.out)⟩; have n1_ : Aside0 (wc.heap[gb403]? = some (.cells #[.int .i64 a1, .int .i64 x404001_10, .int .i64 x404002_18, .int .i64 x404003_26, .int .i64 0] 43 (0, 0))) := ⟨by rw [← hq_]; exact (by (with_reducible repeat (first | refine blk_drewN ?_ _ | refine blk_drew ?_ | refine blk_alloc ?_ _)); exact BK403.out)⟩; have n2_ : Aside0 (Below w.heap.size w wc) := ⟨by rw [← hq_]; exact (by repeat (first | (with_reducible first | exact HB.out | apply below_alloc | apply pw_below_drewN | apply below_drew1 | refine below_set ?_ GE402.out | refine below_set ?_ GE403.out) | exact HB.out))⟩; clear BK402 BK403 HB hq_; have BK402 := n0_; have BK403 := n1_; have HB := n2_; clear n0_ n1_ n2_)); have hnb63 := NB403_402.out; have hnc63 := NB402_403.out; have hcz64_0 : wc.cell? ⟨gb403, 0, none⟩ = some (.int .i64 a1) := (blk_cell BK403.out 0).trans rfl; have hcz64_1 : wc.cell? ⟨gb403, 1, none⟩ = some (.int .i64 x404001_10) := (blk_cell BK403.out 1).trans rfl; have hcz64_2 : wc.cell? ⟨gb403, 2, none⟩ = some (.int .i64 x404002_18) := (blk_cell BK403.out 2).trans rfl; have hcz64_3 : wc.cell? ⟨gb403, 3, none⟩ = some (.int .i64 x404003_26) := (blk_cell BK403.out 3).trans rfl; have hcz64_4 : wc.cell? ⟨gb403, 4, none⟩ = some (.int .i64 0) := (blk_cell BK403.out 4).trans rfl; have hfz64_0 := blk_frozen BK403.out 0; have hfz64_1 := blk_frozen BK403.out 1; have hfz64_2 := blk_frozen BK403.out 2; have hfz64_3 := blk_frozen BK403.out 3; have hfz64_4 := blk_frozen BK403.out 4; have hcz65_0 : wc.cell? ⟨gb402, 0, none⟩ = some (.int .i64 0) := (blk_cell BK402.out 0).trans rfl; have hcz65_1 : wc.cell? ⟨gb402, 1, none⟩ = some (.int .i64 0) := (blk_cell BK402.out 1).trans rfl; have hcz65_2 : wc.cell? ⟨gb402, 2, none⟩ = some (.int .i64 0) := (blk_cell BK402.out 2).trans rfl; have hcz65_3 : wc.cell? ⟨gb402, 3, none⟩ = some (.int .i64 0) := (blk_cell BK402.out 3).trans rfl; have hcz65_4 : wc.cell? ⟨gb402, 4, none⟩ = some (.int .i64 0) := (blk_cell BK402.out 4).trans rfl; have hfz65_0 := blk_frozen BK402.out 0; have hfz65_1 := blk_frozen BK402.out 1; have hfz65_2 := blk_frozen BK402.out 2; have hfz65_3 := blk_frozen BK402.out 3; have hfz65_4 := blk_frozen BK402.out 4))
                                  refine bodyPost_ret (results_cell_row rfl _ _ gb402 43 #[.int .i64 a1, .int .i64 x404001_10, .int .i64 x404002_18, .int .i64 x404003_26, .int .i64 t421] (0, 0) _ rfl (by (with_reducible repeat (first | refine blk_drewN ?_ _ | refine blk_drew ?_ | refine blk_alloc ?_ _)); refine blk_put (cs := #[.int .i64 a1, .int .i64 x404001_10, .int .i64 x404002_18, .int .i64 x404003_26, .int .i64 0]) ?_ 4 _ rfl; (with_reducible repeat (first | refine blk_drewN ?_ _ | refine blk_drew ?_ | refine blk_alloc ?_ _)); refine blk_put (cs := #[.int .i64 a1, .int .i64 x404001_10, .int .i64 x404002_18, .int .i64 0, .int .i64 0]) ?_ 3 _ rfl; (with_reducible repeat (first | refine blk_drewN ?_ _ | refine blk_drew ?_ | refine blk_alloc ?_ _)); refine blk_put (cs := #[.int .i64 a1, .int .i64 x404001_10, .int .i64 0, .int .i64 0, .int .i64 0]) ?_ 2 _ rfl; (with_reducible repeat (first | refine blk_drewN ?_ _ | refine blk_drew ?_ | refine blk_alloc ?_ _)); refine blk_put (cs := #[.int .i64 a1, .int .i64 0, .int .i64 0, .int .i64 0, .int .i64 0]) ?_ 1 _ rfl; (with_reducible repeat (first | refine blk_drewN ?_ _ | refine blk_drew ?_ | refine blk_alloc ?_ _)); refine blk_put (cs := #[.int .i64 0, .int .i64 0, .int .i64 0, .int .i64 0, .int .i64 0]) ?_ 0 _ rfl; (with_reducible repeat (first | refine blk_drewN ?_ _ | refine blk_drew ?_ | refine blk_alloc ?_ _)); refine blk_far ?_ NB402_403.out _; (with_reducible repeat (first | refine blk_drewN ?_ _ | refine blk_drew ?_ | refine blk_alloc ?_ _)); exact BK402.out) Tryd.underlying43 rfl (by kernel_rfl)) rfl ?_
                                  exact ⟨by first | rfl | (simp [errW_none, errW_some] <;> rfl) | (simp [*, errW_none, errW_some] <;> rfl), by repeat (first | (with_reducible first | exact HB.out | apply below_alloc | apply pw_below_drewN | apply below_drew1 | refine below_set ?_ GE402.out | refine below_set ?_ GE403.out) | exact HB.out)⟩
                                · rw [if_neg c60] at H
                                  have c60b0 : (t404.toList == ([85] : List UInt8)) = false := beq_eq_false_iff_ne.mpr c60
                                  have c60b1 : (t404.toList != ([85] : List UInt8)) = true := bne_iff_ne.mpr c60
                                  by_cases c66 : t404.toList = ([74] : List UInt8)
                                  · rw [if_pos c66] at H
                                    have c66b0 : (t404.toList == ([74] : List UInt8)) = true := beq_iff_eq.mpr c66
                                    have c66b1 : (t404.toList != ([74] : List UInt8)) = false := bne_eq_false_iff_eq.mpr c66
                                    clear c66
                                    replace H := Option.bind_eq_some_iff.mp H
                                    obtain ⟨t422, A670, H⟩ := H
                                    replace H : ((caponierref02_field.f kj26 a0 20 1).bind fun t423 => ((caponierref02_field.f kj26 a0 12 8).bind fun t424 => ((caponierref02_field.f kj26 a0 31 1).bind fun t425 => ((caponierref01_Sign.f kj26 (IntKind.u64.wrap ((IntKind.u64.wrap ((IntKind.u64.wrap ((IntKind.u64.wrap (t422 * 2)) + (IntKind.u64.wrap (t423 * 2048)))) + (IntKind.u64.wrap (t424 * 4096)))) + (IntKind.u64.wrap (t425 * 1048576)))) 21).bind fun t426 => (some (a1, x404001_10, x404002_18, x404003_26, t426)))))) = some (r1, r2, r3, r4, r5) := H
                                    have A67 := Aside0.mk A670
                                    clear A670
                                    replace H := Option.bind_eq_some_iff.mp H
                                    obtain ⟨t423, A680, H⟩ := H
                                    replace H : ((caponierref02_field.f kj26 a0 12 8).bind fun t424 => ((caponierref02_field.f kj26 a0 31 1).bind fun t425 => ((caponierref01_Sign.f kj26 (IntKind.u64.wrap ((IntKind.u64.wrap ((IntKind.u64.wrap ((IntKind.u64.wrap (t422 * 2)) + (IntKind.u64.wrap (t423 * 2048)))) + (IntKind.u64.wrap (t424 * 4096)))) + (IntKind.u64.wrap (t425 * 1048576)))) 21).bind fun t426 => (some (a1, x404001_10, x404002_18, x404003_26, t426))))) = some (r1, r2, r3, r4, r5) := H
                                    have A68 := Aside0.mk A680
                                    clear A680
                                    replace H := Option.bind_eq_some_iff.mp H
                                    obtain ⟨t424, A690, H⟩ := H
                                    replace H : ((caponierref02_field.f kj26 a0 31 1).bind fun t425 => ((caponierref01_Sign.f kj26 (IntKind.u64.wrap ((IntKind.u64.wrap ((IntKind.u64.wrap ((IntKind.u64.wrap (t422 * 2)) + (IntKind.u64.wrap (t423 * 2048)))) + (IntKind.u64.wrap (t424 * 4096)))) + (IntKind.u64.wrap (t425 * 1048576)))) 21).bind fun t426 => (some (a1, x404001_10, x404002_18, x404003_26, t426)))) = some (r1, r2, r3, r4, r5) := H
                                    have A69 := Aside0.mk A690
                                    clear A690
                                    replace H := Option.bind_eq_some_iff.mp H
                                    obtain ⟨t425, A700, H⟩ := H
                                    replace H : ((caponierref01_Sign.f kj26 (IntKind.u64.wrap ((IntKind.u64.wrap ((IntKind.u64.wrap ((IntKind.u64.wrap (t422 * 2)) + (IntKind.u64.wrap (t423 * 2048)))) + (IntKind.u64.wrap (t424 * 4096)))) + (IntKind.u64.wrap (t425 * 1048576)))) 21).bind fun t426 => (some (a1, x404001_10, x404002_18, x404003_26, t426))) = some (r1, r2, r3, r4, r5) := H
                                    have A70 := Aside0.mk A700
                                    clear A700
                                    replace H := Option.bind_eq_some_iff.mp H
                                    obtain ⟨t426, A710, H⟩ := H
                                    replace H : (some (a1, x404001_10, x404002_18, x404003_26, t426)) = some (r1, r2, r3, r4, r5) := H
                                    have A71 := Aside0.mk A710
                                    clear A710
                                    simp only [Option.some.injEq, Prod.mk.injEq] at H
                                    obtain ⟨rfl, rfl, rfl, rfl, rfl⟩ := H
                                    go_wp2_with (first | ((with_reducible refine gate_callee (f := 61) rfl ?_); refine goesL_ (some 105) rfl rfl Tryd.func61 (by kernel_rfl) rfl #[.int .u32 a0, .int .i64 21, .int .i64 10] rfl (by (try simp only [List.map_toArray, List.map_cons, List.map_nil]); first | done | rfl | (simp only [List.length_drop, List.length_take]; rfl)) ?_; (with_reducible refine (caponierref02_field.calls kj26 a0 21 10 t422 _ A67.out).mono ?_); rintro e w' ⟨rfl, ⟨nd, rfl⟩⟩; refine ⟨_, rfl, ?_⟩; (try (rw [drewN_self wc]; generalize hq_ : World.drewN wc _ = wc; have n0_ : Aside0 (wc.heap[gb402]? = some (.cells #[.int .i64 0, .int .i64 0, .int .i64 0, .int .i64 0, .int .i64 0] 43 (0, 0))) := ⟨by rw [← hq_]; exact (by (with_reducible repeat (first | refine blk_drewN ?_ _ | refine blk_drew ?_ | refine blk_alloc ?_ _)); exact BK402.out)⟩; have n1_ : Aside0 (wc.heap[gb403]? = some (.cells #[.int .i64 a1, .int .i64 x404001_10, .int .i64 x404002_18, .int .i64 x404003_26, .int .i64 0] 43 (0, 0))) := ⟨by rw [← hq_]; exact (by (with_reducible repeat (first | refine blk_drewN ?_ _ | refine blk_drew ?_ | refine blk_alloc ?_ _)); exact BK403.out)⟩; have n2_ : Aside0 (Below w.heap.size w wc) := ⟨by rw [← hq_]; exact (by repeat (first | (with_reducible first | exact HB.out | apply below_alloc | apply pw_below_drewN | apply below_drew1 | refine below_set ?_ GE402.out | refine below_set ?_ GE403.out) | exact HB.out))⟩; clear BK402 BK403 HB hq_; have BK402 := n0_; have BK403 := n1_; have HB := n2_; clear n0_ n1_ n2_))) | ((with_reducible refine gate_callee (f := 61) rfl ?_); refine goesL_ (some 108) rfl rfl Tryd.func61 (by kernel_rfl) rfl #[.int .u32 a0, .int .i64 20, .int .i64 1] rfl (by (try simp only [List.map_toArray, List.map_cons, List.map_nil]); first | done | rfl | (simp only [List.length_drop, List.length_take]; rfl)) ?_; (with_reducible refine (caponierref02_field.calls kj26 a0 20 1 t423 _ A68.out).mono ?_); rintro e w' ⟨rfl, ⟨nd, rfl⟩⟩; refine ⟨_, rfl, ?_⟩; (try (rw [drewN_self wc]; generalize hq_ : World.drewN wc _ = wc; have n0_ : Aside0 (wc.heap[gb402]? = some (.cells #[.int .i64 0, .int .i64 0, .int .i64 0, .int .i64 0, .int .i64 0] 43 (0, 0))) := ⟨by rw [← hq_]; exact (by (with_reducible repeat (first | refine blk_drewN ?_ _ | refine blk_drew ?_ | refine blk_alloc ?_ _)); exact BK402.out)⟩; have n1_ : Aside0 (wc.heap[gb403]? = some (.cells #[.int .i64 a1, .int .i64 x404001_10, .int .i64 x404002_18, .int .i64 x404003_26, .int .i64 0] 43 (0, 0))) := ⟨by rw [← hq_]; exact (by (with_reducible repeat (first | refine blk_drewN ?_ _ | refine blk_drew ?_ | refine blk_alloc ?_ _)); exact BK403.out)⟩; have n2_ : Aside0 (Below w.heap.size w wc) := ⟨by rw [← hq_]; exact (by repeat (first | (with_reducible first | exact HB.out | apply below_alloc | apply pw_below_drewN | apply below_drew1 | refine below_set ?_ GE402.out | refine below_set ?_ GE403.out) | exact HB.out))⟩; clear BK402 BK403 HB hq_; have BK402 := n0_; have BK403 := n1_; have HB := n2_; clear n0_ n1_ n2_))) | ((with_reducible refine gate_callee (f := 61) rfl ?_); refine goesL_ (some 112) rfl rfl Tryd.func61 (by kernel_rfl) rfl #[.int .u32 a0, .int .i64 12, .int .i64 8] rfl (by (try simp only [List.map_toArray, List.map_cons, List.map_nil]); first | done | rfl | (simp only [List.length_drop, List.length_take]; rfl)) ?_; (with_reducible refine (caponierref02_field.calls kj26 a0 12 8 t424 _ A69.out).mono ?_); rintro e w' ⟨rfl, ⟨nd, rfl⟩⟩; refine ⟨_, rfl, ?_⟩; (try (rw [drewN_self wc]; generalize hq_ : World.drewN wc _ = wc; have n0_ : Aside0 (wc.heap[gb402]? = some (.cells #[.int .i64 0, .int .i64 0, .int .i64 0, .int .i64 0, .int .i64 0] 43 (0, 0))) := ⟨by rw [← hq_]; exact (by (with_reducible repeat (first | refine blk_drewN ?_ _ | refine blk_drew ?_ | refine blk_alloc ?_ _)); exact BK402.out)⟩; have n1_ : Aside0 (wc.heap[gb403]? = some (.cells #[.int .i64 a1, .int .i64 x404001_10, .int .i64 x404002_18, .int .i64 x404003_26, .int .i64 0] 43 (0, 0))) := ⟨by rw [← hq_]; exact (by (with_reducible repeat (first | refine blk_drewN ?_ _ | refine blk_drew ?_ | refine blk_alloc ?_ _)); exact BK403.out)⟩; have n2_ : Aside0 (Below w.heap.size w wc) := ⟨by rw [← hq_]; exact (by repeat (first | (with_reducible first | exact HB.out | apply below_alloc | apply pw_below_drewN | apply below_drew1 | refine below_set ?_ GE402.out | refine below_set ?_ GE403.out) | exact HB.out))⟩; clear BK402 BK403 HB hq_; have BK402 := n0_; have BK403 := n1_; have HB := n2_; clear n0_ n1_ n2_))) | ((with_reducible refine gate_callee (f := 61) rfl ?_); refine goesL_ (some 116) rfl rfl Tryd.func61 (by kernel_rfl) rfl #[.int .u32 a0, .int .i64 31, .int .i64 1] rfl (by (try simp only [List.map_toArray, List.map_cons, List.map_nil]); first | done | rfl | (simp only [List.length_drop, List.length_take]; rfl)) ?_; (with_reducible refine (caponierref02_field.calls kj26 a0 31 1 t425 _ A70.out).mono ?_); rintro e w' ⟨rfl, ⟨nd, rfl⟩⟩; refine ⟨_, rfl, ?_⟩; (try (rw [drewN_self wc]; generalize hq_ : World.drewN wc _ = wc; have n0_ : Aside0 (wc.heap[gb402]? = some (.cells #[.int .i64 0, .int .i64 0, .int .i64 0, .int .i64 0, .int .i64 0] 43 (0, 0))) := ⟨by rw [← hq_]; exact (by (with_reducible repeat (first | refine blk_drewN ?_ _ | refine blk_drew ?_ | refine blk_alloc ?_ _)); exact BK402.out)⟩; have n1_ : Aside0 (wc.heap[gb403]? = some (.cells #[.int .i64 a1, .int .i64 x404001_10, .int .i64 x404002_18, .int .i64 x404003_26, .int .i64 0] 43 (0, 0))) := ⟨by rw [← hq_]; exact (by (with_reducible repeat (first | refine blk_drewN ?_ _ | refine blk_drew ?_ | refine blk_alloc ?_ _)); exact BK403.out)⟩; have n2_ : Aside0 (Below w.heap.size w wc) := ⟨by rw [← hq_]; exact (by repeat (first | (with_reducible first | exact HB.out | apply below_alloc | apply pw_below_drewN | apply below_drew1 | refine below_set ?_ GE402.out | refine below_set ?_ GE403.out) | exact HB.out))⟩; clear BK402 BK403 HB hq_; have BK402 := n0_; have BK403 := n1_; have HB := n2_; clear n0_ n1_ n2_))) | ((with_reducible refine gate_callee (f := 62) rfl ?_); refine goesL_ (some 119) rfl rfl Tryd.func62 (by kernel_rfl) rfl #[.int .u64 (IntKind.u64.wrap ((IntKind.u64.wrap ((IntKind.u64.wrap ((IntKind.u64.wrap (t422 * 2)) + (IntKind.u64.wrap (t423 * 2048)))) + (IntKind.u64.wrap (t424 * 4096)))) + (IntKind.u64.wrap (t425 * 1048576)))), .int .i64 21] rfl (by (try simp only [List.map_toArray, List.map_cons, List.map_nil]); first | done | rfl | (simp only [List.length_drop, List.length_take]; rfl)) ?_; (with_reducible refine (caponierref01_Sign.calls kj26 (IntKind.u64.wrap ((IntKind.u64.wrap ((IntKind.u64.wrap ((IntKind.u64.wrap (t422 * 2)) + (IntKind.u64.wrap (t423 * 2048)))) + (IntKind.u64.wrap (t424 * 4096)))) + (IntKind.u64.wrap (t425 * 1048576)))) 21 t426 _ A71.out).mono ?_); rintro e w' ⟨rfl, ⟨nd, rfl⟩⟩; refine ⟨_, rfl, ?_⟩; (try (rw [drewN_self wc]; generalize hq_ : World.drewN wc _ = wc; have n0_ : Aside0 (wc.heap[gb402]? = some (.cells #[.int .i64 0, .int .i64 0, .int .i64 0, .int .i64 0, .int .i64 0] 43 (0, 0))) := ⟨by rw [← hq_]; exact (by (with_reducible repeat (first | refine blk_drewN ?_ _ | refine blk_drew ?_ | refine blk_alloc ?_ _)); exact BK402.out)⟩; have n1_ : Aside0 (wc.heap[gb403]? = some (.cells #[.int .i64 a1, .int .i64 x404001_10, .int .i64 x404002_18, .int .i64 x404003_26, .int .i64 0] 43 (0, 0))) := ⟨by rw [← hq_]; exact (by (with_reducible repeat (first | refine blk_drewN ?_ _ | refine blk_drew ?_ | refine blk_alloc ?_ _)); exact BK403.out)⟩; have n2_ : Aside0 (Below w.heap.size w wc) := ⟨by rw [← hq_]; exact (by repeat (first | (with_reducible first | exact HB.out | apply below_alloc | apply pw_below_drewN | apply below_drew1 | refine below_set ?_ GE402.out | refine below_set ?_ GE403.out) | exact HB.out))⟩; clear BK402 BK403 HB hq_; have BK402 := n0_; have BK403 := n1_; have HB := n2_; clear n0_ n1_ n2_)); have hnb72 := NB403_402.out; have hnc72 := NB402_403.out; have hcz73_0 : wc.cell? ⟨gb403, 0, none⟩ = some (.int .i64 a1) := (blk_cell BK403.out 0).trans rfl; have hcz73_1 : wc.cell? ⟨gb403, 1, none⟩ = some (.int .i64 x404001_10) := (blk_cell BK403.out 1).trans rfl; have hcz73_2 : wc.cell? ⟨gb403, 2, none⟩ = some (.int .i64 x404002_18) := (blk_cell BK403.out 2).trans rfl; have hcz73_3 : wc.cell? ⟨gb403, 3, none⟩ = some (.int .i64 x404003_26) := (blk_cell BK403.out 3).trans rfl; have hcz73_4 : wc.cell? ⟨gb403, 4, none⟩ = some (.int .i64 0) := (blk_cell BK403.out 4).trans rfl; have hfz73_0 := blk_frozen BK403.out 0; have hfz73_1 := blk_frozen BK403.out 1; have hfz73_2 := blk_frozen BK403.out 2; have hfz73_3 := blk_frozen BK403.out 3; have hfz73_4 := blk_frozen BK403.out 4; have hcz74_0 : wc.cell? ⟨gb402, 0, none⟩ = some (.int .i64 0) := (blk_cell BK402.out 0).trans rfl; have hcz74_1 : wc.cell? ⟨gb402, 1, none⟩ = some (.int .i64 0) := (blk_cell BK402.out 1).trans rfl; have hcz74_2 : wc.cell? ⟨gb402, 2, none⟩ = some (.int .i64 0) := (blk_cell BK402.out 2).trans rfl; have hcz74_3 : wc.cell? ⟨gb402, 3, none⟩ = some (.int .i64 0) := (blk_cell BK402.out 3).trans rfl; have hcz74_4 : wc.cell? ⟨gb402, 4, none⟩ = some (.int .i64 0) := (blk_cell BK402.out 4).trans rfl; have hfz74_0 := blk_frozen BK402.out 0; have hfz74_1 := blk_frozen BK402.out 1; have hfz74_2 := blk_frozen BK402.out 2; have hfz74_3 := blk_frozen BK402.out 3; have hfz74_4 := blk_frozen BK402.out 4))
                                    refine bodyPost_ret (results_cell_row rfl _ _ gb402 43 #[.int .i64 a1, .int .i64 x404001_10, .int .i64 x404002_18, .int .i64 x404003_26, .int .i64 t426] (0, 0) _ rfl (by (with_reducible repeat (first | refine blk_drewN ?_ _ | refine blk_drew ?_ | refine blk_alloc ?_ _)); refine blk_put (cs := #[.int .i64 a1, .int .i64 x404001_10, .int .i64 x404002_18, .int .i64 x404003_26, .int .i64 0]) ?_ 4 _ rfl; (with_reducible repeat (first | refine blk_drewN ?_ _ | refine blk_drew ?_ | refine blk_alloc ?_ _)); refine blk_put (cs := #[.int .i64 a1, .int .i64 x404001_10, .int .i64 x404002_18, .int .i64 0, .int .i64 0]) ?_ 3 _ rfl; (with_reducible repeat (first | refine blk_drewN ?_ _ | refine blk_drew ?_ | refine blk_alloc ?_ _)); refine blk_put (cs := #[.int .i64 a1, .int .i64 x404001_10, .int .i64 0, .int .i64 0, .int .i64 0]) ?_ 2 _ rfl; (with_reducible repeat (first | refine blk_drewN ?_ _ | refine blk_drew ?_ | refine blk_alloc ?_ _)); refine blk_put (cs := #[.int .i64 a1, .int .i64 0, .int .i64 0, .int .i64 0, .int .i64 0]) ?_ 1 _ rfl; (with_reducible repeat (first | refine blk_drewN ?_ _ | refine blk_drew ?_ | refine blk_alloc ?_ _)); refine blk_put (cs := #[.int .i64 0, .int .i64 0, .int .i64 0, .int .i64 0, .int .i64 0]) ?_ 0 _ rfl; (with_reducible repeat (first | refine blk_drewN ?_ _ | refine blk_drew ?_ | refine blk_alloc ?_ _)); refine blk_far ?_ NB402_403.out _; (with_reducible repeat (first | refine blk_drewN ?_ _ | refine blk_drew ?_ | refine blk_alloc ?_ _)); exact BK402.out) Tryd.underlying43 rfl (by kernel_rfl)) rfl ?_
                                    exact ⟨by first | rfl | (simp [errW_none, errW_some] <;> rfl) | (simp [*, errW_none, errW_some] <;> rfl), by repeat (first | (with_reducible first | exact HB.out | apply below_alloc | apply pw_below_drewN | apply below_drew1 | refine below_set ?_ GE402.out | refine below_set ?_ GE403.out) | exact HB.out)⟩
                                  · rw [if_neg c66] at H
                                    have c66b0 : (t404.toList == ([74] : List UInt8)) = false := beq_eq_false_iff_ne.mpr c66
                                    have c66b1 : (t404.toList != ([74] : List UInt8)) = true := bne_iff_ne.mpr c66
                                    simp only [Option.some.injEq, Prod.mk.injEq] at H
                                    obtain ⟨rfl, rfl, rfl, rfl, rfl⟩ := H
                                    have hnb75 := NB403_402.out
                                    have hnc75 := NB402_403.out
                                    have hcz76_0 : wc.cell? ⟨gb403, 0, none⟩ = some (.int .i64 a1) := (blk_cell BK403.out 0).trans rfl
                                    have hcz76_1 : wc.cell? ⟨gb403, 1, none⟩ = some (.int .i64 x404001_10) := (blk_cell BK403.out 1).trans rfl
                                    have hcz76_2 : wc.cell? ⟨gb403, 2, none⟩ = some (.int .i64 x404002_18) := (blk_cell BK403.out 2).trans rfl
                                    have hcz76_3 : wc.cell? ⟨gb403, 3, none⟩ = some (.int .i64 x404003_26) := (blk_cell BK403.out 3).trans rfl
                                    have hcz76_4 : wc.cell? ⟨gb403, 4, none⟩ = some (.int .i64 0) := (blk_cell BK403.out 4).trans rfl
                                    have hfz76_0 := blk_frozen BK403.out 0
                                    have hfz76_1 := blk_frozen BK403.out 1
                                    have hfz76_2 := blk_frozen BK403.out 2
                                    have hfz76_3 := blk_frozen BK403.out 3
                                    have hfz76_4 := blk_frozen BK403.out 4
                                    have hcz77_0 : wc.cell? ⟨gb402, 0, none⟩ = some (.int .i64 0) := (blk_cell BK402.out 0).trans rfl
                                    have hcz77_1 : wc.cell? ⟨gb402, 1, none⟩ = some (.int .i64 0) := (blk_cell BK402.out 1).trans rfl
                                    have hcz77_2 : wc.cell? ⟨gb402, 2, none⟩ = some (.int .i64 0) := (blk_cell BK402.out 2).trans rfl
                                    have hcz77_3 : wc.cell? ⟨gb402, 3, none⟩ = some (.int .i64 0) := (blk_cell BK402.out 3).trans rfl
                                    have hcz77_4 : wc.cell? ⟨gb402, 4, none⟩ = some (.int .i64 0) := (blk_cell BK402.out 4).trans rfl
                                    have hfz77_0 := blk_frozen BK402.out 0
                                    have hfz77_1 := blk_frozen BK402.out 1
                                    have hfz77_2 := blk_frozen BK402.out 2
                                    have hfz77_3 := blk_frozen BK402.out 3
                                    have hfz77_4 := blk_frozen BK402.out 4
                                    go_wp2
                                    refine bodyPost_ret (results_cell_row rfl _ _ gb402 43 #[.int .i64 a1, .int .i64 x404001_10, .int .i64 x404002_18, .int .i64 x404003_26, .int .i64 0] (0, 0) _ rfl (by (with_reducible repeat (first | refine blk_drewN ?_ _ | refine blk_drew ?_ | refine blk_alloc ?_ _)); refine blk_put (cs := #[.int .i64 a1, .int .i64 x404001_10, .int .i64 x404002_18, .int .i64 x404003_26, .int .i64 0]) ?_ 4 _ rfl; (with_reducible repeat (first | refine blk_drewN ?_ _ | refine blk_drew ?_ | refine blk_alloc ?_ _)); refine blk_put (cs := #[.int .i64 a1, .int .i64 x404001_10, .int .i64 x404002_18, .int .i64 0, .int .i64 0]) ?_ 3 _ rfl; (with_reducible repeat (first | refine blk_drewN ?_ _ | refine blk_drew ?_ | refine blk_alloc ?_ _)); refine blk_put (cs := #[.int .i64 a1, .int .i64 x404001_10, .int .i64 0, .int .i64 0, .int .i64 0]) ?_ 2 _ rfl; (with_reducible repeat (first | refine blk_drewN ?_ _ | refine blk_drew ?_ | refine blk_alloc ?_ _)); refine blk_put (cs := #[.int .i64 a1, .int .i64 0, .int .i64 0, .int .i64 0, .int .i64 0]) ?_ 1 _ rfl; (with_reducible repeat (first | refine blk_drewN ?_ _ | refine blk_drew ?_ | refine blk_alloc ?_ _)); refine blk_put (cs := #[.int .i64 0, .int .i64 0, .int .i64 0, .int .i64 0, .int .i64 0]) ?_ 0 _ rfl; (with_reducible repeat (first | refine blk_drewN ?_ _ | refine blk_drew ?_ | refine blk_alloc ?_ _)); exact BK402.out) Tryd.underlying43 rfl (by kernel_rfl)) rfl ?_
                                    exact ⟨by first | rfl | (simp [errW_none, errW_some] <;> rfl) | (simp [*, errW_none, errW_some] <;> rfl), by repeat (first | (with_reducible first | exact HB.out | apply below_alloc | apply pw_below_drewN | apply below_drew1 | refine below_set ?_ GE402.out | refine below_set ?_ GE403.out) | exact HB.out)⟩
end Go.Proofs.YtaoajlaocphgdaaDoor.PA
end
section
namespace Go.Proofs.YtaoajlaocphgdaaDoor.PA
open Go.RowKit Go.Proofs.YtaoajlaocphgdaaDoorW.PrintWords Go.Proofs.YtaoajlaocphgdaaDoorW.PrintLast Go.Proofs.YtaoajlaocphgdaaDoorW.PrintMore
attribute [local go_sem] max2_int min2_int max_two min_two max_three min_three max_four min_four   -- for this text's walks alone
set_option linter.unusedVariables false
set_option linter.unusedSimpArgs false
def caponierref02_Decode.l0 : Nat → Int → Int → Option (Int × Int × Int × Int × Int × Int)
  | 0, _, _ => none
  | k + 1, x0, x4 => if x4 ≤ 42 then ((caponierref02_as.f k x0 x4).bind fun bt428 => ((caponierref02_Encode.f k bt428.1 bt428.2.1 bt428.2.2.1 bt428.2.2.2.1 bt428.2.2.2.2).bind fun bt434 => (if bt434.2 = 0 then (if bt434.1 = x0 then (some (bt428.1, bt428.2.1, bt428.2.2.1, bt428.2.2.2.1, bt428.2.2.2.2, 0)) else (caponierref02_Decode.l0 k x0 (wrap64 (x4 + 1)))) else (caponierref02_Decode.l0 k x0 (wrap64 (x4 + 1)))))) else (some (0, 0, 0, 0, 0, 3))
def caponierref02_Decode.f (k : Nat) (a0 : Int) : Option (Int × Int × Int × Int × Int × Int) := caponierref02_Decode.l0 k a0 0
theorem caponierref02_Decode.mono_l : ∀ k, (∀ y0 y1, LeO (caponierref02_Decode.l0 k y0 y1) (caponierref02_Decode.l0 (k + 1) y0 y1))
  | 0 => fun _ _ r h => by simp [caponierref02_Decode.l0] at h
  | k + 1 => by
    have ih0 := caponierref02_Decode.mono_l k
    · intro y0 y1
      unfold caponierref02_Decode.l0
      repeat' first
      | (with_reducible exact ih0 _ _)
      | (with_reducible exact caponierref02_Encode.mono _ _ _ _ _ _)
      | (with_reducible exact caponierref02_as.mono _ _ _)
      | (with_reducible exact LeO.refl _)
      | (with_reducible exact LeO.none _)
      | (with_reducible refine LeO.ite ?_ ?_)
      | (with_reducible refine LeO.bind ?_ (fun _ => ?_))
      | exact ih0 _ _
      | exact caponierref02_Encode.mono _ _ _ _ _ _
      | exact caponierref02_as.mono _ _ _
      | exact LeO.none _
      | refine LeO.ite ?_ ?_
      | refine LeO.bind ?_ (fun _ => ?_)
theorem caponierref02_Decode.mono : ∀ a0 k, LeO (caponierref02_Decode.f k a0) (caponierref02_Decode.f (k + 1) a0) := by
  intro a0 k
  have ih0 := caponierref02_Decode.mono_l k
  unfold caponierref02_Decode.f
  repeat' first
      | (with_reducible exact ih0 _ _)
      | (with_reducible exact caponierref02_Encode.mono _ _ _ _ _ _)
      | (with_reducible exact caponierref02_as.mono _ _ _)
      | (with_reducible exact LeO.refl _)
      | (with_reducible exact LeO.none _)
      | (with_reducible refine LeO.ite ?_ ?_)
      | (with_reducible refine LeO.bind ?_ (fun _ => ?_))
      | exact ih0 _ _
      | exact caponierref02_Encode.mono _ _ _ _ _ _
      | exact caponierref02_as.mono _ _ _
      | exact LeO.none _
      | refine LeO.ite ?_ ?_
      | refine LeO.bind ?_ (fun _ => ?_)
set_option maxHeartbeats 8000000 in
set_option maxRecDepth 100000 in
theorem caponierref02_Decode.calls (k : Nat) (a0 : Int) (r1 : Int) (r2 : Int) (r3 : Int) (r4 : Int) (r5 : Int) (r6 : Int) (w : World) (h : caponierref02_Decode.f k a0 = some (r1, r2, r3, r4, r5, r6)) :
    Calls Tryd.prog 15 #[.int .u32 a0] w fun e w' => e = .returned (.tuple #[.agg #[.int .i64 r1, .int .i64 r2, .int .i64 r3, .int .i64 r4, .int .i64 r5], .int .i64 r6]) ∧ Below w.heap.size w w' := by
  have hu43 := Tryd.underlying43
  have HB := Aside0.mk (Below.refl w.heap.size w)
  have H : (caponierref02_Decode.l0 k a0 0) = some (r1, r2, r3, r4, r5, r6) := h
  clear h
  have H' := Aside0.mk H
  clear H
  go_enter Tryd.func15, Tryd.ntmps15
  go_wp2_with (first | ((with_reducible refine gate_dst (N := 2) rfl ?_); refine box_event ?hg (N := 2) ?hd (cs := #[.int .i64 0, .int .i64 0, .int .i64 0, .int .i64 0, .int .i64 0]) (t := 43) ?hr ?_; (case hd => rfl); (case hg => rfl); (case hr => first | (go_simp; done) | (go_simp; rfl)); intro gb427 hg w2 hbox hb; have n0_ := Aside0.mk (below_step (by repeat (first | (with_reducible first | exact HB.out | apply below_alloc | apply pw_below_drewN | apply below_drew1) | exact HB.out)) hb); have n1_ := Aside0.mk (hbox); have n2_ := Aside0.mk ((by rw [hg]; exact (below_size (by repeat (first | (with_reducible first | exact HB.out | apply below_alloc | apply pw_below_drewN | apply below_drew1) | exact HB.out))) : w.heap.size ≤ gb427)); have n3_ := Aside0.mk ((by rw [hg]; exact (below_size (by repeat (first | (with_reducible first | exact HB.out | apply below_alloc | apply pw_below_drewN | apply below_drew1) | exact HB.out))) : w.heap.size ≤ gb427)); clear HB; have HB := n0_; have BK427 := n1_; have GW427 := n2_; have GE427 := n3_; clear n0_ n1_ n2_ n3_; clear hb hbox hg))
  go_loopg [4] k (fun kq v4 w' => ∃ (x4_1 : Int) (x428000_1 : Int) (x428001_1 : Int) (x428002_1 : Int) (x428003_1 : Int) (x428004_1 : Int), v4 = .int .i64 x4_1 ∧ Aside0 (caponierref02_Decode.l0 kq a0 x4_1 = some (r1, r2, r3, r4, r5, r6)) ∧ Aside0 (kq ≤ k) ∧ Aside0 (w'.heap[gb427]? = some (.cells #[.int .i64 x428000_1, .int .i64 x428001_1, .int .i64 x428002_1, .int .i64 x428003_1, .int .i64 x428004_1] 43 (0, 0))) ∧ Aside0 (Below w.heap.size w w'))
  case atStart => exact ⟨(0), (0), (0), (0), (0), (0), (by first | rfl | (simp; done) | (simp [*]; done)), H', ⟨Nat.le_refl _⟩, ⟨by (with_reducible repeat (first | refine blk_drewN ?_ _ | refine blk_drew ?_ | refine blk_alloc ?_ _)); exact BK427.out⟩, ⟨by repeat (first | (with_reducible first | exact HB.out | apply below_alloc | apply pw_below_drewN | apply below_drew1 | refine below_set ?_ GE427.out) | exact HB.out)⟩⟩
  case round =>
    clear H'
    try clear c1
    try clear p2
    obtain ⟨x4_1, x428000_1, x428001_1, x428002_1, x428003_1, x428004_1, rfl, HA, HK1, BK427, HB⟩ := hrel
    cases gk with
    | zero => exact absurd HA.out (by simp [caponierref02_Decode.l0])
    | succ k1 =>
      have H := HA.out
      clear HA
      simp only [caponierref02_Decode.l0] at H
      by_cases c3 : x4_1 ≤ 42
      · rw [if_pos c3] at H
        have c3b0 : decide (x4_1 ≤ 42) = true := decide_eq_true c3
        clear c3
        replace H := Option.bind_eq_some_iff.mp H
        obtain ⟨⟨t428, t429, t430, t431, t432⟩, A40, H⟩ := H
        replace H : ((caponierref02_Encode.f k1 t428 t429 t430 t431 t432).bind fun bt434 => (if bt434.2 = 0 then (if bt434.1 = a0 then (some (t428, t429, t430, t431, t432, 0)) else (caponierref02_Decode.l0 k1 a0 (wrap64 (x4_1 + 1)))) else (caponierref02_Decode.l0 k1 a0 (wrap64 (x4_1 + 1))))) = some (r1, r2, r3, r4, r5, r6) := H
        have A4 := Aside0.mk A40
        clear A40
        replace H := Option.bind_eq_some_iff.mp H
        obtain ⟨⟨t434, t435⟩, A50, H⟩ := H
        replace H : (if t435 = 0 then (if t434 = a0 then (some (t428, t429, t430, t431, t432, 0)) else (caponierref02_Decode.l0 k1 a0 (wrap64 (x4_1 + 1)))) else (caponierref02_Decode.l0 k1 a0 (wrap64 (x4_1 + 1)))) = some (r1, r2, r3, r4, r5, r6) := H
        have A5 := Aside0.mk A50
        clear A50
        by_cases c6 : t435 = 0
        · rw [if_pos c6] at H
          have c6b0 : (t435 == 0) = true := beq_iff_eq.mpr c6
          have c6b1 : (t435 != 0) = false := bne_eq_false_iff_eq.mpr c6
          clear c6
          by_cases c7 : t434 = a0
          · rw [if_pos c7] at H
            have c7b0 : (t434 == a0) = true := beq_iff_eq.mpr c7
            have c7b1 : (t434 != a0) = false := bne_eq_false_iff_eq.mpr c7
            clear c7
            simp only [Option.some.injEq, Prod.mk.injEq] at H
            obtain ⟨rfl, rfl, rfl, rfl, rfl, rfl⟩ := H
            go_wp2_with (first | ((with_reducible refine gate_callee (f := 29) rfl ?_); refine goesL_ (some 14) rfl rfl Tryd.func29 (by kernel_rfl) rfl #[.int .u32 a0, .int .i64 x4_1] rfl (by (try simp only [List.map_toArray, List.map_cons, List.map_nil]); first | done | rfl | (simp only [List.length_drop, List.length_take]; rfl)) ?_; (with_reducible refine (caponierref02_as.calls k1 a0 x4_1 t428 t429 t430 t431 t432 _ A4.out).mono ?_); rintro e w8 ⟨rfl, hb⟩; refine ⟨_, rfl, ?_⟩; have n0_ := Aside0.mk (blk_below (g := gb427) (o := .cells #[.int .i64 x428000_1, .int .i64 x428001_1, .int .i64 x428002_1, .int .i64 x428003_1, .int .i64 x428004_1] 43 (0, 0)) (by (with_reducible repeat (first | refine blk_drewN ?_ _ | refine blk_drew ?_ | refine blk_alloc ?_ _)); exact BK427.out) hb); have n1_ := Aside0.mk (below_step (by repeat (first | (with_reducible first | exact HB.out | apply below_alloc | apply pw_below_drewN | apply below_drew1 | refine below_set ?_ GE427.out) | exact HB.out)) hb); clear BK427; clear HB; have BK427 := n0_; have HB := n1_; clear n0_ n1_; (try clear hb); (try clear hb2); (try clear hk); (try clear hi)) | ((with_reducible refine gate_dst (N := 5) rfl ?_); refine box_event ?hg (N := 5) ?hd (cs := #[.int .i64 0, .int .i64 0, .int .i64 0, .int .i64 0, .int .i64 0]) (t := 43) ?hr ?_; (case hd => rfl); (case hg => rfl); (case hr => first | (go_simp; done) | (go_simp; rfl)); intro gb433 hg w9 hbox hb; have n0_ := Aside0.mk (blk_below (g := gb427) (o := .cells #[.int .i64 x428000_1, .int .i64 x428001_1, .int .i64 x428002_1, .int .i64 x428003_1, .int .i64 x428004_1] 43 (0, 0)) (by (with_reducible repeat (first | refine blk_drewN ?_ _ | refine blk_drew ?_ | refine blk_alloc ?_ _)); exact BK427.out) hb); have n1_ := Aside0.mk (below_step (by repeat (first | (with_reducible first | exact HB.out | apply below_alloc | apply pw_below_drewN | apply below_drew1 | refine below_set ?_ GE427.out) | exact HB.out)) hb); have n2_ := Aside0.mk (hbox); have n3_ := Aside0.mk ((by rw [hg]; exact (below_size (by repeat (first | (with_reducible first | exact HB.out | apply below_alloc | apply pw_below_drewN | apply below_drew1 | refine below_set ?_ GE427.out) | exact HB.out))) : w.heap.size ≤ gb433)); have n4_ := Aside0.mk ((by rw [hg]; exact (below_size (by repeat (first | (with_reducible first | exact HB.out | apply below_alloc | apply pw_below_drewN | apply below_drew1 | refine below_set ?_ GE427.out) | exact HB.out))) : w.heap.size ≤ gb433)); have n5_ := Aside0.mk ((by rw [hg]; exact Nat.ne_of_lt (blk_lt (g := gb427) (o := .cells #[.int .i64 x428000_1, .int .i64 x428001_1, .int .i64 x428002_1, .int .i64 x428003_1, .int .i64 x428004_1] 43 (0, 0)) (by (with_reducible repeat (first | refine blk_drewN ?_ _ | refine blk_drew ?_ | refine blk_alloc ?_ _)); exact BK427.out)) : gb427 ≠ gb433)); have n6_ := Aside0.mk ((by rw [hg]; exact Nat.ne_of_gt (blk_lt (g := gb427) (o := .cells #[.int .i64 x428000_1, .int .i64 x428001_1, .int .i64 x428002_1, .int .i64 x428003_1, .int .i64 x428004_1] 43 (0, 0)) (by (with_reducible repeat (first | refine blk_drewN ?_ _ | refine blk_drew ?_ | refine blk_alloc ?_ _)); exact BK427.out)) : gb433 ≠ gb427)); clear BK427; clear HB; have BK427 := n0_; have HB := n1_; have BK433 := n2_; have GW433 := n3_; have GE433 := n4_; have NB427_433 := n5_; have NB433_427 := n6_; clear n0_ n1_ n2_ n3_ n4_ n5_ n6_; clear hb hbox hg; have hnb10 := NB433_427.out; have hnc10 := NB427_433.out; have hcz11_0 : w9.cell? ⟨gb433, 0, none⟩ = some (.int .i64 0) := (blk_cell BK433.out 0).trans rfl; have hcz11_1 : w9.cell? ⟨gb433, 1, none⟩ = some (.int .i64 0) := (blk_cell BK433.out 1).trans rfl; have hcz11_2 : w9.cell? ⟨gb433, 2, none⟩ = some (.int .i64 0) := (blk_cell BK433.out 2).trans rfl; have hcz11_3 : w9.cell? ⟨gb433, 3, none⟩ = some (.int .i64 0) := (blk_cell BK433.out 3).trans rfl; have hcz11_4 : w9.cell? ⟨gb433, 4, none⟩ = some (.int .i64 0) := (blk_cell BK433.out 4).trans rfl; have hfz11_0 := blk_frozen BK433.out 0; have hfz11_1 := blk_frozen BK433.out 1; have hfz11_2 := blk_frozen BK433.out 2; have hfz11_3 := blk_frozen BK433.out 3; have hfz11_4 := blk_frozen BK433.out 4) | ((with_reducible refine gate_callee (f := 18) rfl ?_); refine goesL_ (some 17) rfl rfl Tryd.func18 (by kernel_rfl) rfl #[.agg #[.int .i64 t428, .int .i64 t429, .int .i64 t430, .int .i64 t431, .int .i64 t432]] rfl (by (try simp only [List.map_toArray, List.map_cons, List.map_nil]); first | done | rfl | (simp only [List.length_drop, List.length_take]; rfl)) ?_; (with_reducible refine (caponierref02_Encode.calls k1 t428 t429 t430 t431 t432 t434 t435 _ A5.out).mono ?_); rintro e w12 ⟨rfl, hb⟩; refine ⟨_, rfl, ?_⟩; have n0_ := Aside0.mk (blk_below (g := gb427) (o := .cells #[.int .i64 x428000_1, .int .i64 x428001_1, .int .i64 x428002_1, .int .i64 x428003_1, .int .i64 x428004_1] 43 (0, 0)) (by (with_reducible repeat (first | refine blk_drewN ?_ _ | refine blk_drew ?_ | refine blk_alloc ?_ _)); refine blk_far ?_ NB427_433.out _; (with_reducible repeat (first | refine blk_drewN ?_ _ | refine blk_drew ?_ | refine blk_alloc ?_ _)); refine blk_far ?_ NB427_433.out _; (with_reducible repeat (first | refine blk_drewN ?_ _ | refine blk_drew ?_ | refine blk_alloc ?_ _)); refine blk_far ?_ NB427_433.out _; (with_reducible repeat (first | refine blk_drewN ?_ _ | refine blk_drew ?_ | refine blk_alloc ?_ _)); refine blk_far ?_ NB427_433.out _; (with_reducible repeat (first | refine blk_drewN ?_ _ | refine blk_drew ?_ | refine blk_alloc ?_ _)); refine blk_far ?_ NB427_433.out _; (with_reducible repeat (first | refine blk_drewN ?_ _ | refine blk_drew ?_ | refine blk_alloc ?_ _)); exact BK427.out) hb); have n1_ := Aside0.mk (blk_below (g := gb433) (o := .cells #[.int .i64 t428, .int .i64 t429, .int .i64 t430, .int .i64 t431, .int .i64 t432] 43 (0, 0)) (by (with_reducible repeat (first | refine blk_drewN ?_ _ | refine blk_drew ?_ | refine blk_alloc ?_ _)); refine blk_put (cs := #[.int .i64 t428, .int .i64 t429, .int .i64 t430, .int .i64 t431, .int .i64 0]) ?_ 4 _ rfl; (with_reducible repeat (first | refine blk_drewN ?_ _ | refine blk_drew ?_ | refine blk_alloc ?_ _)); refine blk_put (cs := #[.int .i64 t428, .int .i64 t429, .int .i64 t430, .int .i64 0, .int .i64 0]) ?_ 3 _ rfl; (with_reducible repeat (first | refine blk_drewN ?_ _ | refine blk_drew ?_ | refine blk_alloc ?_ _)); refine blk_put (cs := #[.int .i64 t428, .int .i64 t429, .int .i64 0, .int .i64 0, .int .i64 0]) ?_ 2 _ rfl; (with_reducible repeat (first | refine blk_drewN ?_ _ | refine blk_drew ?_ | refine blk_alloc ?_ _)); refine blk_put (cs := #[.int .i64 t428, .int .i64 0, .int .i64 0, .int .i64 0, .int .i64 0]) ?_ 1 _ rfl; (with_reducible repeat (first | refine blk_drewN ?_ _ | refine blk_drew ?_ | refine blk_alloc ?_ _)); refine blk_put (cs := #[.int .i64 0, .int .i64 0, .int .i64 0, .int .i64 0, .int .i64 0]) ?_ 0 _ rfl; (with_reducible repeat (first | refine blk_drewN ?_ _ | refine blk_drew ?_ | refine blk_alloc ?_ _)); exact BK433.out) hb); have n2_ := Aside0.mk (below_step (by repeat (first | (with_reducible first | exact HB.out | apply below_alloc | apply pw_below_drewN | apply below_drew1 | refine below_set ?_ GE427.out | refine below_set ?_ GE433.out) | exact HB.out)) hb); clear BK427; clear BK433; clear HB; have BK427 := n0_; have BK433 := n1_; have HB := n2_; clear n0_ n1_ n2_; (try clear hb); (try clear hb2); (try clear hk); (try clear hi); have hcz13_0 : w12.cell? ⟨gb433, 0, none⟩ = some (.int .i64 t428) := (blk_cell BK433.out 0).trans rfl; have hcz13_1 : w12.cell? ⟨gb433, 1, none⟩ = some (.int .i64 t429) := (blk_cell BK433.out 1).trans rfl; have hcz13_2 : w12.cell? ⟨gb433, 2, none⟩ = some (.int .i64 t430) := (blk_cell BK433.out 2).trans rfl; have hcz13_3 : w12.cell? ⟨gb433, 3, none⟩ = some (.int .i64 t431) := (blk_cell BK433.out 3).trans rfl; have hcz13_4 : w12.cell? ⟨gb433, 4, none⟩ = some (.int .i64 t432) := (blk_cell BK433.out 4).trans rfl; have hfz13_0 := blk_frozen BK433.out 0; have hfz13_1 := blk_frozen BK433.out 1; have hfz13_2 := blk_frozen BK433.out 2; have hfz13_3 := blk_frozen BK433.out 3; have hfz13_4 := blk_frozen BK433.out 4; have hcz14_0 : w12.cell? ⟨gb427, 0, none⟩ = some (.int .i64 x428000_1) := (blk_cell BK427.out 0).trans rfl; have hcz14_1 : w12.cell? ⟨gb427, 1, none⟩ = some (.int .i64 x428001_1) := (blk_cell BK427.out 1).trans rfl; have hcz14_2 : w12.cell? ⟨gb427, 2, none⟩ = some (.int .i64 x428002_1) := (blk_cell BK427.out 2).trans rfl; have hcz14_3 : w12.cell? ⟨gb427, 3, none⟩ = some (.int .i64 x428003_1) := (blk_cell BK427.out 3).trans rfl; have hcz14_4 : w12.cell? ⟨gb427, 4, none⟩ = some (.int .i64 x428004_1) := (blk_cell BK427.out 4).trans rfl; have hfz14_0 := blk_frozen BK427.out 0; have hfz14_1 := blk_frozen BK427.out 1; have hfz14_2 := blk_frozen BK427.out 2; have hfz14_3 := blk_frozen BK427.out 3; have hfz14_4 := blk_frozen BK427.out 4))
            refine bodyPost_ret (results_ct rfl _ _ gb427 43 #[.int .i64 t428, .int .i64 t429, .int .i64 t430, .int .i64 t431, .int .i64 t432] (0, 0) _ rfl (by (with_reducible repeat (first | refine blk_drewN ?_ _ | refine blk_drew ?_ | refine blk_alloc ?_ _)); refine blk_put (cs := #[.int .i64 t428, .int .i64 t429, .int .i64 t430, .int .i64 t431, .int .i64 x428004_1]) ?_ 4 _ rfl; (with_reducible repeat (first | refine blk_drewN ?_ _ | refine blk_drew ?_ | refine blk_alloc ?_ _)); refine blk_put (cs := #[.int .i64 t428, .int .i64 t429, .int .i64 t430, .int .i64 x428003_1, .int .i64 x428004_1]) ?_ 3 _ rfl; (with_reducible repeat (first | refine blk_drewN ?_ _ | refine blk_drew ?_ | refine blk_alloc ?_ _)); refine blk_put (cs := #[.int .i64 t428, .int .i64 t429, .int .i64 x428002_1, .int .i64 x428003_1, .int .i64 x428004_1]) ?_ 2 _ rfl; (with_reducible repeat (first | refine blk_drewN ?_ _ | refine blk_drew ?_ | refine blk_alloc ?_ _)); refine blk_put (cs := #[.int .i64 t428, .int .i64 x428001_1, .int .i64 x428002_1, .int .i64 x428003_1, .int .i64 x428004_1]) ?_ 1 _ rfl; (with_reducible repeat (first | refine blk_drewN ?_ _ | refine blk_drew ?_ | refine blk_alloc ?_ _)); refine blk_put (cs := #[.int .i64 x428000_1, .int .i64 x428001_1, .int .i64 x428002_1, .int .i64 x428003_1, .int .i64 x428004_1]) ?_ 0 _ rfl; (with_reducible repeat (first | refine blk_drewN ?_ _ | refine blk_drew ?_ | refine blk_alloc ?_ _)); exact BK427.out) Tryd.underlying43 rfl (by kernel_rfl)) rfl ?_
            exact ⟨by first | rfl | (simp [errW_none, errW_some] <;> rfl) | (simp [*, errW_none, errW_some] <;> rfl), by repeat (first | (with_reducible first | exact HB.out | apply below_alloc | apply pw_below_drewN | apply below_drew1 | refine below_set ?_ GE427.out | refine below_set ?_ GE433.out) | exact HB.out)⟩
          · rw [if_neg c7] at H
            have c7b0 : (t434 == a0) = false := beq_eq_false_iff_ne.mpr c7
            have c7b1 : (t434 != a0) = true := bne_iff_ne.mpr c7
            have H' := Aside0.mk H
            clear H
            go_wp2_with (first | ((with_reducible refine gate_callee (f := 29) rfl ?_); refine goesL_ (some 14) rfl rfl Tryd.func29 (by kernel_rfl) rfl #[.int .u32 a0, .int .i64 x4_1] rfl (by (try simp only [List.map_toArray, List.map_cons, List.map_nil]); first | done | rfl | (simp only [List.length_drop, List.length_take]; rfl)) ?_; (with_reducible refine (caponierref02_as.calls k1 a0 x4_1 t428 t429 t430 t431 t432 _ A4.out).mono ?_); rintro e w15 ⟨rfl, hb⟩; refine ⟨_, rfl, ?_⟩; have n0_ := Aside0.mk (blk_below (g := gb427) (o := .cells #[.int .i64 x428000_1, .int .i64 x428001_1, .int .i64 x428002_1, .int .i64 x428003_1, .int .i64 x428004_1] 43 (0, 0)) (by (with_reducible repeat (first | refine blk_drewN ?_ _ | refine blk_drew ?_ | refine blk_alloc ?_ _)); exact BK427.out) hb); have n1_ := Aside0.mk (below_step (by repeat (first | (with_reducible first | exact HB.out | apply below_alloc | apply pw_below_drewN | apply below_drew1 | refine below_set ?_ GE427.out) | exact HB.out)) hb); clear BK427; clear HB; have BK427 := n0_; have HB := n1_; clear n0_ n1_; (try clear hb); (try clear hb2); (try clear hk); (try clear hi)) | ((with_reducible refine gate_dst (N := 5) rfl ?_); refine box_event ?hg (N := 5) ?hd (cs := #[.int .i64 0, .int .i64 0, .int .i64 0, .int .i64 0, .int .i64 0]) (t := 43) ?hr ?_; (case hd => rfl); (case hg => rfl); (case hr => first | (go_simp; done) | (go_simp; rfl)); intro gb433 hg w16 hbox hb; have n0_ := Aside0.mk (blk_below (g := gb427) (o := .cells #[.int .i64 x428000_1, .int .i64 x428001_1, .int .i64 x428002_1, .int .i64 x428003_1, .int .i64 x428004_1] 43 (0, 0)) (by (with_reducible repeat (first | refine blk_drewN ?_ _ | refine blk_drew ?_ | refine blk_alloc ?_ _)); exact BK427.out) hb); have n1_ := Aside0.mk (below_step (by repeat (first | (with_reducible first | exact HB.out | apply below_alloc | apply pw_below_drewN | apply below_drew1 | refine below_set ?_ GE427.out) | exact HB.out)) hb); have n2_ := Aside0.mk (hbox); have n3_ := Aside0.mk ((by rw [hg]; exact (below_size (by repeat (first | (with_reducible first | exact HB.out | apply below_alloc | apply pw_below_drewN | apply below_drew1 | refine below_set ?_ GE427.out) | exact HB.out))) : w.heap.size ≤ gb433)); have n4_ := Aside0.mk ((by rw [hg]; exact (below_size (by repeat (first | (with_reducible first | exact HB.out | apply below_alloc | apply pw_below_drewN | apply below_drew1 | refine below_set ?_ GE427.out) | exact HB.out))) : w.heap.size ≤ gb433)); have n5_ := Aside0.mk ((by rw [hg]; exact Nat.ne_of_lt (blk_lt (g := gb427) (o := .cells #[.int .i64 x428000_1, .int .i64 x428001_1, .int .i64 x428002_1, .int .i64 x428003_1, .int .i64 x428004_1] 43 (0, 0)) (by (with_reducible repeat (first | refine blk_drewN ?_ _ | refine blk_drew ?_ | refine blk_alloc ?_ _)); exact BK427.out)) : gb427 ≠ gb433)); have n6_ := Aside0.mk ((by rw [hg]; exact Nat.ne_of_gt (blk_lt (g := gb427) (o := .cells #[.int .i64 x428000_1, .int .i64 x428001_1, .int .i64 x428002_1, .int .i64 x428003_1, .int .i64 x428004_1] 43 (0, 0)) (by (with_reducible repeat (first | refine blk_drewN ?_ _ | refine blk_drew ?_ | refine blk_alloc ?_ _)); exact BK427.out)) : gb433 ≠ gb427)); clear BK427; clear HB; have BK427 := n0_; have HB := n1_; have BK433 := n2_; have GW433 := n3_; have GE433 := n4_; have NB427_433 := n5_; have NB433_427 := n6_; clear n0_ n1_ n2_ n3_ n4_ n5_ n6_; clear hb hbox hg; have hnb17 := NB433_427.out; have hnc17 := NB427_433.out; have hcz18_0 : w16.cell? ⟨gb433, 0, none⟩ = some (.int .i64 0) := (blk_cell BK433.out 0).trans rfl; have hcz18_1 : w16.cell? ⟨gb433, 1, none⟩ = some (.int .i64 0) := (blk_cell BK433.out 1).trans rfl; have hcz18_2 : w16.cell? ⟨gb433, 2, none⟩ = some (.int .i64 0) := (blk_cell BK433.out 2).trans rfl; have hcz18_3 : w16.cell? ⟨gb433, 3, none⟩ = some (.int .i64 0) := (blk_cell BK433.out 3).trans rfl; have hcz18_4 : w16.cell? ⟨gb433, 4, none⟩ = some (.int .i64 0) := (blk_cell BK433.out 4).trans rfl; have hfz18_0 := blk_frozen BK433.out 0; have hfz18_1 := blk_frozen BK433.out 1; have hfz18_2 := blk_frozen BK433.out 2; have hfz18_3 := blk_frozen BK433.out 3; have hfz18_4 := blk_frozen BK433.out 4) | ((with_reducible refine gate_callee (f := 18) rfl ?_); refine goesL_ (some 17) rfl rfl Tryd.func18 (by kernel_rfl) rfl #[.agg #[.int .i64 t428, .int .i64 t429, .int .i64 t430, .int .i64 t431, .int .i64 t432]] rfl (by (try simp only [List.map_toArray, List.map_cons, List.map_nil]); first | done | rfl | (simp only [List.length_drop, List.length_take]; rfl)) ?_; (with_reducible refine (caponierref02_Encode.calls k1 t428 t429 t430 t431 t432 t434 t435 _ A5.out).mono ?_); rintro e w19 ⟨rfl, hb⟩; refine ⟨_, rfl, ?_⟩; have n0_ := Aside0.mk (blk_below (g := gb427) (o := .cells #[.int .i64 x428000_1, .int .i64 x428001_1, .int .i64 x428002_1, .int .i64 x428003_1, .int .i64 x428004_1] 43 (0, 0)) (by (with_reducible repeat (first | refine blk_drewN ?_ _ | refine blk_drew ?_ | refine blk_alloc ?_ _)); refine blk_far ?_ NB427_433.out _; (with_reducible repeat (first | refine blk_drewN ?_ _ | refine blk_drew ?_ | refine blk_alloc ?_ _)); refine blk_far ?_ NB427_433.out _; (with_reducible repeat (first | refine blk_drewN ?_ _ | refine blk_drew ?_ | refine blk_alloc ?_ _)); refine blk_far ?_ NB427_433.out _; (with_reducible repeat (first | refine blk_drewN ?_ _ | refine blk_drew ?_ | refine blk_alloc ?_ _)); refine blk_far ?_ NB427_433.out _; (with_reducible repeat (first | refine blk_drewN ?_ _ | refine blk_drew ?_ | refine blk_alloc ?_ _)); refine blk_far ?_ NB427_433.out _; (with_reducible repeat (first | refine blk_drewN ?_ _ | refine blk_drew ?_ | refine blk_alloc ?_ _)); exact BK427.out) hb); have n1_ := Aside0.mk (blk_below (g := gb433) (o := .cells #[.int .i64 t428, .int .i64 t429, .int .i64 t430, .int .i64 t431, .int .i64 t432] 43 (0, 0)) (by (with_reducible repeat (first | refine blk_drewN ?_ _ | refine blk_drew ?_ | refine blk_alloc ?_ _)); refine blk_put (cs := #[.int .i64 t428, .int .i64 t429, .int .i64 t430, .int .i64 t431, .int .i64 0]) ?_ 4 _ rfl; (with_reducible repeat (first | refine blk_drewN ?_ _ | refine blk_drew ?_ | refine blk_alloc ?_ _)); refine blk_put (cs := #[.int .i64 t428, .int .i64 t429, .int .i64 t430, .int .i64 0, .int .i64 0]) ?_ 3 _ rfl; (with_reducible repeat (first | refine blk_drewN ?_ _ | refine blk_drew ?_ | refine blk_alloc ?_ _)); refine blk_put (cs := #[.int .i64 t428, .int .i64 t429, .int .i64 0, .int .i64 0, .int .i64 0]) ?_ 2 _ rfl; (with_reducible repeat (first | refine blk_drewN ?_ _ | refine blk_drew ?_ | refine blk_alloc ?_ _)); refine blk_put (cs := #[.int .i64 t428, .int .i64 0, .int .i64 0, .int .i64 0, .int .i64 0]) ?_ 1 _ rfl; (with_reducible repeat (first | refine blk_drewN ?_ _ | refine blk_drew ?_ | refine blk_alloc ?_ _)); refine blk_put (cs := #[.int .i64 0, .int .i64 0, .int .i64 0, .int .i64 0, .int .i64 0]) ?_ 0 _ rfl; (with_reducible repeat (first | refine blk_drewN ?_ _ | refine blk_drew ?_ | refine blk_alloc ?_ _)); exact BK433.out) hb); have n2_ := Aside0.mk (below_step (by repeat (first | (with_reducible first | exact HB.out | apply below_alloc | apply pw_below_drewN | apply below_drew1 | refine below_set ?_ GE427.out | refine below_set ?_ GE433.out) | exact HB.out)) hb); clear BK427; clear BK433; clear HB; have BK427 := n0_; have BK433 := n1_; have HB := n2_; clear n0_ n1_ n2_; (try clear hb); (try clear hb2); (try clear hk); (try clear hi)))
            go_roundg k1
            case measure => have := HK1.out; omega
            case rel => exact ⟨(wrap64 (x4_1 + 1)), (x428000_1), (x428001_1), (x428002_1), (x428003_1), (x428004_1), (by first | rfl | (simp; done) | (simp [*]; done)), H', ⟨by have := HK1.out; omega⟩, ⟨by (with_reducible repeat (first | refine blk_drewN ?_ _ | refine blk_drew ?_ | refine blk_alloc ?_ _)); exact BK427.out⟩, ⟨by repeat (first | (with_reducible first | exact HB.out | apply below_alloc | apply pw_below_drewN | apply below_drew1 | refine below_set ?_ GE427.out | refine below_set ?_ GE433.out) | exact HB.out)⟩⟩
        · rw [if_neg c6] at H
          have c6b0 : (t435 == 0) = false := beq_eq_false_iff_ne.mpr c6
          have c6b1 : (t435 != 0) = true := bne_iff_ne.mpr c6
          have H' := Aside0.mk H
          clear H
          go_wp2_with (first | ((with_reducible refine gate_callee (f := 29) rfl ?_); refine goesL_ (some 14) rfl rfl Tryd.func29 (by kernel_rfl) rfl #[.int .u32 a0, .int .i64 x4_1] rfl (by (try simp only [List.map_toArray, List.map_cons, List.map_nil]); first | done | rfl | (simp only [List.length_drop, List.length_take]; rfl)) ?_; (with_reducible refine (caponierref02_as.calls k1 a0 x4_1 t428 t429 t430 t431 t432 _ A4.out).mono ?_); rintro e w20 ⟨rfl, hb⟩; refine ⟨_, rfl, ?_⟩; have n0_ := Aside0.mk (blk_below (g := gb427) (o := .cells #[.int .i64 x428000_1, .int .i64 x428001_1, .int .i64 x428002_1, .int .i64 x428003_1, .int .i64 x428004_1] 43 (0, 0)) (by (with_reducible repeat (first | refine blk_drewN ?_ _ | refine blk_drew ?_ | refine blk_alloc ?_ _)); exact BK427.out) hb); have n1_ := Aside0.mk (below_step (by repeat (first | (with_reducible first | exact HB.out | apply below_alloc | apply pw_below_drewN | apply below_drew1 | refine below_set ?_ GE427.out) | exact HB.out)) hb); clear BK427; clear HB; have BK427 := n0_; have HB := n1_; clear n0_ n1_; (try clear hb); (try clear hb2); (try clear hk); (try clear hi)) | ((with_reducible refine gate_dst (N := 5) rfl ?_); refine box_event ?hg (N := 5) ?hd (cs := #[.int .i64 0, .int .i64 0, .int .i64 0, .int .i64 0, .int .i64 0]) (t := 43) ?hr ?_; (case hd => rfl); (case hg => rfl); (case hr => first | (go_simp; done) | (go_simp; rfl)); intro gb433 hg w21 hbox hb; have n0_ := Aside0.mk (blk_below (g := gb427) (o := .cells #[.int .i64 x428000_1, .int .i64 x428001_1, .int .i64 x428002_1, .int .i64 x428003_1, .int .i64 x428004_1] 43 (0, 0)) (by (with_reducible repeat (first | refine blk_drewN ?_ _ | refine blk_drew ?_ | refine blk_alloc ?_ _)); exact BK427.out) hb); have n1_ := Aside0.mk (below_step (by repeat (first | (with_reducible first | exact HB.out | apply below_alloc | apply pw_below_drewN | apply below_drew1 | refine below_set ?_ GE427.out) | exact HB.out)) hb); have n2_ := Aside0.mk (hbox); have n3_ := Aside0.mk ((by rw [hg]; exact (below_size (by repeat (first | (with_reducible first | exact HB.out | apply below_alloc | apply pw_below_drewN | apply below_drew1 | refine below_set ?_ GE427.out) | exact HB.out))) : w.heap.size ≤ gb433)); have n4_ := Aside0.mk ((by rw [hg]; exact (below_size (by repeat (first | (with_reducible first | exact HB.out | apply below_alloc | apply pw_below_drewN | apply below_drew1 | refine below_set ?_ GE427.out) | exact HB.out))) : w.heap.size ≤ gb433)); have n5_ := Aside0.mk ((by rw [hg]; exact Nat.ne_of_lt (blk_lt (g := gb427) (o := .cells #[.int .i64 x428000_1, .int .i64 x428001_1, .int .i64 x428002_1, .int .i64 x428003_1, .int .i64 x428004_1] 43 (0, 0)) (by (with_reducible repeat (first | refine blk_drewN ?_ _ | refine blk_drew ?_ | refine blk_alloc ?_ _)); exact BK427.out)) : gb427 ≠ gb433)); have n6_ := Aside0.mk ((by rw [hg]; exact Nat.ne_of_gt (blk_lt (g := gb427) (o := .cells #[.int .i64 x428000_1, .int .i64 x428001_1, .int .i64 x428002_1, .int .i64 x428003_1, .int .i64 x428004_1] 43 (0, 0)) (by (with_reducible repeat (first | refine blk_drewN ?_ _ | refine blk_drew ?_ | refine blk_alloc ?_ _)); exact BK427.out)) : gb433 ≠ gb427)); clear BK427; clear HB; have BK427 := n0_; have HB := n1_; have BK433 := n2_; have GW433 := n3_; have GE433 := n4_; have NB427_433 := n5_; have NB433_427 := n6_; clear n0_ n1_ n2_ n3_ n4_ n5_ n6_; clear hb hbox hg; have hnb22 := NB433_427.out; have hnc22 := NB427_433.out; have hcz23_0 : w21.cell? ⟨gb433, 0, none⟩ = some (.int .i64 0) := (blk_cell BK433.out 0).trans rfl; have hcz23_1 : w21.cell? ⟨gb433, 1, none⟩ = some (.int .i64 0) := (blk_cell BK433.out 1).trans rfl; have hcz23_2 : w21.cell? ⟨gb433, 2, none⟩ = some (.int .i64 0) := (blk_cell BK433.out 2).trans rfl; have hcz23_3 : w21.cell? ⟨gb433, 3, none⟩ = some (.int .i64 0) := (blk_cell BK433.out 3).trans rfl; have hcz23_4 : w21.cell? ⟨gb433, 4, none⟩ = some (.int .i64 0) := (blk_cell BK433.out 4).trans rfl; have hfz23_0 := blk_frozen BK433.out 0; have hfz23_1 := blk_frozen BK433.out 1; have hfz23_2 := blk_frozen BK433.out 2; have hfz23_3 := blk_frozen BK433.out 3; have hfz23_4 := blk_frozen BK433.out 4) | ((with_reducible refine gate_callee (f := 18) rfl ?_); refine goesL_ (some 17) rfl rfl Tryd.func18 (by kernel_rfl) rfl #[.agg #[.int .i64 t428, .int .i64 t429, .int .i64 t430, .int .i64 t431, .int .i64 t432]] rfl (by (try simp only [List.map_toArray, List.map_cons, List.map_nil]); first | done | rfl | (simp only [List.length_drop, List.length_take]; rfl)) ?_; (with_reducible refine (caponierref02_Encode.calls k1 t428 t429 t430 t431 t432 t434 t435 _ A5.out).mono ?_); rintro e w24 ⟨rfl, hb⟩; refine ⟨_, rfl, ?_⟩; have n0_ := Aside0.mk (blk_below (g := gb427) (o := .cells #[.int .i64 x428000_1, .int .i64 x428001_1, .int .i64 x428002_1, .int .i64 x428003_1, .int .i64 x428004_1] 43 (0, 0)) (by (with_reducible repeat (first | refine blk_drewN ?_ _ | refine blk_drew ?_ | refine blk_alloc ?_ _)); refine blk_far ?_ NB427_433.out _; (with_reducible repeat (first | refine blk_drewN ?_ _ | refine blk_drew ?_ | refine blk_alloc ?_ _)); refine blk_far ?_ NB427_433.out _; (with_reducible repeat (first | refine blk_drewN ?_ _ | refine blk_drew ?_ | refine blk_alloc ?_ _)); refine blk_far ?_ NB427_433.out _; (with_reducible repeat (first | refine blk_drewN ?_ _ | refine blk_drew ?_ | refine blk_alloc ?_ _)); refine blk_far ?_ NB427_433.out _; (with_reducible repeat (first | refine blk_drewN ?_ _ | refine blk_drew ?_ | refine blk_alloc ?_ _)); refine blk_far ?_ NB427_433.out _; (with_reducible repeat (first | refine blk_drewN ?_ _ | refine blk_drew ?_ | refine blk_alloc ?_ _)); exact BK427.out) hb); have n1_ := Aside0.mk (blk_below (g := gb433) (o := .cells #[.int .i64 t428, .int .i64 t429, .int .i64 t430, .int .i64 t431, .int .i64 t432] 43 (0, 0)) (by (with_reducible repeat (first | refine blk_drewN ?_ _ | refine blk_drew ?_ | refine blk_alloc ?_ _)); refine blk_put (cs := #[.int .i64 t428, .int .i64 t429, .int .i64 t430, .int .i64 t431, .int .i64 0]) ?_ 4 _ rfl; (with_reducible repeat (first | refine blk_drewN ?_ _ | refine blk_drew ?_ | refine blk_alloc ?_ _)); refine blk_put (cs := #[.int .i64 t428, .int .i64 t429, .int .i64 t430, .int .i64 0, .int .i64 0]) ?_ 3 _ rfl; (with_reducible repeat (first | refine blk_drewN ?_ _ | refine blk_drew ?_ | refine blk_alloc ?_ _)); refine blk_put (cs := #[.int .i64 t428, .int .i64 t429, .int .i64 0, .int .i64 0, .int .i64 0]) ?_ 2 _ rfl; (with_reducible repeat (first | refine blk_drewN ?_ _ | refine blk_drew ?_ | refine blk_alloc ?_ _)); refine blk_put (cs := #[.int .i64 t428, .int .i64 0, .int .i64 0, .int .i64 0, .int .i64 0]) ?_ 1 _ rfl; (with_reducible repeat (first | refine blk_drewN ?_ _ | refine blk_drew ?_ | refine blk_alloc ?_ _)); refine blk_put (cs := #[.int .i64 0, .int .i64 0, .int .i64 0, .int .i64 0, .int .i64 0]) ?_ 0 _ rfl; (with_reducible repeat (first | refine blk_drewN ?_ _ | refine blk_drew ?_ | refine blk_alloc ?_ _)); exact BK433.out) hb); have n2_ := Aside0.mk (below_step (by repeat (first | (with_reducible first | exact HB.out | apply below_alloc | apply pw_below_drewN | apply below_drew1 | refine below_set ?_ GE427.out | refine below_set ?_ GE433.out) | exact HB.out)) hb); clear BK427; clear BK433; clear HB; have BK427 := n0_; have BK433 := n1_; have HB := n2_; clear n0_ n1_ n2_; (try clear hb); (try clear hb2); (try clear hk); (try clear hi)))
          go_roundg k1
          case measure => have := HK1.out; omega
          case rel => exact ⟨(wrap64 (x4_1 + 1)), (x428000_1), (x428001_1), (x428002_1), (x428003_1), (x428004_1), (by first | rfl | (simp; done) | (simp [*]; done)), H', ⟨by have := HK1.out; omega⟩, ⟨by (with_reducible repeat (first | refine blk_drewN ?_ _ | refine blk_drew ?_ | refine blk_alloc ?_ _)); exact BK427.out⟩, ⟨by repeat (first | (with_reducible first | exact HB.out | apply below_alloc | apply pw_below_drewN | apply below_drew1 | refine below_set ?_ GE427.out | refine below_set ?_ GE433.out) | exact HB.out)⟩⟩
      · rw [if_neg c3] at H
        have c3b0 : decide (x4_1 ≤ 42) = false := decide_eq_false c3
        clear c3
        simp only [Option.some.injEq, Prod.mk.injEq] at H
        obtain ⟨rfl, rfl, rfl, rfl, rfl, rfl⟩ := H
        have hcz25_0 : wr.cell? ⟨gb427, 0, none⟩ = some (.int .i64 x428000_1) := (blk_cell BK427.out 0).trans rfl
        have hcz25_1 : wr.cell? ⟨gb427, 1, none⟩ = some (.int .i64 x428001_1) := (blk_cell BK427.out 1).trans rfl
        have hcz25_2 : wr.cell? ⟨gb427, 2, none⟩ = some (.int .i64 x428002_1) := (blk_cell BK427.out 2).trans rfl
        have hcz25_3 : wr.cell? ⟨gb427, 3, none⟩ = some (.int .i64 x428003_1) := (blk_cell BK427.out 3).trans rfl
        have hcz25_4 : wr.cell? ⟨gb427, 4, none⟩ = some (.int .i64 x428004_1) := (blk_cell BK427.out 4).trans rfl
        have hfz25_0 := blk_frozen BK427.out 0
        have hfz25_1 := blk_frozen BK427.out 1
        have hfz25_2 := blk_frozen BK427.out 2
        have hfz25_3 := blk_frozen BK427.out 3
        have hfz25_4 := blk_frozen BK427.out 4
        go_wp2
        refine bodyPost_ret (results_ct rfl _ _ gb427 43 #[.int .i64 0, .int .i64 0, .int .i64 0, .int .i64 0, .int .i64 0] (0, 0) _ rfl (by (with_reducible repeat (first | refine blk_drewN ?_ _ | refine blk_drew ?_ | refine blk_alloc ?_ _)); refine blk_put (cs := #[.int .i64 0, .int .i64 0, .int .i64 0, .int .i64 0, .int .i64 x428004_1]) ?_ 4 _ rfl; (with_reducible repeat (first | refine blk_drewN ?_ _ | refine blk_drew ?_ | refine blk_alloc ?_ _)); refine blk_put (cs := #[.int .i64 0, .int .i64 0, .int .i64 0, .int .i64 x428003_1, .int .i64 x428004_1]) ?_ 3 _ rfl; (with_reducible repeat (first | refine blk_drewN ?_ _ | refine blk_drew ?_ | refine blk_alloc ?_ _)); refine blk_put (cs := #[.int .i64 0, .int .i64 0, .int .i64 x428002_1, .int .i64 x428003_1, .int .i64 x428004_1]) ?_ 2 _ rfl; (with_reducible repeat (first | refine blk_drewN ?_ _ | refine blk_drew ?_ | refine blk_alloc ?_ _)); refine blk_put (cs := #[.int .i64 0, .int .i64 x428001_1, .int .i64 x428002_1, .int .i64 x428003_1, .int .i64 x428004_1]) ?_ 1 _ rfl; (with_reducible repeat (first | refine blk_drewN ?_ _ | refine blk_drew ?_ | refine blk_alloc ?_ _)); refine blk_put (cs := #[.int .i64 x428000_1, .int .i64 x428001_1, .int .i64 x428002_1, .int .i64 x428003_1, .int .i64 x428004_1]) ?_ 0 _ rfl; (with_reducible repeat (first | refine blk_drewN ?_ _ | refine blk_drew ?_ | refine blk_alloc ?_ _)); exact BK427.out) Tryd.underlying43 rfl (by kernel_rfl)) rfl ?_
        exact ⟨by first | rfl | (simp [errW_none, errW_some] <;> rfl) | (simp [*, errW_none, errW_some] <;> rfl), by repeat (first | (with_reducible first | exact HB.out | apply below_alloc | apply pw_below_drewN | apply below_drew1 | refine below_set ?_ GE427.out) | exact HB.out)⟩
end Go.Proofs.YtaoajlaocphgdaaDoor.PA
end
