/-
Texts of this proof, put together: part 5.
-/
import Derived.Test.YtaoajlaocphgdaaDoorLv4

section
namespace Go.Proofs.YtaoajlaocphgdaaDoor.PA
open Go.RowKit Go.Proofs.YtaoajlaocphgdaaDoorW.PrintWords Go.Proofs.YtaoajlaocphgdaaDoorW.PrintLast Go.Proofs.YtaoajlaocphgdaaDoorW.PrintMore
attribute [local go_sem] max2_int min2_int max_two min_two max_three min_three max_four min_four   -- for this text's walks alone
set_option linter.unusedVariables false
set_option linter.unusedSimpArgs false
mutual
def caponierref02_Encode.j0 : Nat → ByteArray → Int → Bool → Int → Int → Int → Int → Int → Option (Int × Int)
  | 0, _, _, _, _, _, _, _, _ => none
  | k + 1, x4, x5, x39, x205000, x205001, x205002, x205003, x205004 => if x39 = true then ((caponierref02_Kind.f x205000).bind fun t208 => (caponierref02_Encode.j1 k x4 (IntKind.u64.wrap (x5 + (IntKind.u64.wrap (t208 * 4096)))) x205000 x205001 x205002 x205003 x205004)) else (caponierref02_Encode.j1 k x4 x5 x205000 x205001 x205002 x205003 x205004)
def caponierref02_Encode.j1 : Nat → ByteArray → Int → Int → Int → Int → Int → Int → Option (Int × Int)
  | 0, _, _, _, _, _, _, _ => none
  | k + 1, x4, x5, x205000, x205001, x205002, x205003, x205004 => if x4.toList = ([82] : List UInt8) then ((caponierref02_Top.f k x205000).bind fun t209 => (some ((IntKind.u64.wrap (x5 + (IntKind.u64.wrap (t209 * 33554432)))) % 4294967296, 0))) else (if x4.toList = ([73] : List UInt8) then ((caponierref02_bit.f k x205004 0 12 20).bind fun t210 => ((caponierref02_Shift.f x205000).bind fun t211 => (if t211 = true then ((caponierref02_Top.f k x205000).bind fun t212 => (some ((IntKind.u64.wrap ((IntKind.u64.wrap (x5 + t210)) + (IntKind.u64.wrap (t212 * 33554432)))) % 4294967296, 0))) else (some ((IntKind.u64.wrap (x5 + t210)) % 4294967296, 0))))) else (if x4.toList = ([83] : List UInt8) then ((caponierref02_bit.f k x205004 0 5 7).bind fun t213 => ((caponierref02_bit.f k x205004 5 7 25).bind fun t214 => (some ((IntKind.u64.wrap ((IntKind.u64.wrap (x5 + t213)) + t214)) % 4294967296, 0)))) else (if x4.toList = ([66] : List UInt8) then ((caponierref02_bit.f k x205004 1 4 8).bind fun t215 => ((caponierref02_bit.f k x205004 5 6 25).bind fun t216 => ((caponierref02_bit.f k x205004 11 1 7).bind fun t217 => ((caponierref02_bit.f k x205004 12 1 31).bind fun t218 => (some ((IntKind.u64.wrap ((IntKind.u64.wrap ((IntKind.u64.wrap ((IntKind.u64.wrap (x5 + t215)) + t216)) + t217)) + t218)) % 4294967296, 0)))))) else (if x4.toList = ([85] : List UInt8) then ((caponierref02_bit.f k x205004 12 20 12).bind fun t219 => (some ((IntKind.u64.wrap (x5 + t219)) % 4294967296, 0))) else (if x4.toList = ([74] : List UInt8) then ((caponierref02_bit.f k x205004 1 10 21).bind fun t220 => ((caponierref02_bit.f k x205004 11 1 20).bind fun t221 => ((caponierref02_bit.f k x205004 12 8 12).bind fun t222 => ((caponierref02_bit.f k x205004 20 1 31).bind fun t223 => (some ((IntKind.u64.wrap ((IntKind.u64.wrap ((IntKind.u64.wrap ((IntKind.u64.wrap (x5 + t220)) + t221)) + t222)) + t223)) % 4294967296, 0)))))) else (some ((x5) % 4294967296, 0)))))))
end
def caponierref02_Encode.f (k : Nat) (a0_0 : Int) (a0_1 : Int) (a0_2 : Int) (a0_3 : Int) (a0_4 : Int) : Option (Int × Int) := (caponierref02_May.f k a0_0 a0_1 a0_2 a0_3 a0_4).bind fun t205 => (if t205 = true then (if a0_0 = 42 then (some (1048691, 0)) else ((caponierref02_Form.f k a0_0).bind fun t206 => ((caponierref02_low.f a0_0).bind fun t207 => (if t206.toList = ([85] : List UInt8) then (caponierref02_Encode.j0 k t206 (IntKind.u64.wrap ((IntKind.u64.wrap ((IntKind.u64.wrap (t207 + (IntKind.u64.wrap ((IntKind.u64.wrap (a0_1)) * 128)))) + (IntKind.u64.wrap ((IntKind.u64.wrap (a0_2)) * 32768)))) + (IntKind.u64.wrap ((IntKind.u64.wrap (a0_3)) * 1048576)))) false a0_0 a0_1 a0_2 a0_3 a0_4) else (caponierref02_Encode.j0 k t206 (IntKind.u64.wrap ((IntKind.u64.wrap ((IntKind.u64.wrap (t207 + (IntKind.u64.wrap ((IntKind.u64.wrap (a0_1)) * 128)))) + (IntKind.u64.wrap ((IntKind.u64.wrap (a0_2)) * 32768)))) + (IntKind.u64.wrap ((IntKind.u64.wrap (a0_3)) * 1048576)))) (t206.toList != ([74] : List UInt8)) a0_0 a0_1 a0_2 a0_3 a0_4))))) else (some (0, 1)))
theorem caponierref02_Encode.mono_l : ∀ k, (∀ y0 y1 y2 y3 y4 y5 y6 y7, LeO (caponierref02_Encode.j0 k y0 y1 y2 y3 y4 y5 y6 y7) (caponierref02_Encode.j0 (k + 1) y0 y1 y2 y3 y4 y5 y6 y7)) ∧ (∀ y0 y1 y2 y3 y4 y5 y6, LeO (caponierref02_Encode.j1 k y0 y1 y2 y3 y4 y5 y6) (caponierref02_Encode.j1 (k + 1) y0 y1 y2 y3 y4 y5 y6))
  | 0 => ⟨fun _ _ _ _ _ _ _ _ r h => by simp [caponierref02_Encode.j0] at h, fun _ _ _ _ _ _ _ r h => by simp [caponierref02_Encode.j1] at h⟩
  | k + 1 => by
    obtain ⟨ih0, ih1⟩ := caponierref02_Encode.mono_l k
    refine ⟨?_, ?_⟩
    · intro y0 y1 y2 y3 y4 y5 y6 y7
      unfold caponierref02_Encode.j0
      repeat' first
      | (with_reducible exact ih0 _ _ _ _ _ _ _ _)
      | (with_reducible exact ih1 _ _ _ _ _ _ _)
      | (with_reducible exact caponierref02_Form.mono _ _)
      | (with_reducible exact caponierref02_May.mono _ _ _ _ _ _)
      | (with_reducible exact caponierref02_Top.mono _ _)
      | (with_reducible exact caponierref02_bit.mono _ _ _ _ _)
      | (with_reducible exact LeO.refl _)
      | (with_reducible exact LeO.none _)
      | (with_reducible refine LeO.ite ?_ ?_)
      | (with_reducible refine LeO.bind ?_ (fun _ => ?_))
      | exact ih0 _ _ _ _ _ _ _ _
      | exact ih1 _ _ _ _ _ _ _
      | exact caponierref02_Form.mono _ _
      | exact caponierref02_May.mono _ _ _ _ _ _
      | exact caponierref02_Top.mono _ _
      | exact caponierref02_bit.mono _ _ _ _ _
      | exact LeO.none _
      | refine LeO.ite ?_ ?_
      | refine LeO.bind ?_ (fun _ => ?_)
    · intro y0 y1 y2 y3 y4 y5 y6
      unfold caponierref02_Encode.j1
      repeat' first
      | (with_reducible exact ih0 _ _ _ _ _ _ _ _)
      | (with_reducible exact ih1 _ _ _ _ _ _ _)
      | (with_reducible exact caponierref02_Form.mono _ _)
      | (with_reducible exact caponierref02_May.mono _ _ _ _ _ _)
      | (with_reducible exact caponierref02_Top.mono _ _)
      | (with_reducible exact caponierref02_bit.mono _ _ _ _ _)
      | (with_reducible exact LeO.refl _)
      | (with_reducible exact LeO.none _)
      | (with_reducible refine LeO.ite ?_ ?_)
      | (with_reducible refine LeO.bind ?_ (fun _ => ?_))
      | exact ih0 _ _ _ _ _ _ _ _
      | exact ih1 _ _ _ _ _ _ _
      | exact caponierref02_Form.mono _ _
      | exact caponierref02_May.mono _ _ _ _ _ _
      | exact caponierref02_Top.mono _ _
      | exact caponierref02_bit.mono _ _ _ _ _
      | exact LeO.none _
      | refine LeO.ite ?_ ?_
      | refine LeO.bind ?_ (fun _ => ?_)
theorem caponierref02_Encode.mono : ∀ a0 a1 a2 a3 a4 k, LeO (caponierref02_Encode.f k a0 a1 a2 a3 a4) (caponierref02_Encode.f (k + 1) a0 a1 a2 a3 a4) := by
  intro a0 a1 a2 a3 a4 k
  obtain ⟨ih0, ih1⟩ := caponierref02_Encode.mono_l k
  unfold caponierref02_Encode.f
  repeat' first
      | (with_reducible exact ih0 _ _ _ _ _ _ _ _)
      | (with_reducible exact ih1 _ _ _ _ _ _ _)
      | (with_reducible exact caponierref02_Form.mono _ _)
      | (with_reducible exact caponierref02_May.mono _ _ _ _ _ _)
      | (with_reducible exact caponierref02_Top.mono _ _)
      | (with_reducible exact caponierref02_bit.mono _ _ _ _ _)
      | (with_reducible exact LeO.refl _)
      | (with_reducible exact LeO.none _)
      | (with_reducible refine LeO.ite ?_ ?_)
      | (with_reducible refine LeO.bind ?_ (fun _ => ?_))
      | exact ih0 _ _ _ _ _ _ _ _
      | exact ih1 _ _ _ _ _ _ _
      | exact caponierref02_Form.mono _ _
      | exact caponierref02_May.mono _ _ _ _ _ _
      | exact caponierref02_Top.mono _ _
      | exact caponierref02_bit.mono _ _ _ _ _
      | exact LeO.none _
      | refine LeO.ite ?_ ?_
      | refine LeO.bind ?_ (fun _ => ?_)
def caponierref02_Encode.T6 : Bool × List (List Nat × List Nat) := (true, [([], []), ([0], [0]), ([1], [1]), ([], []), ([3], [3]), ([4], [4]), ([5], [5]), ([2, 6], [2, 6]), ([], []), ([8], [8]), ([9], [9]), ([10], [10]), ([7, 11], [7, 11]), ([], []), ([13], [13]), ([14], [14]), ([15], [15]), ([12, 16], [12, 16]), ([17, 2, 0, 1, 2, 3, 4, 5, 6, 7, 8, 9, 10, 11, 12, 13, 14, 15, 16, 17], [17])])
def caponierref02_Encode.B6 : List Nat := [0, 1, 3, 0, 8, 24, 56, 127, 0, 256, 768, 1792, 4095, 0, 8192, 24576, 57344, 131071, 262143]
theorem caponierref02_Encode.tab6 : rtab .any (opsOf Tryd.f18 6) = caponierref02_Encode.T6 := by kernel_rfl
theorem caponierref02_Encode.bits6 : waitsOk caponierref02_Encode.T6.2 caponierref02_Encode.B6 = true := by kernel_rfl
set_option maxHeartbeats 8000000 in
set_option maxRecDepth 100000 in
theorem caponierref02_Encode.calls (k : Nat) (a0_0 : Int) (a0_1 : Int) (a0_2 : Int) (a0_3 : Int) (a0_4 : Int) (r1 : Int) (r2 : Int) (w : World) (h : caponierref02_Encode.f k a0_0 a0_1 a0_2 a0_3 a0_4 = some (r1, r2)) :
    Calls Tryd.prog 18 #[.agg #[.int .i64 a0_0, .int .i64 a0_1, .int .i64 a0_2, .int .i64 a0_3, .int .i64 a0_4]] w fun e w' => e = .returned (.tuple #[.int .u32 r1, .int .i64 r2]) ∧ Below w.heap.size w w' := by
  have hu43 := Tryd.underlying43
  have HB := Aside0.mk (Below.refl w.heap.size w)
  have H : ((caponierref02_May.f k a0_0 a0_1 a0_2 a0_3 a0_4).bind fun t205 => (if t205 = true then (if a0_0 = 42 then (some (1048691, 0)) else ((caponierref02_Form.f k a0_0).bind fun t206 => ((caponierref02_low.f a0_0).bind fun t207 => (if t206.toList = ([85] : List UInt8) then (caponierref02_Encode.j0 k t206 (IntKind.u64.wrap ((IntKind.u64.wrap ((IntKind.u64.wrap (t207 + (IntKind.u64.wrap ((IntKind.u64.wrap (a0_1)) * 128)))) + (IntKind.u64.wrap ((IntKind.u64.wrap (a0_2)) * 32768)))) + (IntKind.u64.wrap ((IntKind.u64.wrap (a0_3)) * 1048576)))) false a0_0 a0_1 a0_2 a0_3 a0_4) else (caponierref02_Encode.j0 k t206 (IntKind.u64.wrap ((IntKind.u64.wrap ((IntKind.u64.wrap (t207 + (IntKind.u64.wrap ((IntKind.u64.wrap (a0_1)) * 128)))) + (IntKind.u64.wrap ((IntKind.u64.wrap (a0_2)) * 32768)))) + (IntKind.u64.wrap ((IntKind.u64.wrap (a0_3)) * 1048576)))) (t206.toList != ([74] : List UInt8)) a0_0 a0_1 a0_2 a0_3 a0_4))))) else (some (0, 1)))) = some (r1, r2) := h
  clear h
  replace H := Option.bind_eq_some_iff.mp H
  obtain ⟨t205, A20, H⟩ := H
  replace H : (if t205 = true then (if a0_0 = 42 then (some (1048691, 0)) else ((caponierref02_Form.f k a0_0).bind fun t206 => ((caponierref02_low.f a0_0).bind fun t207 => (if t206.toList = ([85] : List UInt8) then (caponierref02_Encode.j0 k t206 (IntKind.u64.wrap ((IntKind.u64.wrap ((IntKind.u64.wrap (t207 + (IntKind.u64.wrap ((IntKind.u64.wrap (a0_1)) * 128)))) + (IntKind.u64.wrap ((IntKind.u64.wrap (a0_2)) * 32768)))) + (IntKind.u64.wrap ((IntKind.u64.wrap (a0_3)) * 1048576)))) false a0_0 a0_1 a0_2 a0_3 a0_4) else (caponierref02_Encode.j0 k t206 (IntKind.u64.wrap ((IntKind.u64.wrap ((IntKind.u64.wrap (t207 + (IntKind.u64.wrap ((IntKind.u64.wrap (a0_1)) * 128)))) + (IntKind.u64.wrap ((IntKind.u64.wrap (a0_2)) * 32768)))) + (IntKind.u64.wrap ((IntKind.u64.wrap (a0_3)) * 1048576)))) (t206.toList != ([74] : List UInt8)) a0_0 a0_1 a0_2 a0_3 a0_4))))) else (some (0, 1))) = some (r1, r2) := H
  have A2 := Aside0.mk A20
  clear A20
  by_cases c3 : t205 = true
  · subst c3
    have H1 : (if a0_0 = 42 then (some (1048691, 0)) else ((caponierref02_Form.f k a0_0).bind fun t206 => ((caponierref02_low.f a0_0).bind fun t207 => (if t206.toList = ([85] : List UInt8) then (caponierref02_Encode.j0 k t206 (IntKind.u64.wrap ((IntKind.u64.wrap ((IntKind.u64.wrap (t207 + (IntKind.u64.wrap ((IntKind.u64.wrap (a0_1)) * 128)))) + (IntKind.u64.wrap ((IntKind.u64.wrap (a0_2)) * 32768)))) + (IntKind.u64.wrap ((IntKind.u64.wrap (a0_3)) * 1048576)))) false a0_0 a0_1 a0_2 a0_3 a0_4) else (caponierref02_Encode.j0 k t206 (IntKind.u64.wrap ((IntKind.u64.wrap ((IntKind.u64.wrap (t207 + (IntKind.u64.wrap ((IntKind.u64.wrap (a0_1)) * 128)))) + (IntKind.u64.wrap ((IntKind.u64.wrap (a0_2)) * 32768)))) + (IntKind.u64.wrap ((IntKind.u64.wrap (a0_3)) * 1048576)))) (t206.toList != ([74] : List UInt8)) a0_0 a0_1 a0_2 a0_3 a0_4))))) = some (r1, r2) := by rw [if_pos rfl] at H; exact H
    clear H
    have H := H1
    clear H1
    by_cases c4 : a0_0 = 42
    · rw [if_pos c4] at H
      have c4b0 : (a0_0 == 42) = true := beq_iff_eq.mpr c4
      have c4b1 : (a0_0 != 42) = false := bne_eq_false_iff_eq.mpr c4
      clear c4
      simp only [Option.some.injEq, Prod.mk.injEq] at H
      obtain ⟨rfl, rfl⟩ := H
      go_enter Tryd.func18, Tryd.ntmps18
      go_wp2_with (first | ((with_reducible refine gate_dst (N := 1) rfl ?_); refine box_event ?hg (N := 1) ?hd (cs := #[.int .i64 a0_0, .int .i64 a0_1, .int .i64 a0_2, .int .i64 a0_3, .int .i64 a0_4]) (t := 43) ?hr ?_; (case hd => rfl); (case hg => rfl); (case hr => first | (go_simp; done) | (go_simp; rfl)); intro gb204 hg w5 hbox hb; have n0_ := Aside0.mk (below_step (by repeat (first | (with_reducible first | exact HB.out | apply below_alloc | apply pw_below_drewN | apply below_drew1) | exact HB.out)) hb); have n1_ := Aside0.mk (hbox); have n2_ := Aside0.mk ((by rw [hg]; exact (below_size (by repeat (first | (with_reducible first | exact HB.out | apply below_alloc | apply pw_below_drewN | apply below_drew1) | exact HB.out))) : w.heap.size ≤ gb204)); have n3_ := Aside0.mk ((by rw [hg]; exact (below_size (by repeat (first | (with_reducible first | exact HB.out | apply below_alloc | apply pw_below_drewN | apply below_drew1) | exact HB.out))) : w.heap.size ≤ gb204)); clear HB; have HB := n0_; have BK204 := n1_; have GW204 := n2_; have GE204 := n3_; clear n0_ n1_ n2_ n3_; clear hb hbox hg; have hcz6_0 : w5.cell? ⟨gb204, 0, none⟩ = some (.int .i64 a0_0) := (blk_cell BK204.out 0).trans rfl; have hcz6_1 : w5.cell? ⟨gb204, 1, none⟩ = some (.int .i64 a0_1) := (blk_cell BK204.out 1).trans rfl; have hcz6_2 : w5.cell? ⟨gb204, 2, none⟩ = some (.int .i64 a0_2) := (blk_cell BK204.out 2).trans rfl; have hcz6_3 : w5.cell? ⟨gb204, 3, none⟩ = some (.int .i64 a0_3) := (blk_cell BK204.out 3).trans rfl; have hcz6_4 : w5.cell? ⟨gb204, 4, none⟩ = some (.int .i64 a0_4) := (blk_cell BK204.out 4).trans rfl; have hfz6_0 := blk_frozen BK204.out 0; have hfz6_1 := blk_frozen BK204.out 1; have hfz6_2 := blk_frozen BK204.out 2; have hfz6_3 := blk_frozen BK204.out 3; have hfz6_4 := blk_frozen BK204.out 4) | ((with_reducible refine gate_callee (f := 30) rfl ?_); refine goesL_ (some 8) rfl rfl Tryd.func30 (by kernel_rfl) rfl #[.agg #[.int .i64 a0_0, .int .i64 a0_1, .int .i64 a0_2, .int .i64 a0_3, .int .i64 a0_4]] rfl (by (try simp only [List.map_toArray, List.map_cons, List.map_nil]); first | done | rfl | (simp only [List.length_drop, List.length_take]; rfl)) ?_; (with_reducible refine (caponierref02_May.calls k a0_0 a0_1 a0_2 a0_3 a0_4 true _ A2.out).mono ?_); rintro e w7 ⟨rfl, hb⟩; refine ⟨_, rfl, ?_⟩; have n0_ := Aside0.mk (blk_below (g := gb204) (o := .cells #[.int .i64 a0_0, .int .i64 a0_1, .int .i64 a0_2, .int .i64 a0_3, .int .i64 a0_4] 43 (0, 0)) (by (with_reducible repeat (first | refine blk_drewN ?_ _ | refine blk_drew ?_ | refine blk_alloc ?_ _)); exact BK204.out) hb); have n1_ := Aside0.mk (below_step (by repeat (first | (with_reducible first | exact HB.out | apply below_alloc | apply pw_below_drewN | apply below_drew1 | refine below_set ?_ GE204.out) | exact HB.out)) hb); clear BK204; clear HB; have BK204 := n0_; have HB := n1_; clear n0_ n1_; (try clear hb); (try clear hb2); (try clear hk); (try clear hi); have hcz8_0 : w7.cell? ⟨gb204, 0, none⟩ = some (.int .i64 a0_0) := (blk_cell BK204.out 0).trans rfl; have hcz8_1 : w7.cell? ⟨gb204, 1, none⟩ = some (.int .i64 a0_1) := (blk_cell BK204.out 1).trans rfl; have hcz8_2 : w7.cell? ⟨gb204, 2, none⟩ = some (.int .i64 a0_2) := (blk_cell BK204.out 2).trans rfl; have hcz8_3 : w7.cell? ⟨gb204, 3, none⟩ = some (.int .i64 a0_3) := (blk_cell BK204.out 3).trans rfl; have hcz8_4 : w7.cell? ⟨gb204, 4, none⟩ = some (.int .i64 a0_4) := (blk_cell BK204.out 4).trans rfl; have hfz8_0 := blk_frozen BK204.out 0; have hfz8_1 := blk_frozen BK204.out 1; have hfz8_2 := blk_frozen BK204.out 2; have hfz8_3 := blk_frozen BK204.out 3; have hfz8_4 := blk_frozen BK204.out 4))
      go_ret2
      exact ⟨by first | rfl | (simp [errW_none, errW_some] <;> rfl) | (simp [*, errW_none, errW_some] <;> rfl), by repeat (first | (with_reducible first | exact HB.out | apply below_alloc | apply pw_below_drewN | apply below_drew1 | refine below_set ?_ GE204.out) | exact HB.out)⟩
    · rw [if_neg c4] at H
      have c4b0 : (a0_0 == 42) = false := beq_eq_false_iff_ne.mpr c4
      have c4b1 : (a0_0 != 42) = true := bne_iff_ne.mpr c4
      replace H := Option.bind_eq_some_iff.mp H
      obtain ⟨t206, A90, H⟩ := H
      replace H : ((caponierref02_low.f a0_0).bind fun t207 => (if t206.toList = ([85] : List UInt8) then (caponierref02_Encode.j0 k t206 (IntKind.u64.wrap ((IntKind.u64.wrap ((IntKind.u64.wrap (t207 + (IntKind.u64.wrap ((IntKind.u64.wrap (a0_1)) * 128)))) + (IntKind.u64.wrap ((IntKind.u64.wrap (a0_2)) * 32768)))) + (IntKind.u64.wrap ((IntKind.u64.wrap (a0_3)) * 1048576)))) false a0_0 a0_1 a0_2 a0_3 a0_4) else (caponierref02_Encode.j0 k t206 (IntKind.u64.wrap ((IntKind.u64.wrap ((IntKind.u64.wrap (t207 + (IntKind.u64.wrap ((IntKind.u64.wrap (a0_1)) * 128)))) + (IntKind.u64.wrap ((IntKind.u64.wrap (a0_2)) * 32768)))) + (IntKind.u64.wrap ((IntKind.u64.wrap (a0_3)) * 1048576)))) (t206.toList != ([74] : List UInt8)) a0_0 a0_1 a0_2 a0_3 a0_4))) = some (r1, r2) := H
      have A9 := Aside0.mk A90
      clear A90
      replace H := Option.bind_eq_some_iff.mp H
      obtain ⟨t207, A100, H⟩ := H
      replace H : (if t206.toList = ([85] : List UInt8) then (caponierref02_Encode.j0 k t206 (IntKind.u64.wrap ((IntKind.u64.wrap ((IntKind.u64.wrap (t207 + (IntKind.u64.wrap ((IntKind.u64.wrap (a0_1)) * 128)))) + (IntKind.u64.wrap ((IntKind.u64.wrap (a0_2)) * 32768)))) + (IntKind.u64.wrap ((IntKind.u64.wrap (a0_3)) * 1048576)))) false a0_0 a0_1 a0_2 a0_3 a0_4) else (caponierref02_Encode.j0 k t206 (IntKind.u64.wrap ((IntKind.u64.wrap ((IntKind.u64.wrap (t207 + (IntKind.u64.wrap ((IntKind.u64.wrap (a0_1)) * 128)))) + (IntKind.u64.wrap ((IntKind.u64.wrap (a0_2)) * 32768)))) + (IntKind.u64.wrap ((IntKind.u64.wrap (a0_3)) * 1048576)))) (t206.toList != ([74] : List UInt8)) a0_0 a0_1 a0_2 a0_3 a0_4)) = some (r1, r2) := H
      have A10 := Aside0.mk A100
      clear A100
      have HC11 := Aside0.mk H
      clear H
      go_enter Tryd.func18, Tryd.ntmps18
      try go_wp2_with (first | ((with_reducible refine gate_dst (N := 1) rfl ?_); refine box_event ?hg (N := 1) ?hd (cs := #[.int .i64 a0_0, .int .i64 a0_1, .int .i64 a0_2, .int .i64 a0_3, .int .i64 a0_4]) (t := 43) ?hr ?_; (case hd => rfl); (case hg => rfl); (case hr => first | (go_simp; done) | (go_simp; rfl)); intro gb204 hg w12 hbox hb; have n0_ := Aside0.mk (below_step (by repeat (first | (with_reducible first | exact HB.out | apply below_alloc | apply pw_below_drewN | apply below_drew1) | exact HB.out)) hb); have n1_ := Aside0.mk (hbox); have n2_ := Aside0.mk ((by rw [hg]; exact (below_size (by repeat (first | (with_reducible first | exact HB.out | apply below_alloc | apply pw_below_drewN | apply below_drew1) | exact HB.out))) : w.heap.size ≤ gb204)); have n3_ := Aside0.mk ((by rw [hg]; exact (below_size (by repeat (first | (with_reducible first | exact HB.out | apply below_alloc | apply pw_below_drewN | apply below_drew1) | exact HB.out))) : w.heap.size ≤ gb204)); clear HB; have HB := n0_; have BK204 := n1_; have GW204 := n2_; have GE204 := n3_; clear n0_ n1_ n2_ n3_; clear hb hbox hg; have hcz13_0 : w12.cell? ⟨gb204, 0, none⟩ = some (.int .i64 a0_0) := (blk_cell BK204.out 0).trans rfl; have hcz13_1 : w12.cell? ⟨gb204, 1, none⟩ = some (.int .i64 a0_1) := (blk_cell BK204.out 1).trans rfl; have hcz13_2 : w12.cell? ⟨gb204, 2, none⟩ = some (.int .i64 a0_2) := (blk_cell BK204.out 2).trans rfl; have hcz13_3 : w12.cell? ⟨gb204, 3, none⟩ = some (.int .i64 a0_3) := (blk_cell BK204.out 3).trans rfl; have hcz13_4 : w12.cell? ⟨gb204, 4, none⟩ = some (.int .i64 a0_4) := (blk_cell BK204.out 4).trans rfl; have hfz13_0 := blk_frozen BK204.out 0; have hfz13_1 := blk_frozen BK204.out 1; have hfz13_2 := blk_frozen BK204.out 2; have hfz13_3 := blk_frozen BK204.out 3; have hfz13_4 := blk_frozen BK204.out 4) | ((with_reducible refine gate_callee (f := 30) rfl ?_); refine goesL_ (some 8) rfl rfl Tryd.func30 (by kernel_rfl) rfl #[.agg #[.int .i64 a0_0, .int .i64 a0_1, .int .i64 a0_2, .int .i64 a0_3, .int .i64 a0_4]] rfl (by (try simp only [List.map_toArray, List.map_cons, List.map_nil]); first | done | rfl | (simp only [List.length_drop, List.length_take]; rfl)) ?_; (with_reducible refine (caponierref02_May.calls k a0_0 a0_1 a0_2 a0_3 a0_4 true _ A2.out).mono ?_); rintro e w14 ⟨rfl, hb⟩; refine ⟨_, rfl, ?_⟩; have n0_ := Aside0.mk (blk_below (g := gb204) (o := .cells #[.int .i64 a0_0, .int .i64 a0_1, .int .i64 a0_2, .int .i64 a0_3, .int .i64 a0_4] 43 (0, 0)) (by (with_reducible repeat (first | refine blk_drewN ?_ _ | refine blk_drew ?_ | refine blk_alloc ?_ _)); exact BK204.out) hb); have n1_ := Aside0.mk (below_step (by repeat (first | (with_reducible first | exact HB.out | apply below_alloc | apply pw_below_drewN | apply below_drew1 | refine below_set ?_ GE204.out) | exact HB.out)) hb); clear BK204; clear HB; have BK204 := n0_; have HB := n1_; clear n0_ n1_; (try clear hb); (try clear hb2); (try clear hk); (try clear hi); have hcz15_0 : w14.cell? ⟨gb204, 0, none⟩ = some (.int .i64 a0_0) := (blk_cell BK204.out 0).trans rfl; have hcz15_1 : w14.cell? ⟨gb204, 1, none⟩ = some (.int .i64 a0_1) := (blk_cell BK204.out 1).trans rfl; have hcz15_2 : w14.cell? ⟨gb204, 2, none⟩ = some (.int .i64 a0_2) := (blk_cell BK204.out 2).trans rfl; have hcz15_3 : w14.cell? ⟨gb204, 3, none⟩ = some (.int .i64 a0_3) := (blk_cell BK204.out 3).trans rfl; have hcz15_4 : w14.cell? ⟨gb204, 4, none⟩ = some (.int .i64 a0_4) := (blk_cell BK204.out 4).trans rfl; have hfz15_0 := blk_frozen BK204.out 0; have hfz15_1 := blk_frozen BK204.out 1; have hfz15_2 := blk_frozen BK204.out 2; have hfz15_3 := blk_frozen BK204.out 3; have hfz15_4 := blk_frozen BK204.out 4) | ((with_reducible refine gate_callee (f := 16) rfl ?_); refine goesL_ (some 15) rfl rfl Tryd.func16 (by kernel_rfl) rfl #[.int .i64 a0_0] rfl (by (try simp only [List.map_toArray, List.map_cons, List.map_nil]); first | done | rfl | (simp only [List.length_drop, List.length_take]; rfl)) ?_; (with_reducible refine (caponierref02_Form.calls k a0_0 t206 _ A9.out).mono ?_); rintro e w' ⟨rfl, ⟨nd, rfl⟩⟩; refine ⟨_, rfl, ?_⟩))
      (try (rw [drewN_self w14]; generalize hq_ : World.drewN w14 _ = w14; have n0_ : Aside0 (w14.heap[gb204]? = some (.cells #[.int .i64 a0_0, .int .i64 a0_1, .int .i64 a0_2, .int .i64 a0_3, .int .i64 a0_4] 43 (0, 0))) := ⟨by rw [← hq_]; exact (by (with_reducible repeat (first | refine blk_drewN ?_ _ | refine blk_drew ?_ | refine blk_alloc ?_ _)); exact BK204.out)⟩; have n1_ : Aside0 (Below w.heap.size w w14) := ⟨by rw [← hq_]; exact (by repeat (first | (with_reducible first | exact HB.out | apply below_alloc | apply pw_below_drewN | apply below_drew1 | refine below_set ?_ GE204.out) | exact HB.out))⟩; clear BK204 HB hq_; have BK204 := n0_; have HB := n1_; clear n0_ n1_))
      have n0_ := Aside0.mk (blk_drew BK204.out)
      have n1_ := Aside0.mk (below_drew1 HB.out)
      clear BK204
      clear HB
      have BK204 := n0_
      have HB := n1_
      clear n0_ n1_
      refine start_ (n := 19) (S := fun w' => w'.cell? ⟨gb204, 0, none⟩ = some (.int .i64 a0_0) ∧ w'.cell? ⟨gb204, 1, none⟩ = some (.int .i64 a0_1) ∧ w'.cell? ⟨gb204, 2, none⟩ = some (.int .i64 a0_2) ∧ w'.cell? ⟨gb204, 3, none⟩ = some (.int .i64 a0_3) ∧ w'.cell? ⟨gb204, 4, none⟩ = some (.int .i64 a0_4)) (ds := []) #[false, false, false, false, false, false, false, false, false, false, false, false, false, false, false, false, false, false, false] (by kernel_rfl) rfl rfl ⟨(blk_cell BK204.out 0).trans rfl, (blk_cell BK204.out 1).trans rfl, (blk_cell BK204.out 2).trans rfl, (blk_cell BK204.out 3).trans rfl, (blk_cell BK204.out 4).trans rfl⟩ (fun hHeld => ?_); refine with_tabW caponierref02_Encode.tab6 caponierref02_Encode.bits6 (fun HT_ HW_ => ?_)
      generalize w14.drew = w16 at BK204 HB hHeld ⊢
      refine pure_ (i := 0) (N := some 16) (v := ?_) (a' := ?_) #[true, false, false, false, false, false, false, false, false, false, false, false, false, false, false, false, false, false, false] rfl rfl (any_of HT_.out (by kernel_rfl)) (fun _ _ _ h => h) (Or.inl ⟨by rfl, ?_⟩) ?_ ?_
      rotate_left
      · intro w'
        go_simp
        with_reducible rfl
      rotate_left
      · simp only [Act.put, List.setIfInBounds_toArray, List.set_cons_zero, List.set_cons_succ, i64_w, i32_w]
        rfl
      refine pure_ (i := 3) (N := some 19) (v := ?_) (a' := ?_) #[true, false, false, true, false, false, false, false, false, false, false, false, false, false, false, false, false, false, false] rfl rfl (any_of HT_.out (by kernel_rfl)) (fun _ _ _ h => h) (Or.inl ⟨by rfl, ?_⟩) ?_ ?_
      rotate_left
      · intro w'
        go_simp
        with_reducible rfl
      rotate_left
      · simp only [Act.put, List.setIfInBounds_toArray, List.set_cons_zero, List.set_cons_succ, i64_w, i32_w]
        rfl
      refine pure_ (i := 8) (N := some 24) (v := ?_) (a' := ?_) #[true, false, false, true, false, false, false, false, true, false, false, false, false, false, false, false, false, false, false] rfl rfl (any_of HT_.out (by kernel_rfl)) (fun _ _ _ h => h) (Or.inl ⟨by rfl, ?_⟩) ?_ ?_
      rotate_left
      · intro w'
        go_simp
        with_reducible rfl
      rotate_left
      · simp only [Act.put, List.setIfInBounds_toArray, List.set_cons_zero, List.set_cons_succ, i64_w, i32_w]
        rfl
      refine pure_ (i := 13) (N := some 29) (v := ?_) (a' := ?_) #[true, false, false, true, false, false, false, false, true, false, false, false, false, true, false, false, false, false, false] rfl rfl (any_of HT_.out (by kernel_rfl)) (fun _ _ _ h => h) (Or.inl ⟨by rfl, ?_⟩) ?_ ?_
      rotate_left
      · intro w'
        go_simp
        with_reducible rfl
      rotate_left
      · simp only [Act.put, List.setIfInBounds_toArray, List.set_cons_zero, List.set_cons_succ, i64_w, i32_w]
        rfl
      refine take_ (i := 1) (N := some 17) (v := ?_) (a' := ?_) #[true, true, false, true, false, false, false, false, true, false, false, false, false, true, false, false, false, false, false] rfl rfl (take_ofW HT_.out HW_.out (by kernel_rfl)) (fun _ _ _ h => h) (Or.inl ⟨by rfl, ?_⟩) hHeld ?_ ?_
      rotate_left
      · rintro w' ⟨s0, s1, s2, s3, s4⟩
        go_simp
        with_reducible rfl
      rotate_left
      · simp only [Act.put, List.setIfInBounds_toArray, List.set_cons_zero, List.set_cons_succ, i64_w, i32_w]
        rfl
      refine take_ (i := 4) (N := some 20) (v := ?_) (a' := ?_) #[true, true, false, true, true, false, false, false, true, false, false, false, false, true, false, false, false, false, false] rfl rfl (take_ofW HT_.out HW_.out (by kernel_rfl)) (fun _ _ _ h => h) (Or.inl ⟨by rfl, ?_⟩) hHeld ?_ ?_
      rotate_left
      · rintro w' ⟨s0, s1, s2, s3, s4⟩
        go_simp
        with_reducible rfl
      rotate_left
      · simp only [Act.put, List.setIfInBounds_toArray, List.set_cons_zero, List.set_cons_succ, i64_w, i32_w]
        rfl
      refine pure_ (i := 5) (N := some 21) (v := ?_) (a' := ?_) #[true, true, false, true, true, true, false, false, true, false, false, false, false, true, false, false, false, false, false] rfl rfl (any_of HT_.out (by kernel_rfl)) (fun _ _ _ h => h) (Or.inl ⟨by rfl, ?_⟩) ?_ ?_
      rotate_left
      · intro w'
        go_simp
        with_reducible rfl
      rotate_left
      · simp only [Act.put, List.setIfInBounds_toArray, List.set_cons_zero, List.set_cons_succ, i64_w, i32_w]
        rfl
      refine pure_ (i := 6) (N := some 22) (v := ?_) (a' := ?_) #[true, true, false, true, true, true, true, false, true, false, false, false, false, true, false, false, false, false, false] rfl rfl (any_of HT_.out (by kernel_rfl)) (fun _ _ _ h => h) (Or.inl ⟨by rfl, ?_⟩) ?_ ?_
      rotate_left
      · intro w'
        go_simp
        with_reducible rfl
      rotate_left
      · simp only [Act.put, List.setIfInBounds_toArray, List.set_cons_zero, List.set_cons_succ, i64_w, i32_w]
        rfl
      refine take_ (i := 9) (N := some 25) (v := ?_) (a' := ?_) #[true, true, false, true, true, true, true, false, true, true, false, false, false, true, false, false, false, false, false] rfl rfl (take_ofW HT_.out HW_.out (by kernel_rfl)) (fun _ _ _ h => h) (Or.inl ⟨by rfl, ?_⟩) hHeld ?_ ?_
      rotate_left
      · rintro w' ⟨s0, s1, s2, s3, s4⟩
        go_simp
        with_reducible rfl
      rotate_left
      · simp only [Act.put, List.setIfInBounds_toArray, List.set_cons_zero, List.set_cons_succ, i64_w, i32_w]
        rfl
      refine pure_ (i := 10) (N := some 26) (v := ?_) (a' := ?_) #[true, true, false, true, true, true, true, false, true, true, true, false, false, true, false, false, false, false, false] rfl rfl (any_of HT_.out (by kernel_rfl)) (fun _ _ _ h => h) (Or.inl ⟨by rfl, ?_⟩) ?_ ?_
      rotate_left
      · intro w'
        go_simp
        with_reducible rfl
      rotate_left
      · simp only [Act.put, List.setIfInBounds_toArray, List.set_cons_zero, List.set_cons_succ, i64_w, i32_w]
        rfl
      refine pure_ (i := 11) (N := some 27) (v := ?_) (a' := ?_) #[true, true, false, true, true, true, true, false, true, true, true, true, false, true, false, false, false, false, false] rfl rfl (any_of HT_.out (by kernel_rfl)) (fun _ _ _ h => h) (Or.inl ⟨by rfl, ?_⟩) ?_ ?_
      rotate_left
      · intro w'
        go_simp
        with_reducible rfl
      rotate_left
      · simp only [Act.put, List.setIfInBounds_toArray, List.set_cons_zero, List.set_cons_succ, i64_w, i32_w]
        rfl
      refine take_ (i := 14) (N := some 30) (v := ?_) (a' := ?_) #[true, true, false, true, true, true, true, false, true, true, true, true, false, true, true, false, false, false, false] rfl rfl (take_ofW HT_.out HW_.out (by kernel_rfl)) (fun _ _ _ h => h) (Or.inl ⟨by rfl, ?_⟩) hHeld ?_ ?_
      rotate_left
      · rintro w' ⟨s0, s1, s2, s3, s4⟩
        go_simp
        with_reducible rfl
      rotate_left
      · simp only [Act.put, List.setIfInBounds_toArray, List.set_cons_zero, List.set_cons_succ, i64_w, i32_w]
        rfl
      refine pure_ (i := 15) (N := some 31) (v := ?_) (a' := ?_) #[true, true, false, true, true, true, true, false, true, true, true, true, false, true, true, true, false, false, false] rfl rfl (any_of HT_.out (by kernel_rfl)) (fun _ _ _ h => h) (Or.inl ⟨by rfl, ?_⟩) ?_ ?_
      rotate_left
      · intro w'
        go_simp
        with_reducible rfl
      rotate_left
      · simp only [Act.put, List.setIfInBounds_toArray, List.set_cons_zero, List.set_cons_succ, i64_w, i32_w]
        rfl
      refine pure_ (i := 16) (N := some 32) (v := ?_) (a' := ?_) #[true, true, false, true, true, true, true, false, true, true, true, true, false, true, true, true, true, false, false] rfl rfl (any_of HT_.out (by kernel_rfl)) (fun _ _ _ h => h) (Or.inl ⟨by rfl, ?_⟩) ?_ ?_
      rotate_left
      · intro w'
        go_simp
        with_reducible rfl
      rotate_left
      · simp only [Act.put, List.setIfInBounds_toArray, List.set_cons_zero, List.set_cons_succ, i64_w, i32_w]
        rfl
      refine one_ (i := 2) (N := some 18) #[true, true, true, true, true, true, true, false, true, true, true, true, false, true, true, true, true, false, false] rfl rfl (one_of HT_.out (by kernel_rfl)) (by decide) (fun K hK => ?_)
      refine goes_ Tryd.func31 (by kernel_rfl) rfl #[.int .i64 a0_0] (by rfl) rfl rfl (by (try simp only [List.map_toArray, List.map_cons, List.map_nil]); first | done | rfl | (simp only [List.length_drop, List.length_take]; rfl)) ?_
      with_reducible refine (caponierref02_low.calls a0_0 t207 _ A10.out).mono ?_
      rintro e w17 ⟨rfl, hb⟩
      refine ⟨_, rfl, ?_⟩
      have n0_ := Aside0.mk (blk_below (g := gb204) (o := .cells #[.int .i64 a0_0, .int .i64 a0_1, .int .i64 a0_2, .int .i64 a0_3, .int .i64 a0_4] 43 (0, 0)) (by (with_reducible repeat (first | refine blk_drewN ?_ _ | refine blk_drew ?_ | refine blk_alloc ?_ _)); exact BK204.out) hb)
      have n1_ := Aside0.mk (below_step (by repeat (first | (with_reducible first | exact HB.out | apply below_alloc | apply pw_below_drewN | apply below_drew1 | refine below_set ?_ GE204.out) | exact HB.out)) hb)
      clear BK204
      clear HB
      have BK204 := n0_
      have HB := n1_
      clear n0_ n1_
      (try clear hb)
      (try clear hb2)
      (try clear hk)
      (try clear hi)
      refine hK.out _ _ ⟨(blk_cell BK204.out 0).trans rfl, (blk_cell BK204.out 1).trans rfl, (blk_cell BK204.out 2).trans rfl, (blk_cell BK204.out 3).trans rfl, (blk_cell BK204.out 4).trans rfl⟩ (fun hHeld => ?_)
      clear hK K
      refine norm_ (a' := ?_) ?_ ?_
      rotate_left
      · show Act.put _ (some 18) _ = _
        simp only [Act.put, List.setIfInBounds_toArray, List.set_cons_zero, List.set_cons_succ, i64_w, i32_w]
        rfl
      refine pure_ (i := 7) (N := some 23) (v := ?_) (a' := ?_) #[true, true, true, true, true, true, true, true, true, true, true, true, false, true, true, true, true, false, false] rfl rfl (any_of HT_.out (by kernel_rfl)) (fun _ _ _ h => h) (Or.inl ⟨by rfl, ?_⟩) ?_ ?_
      rotate_left
      · intro w'
        go_simp
        with_reducible rfl
      rotate_left
      · simp only [Act.put, List.setIfInBounds_toArray, List.set_cons_zero, List.set_cons_succ, i64_w, i32_w]
        rfl
      refine pure_ (i := 12) (N := some 28) (v := ?_) (a' := ?_) #[true, true, true, true, true, true, true, true, true, true, true, true, true, true, true, true, true, false, false] rfl rfl (any_of HT_.out (by kernel_rfl)) (fun _ _ _ h => h) (Or.inl ⟨by rfl, ?_⟩) ?_ ?_
      rotate_left
      · intro w'
        go_simp
        with_reducible rfl
      rotate_left
      · simp only [Act.put, List.setIfInBounds_toArray, List.set_cons_zero, List.set_cons_succ, i64_w, i32_w]
        rfl
      refine pure_ (i := 17) (N := some 33) (v := ?_) (a' := ?_) #[true, true, true, true, true, true, true, true, true, true, true, true, true, true, true, true, true, true, false] rfl rfl (any_of HT_.out (by kernel_rfl)) (fun _ _ _ h => h) (Or.inl ⟨by rfl, ?_⟩) ?_ ?_
      rotate_left
      · intro w'
        go_simp
        with_reducible rfl
      rotate_left
      · simp only [Act.put, List.setIfInBounds_toArray, List.set_cons_zero, List.set_cons_succ, i64_w, i32_w]
        rfl
      refine pure_ (i := 18) (N := some 5) (v := ?_) (a' := ?_) #[true, true, true, true, true, true, true, true, true, true, true, true, true, true, true, true, true, true, true] rfl rfl (any_of HT_.out (by kernel_rfl)) (fun _ _ _ h => h) (Or.inl ⟨by rfl, ?_⟩) ?_ ?_
      rotate_left
      · intro w'
        go_simp
        with_reducible rfl
      rotate_left
      · simp only [Act.put, List.setIfInBounds_toArray, List.set_cons_zero, List.set_cons_succ, i64_w, i32_w]
        rfl
      refine done_ (done_of HT_.out (by kernel_rfl)) ?_
      go_upto_region 7 with (fail)
      go_cut [39] (fun v39 wc => ∃ (kq : Nat) (x39_10 : Bool), v39 = .bool x39_10 ∧ Aside0 (caponierref02_Encode.j0 kq t206 (IntKind.u64.wrap ((IntKind.u64.wrap ((IntKind.u64.wrap (t207 + (IntKind.u64.wrap ((IntKind.u64.wrap (a0_1)) * 128)))) + (IntKind.u64.wrap ((IntKind.u64.wrap (a0_2)) * 32768)))) + (IntKind.u64.wrap ((IntKind.u64.wrap (a0_3)) * 1048576)))) x39_10 a0_0 a0_1 a0_2 a0_3 a0_4 = some (r1, r2)) ∧ Aside0 (kq ≤ k) ∧ Aside0 (wc.heap[gb204]? = some (.cells #[.int .i64 a0_0, .int .i64 a0_1, .int .i64 a0_2, .int .i64 a0_3, .int .i64 a0_4] 43 (0, 0))) ∧ Aside0 (Below w.heap.size w wc))
      case first =>
        have H := HC11.out
        clear HC11
        by_cases c18 : t206.toList = ([85] : List UInt8)
        · rw [if_pos c18] at H
          have c18b0 : (t206.toList == ([85] : List UInt8)) = true := beq_iff_eq.mpr c18
          have c18b1 : (t206.toList != ([85] : List UInt8)) = false := bne_eq_false_iff_eq.mpr c18
          clear c18
          (first | rw [c18b0] | (simp only [i64_w, i32_w]; rw [c18b0]) | skip)
          have H' := Aside0.mk H
          clear H
          go_wp2
          go_meet
          case rel => exact ⟨_, (false), (by first | rfl | (simp; done) | (simp [*]; done)), H', ⟨by first | omega | exact Nat.le_refl _⟩, ⟨by (with_reducible repeat (first | refine blk_drewN ?_ _ | refine blk_drew ?_ | refine blk_alloc ?_ _)); exact BK204.out⟩, ⟨by repeat (first | (with_reducible first | exact HB.out | apply below_alloc | apply pw_below_drewN | apply below_drew1 | refine below_set ?_ GE204.out) | exact HB.out)⟩⟩
        · rw [if_neg c18] at H
          have c18b0 : (t206.toList == ([85] : List UInt8)) = false := beq_eq_false_iff_ne.mpr c18
          have c18b1 : (t206.toList != ([85] : List UInt8)) = true := bne_iff_ne.mpr c18
          (first | rw [c18b0] | (simp only [i64_w, i32_w]; rw [c18b0]) | skip)
          have H' := Aside0.mk H
          clear H
          go_wp2
          go_meet
          case rel => exact ⟨_, ((t206.toList != ([74] : List UInt8))), (by first | rfl | (simp; done) | (simp [*]; done)), H', ⟨by first | omega | exact Nat.le_refl _⟩, ⟨by (with_reducible repeat (first | refine blk_drewN ?_ _ | refine blk_drew ?_ | refine blk_alloc ?_ _)); exact BK204.out⟩, ⟨by repeat (first | (with_reducible first | exact HB.out | apply below_alloc | apply pw_below_drewN | apply below_drew1 | refine below_set ?_ GE204.out) | exact HB.out)⟩⟩
      case rest =>
        clear HC11
        try clear c1
        try clear p2
        try clear c3
        try clear c4
        try clear c4b0
        try clear c4b1
        try clear c16
        try clear c18
        try clear c18b0
        try clear c18b1
        try clear hcz13_0
        try clear hcz13_1
        try clear hcz13_2
        try clear hcz13_3
        try clear hcz13_4
        try clear hcz15_0
        try clear hcz15_1
        try clear hcz15_2
        try clear hcz15_3
        try clear hcz15_4
        try clear hcz6_0
        try clear hcz6_1
        try clear hcz6_2
        try clear hcz6_3
        try clear hcz6_4
        try clear hcz8_0
        try clear hcz8_1
        try clear hcz8_2
        try clear hcz8_3
        try clear hcz8_4
        try clear hfz13_0
        try clear hfz13_1
        try clear hfz13_2
        try clear hfz13_3
        try clear hfz13_4
        try clear hfz15_0
        try clear hfz15_1
        try clear hfz15_2
        try clear hfz15_3
        try clear hfz15_4
        try clear hfz6_0
        try clear hfz6_1
        try clear hfz6_2
        try clear hfz6_3
        try clear hfz6_4
        try clear hfz8_0
        try clear hfz8_1
        try clear hfz8_2
        try clear hfz8_3
        try clear hfz8_4
        obtain ⟨kq, x39_10, rfl, HA, HJ10, BK204, HB⟩ := hcut
        cases kq with
        | zero => exact absurd HA.out (by simp [caponierref02_Encode.j0])
        | succ kj10 =>
          have H := HA.out
          clear HA
          simp only [caponierref02_Encode.j0] at H
          have HC19 := Aside0.mk H
          clear H
          go_upto_if 39 with (fail)
          go_cut [5] (fun v5 wc => ∃ (kq : Nat) (x5_18 : Int), v5 = .int .u64 x5_18 ∧ Aside0 (caponierref02_Encode.j1 kq t206 x5_18 a0_0 a0_1 a0_2 a0_3 a0_4 = some (r1, r2)) ∧ Aside0 (kq ≤ kj10) ∧ Aside0 (wc.heap[gb204]? = some (.cells #[.int .i64 a0_0, .int .i64 a0_1, .int .i64 a0_2, .int .i64 a0_3, .int .i64 a0_4] 43 (0, 0))) ∧ Aside0 (Below w.heap.size w wc))
          case first =>
            have H := HC19.out
            clear HC19
            by_cases c20 : x39_10 = true
            · subst c20
              have H1 : ((caponierref02_Kind.f a0_0).bind fun t208 => (caponierref02_Encode.j1 kj10 t206 (IntKind.u64.wrap ((IntKind.u64.wrap ((IntKind.u64.wrap ((IntKind.u64.wrap (t207 + (IntKind.u64.wrap ((IntKind.u64.wrap (a0_1)) * 128)))) + (IntKind.u64.wrap ((IntKind.u64.wrap (a0_2)) * 32768)))) + (IntKind.u64.wrap ((IntKind.u64.wrap (a0_3)) * 1048576)))) + (IntKind.u64.wrap (t208 * 4096)))) a0_0 a0_1 a0_2 a0_3 a0_4)) = some (r1, r2) := by rw [if_pos rfl] at H; exact H
              clear H
              have H := H1
              clear H1
              replace H := Option.bind_eq_some_iff.mp H
              obtain ⟨t208, A210, H⟩ := H
              replace H : (caponierref02_Encode.j1 kj10 t206 (IntKind.u64.wrap ((IntKind.u64.wrap ((IntKind.u64.wrap ((IntKind.u64.wrap (t207 + (IntKind.u64.wrap ((IntKind.u64.wrap (a0_1)) * 128)))) + (IntKind.u64.wrap ((IntKind.u64.wrap (a0_2)) * 32768)))) + (IntKind.u64.wrap ((IntKind.u64.wrap (a0_3)) * 1048576)))) + (IntKind.u64.wrap (t208 * 4096)))) a0_0 a0_1 a0_2 a0_3 a0_4) = some (r1, r2) := H
              have A21 := Aside0.mk A210
              clear A210
              have H' := Aside0.mk H
              clear H
              have hcz22_0 : wc.cell? ⟨gb204, 0, none⟩ = some (.int .i64 a0_0) := (blk_cell BK204.out 0).trans rfl
              have hcz22_1 : wc.cell? ⟨gb204, 1, none⟩ = some (.int .i64 a0_1) := (blk_cell BK204.out 1).trans rfl
              have hcz22_2 : wc.cell? ⟨gb204, 2, none⟩ = some (.int .i64 a0_2) := (blk_cell BK204.out 2).trans rfl
              have hcz22_3 : wc.cell? ⟨gb204, 3, none⟩ = some (.int .i64 a0_3) := (blk_cell BK204.out 3).trans rfl
              have hcz22_4 : wc.cell? ⟨gb204, 4, none⟩ = some (.int .i64 a0_4) := (blk_cell BK204.out 4).trans rfl
              have hfz22_0 := blk_frozen BK204.out 0
              have hfz22_1 := blk_frozen BK204.out 1
              have hfz22_2 := blk_frozen BK204.out 2
              have hfz22_3 := blk_frozen BK204.out 3
              have hfz22_4 := blk_frozen BK204.out 4
              go_wp2_with (first | ((with_reducible refine gate_callee (f := 32) rfl ?_); refine goesL_ (some 43) rfl rfl Tryd.func32 (by kernel_rfl) rfl #[.int .i64 a0_0] rfl (by (try simp only [List.map_toArray, List.map_cons, List.map_nil]); first | done | rfl | (simp only [List.length_drop, List.length_take]; rfl)) ?_; (with_reducible refine (caponierref02_Kind.calls a0_0 t208 _ A21.out).mono ?_); rintro e w23 ⟨rfl, hb⟩; refine ⟨_, rfl, ?_⟩; have n0_ := Aside0.mk (blk_below (g := gb204) (o := .cells #[.int .i64 a0_0, .int .i64 a0_1, .int .i64 a0_2, .int .i64 a0_3, .int .i64 a0_4] 43 (0, 0)) (by (with_reducible repeat (first | refine blk_drewN ?_ _ | refine blk_drew ?_ | refine blk_alloc ?_ _)); exact BK204.out) hb); have n1_ := Aside0.mk (below_step (by repeat (first | (with_reducible first | exact HB.out | apply below_alloc | apply pw_below_drewN | apply below_drew1 | refine below_set ?_ GE204.out) | exact HB.out)) hb); clear BK204; clear HB; have BK204 := n0_; have HB := n1_; clear n0_ n1_; (try clear hb); (try clear hb2); (try clear hk); (try clear hi)))
              go_meet
              case rel => exact ⟨_, (IntKind.u64.wrap ((IntKind.u64.wrap ((IntKind.u64.wrap ((IntKind.u64.wrap (t207 + (IntKind.u64.wrap ((IntKind.u64.wrap (a0_1)) * 128)))) + (IntKind.u64.wrap ((IntKind.u64.wrap (a0_2)) * 32768)))) + (IntKind.u64.wrap ((IntKind.u64.wrap (a0_3)) * 1048576)))) + (IntKind.u64.wrap (t208 * 4096)))), (by first | rfl | (simp; done) | (simp [*]; done)), H', ⟨by have := HJ10.out; first | omega | exact Nat.le_refl _⟩, ⟨by (with_reducible repeat (first | refine blk_drewN ?_ _ | refine blk_drew ?_ | refine blk_alloc ?_ _)); exact BK204.out⟩, ⟨by repeat (first | (with_reducible first | exact HB.out | apply below_alloc | apply pw_below_drewN | apply below_drew1 | refine below_set ?_ GE204.out) | exact HB.out)⟩⟩
            · replace c20 := Bool.eq_false_iff.mpr c20
              subst c20
              have H1 : (caponierref02_Encode.j1 kj10 t206 (IntKind.u64.wrap ((IntKind.u64.wrap ((IntKind.u64.wrap (t207 + (IntKind.u64.wrap ((IntKind.u64.wrap (a0_1)) * 128)))) + (IntKind.u64.wrap ((IntKind.u64.wrap (a0_2)) * 32768)))) + (IntKind.u64.wrap ((IntKind.u64.wrap (a0_3)) * 1048576)))) a0_0 a0_1 a0_2 a0_3 a0_4) = some (r1, r2) := by rw [if_neg (show ¬ (false = true) by decide)] at H; exact H
              clear H
              have H := H1
              clear H1
              have H' := Aside0.mk H
              clear H
              go_wp2
              go_meet
              case rel => exact ⟨_, ((IntKind.u64.wrap ((IntKind.u64.wrap ((IntKind.u64.wrap (t207 + (IntKind.u64.wrap ((IntKind.u64.wrap (a0_1)) * 128)))) + (IntKind.u64.wrap ((IntKind.u64.wrap (a0_2)) * 32768)))) + (IntKind.u64.wrap ((IntKind.u64.wrap (a0_3)) * 1048576))))), (by first | rfl | (simp; done) | (simp [*]; done)), H', ⟨by have := HJ10.out; first | omega | exact Nat.le_refl _⟩, ⟨by (with_reducible repeat (first | refine blk_drewN ?_ _ | refine blk_drew ?_ | refine blk_alloc ?_ _)); exact BK204.out⟩, ⟨by repeat (first | (with_reducible first | exact HB.out | apply below_alloc | apply pw_below_drewN | apply below_drew1 | refine below_set ?_ GE204.out) | exact HB.out)⟩⟩
          case rest =>
            clear HC19
            try clear c1
            try clear c2
            try clear p2
            try clear c3
            try clear c4
            try clear c4b0
            try clear c4b1
            try clear c16
            try clear c18
            try clear c18b0
            try clear c18b1
            try clear c20
            try clear hcz13_0
            try clear hcz13_1
            try clear hcz13_2
            try clear hcz13_3
            try clear hcz13_4
            try clear hcz15_0
            try clear hcz15_1
            try clear hcz15_2
            try clear hcz15_3
            try clear hcz15_4
            try clear hcz22_0
            try clear hcz22_1
            try clear hcz22_2
            try clear hcz22_3
            try clear hcz22_4
            try clear hcz6_0
            try clear hcz6_1
            try clear hcz6_2
            try clear hcz6_3
            try clear hcz6_4
            try clear hcz8_0
            try clear hcz8_1
            try clear hcz8_2
            try clear hcz8_3
            try clear hcz8_4
            try clear hfz13_0
            try clear hfz13_1
            try clear hfz13_2
            try clear hfz13_3
            try clear hfz13_4
            try clear hfz15_0
            try clear hfz15_1
            try clear hfz15_2
            try clear hfz15_3
            try clear hfz15_4
            try clear hfz22_0
            try clear hfz22_1
            try clear hfz22_2
            try clear hfz22_3
            try clear hfz22_4
            try clear hfz6_0
            try clear hfz6_1
            try clear hfz6_2
            try clear hfz6_3
            try clear hfz6_4
            try clear hfz8_0
            try clear hfz8_1
            try clear hfz8_2
            try clear hfz8_3
            try clear hfz8_4
            try clear p2
            obtain ⟨kq, x5_18, rfl, HA, HJ18, BK204, HB⟩ := hcut
            cases kq with
            | zero => exact absurd HA.out (by simp [caponierref02_Encode.j1])
            | succ kj18 =>
              have H := HA.out
              clear HA
              simp only [caponierref02_Encode.j1] at H
              by_cases c24 : t206.toList = ([82] : List UInt8)
              · rw [if_pos c24] at H
                have c24b0 : (t206.toList == ([82] : List UInt8)) = true := beq_iff_eq.mpr c24
                have c24b1 : (t206.toList != ([82] : List UInt8)) = false := bne_eq_false_iff_eq.mpr c24
                clear c24
                replace H := Option.bind_eq_some_iff.mp H
                obtain ⟨t209, A250, H⟩ := H
                replace H : (some ((IntKind.u64.wrap (x5_18 + (IntKind.u64.wrap (t209 * 33554432)))) % 4294967296, 0)) = some (r1, r2) := H
                have A25 := Aside0.mk A250
                clear A250
                simp only [Option.some.injEq, Prod.mk.injEq] at H
                obtain ⟨rfl, rfl⟩ := H
                have hcz26_0 : wc.cell? ⟨gb204, 0, none⟩ = some (.int .i64 a0_0) := (blk_cell BK204.out 0).trans rfl
                have hcz26_1 : wc.cell? ⟨gb204, 1, none⟩ = some (.int .i64 a0_1) := (blk_cell BK204.out 1).trans rfl
                have hcz26_2 : wc.cell? ⟨gb204, 2, none⟩ = some (.int .i64 a0_2) := (blk_cell BK204.out 2).trans rfl
                have hcz26_3 : wc.cell? ⟨gb204, 3, none⟩ = some (.int .i64 a0_3) := (blk_cell BK204.out 3).trans rfl
                have hcz26_4 : wc.cell? ⟨gb204, 4, none⟩ = some (.int .i64 a0_4) := (blk_cell BK204.out 4).trans rfl
                have hfz26_0 := blk_frozen BK204.out 0
                have hfz26_1 := blk_frozen BK204.out 1
                have hfz26_2 := blk_frozen BK204.out 2
                have hfz26_3 := blk_frozen BK204.out 3
                have hfz26_4 := blk_frozen BK204.out 4
                go_wp2_with (first | ((with_reducible refine gate_callee (f := 33) rfl ?_); refine goesL_ (some 54) rfl rfl Tryd.func33 (by kernel_rfl) rfl #[.int .i64 a0_0] rfl (by (try simp only [List.map_toArray, List.map_cons, List.map_nil]); first | done | rfl | (simp only [List.length_drop, List.length_take]; rfl)) ?_; (with_reducible refine (caponierref02_Top.calls kj18 a0_0 t209 _ A25.out).mono ?_); rintro e w' ⟨rfl, ⟨nd, rfl⟩⟩; refine ⟨_, rfl, ?_⟩))
                go_ret2
                exact ⟨by first | rfl | (simp [errW_none, errW_some] <;> rfl) | (simp [*, errW_none, errW_some] <;> rfl), by repeat (first | (with_reducible first | exact HB.out | apply below_alloc | apply pw_below_drewN | apply below_drew1 | refine below_set ?_ GE204.out) | exact HB.out)⟩
              · rw [if_neg c24] at H
                have c24b0 : (t206.toList == ([82] : List UInt8)) = false := beq_eq_false_iff_ne.mpr c24
                have c24b1 : (t206.toList != ([82] : List UInt8)) = true := bne_iff_ne.mpr c24
                by_cases c27 : t206.toList = ([73] : List UInt8)
                · rw [if_pos c27] at H
                  have c27b0 : (t206.toList == ([73] : List UInt8)) = true := beq_iff_eq.mpr c27
                  have c27b1 : (t206.toList != ([73] : List UInt8)) = false := bne_eq_false_iff_eq.mpr c27
                  clear c27
                  replace H := Option.bind_eq_some_iff.mp H
                  obtain ⟨t210, A280, H⟩ := H
                  replace H : ((caponierref02_Shift.f a0_0).bind fun t211 => (if t211 = true then ((caponierref02_Top.f kj18 a0_0).bind fun t212 => (some ((IntKind.u64.wrap ((IntKind.u64.wrap (x5_18 + t210)) + (IntKind.u64.wrap (t212 * 33554432)))) % 4294967296, 0))) else (some ((IntKind.u64.wrap (x5_18 + t210)) % 4294967296, 0)))) = some (r1, r2) := H
                  have A28 := Aside0.mk A280
                  clear A280
                  replace H := Option.bind_eq_some_iff.mp H
                  obtain ⟨t211, A290, H⟩ := H
                  replace H : (if t211 = true then ((caponierref02_Top.f kj18 a0_0).bind fun t212 => (some ((IntKind.u64.wrap ((IntKind.u64.wrap (x5_18 + t210)) + (IntKind.u64.wrap (t212 * 33554432)))) % 4294967296, 0))) else (some ((IntKind.u64.wrap (x5_18 + t210)) % 4294967296, 0))) = some (r1, r2) := H
                  have A29 := Aside0.mk A290
                  clear A290
                  by_cases c30 : t211 = true
                  · subst c30
                    have H1 : ((caponierref02_Top.f kj18 a0_0).bind fun t212 => (some ((IntKind.u64.wrap ((IntKind.u64.wrap (x5_18 + t210)) + (IntKind.u64.wrap (t212 * 33554432)))) % 4294967296, 0))) = some (r1, r2) := by rw [if_pos rfl] at H; exact H
                    clear H
                    have H := H1
                    clear H1
                    replace H := Option.bind_eq_some_iff.mp H
                    obtain ⟨t212, A310, H⟩ := H
                    replace H : (some ((IntKind.u64.wrap ((IntKind.u64.wrap (x5_18 + t210)) + (IntKind.u64.wrap (t212 * 33554432)))) % 4294967296, 0)) = some (r1, r2) := H
                    have A31 := Aside0.mk A310
                    clear A310
                    simp only [Option.some.injEq, Prod.mk.injEq] at H
                    obtain ⟨rfl, rfl⟩ := H
                    have hcz32_0 : wc.cell? ⟨gb204, 0, none⟩ = some (.int .i64 a0_0) := (blk_cell BK204.out 0).trans rfl
                    have hcz32_1 : wc.cell? ⟨gb204, 1, none⟩ = some (.int .i64 a0_1) := (blk_cell BK204.out 1).trans rfl
                    have hcz32_2 : wc.cell? ⟨gb204, 2, none⟩ = some (.int .i64 a0_2) := (blk_cell BK204.out 2).trans rfl
                    have hcz32_3 : wc.cell? ⟨gb204, 3, none⟩ = some (.int .i64 a0_3) := (blk_cell BK204.out 3).trans rfl
                    have hcz32_4 : wc.cell? ⟨gb204, 4, none⟩ = some (.int .i64 a0_4) := (blk_cell BK204.out 4).trans rfl
                    have hfz32_0 := blk_frozen BK204.out 0
                    have hfz32_1 := blk_frozen BK204.out 1
                    have hfz32_2 := blk_frozen BK204.out 2
                    have hfz32_3 := blk_frozen BK204.out 3
                    have hfz32_4 := blk_frozen BK204.out 4
                    go_wp2_with (first | ((with_reducible refine gate_callee (f := 34) rfl ?_); refine goesL_ (some 61) rfl rfl Tryd.func34 (by kernel_rfl) rfl #[.int .i64 a0_4, .int .i64 0, .int .i64 12, .int .i64 20] rfl (by (try simp only [List.map_toArray, List.map_cons, List.map_nil]); first | done | rfl | (simp only [List.length_drop, List.length_take]; rfl)) ?_; (with_reducible refine (caponierref02_bit.calls kj18 a0_4 0 12 20 t210 _ A28.out).mono ?_); rintro e w' ⟨rfl, ⟨nd, rfl⟩⟩; refine ⟨_, rfl, ?_⟩) | ((with_reducible refine gate_callee (f := 35) rfl ?_); refine goesL_ (some 65) rfl rfl Tryd.func35 (by kernel_rfl) rfl #[.int .i64 a0_0] rfl (by (try simp only [List.map_toArray, List.map_cons, List.map_nil]); first | done | rfl | (simp only [List.length_drop, List.length_take]; rfl)) ?_; (with_reducible refine (caponierref02_Shift.calls a0_0 true _ A29.out).mono ?_); rintro e w' ⟨rfl, ⟨nd, rfl⟩⟩; refine ⟨_, rfl, ?_⟩) | ((with_reducible refine gate_callee (f := 33) rfl ?_); refine goesL_ (some 69) rfl rfl Tryd.func33 (by kernel_rfl) rfl #[.int .i64 a0_0] rfl (by (try simp only [List.map_toArray, List.map_cons, List.map_nil]); first | done | rfl | (simp only [List.length_drop, List.length_take]; rfl)) ?_; (with_reducible refine (caponierref02_Top.calls kj18 a0_0 t212 _ A31.out).mono ?_); rintro e w' ⟨rfl, ⟨nd, rfl⟩⟩; refine ⟨_, rfl, ?_⟩))
                    go_ret2
                    exact ⟨by first | rfl | (simp [errW_none, errW_some] <;> rfl) | (simp [*, errW_none, errW_some] <;> rfl), by repeat (first | (with_reducible first | exact HB.out | apply below_alloc | apply pw_below_drewN | apply below_drew1 | refine below_set ?_ GE204.out) | exact HB.out)⟩
                  · replace c30 := Bool.eq_false_iff.mpr c30
                    subst c30
                    have H1 : (some ((IntKind.u64.wrap (x5_18 + t210)) % 4294967296, 0)) = some (r1, r2) := by rw [if_neg (show ¬ (false = true) by decide)] at H; exact H
                    clear H
                    have H := H1
                    clear H1
                    simp only [Option.some.injEq, Prod.mk.injEq] at H
                    obtain ⟨rfl, rfl⟩ := H
                    have hcz33_0 : wc.cell? ⟨gb204, 0, none⟩ = some (.int .i64 a0_0) := (blk_cell BK204.out 0).trans rfl
                    have hcz33_1 : wc.cell? ⟨gb204, 1, none⟩ = some (.int .i64 a0_1) := (blk_cell BK204.out 1).trans rfl
                    have hcz33_2 : wc.cell? ⟨gb204, 2, none⟩ = some (.int .i64 a0_2) := (blk_cell BK204.out 2).trans rfl
                    have hcz33_3 : wc.cell? ⟨gb204, 3, none⟩ = some (.int .i64 a0_3) := (blk_cell BK204.out 3).trans rfl
                    have hcz33_4 : wc.cell? ⟨gb204, 4, none⟩ = some (.int .i64 a0_4) := (blk_cell BK204.out 4).trans rfl
                    have hfz33_0 := blk_frozen BK204.out 0
                    have hfz33_1 := blk_frozen BK204.out 1
                    have hfz33_2 := blk_frozen BK204.out 2
                    have hfz33_3 := blk_frozen BK204.out 3
                    have hfz33_4 := blk_frozen BK204.out 4
                    go_wp2_with (first | ((with_reducible refine gate_callee (f := 34) rfl ?_); refine goesL_ (some 61) rfl rfl Tryd.func34 (by kernel_rfl) rfl #[.int .i64 a0_4, .int .i64 0, .int .i64 12, .int .i64 20] rfl (by (try simp only [List.map_toArray, List.map_cons, List.map_nil]); first | done | rfl | (simp only [List.length_drop, List.length_take]; rfl)) ?_; (with_reducible refine (caponierref02_bit.calls kj18 a0_4 0 12 20 t210 _ A28.out).mono ?_); rintro e w' ⟨rfl, ⟨nd, rfl⟩⟩; refine ⟨_, rfl, ?_⟩) | ((with_reducible refine gate_callee (f := 35) rfl ?_); refine goesL_ (some 65) rfl rfl Tryd.func35 (by kernel_rfl) rfl #[.int .i64 a0_0] rfl (by (try simp only [List.map_toArray, List.map_cons, List.map_nil]); first | done | rfl | (simp only [List.length_drop, List.length_take]; rfl)) ?_; (with_reducible refine (caponierref02_Shift.calls a0_0 false _ A29.out).mono ?_); rintro e w' ⟨rfl, ⟨nd, rfl⟩⟩; refine ⟨_, rfl, ?_⟩))
                    go_ret2
                    exact ⟨by first | rfl | (simp [errW_none, errW_some] <;> rfl) | (simp [*, errW_none, errW_some] <;> rfl), by repeat (first | (with_reducible first | exact HB.out | apply below_alloc | apply pw_below_drewN | apply below_drew1 | refine below_set ?_ GE204.out) | exact HB.out)⟩
                · rw [if_neg c27] at H
                  have c27b0 : (t206.toList == ([73] : List UInt8)) = false := beq_eq_false_iff_ne.mpr c27
                  have c27b1 : (t206.toList != ([73] : List UInt8)) = true := bne_iff_ne.mpr c27
                  by_cases c34 : t206.toList = ([83] : List UInt8)
                  · rw [if_pos c34] at H
                    have c34b0 : (t206.toList == ([83] : List UInt8)) = true := beq_iff_eq.mpr c34
                    have c34b1 : (t206.toList != ([83] : List UInt8)) = false := bne_eq_false_iff_eq.mpr c34
                    clear c34
                    replace H := Option.bind_eq_some_iff.mp H
                    obtain ⟨t213, A350, H⟩ := H
                    replace H : ((caponierref02_bit.f kj18 a0_4 5 7 25).bind fun t214 => (some ((IntKind.u64.wrap ((IntKind.u64.wrap (x5_18 + t213)) + t214)) % 4294967296, 0))) = some (r1, r2) := H
                    have A35 := Aside0.mk A350
                    clear A350
                    replace H := Option.bind_eq_some_iff.mp H
                    obtain ⟨t214, A360, H⟩ := H
                    replace H : (some ((IntKind.u64.wrap ((IntKind.u64.wrap (x5_18 + t213)) + t214)) % 4294967296, 0)) = some (r1, r2) := H
                    have A36 := Aside0.mk A360
                    clear A360
                    simp only [Option.some.injEq, Prod.mk.injEq] at H
                    obtain ⟨rfl, rfl⟩ := H
                    have hcz37_0 : wc.cell? ⟨gb204, 0, none⟩ = some (.int .i64 a0_0) := (blk_cell BK204.out 0).trans rfl
                    have hcz37_1 : wc.cell? ⟨gb204, 1, none⟩ = some (.int .i64 a0_1) := (blk_cell BK204.out 1).trans rfl
                    have hcz37_2 : wc.cell? ⟨gb204, 2, none⟩ = some (.int .i64 a0_2) := (blk_cell BK204.out 2).trans rfl
                    have hcz37_3 : wc.cell? ⟨gb204, 3, none⟩ = some (.int .i64 a0_3) := (blk_cell BK204.out 3).trans rfl
                    have hcz37_4 : wc.cell? ⟨gb204, 4, none⟩ = some (.int .i64 a0_4) := (blk_cell BK204.out 4).trans rfl
                    have hfz37_0 := blk_frozen BK204.out 0
                    have hfz37_1 := blk_frozen BK204.out 1
                    have hfz37_2 := blk_frozen BK204.out 2
                    have hfz37_3 := blk_frozen BK204.out 3
                    have hfz37_4 := blk_frozen BK204.out 4
                    go_wp2_with (first | ((with_reducible refine gate_callee (f := 34) rfl ?_); refine goesL_ (some 76) rfl rfl Tryd.func34 (by kernel_rfl) rfl #[.int .i64 a0_4, .int .i64 0, .int .i64 5, .int .i64 7] rfl (by (try simp only [List.map_toArray, List.map_cons, List.map_nil]); first | done | rfl | (simp only [List.length_drop, List.length_take]; rfl)) ?_; (with_reducible refine (caponierref02_bit.calls kj18 a0_4 0 5 7 t213 _ A35.out).mono ?_); rintro e w' ⟨rfl, ⟨nd, rfl⟩⟩; refine ⟨_, rfl, ?_⟩) | ((with_reducible refine gate_callee (f := 34) rfl ?_); refine goesL_ (some 79) rfl rfl Tryd.func34 (by kernel_rfl) rfl #[.int .i64 a0_4, .int .i64 5, .int .i64 7, .int .i64 25] rfl (by (try simp only [List.map_toArray, List.map_cons, List.map_nil]); first | done | rfl | (simp only [List.length_drop, List.length_take]; rfl)) ?_; (with_reducible refine (caponierref02_bit.calls kj18 a0_4 5 7 25 t214 _ A36.out).mono ?_); rintro e w' ⟨rfl, ⟨nd, rfl⟩⟩; refine ⟨_, rfl, ?_⟩))
                    go_ret2
                    exact ⟨by first | rfl | (simp [errW_none, errW_some] <;> rfl) | (simp [*, errW_none, errW_some] <;> rfl), by repeat (first | (with_reducible first | exact HB.out | apply below_alloc | apply pw_below_drewN | apply below_drew1 | refine below_set ?_ GE204.out) | exact HB.out)⟩
                  · rw [if_neg c34] at H
                    have c34b0 : (t206.toList == ([83] : List UInt8)) = false := beq_eq_false_iff_ne.mpr c34
                    have c34b1 : (t206.toList != ([83] : List UInt8)) = true := bne_iff_ne.mpr c34
                    by_cases c38 : t206.toList = ([66] : List UInt8)
                    · rw [if_pos c38] at H
                      have c38b0 : (t206.toList == ([66] : List UInt8)) = true := beq_iff_eq.mpr c38
                      have c38b1 : (t206.toList != ([66] : List UInt8)) = false := bne_eq_false_iff_eq.mpr c38
                      clear c38
                      replace H := Option.bind_eq_some_iff.mp H
                      obtain ⟨t215, A390, H⟩ := H
                      replace H : ((caponierref02_bit.f kj18 a0_4 5 6 25).bind fun t216 => ((caponierref02_bit.f kj18 a0_4 11 1 7).bind fun t217 => ((caponierref02_bit.f kj18 a0_4 12 1 31).bind fun t218 => (some ((IntKind.u64.wrap ((IntKind.u64.wrap ((IntKind.u64.wrap ((IntKind.u64.wrap (x5_18 + t215)) + t216)) + t217)) + t218)) % 4294967296, 0))))) = some (r1, r2) := H
                      have A39 := Aside0.mk A390
                      clear A390
                      replace H := Option.bind_eq_some_iff.mp H
                      obtain ⟨t216, A400, H⟩ := H
                      replace H : ((caponierref02_bit.f kj18 a0_4 11 1 7).bind fun t217 => ((caponierref02_bit.f kj18 a0_4 12 1 31).bind fun t218 => (some ((IntKind.u64.wrap ((IntKind.u64.wrap ((IntKind.u64.wrap ((IntKind.u64.wrap (x5_18 + t215)) + t216)) + t217)) + t218)) % 4294967296, 0)))) = some (r1, r2) := H
                      have A40 := Aside0.mk A400
                      clear A400
                      replace H := Option.bind_eq_some_iff.mp H
                      obtain ⟨t217, A410, H⟩ := H
                      replace H : ((caponierref02_bit.f kj18 a0_4 12 1 31).bind fun t218 => (some ((IntKind.u64.wrap ((IntKind.u64.wrap ((IntKind.u64.wrap ((IntKind.u64.wrap (x5_18 + t215)) + t216)) + t217)) + t218)) % 4294967296, 0))) = some (r1, r2) := H
                      have A41 := Aside0.mk A410
                      clear A410
                      replace H := Option.bind_eq_some_iff.mp H
                      obtain ⟨t218, A420, H⟩ := H
                      replace H : (some ((IntKind.u64.wrap ((IntKind.u64.wrap ((IntKind.u64.wrap ((IntKind.u64.wrap (x5_18 + t215)) + t216)) + t217)) + t218)) % 4294967296, 0)) = some (r1, r2) := H
                      have A42 := Aside0.mk A420
                      clear A420
                      simp only [Option.some.injEq, Prod.mk.injEq] at H
                      obtain ⟨rfl, rfl⟩ := H
                      have hcz43_0 : wc.cell? ⟨gb204, 0, none⟩ = some (.int .i64 a0_0) := (blk_cell BK204.out 0).trans rfl
                      have hcz43_1 : wc.cell? ⟨gb204, 1, none⟩ = some (.int .i64 a0_1) := (blk_cell BK204.out 1).trans rfl
                      have hcz43_2 : wc.cell? ⟨gb204, 2, none⟩ = some (.int .i64 a0_2) := (blk_cell BK204.out 2).trans rfl
                      have hcz43_3 : wc.cell? ⟨gb204, 3, none⟩ = some (.int .i64 a0_3) := (blk_cell BK204.out 3).trans rfl
                      have hcz43_4 : wc.cell? ⟨gb204, 4, none⟩ = some (.int .i64 a0_4) := (blk_cell BK204.out 4).trans rfl
                      have hfz43_0 := blk_frozen BK204.out 0
                      have hfz43_1 := blk_frozen BK204.out 1
                      have hfz43_2 := blk_frozen BK204.out 2
                      have hfz43_3 := blk_frozen BK204.out 3
                      have hfz43_4 := blk_frozen BK204.out 4
                      go_wp2_with (first | ((with_reducible refine gate_callee (f := 34) rfl ?_); refine goesL_ (some 85) rfl rfl Tryd.func34 (by kernel_rfl) rfl #[.int .i64 a0_4, .int .i64 1, .int .i64 4, .int .i64 8] rfl (by (try simp only [List.map_toArray, List.map_cons, List.map_nil]); first | done | rfl | (simp only [List.length_drop, List.length_take]; rfl)) ?_; (with_reducible refine (caponierref02_bit.calls kj18 a0_4 1 4 8 t215 _ A39.out).mono ?_); rintro e w' ⟨rfl, ⟨nd, rfl⟩⟩; refine ⟨_, rfl, ?_⟩) | ((with_reducible refine gate_callee (f := 34) rfl ?_); refine goesL_ (some 88) rfl rfl Tryd.func34 (by kernel_rfl) rfl #[.int .i64 a0_4, .int .i64 5, .int .i64 6, .int .i64 25] rfl (by (try simp only [List.map_toArray, List.map_cons, List.map_nil]); first | done | rfl | (simp only [List.length_drop, List.length_take]; rfl)) ?_; (with_reducible refine (caponierref02_bit.calls kj18 a0_4 5 6 25 t216 _ A40.out).mono ?_); rintro e w' ⟨rfl, ⟨nd, rfl⟩⟩; refine ⟨_, rfl, ?_⟩) | ((with_reducible refine gate_callee (f := 34) rfl ?_); refine goesL_ (some 91) rfl rfl Tryd.func34 (by kernel_rfl) rfl #[.int .i64 a0_4, .int .i64 11, .int .i64 1, .int .i64 7] rfl (by (try simp only [List.map_toArray, List.map_cons, List.map_nil]); first | done | rfl | (simp only [List.length_drop, List.length_take]; rfl)) ?_; (with_reducible refine (caponierref02_bit.calls kj18 a0_4 11 1 7 t217 _ A41.out).mono ?_); rintro e w' ⟨rfl, ⟨nd, rfl⟩⟩; refine ⟨_, rfl, ?_⟩) | ((with_reducible refine gate_callee (f := 34) rfl ?_); refine goesL_ (some 94) rfl rfl Tryd.func34 (by kernel_rfl) rfl #[.int .i64 a0_4, .int .i64 12, .int .i64 1, .int .i64 31] rfl (by (try simp only [List.map_toArray, List.map_cons, List.map_nil]); first | done | rfl | (simp only [List.length_drop, List.length_take]; rfl)) ?_; (with_reducible refine (caponierref02_bit.calls kj18 a0_4 12 1 31 t218 _ A42.out).mono ?_); rintro e w' ⟨rfl, ⟨nd, rfl⟩⟩; refine ⟨_, rfl, ?_⟩))
                      go_ret2
                      exact ⟨by first | rfl | (simp [errW_none, errW_some] <;> rfl) | (simp [*, errW_none, errW_some] <;> rfl), by repeat (first | (with_reducible first | exact HB.out | apply below_alloc | apply pw_below_drewN | apply below_drew1 | refine below_set ?_ GE204.out) | exact HB.out)⟩
                    · rw [if_neg c38] at H
                      have c38b0 : (t206.toList == ([66] : List UInt8)) = false := beq_eq_false_iff_ne.mpr c38
                      have c38b1 : (t206.toList != ([66] : List UInt8)) = true := bne_iff_ne.mpr c38
                      by_cases c44 : t206.toList = ([85] : List UInt8)
                      · rw [if_pos c44] at H
                        have c44b0 : (t206.toList == ([85] : List UInt8)) = true := beq_iff_eq.mpr c44
                        have c44b1 : (t206.toList != ([85] : List UInt8)) = false := bne_eq_false_iff_eq.mpr c44
                        clear c44
                        replace H := Option.bind_eq_some_iff.mp H
                        obtain ⟨t219, A450, H⟩ := H
                        replace H : (some ((IntKind.u64.wrap (x5_18 + t219)) % 4294967296, 0)) = some (r1, r2) := H
                        have A45 := Aside0.mk A450
                        clear A450
                        simp only [Option.some.injEq, Prod.mk.injEq] at H
                        obtain ⟨rfl, rfl⟩ := H
                        have hcz46_0 : wc.cell? ⟨gb204, 0, none⟩ = some (.int .i64 a0_0) := (blk_cell BK204.out 0).trans rfl
                        have hcz46_1 : wc.cell? ⟨gb204, 1, none⟩ = some (.int .i64 a0_1) := (blk_cell BK204.out 1).trans rfl
                        have hcz46_2 : wc.cell? ⟨gb204, 2, none⟩ = some (.int .i64 a0_2) := (blk_cell BK204.out 2).trans rfl
                        have hcz46_3 : wc.cell? ⟨gb204, 3, none⟩ = some (.int .i64 a0_3) := (blk_cell BK204.out 3).trans rfl
                        have hcz46_4 : wc.cell? ⟨gb204, 4, none⟩ = some (.int .i64 a0_4) := (blk_cell BK204.out 4).trans rfl
                        have hfz46_0 := blk_frozen BK204.out 0
                        have hfz46_1 := blk_frozen BK204.out 1
                        have hfz46_2 := blk_frozen BK204.out 2
                        have hfz46_3 := blk_frozen BK204.out 3
                        have hfz46_4 := blk_frozen BK204.out 4
                        go_wp2_with (first | ((with_reducible refine gate_callee (f := 34) rfl ?_); refine goesL_ (some 100) rfl rfl Tryd.func34 (by kernel_rfl) rfl #[.int .i64 a0_4, .int .i64 12, .int .i64 20, .int .i64 12] rfl (by (try simp only [List.map_toArray, List.map_cons, List.map_nil]); first | done | rfl | (simp only [List.length_drop, List.length_take]; rfl)) ?_; (with_reducible refine (caponierref02_bit.calls kj18 a0_4 12 20 12 t219 _ A45.out).mono ?_); rintro e w' ⟨rfl, ⟨nd, rfl⟩⟩; refine ⟨_, rfl, ?_⟩))
                        go_ret2
                        exact ⟨by first | rfl | (simp [errW_none, errW_some] <;> rfl) | (simp [*, errW_none, errW_some] <;> rfl), by repeat (first | (with_reducible first | exact HB.out | apply below_alloc | apply pw_below_drewN | apply below_drew1 | refine below_set ?_ GE204.out) | exact HB.out)⟩
                      · rw [if_neg c44] at H
                        have c44b0 : (t206.toList == ([85] : List UInt8)) = false := beq_eq_false_iff_ne.mpr c44
                        have c44b1 : (t206.toList != ([85] : List UInt8)) = true := bne_iff_ne.mpr c44
                        by_cases c47 : t206.toList = ([74] : List UInt8)
                        · rw [if_pos c47] at H
                          have c47b0 : (t206.toList == ([74] : List UInt8)) = true := beq_iff_eq.mpr c47
                          have c47b1 : (t206.toList != ([74] : List UInt8)) = false := bne_eq_false_iff_eq.mpr c47
                          clear c47
                          replace H := Option.bind_eq_some_iff.mp H
                          obtain ⟨t220, A480, H⟩ := H
                          replace H : ((caponierref02_bit.f kj18 a0_4 11 1 20).bind fun t221 => ((caponierref02_bit.f kj18 a0_4 12 8 12).bind fun t222 => ((caponierref02_bit.f kj18 a0_4 20 1 31).bind fun t223 => (some ((IntKind.u64.wrap ((IntKind.u64.wrap ((IntKind.u64.wrap ((IntKind.u64.wrap (x5_18 + t220)) + t221)) + t222)) + t223)) % 4294967296, 0))))) = some (r1, r2) := H
                          have A48 := Aside0.mk A480
                          clear A480
                          replace H := Option.bind_eq_some_iff.mp H
                          obtain ⟨t221, A490, H⟩ := H
                          replace H : ((caponierref02_bit.f kj18 a0_4 12 8 12).bind fun t222 => ((caponierref02_bit.f kj18 a0_4 20 1 31).bind fun t223 => (some ((IntKind.u64.wrap ((IntKind.u64.wrap ((IntKind.u64.wrap ((IntKind.u64.wrap (x5_18 + t220)) + t221)) + t222)) + t223)) % 4294967296, 0)))) = some (r1, r2) := H
                          have A49 := Aside0.mk A490
                          clear A490
                          replace H := Option.bind_eq_some_iff.mp H
                          obtain ⟨t222, A500, H⟩ := H
                          replace H : ((caponierref02_bit.f kj18 a0_4 20 1 31).bind fun t223 => (some ((IntKind.u64.wrap ((IntKind.u64.wrap ((IntKind.u64.wrap ((IntKind.u64.wrap (x5_18 + t220)) + t221)) + t222)) + t223)) % 4294967296, 0))) = some (r1, r2) := H
                          have A50 := Aside0.mk A500
                          clear A500
                          replace H := Option.bind_eq_some_iff.mp H
                          obtain ⟨t223, A510, H⟩ := H
                          replace H : (some ((IntKind.u64.wrap ((IntKind.u64.wrap ((IntKind.u64.wrap ((IntKind.u64.wrap (x5_18 + t220)) + t221)) + t222)) + t223)) % 4294967296, 0)) = some (r1, r2) := H
                          have A51 := Aside0.mk A510
                          clear A510
                          simp only [Option.some.injEq, Prod.mk.injEq] at H
                          obtain ⟨rfl, rfl⟩ := H
                          have hcz52_0 : wc.cell? ⟨gb204, 0, none⟩ = some (.int .i64 a0_0) := (blk_cell BK204.out 0).trans rfl
                          have hcz52_1 : wc.cell? ⟨gb204, 1, none⟩ = some (.int .i64 a0_1) := (blk_cell BK204.out 1).trans rfl
                          have hcz52_2 : wc.cell? ⟨gb204, 2, none⟩ = some (.int .i64 a0_2) := (blk_cell BK204.out 2).trans rfl
                          have hcz52_3 : wc.cell? ⟨gb204, 3, none⟩ = some (.int .i64 a0_3) := (blk_cell BK204.out 3).trans rfl
                          have hcz52_4 : wc.cell? ⟨gb204, 4, none⟩ = some (.int .i64 a0_4) := (blk_cell BK204.out 4).trans rfl
                          have hfz52_0 := blk_frozen BK204.out 0
                          have hfz52_1 := blk_frozen BK204.out 1
                          have hfz52_2 := blk_frozen BK204.out 2
                          have hfz52_3 := blk_frozen BK204.out 3
                          have hfz52_4 := blk_frozen BK204.out 4
                          go_wp2_with (first | ((with_reducible refine gate_callee (f := 34) rfl ?_); refine goesL_ (some 106) rfl rfl Tryd.func34 (by kernel_rfl) rfl #[.int .i64 a0_4, .int .i64 1, .int .i64 10, .int .i64 21] rfl (by (try simp only [List.map_toArray, List.map_cons, List.map_nil]); first | done | rfl | (simp only [List.length_drop, List.length_take]; rfl)) ?_; (with_reducible refine (caponierref02_bit.calls kj18 a0_4 1 10 21 t220 _ A48.out).mono ?_); rintro e w' ⟨rfl, ⟨nd, rfl⟩⟩; refine ⟨_, rfl, ?_⟩) | ((with_reducible refine gate_callee (f := 34) rfl ?_); refine goesL_ (some 109) rfl rfl Tryd.func34 (by kernel_rfl) rfl #[.int .i64 a0_4, .int .i64 11, .int .i64 1, .int .i64 20] rfl (by (try simp only [List.map_toArray, List.map_cons, List.map_nil]); first | done | rfl | (simp only [List.length_drop, List.length_take]; rfl)) ?_; (with_reducible refine (caponierref02_bit.calls kj18 a0_4 11 1 20 t221 _ A49.out).mono ?_); rintro e w' ⟨rfl, ⟨nd, rfl⟩⟩; refine ⟨_, rfl, ?_⟩) | ((with_reducible refine gate_callee (f := 34) rfl ?_); refine goesL_ (some 112) rfl rfl Tryd.func34 (by kernel_rfl) rfl #[.int .i64 a0_4, .int .i64 12, .int .i64 8, .int .i64 12] rfl (by (try simp only [List.map_toArray, List.map_cons, List.map_nil]); first | done | rfl | (simp only [List.length_drop, List.length_take]; rfl)) ?_; (with_reducible refine (caponierref02_bit.calls kj18 a0_4 12 8 12 t222 _ A50.out).mono ?_); rintro e w' ⟨rfl, ⟨nd, rfl⟩⟩; refine ⟨_, rfl, ?_⟩) | ((with_reducible refine gate_callee (f := 34) rfl ?_); refine goesL_ (some 115) rfl rfl Tryd.func34 (by kernel_rfl) rfl #[.int .i64 a0_4, .int .i64 20, .int .i64 1, .int .i64 31] rfl (by (try simp only [List.map_toArray, List.map_cons, List.map_nil]); first | done | rfl | (simp only [List.length_drop, List.length_take]; rfl)) ?_; (with_reducible refine (caponierref02_bit.calls kj18 a0_4 20 1 31 t223 _ A51.out).mono ?_); rintro e w' ⟨rfl, ⟨nd, rfl⟩⟩; refine ⟨_, rfl, ?_⟩))
                          go_ret2
                          exact ⟨by first | rfl | (simp [errW_none, errW_some] <;> rfl) | (simp [*, errW_none, errW_some] <;> rfl), by repeat (first | (with_reducible first | exact HB.out | apply below_alloc | apply pw_below_drewN | apply below_drew1 | refine below_set ?_ GE204.out) | exact HB.out)⟩
                        · rw [if_neg c47] at H
                          have c47b0 : (t206.toList == ([74] : List UInt8)) = false := beq_eq_false_iff_ne.mpr c47
                          have c47b1 : (t206.toList != ([74] : List UInt8)) = true := bne_iff_ne.mpr c47
                          simp only [Option.some.injEq, Prod.mk.injEq] at H
                          obtain ⟨rfl, rfl⟩ := H
                          have hcz53_0 : wc.cell? ⟨gb204, 0, none⟩ = some (.int .i64 a0_0) := (blk_cell BK204.out 0).trans rfl
                          have hcz53_1 : wc.cell? ⟨gb204, 1, none⟩ = some (.int .i64 a0_1) := (blk_cell BK204.out 1).trans rfl
                          have hcz53_2 : wc.cell? ⟨gb204, 2, none⟩ = some (.int .i64 a0_2) := (blk_cell BK204.out 2).trans rfl
                          have hcz53_3 : wc.cell? ⟨gb204, 3, none⟩ = some (.int .i64 a0_3) := (blk_cell BK204.out 3).trans rfl
                          have hcz53_4 : wc.cell? ⟨gb204, 4, none⟩ = some (.int .i64 a0_4) := (blk_cell BK204.out 4).trans rfl
                          have hfz53_0 := blk_frozen BK204.out 0
                          have hfz53_1 := blk_frozen BK204.out 1
                          have hfz53_2 := blk_frozen BK204.out 2
                          have hfz53_3 := blk_frozen BK204.out 3
                          have hfz53_4 := blk_frozen BK204.out 4
                          go_wp2
                          go_ret2
                          exact ⟨by first | rfl | (simp [errW_none, errW_some] <;> rfl) | (simp [*, errW_none, errW_some] <;> rfl), by repeat (first | (with_reducible first | exact HB.out | apply below_alloc | apply pw_below_drewN | apply below_drew1 | refine below_set ?_ GE204.out) | exact HB.out)⟩
  · replace c3 := Bool.eq_false_iff.mpr c3
    subst c3
    have H1 : (some (0, 1)) = some (r1, r2) := by rw [if_neg (show ¬ (false = true) by decide)] at H; exact H
    clear H
    have H := H1
    clear H1
    simp only [Option.some.injEq, Prod.mk.injEq] at H
    obtain ⟨rfl, rfl⟩ := H
    go_enter Tryd.func18, Tryd.ntmps18
    go_wp2_with (first | ((with_reducible refine gate_dst (N := 1) rfl ?_); refine box_event ?hg (N := 1) ?hd (cs := #[.int .i64 a0_0, .int .i64 a0_1, .int .i64 a0_2, .int .i64 a0_3, .int .i64 a0_4]) (t := 43) ?hr ?_; (case hd => rfl); (case hg => rfl); (case hr => first | (go_simp; done) | (go_simp; rfl)); intro gb204 hg w54 hbox hb; have n0_ := Aside0.mk (below_step (by repeat (first | (with_reducible first | exact HB.out | apply below_alloc | apply pw_below_drewN | apply below_drew1) | exact HB.out)) hb); have n1_ := Aside0.mk (hbox); have n2_ := Aside0.mk ((by rw [hg]; exact (below_size (by repeat (first | (with_reducible first | exact HB.out | apply below_alloc | apply pw_below_drewN | apply below_drew1) | exact HB.out))) : w.heap.size ≤ gb204)); have n3_ := Aside0.mk ((by rw [hg]; exact (below_size (by repeat (first | (with_reducible first | exact HB.out | apply below_alloc | apply pw_below_drewN | apply below_drew1) | exact HB.out))) : w.heap.size ≤ gb204)); clear HB; have HB := n0_; have BK204 := n1_; have GW204 := n2_; have GE204 := n3_; clear n0_ n1_ n2_ n3_; clear hb hbox hg; have hcz55_0 : w54.cell? ⟨gb204, 0, none⟩ = some (.int .i64 a0_0) := (blk_cell BK204.out 0).trans rfl; have hcz55_1 : w54.cell? ⟨gb204, 1, none⟩ = some (.int .i64 a0_1) := (blk_cell BK204.out 1).trans rfl; have hcz55_2 : w54.cell? ⟨gb204, 2, none⟩ = some (.int .i64 a0_2) := (blk_cell BK204.out 2).trans rfl; have hcz55_3 : w54.cell? ⟨gb204, 3, none⟩ = some (.int .i64 a0_3) := (blk_cell BK204.out 3).trans rfl; have hcz55_4 : w54.cell? ⟨gb204, 4, none⟩ = some (.int .i64 a0_4) := (blk_cell BK204.out 4).trans rfl; have hfz55_0 := blk_frozen BK204.out 0; have hfz55_1 := blk_frozen BK204.out 1; have hfz55_2 := blk_frozen BK204.out 2; have hfz55_3 := blk_frozen BK204.out 3; have hfz55_4 := blk_frozen BK204.out 4) | ((with_reducible refine gate_callee (f := 30) rfl ?_); refine goesL_ (some 8) rfl rfl Tryd.func30 (by kernel_rfl) rfl #[.agg #[.int .i64 a0_0, .int .i64 a0_1, .int .i64 a0_2, .int .i64 a0_3, .int .i64 a0_4]] rfl (by (try simp only [List.map_toArray, List.map_cons, List.map_nil]); first | done | rfl | (simp only [List.length_drop, List.length_take]; rfl)) ?_; (with_reducible refine (caponierref02_May.calls k a0_0 a0_1 a0_2 a0_3 a0_4 false _ A2.out).mono ?_); rintro e w56 ⟨rfl, hb⟩; refine ⟨_, rfl, ?_⟩; have n0_ := Aside0.mk (blk_below (g := gb204) (o := .cells #[.int .i64 a0_0, .int .i64 a0_1, .int .i64 a0_2, .int .i64 a0_3, .int .i64 a0_4] 43 (0, 0)) (by (with_reducible repeat (first | refine blk_drewN ?_ _ | refine blk_drew ?_ | refine blk_alloc ?_ _)); exact BK204.out) hb); have n1_ := Aside0.mk (below_step (by repeat (first | (with_reducible first | exact HB.out | apply below_alloc | apply pw_below_drewN | apply below_drew1 | refine below_set ?_ GE204.out) | exact HB.out)) hb); clear BK204; clear HB; have BK204 := n0_; have HB := n1_; clear n0_ n1_; (try clear hb); (try clear hb2); (try clear hk); (try clear hi)))
    go_ret2
    exact ⟨by first | rfl | (simp [errW_none, errW_some] <;> rfl) | (simp [*, errW_none, errW_some] <;> rfl), by repeat (first | (with_reducible first | exact HB.out | apply below_alloc | apply pw_below_drewN | apply below_drew1 | refine below_set ?_ GE204.out) | exact HB.out)⟩
end Go.Proofs.YtaoajlaocphgdaaDoor.PA
end
section
namespace Go.Proofs.YtaoajlaocphgdaaDoor.PA
open Go.RowKit Go.Proofs.YtaoajlaocphgdaaDoorW.PrintWords Go.Proofs.YtaoajlaocphgdaaDoorW.PrintLast Go.Proofs.YtaoajlaocphgdaaDoorW.PrintMore
attribute [local go_sem] max2_int min2_int max_two min_two max_three min_three max_four min_four   -- for this text's walks alone
set_option linter.unusedVariables false
set_option linter.unusedSimpArgs false
mutual
def caponierref01_Sign.j0 : Nat → Int → Int → Int → Bool → Option (Int)
  | 0, _, _, _, _ => none
  | k + 1, x0, x1, x5, x13 => if x13 = true then (some 0) else (caponierref01_Sign.l0 k x0 x1 x5 63)
def caponierref01_Sign.l0 : Nat → Int → Int → Int → Int → Option (Int)
  | 0, _, _, _, _ => none
  | k + 1, x0, x1, x5, x6 => if x6 ≥ 0 then ((caponierref01_Bit.f x0 (wrap64 (x1 - 1))).bind fun t224 => (if x6 < x1 then ((caponierref01_Bit.f x0 x6).bind fun t225 => (caponierref01_Sign.l0 k x0 x1 (IntKind.u64.wrap ((IntKind.u64.wrap (2 * x5)) + t225)) (wrap64 (x6 - 1)))) else (caponierref01_Sign.l0 k x0 x1 (IntKind.u64.wrap ((IntKind.u64.wrap (2 * x5)) + t224)) (wrap64 (x6 - 1))))) else (some (wrap64 (x5)))
end
def caponierref01_Sign.f (k : Nat) (a0 : Int) (a1 : Int) : Option (Int) := if a1 < 1 then (caponierref01_Sign.j0 k a0 a1 0 true) else (caponierref01_Sign.j0 k a0 a1 0 (decide (a1 > 64)))
theorem caponierref01_Sign.mono_l : ∀ k, (∀ y0 y1 y2 y3, LeO (caponierref01_Sign.j0 k y0 y1 y2 y3) (caponierref01_Sign.j0 (k + 1) y0 y1 y2 y3)) ∧ (∀ y0 y1 y2 y3, LeO (caponierref01_Sign.l0 k y0 y1 y2 y3) (caponierref01_Sign.l0 (k + 1) y0 y1 y2 y3))
  | 0 => ⟨fun _ _ _ _ r h => by simp [caponierref01_Sign.j0] at h, fun _ _ _ _ r h => by simp [caponierref01_Sign.l0] at h⟩
  | k + 1 => by
    obtain ⟨ih0, ih1⟩ := caponierref01_Sign.mono_l k
    refine ⟨?_, ?_⟩
    · intro y0 y1 y2 y3
      unfold caponierref01_Sign.j0
      repeat' first
      | (with_reducible exact ih0 _ _ _ _)
      | (with_reducible exact ih1 _ _ _ _)
      | (with_reducible exact LeO.refl _)
      | (with_reducible exact LeO.none _)
      | (with_reducible refine LeO.ite ?_ ?_)
      | (with_reducible refine LeO.bind ?_ (fun _ => ?_))
      | exact ih0 _ _ _ _
      | exact ih1 _ _ _ _
      | exact LeO.none _
      | refine LeO.ite ?_ ?_
      | refine LeO.bind ?_ (fun _ => ?_)
    · intro y0 y1 y2 y3
      unfold caponierref01_Sign.l0
      repeat' first
      | (with_reducible exact ih0 _ _ _ _)
      | (with_reducible exact ih1 _ _ _ _)
      | (with_reducible exact LeO.refl _)
      | (with_reducible exact LeO.none _)
      | (with_reducible refine LeO.ite ?_ ?_)
      | (with_reducible refine LeO.bind ?_ (fun _ => ?_))
      | exact ih0 _ _ _ _
      | exact ih1 _ _ _ _
      | exact LeO.none _
      | refine LeO.ite ?_ ?_
      | refine LeO.bind ?_ (fun _ => ?_)
theorem caponierref01_Sign.mono : ∀ a0 a1 k, LeO (caponierref01_Sign.f k a0 a1) (caponierref01_Sign.f (k + 1) a0 a1) := by
  intro a0 a1 k
  obtain ⟨ih0, ih1⟩ := caponierref01_Sign.mono_l k
  unfold caponierref01_Sign.f
  repeat' first
      | (with_reducible exact ih0 _ _ _ _)
      | (with_reducible exact ih1 _ _ _ _)
      | (with_reducible exact LeO.refl _)
      | (with_reducible exact LeO.none _)
      | (with_reducible refine LeO.ite ?_ ?_)
      | (with_reducible refine LeO.bind ?_ (fun _ => ?_))
      | exact ih0 _ _ _ _
      | exact ih1 _ _ _ _
      | exact LeO.none _
      | refine LeO.ite ?_ ?_
      | refine LeO.bind ?_ (fun _ => ?_)
set_option maxHeartbeats 8000000 in
set_option maxRecDepth 100000 in
theorem caponierref01_Sign.calls (k : Nat) (a0 : Int) (a1 : Int) (r : Int) (w : World) (h : caponierref01_Sign.f k a0 a1 = some r) :
    Calls Tryd.prog 62 #[.int .u64 a0, .int .i64 a1] w fun e w' => e = .returned (.int .i64 r) ∧ Drawn0 w w' := by
  have H : (if a1 < 1 then (caponierref01_Sign.j0 k a0 a1 0 true) else (caponierref01_Sign.j0 k a0 a1 0 (decide (a1 > 64)))) = some r := h
  clear h
  have HC3 := Aside0.mk H
  clear H
  go_enter Tryd.func62, Tryd.ntmps62
  go_upto_region 2 with (fail)
  go_cut [13] (fun v13 wc => ∃ (kq : Nat) (x13_2 : Bool), v13 = .bool x13_2 ∧ Aside0 (caponierref01_Sign.j0 kq a0 a1 0 x13_2 = some r) ∧ Aside0 (kq ≤ k) ∧ Drawn0 w wc)
  case first =>
    have H := HC3.out
    clear HC3
    by_cases c4 : a1 < 1
    · rw [if_pos c4] at H
      have c4b0 : decide (a1 < 1) = true := decide_eq_true c4
      clear c4
      (first | rw [c4b0] | (simp only [i64_w, i32_w]; rw [c4b0]) | skip)
      have H' := Aside0.mk H
      clear H
      go_wp2
      go_meet
      case rel => exact ⟨_, (true), (by first | rfl | (simp; done) | (simp [*]; done)), H', ⟨by first | omega | exact Nat.le_refl _⟩, by repeat (first | exact Drawn0.refl _ | apply Drawn0.step)⟩
    · rw [if_neg c4] at H
      have c4b0 : decide (a1 < 1) = false := decide_eq_false c4
      clear c4
      (first | rw [c4b0] | (simp only [i64_w, i32_w]; rw [c4b0]) | skip)
      have H' := Aside0.mk H
      clear H
      go_wp2
      go_meet
      case rel => exact ⟨_, (decide (a1 > 64)), (by first | rfl | (simp; done) | (simp [*]; done)), H', ⟨by first | omega | exact Nat.le_refl _⟩, by repeat (first | exact Drawn0.refl _ | apply Drawn0.step)⟩
  case rest =>
    clear HC3
    try clear p2
    try clear c4
    try clear c4b0
    obtain ⟨kq, x13_2, rfl, HA, HJ2, ⟨mc2, rfl⟩⟩ := hcut
    cases kq with
    | zero => exact absurd HA.out (by simp [caponierref01_Sign.j0])
    | succ kj2 =>
      have H := HA.out
      clear HA
      simp only [caponierref01_Sign.j0] at H
      by_cases c5 : x13_2 = true
      · subst c5
        have H1 : (some 0) = some r := by rw [if_pos rfl] at H; exact H
        clear H
        have H := H1
        clear H1
        obtain rfl := Option.some.inj H
        go_wp2
        go_ret
        exact ⟨by first | rfl | (simp; done) | (simp [*]; done), by repeat (first | exact Drawn0.refl _ | apply Drawn0.step)⟩
      · replace c5 := Bool.eq_false_iff.mpr c5
        subst c5
        have H1 : (caponierref01_Sign.l0 kj2 a0 a1 0 63) = some r := by rw [if_neg (show ¬ (false = true) by decide)] at H; exact H
        clear H
        have H := H1
        clear H1
        have H' := Aside0.mk H
        clear H
        go_wp2
        go_loopg [5, 6] kj2 (fun kq v5 v6 w' => ∃ (x5_2 : Int) (x6_2 : Int), v5 = .int .u64 x5_2 ∧ v6 = .int .i64 x6_2 ∧ Aside0 (caponierref01_Sign.l0 kq a0 a1 x5_2 x6_2 = some r) ∧ Aside0 (kq ≤ kj2) ∧ Drawn0 w w')
        case atStart => exact ⟨(0), (63), (by first | rfl | (simp; done) | (simp [*]; done)), (by first | rfl | (simp; done) | (simp [*]; done)), H', ⟨Nat.le_refl _⟩, by repeat (first | exact Drawn0.refl _ | apply Drawn0.step)⟩
        case round =>
          clear H'
          try clear c2
          try clear p2
          try clear c4
          try clear c4b0
          try clear c5
          try clear p2
          obtain ⟨x5_2, x6_2, rfl, rfl, HA, HK2, ⟨m2, rfl⟩⟩ := hrel
          cases gk with
          | zero => exact absurd HA.out (by simp [caponierref01_Sign.l0])
          | succ k2 =>
            have H := HA.out
            clear HA
            simp only [caponierref01_Sign.l0] at H
            by_cases c6 : x6_2 ≥ 0
            · rw [if_pos c6] at H
              have c6b0 : decide (0 ≤ x6_2) = true := decide_eq_true c6
              clear c6
              replace H := Option.bind_eq_some_iff.mp H
              obtain ⟨t224, A70, H⟩ := H
              replace H : (if x6_2 < a1 then ((caponierref01_Bit.f a0 x6_2).bind fun t225 => (caponierref01_Sign.l0 k2 a0 a1 (IntKind.u64.wrap ((IntKind.u64.wrap (2 * x5_2)) + t225)) (wrap64 (x6_2 - 1)))) else (caponierref01_Sign.l0 k2 a0 a1 (IntKind.u64.wrap ((IntKind.u64.wrap (2 * x5_2)) + t224)) (wrap64 (x6_2 - 1)))) = some r := H
              have A7 := Aside0.mk A70
              clear A70
              by_cases c8 : x6_2 < a1
              · rw [if_pos c8] at H
                have c8b0 : decide (x6_2 < a1) = true := decide_eq_true c8
                clear c8
                replace H := Option.bind_eq_some_iff.mp H
                obtain ⟨t225, A90, H⟩ := H
                replace H : (caponierref01_Sign.l0 k2 a0 a1 (IntKind.u64.wrap ((IntKind.u64.wrap (2 * x5_2)) + t225)) (wrap64 (x6_2 - 1))) = some r := H
                have A9 := Aside0.mk A90
                clear A90
                have H' := Aside0.mk H
                clear H
                go_wp2_with (first | ((with_reducible refine gate_callee (f := 83) rfl ?_); refine goesL_ (some 21) rfl rfl Tryd.func83 (by kernel_rfl) rfl #[.int .u64 a0, .int .i64 (wrap64 (a1 - 1))] rfl (by (try simp only [List.map_toArray, List.map_cons, List.map_nil]); first | done | rfl | (simp only [List.length_drop, List.length_take]; rfl)) ?_; (with_reducible refine (caponierref01_Bit.calls a0 (wrap64 (a1 - 1)) t224 _ A7.out).mono ?_); rintro e w' ⟨rfl, ⟨nd, rfl⟩⟩; refine ⟨_, rfl, ?_⟩) | ((with_reducible refine gate_callee (f := 83) rfl ?_); refine goesL_ (some 27) rfl rfl Tryd.func83 (by kernel_rfl) rfl #[.int .u64 a0, .int .i64 x6_2] rfl (by (try simp only [List.map_toArray, List.map_cons, List.map_nil]); first | done | rfl | (simp only [List.length_drop, List.length_take]; rfl)) ?_; (with_reducible refine (caponierref01_Bit.calls a0 x6_2 t225 _ A9.out).mono ?_); rintro e w' ⟨rfl, ⟨nd, rfl⟩⟩; refine ⟨_, rfl, ?_⟩))
                go_roundg k2
                case measure => have := HJ2.out; have := HK2.out; omega
                case rel => exact ⟨(IntKind.u64.wrap ((IntKind.u64.wrap (2 * x5_2)) + t225)), (wrap64 (x6_2 - 1)), (by first | rfl | (simp; done) | (simp [*]; done)), (by first | rfl | (simp; done) | (simp [*]; done)), H', ⟨by have := HJ2.out; have := HK2.out; omega⟩, by repeat (first | exact Drawn0.refl _ | apply Drawn0.step)⟩
              · rw [if_neg c8] at H
                have c8b0 : decide (x6_2 < a1) = false := decide_eq_false c8
                clear c8
                have H' := Aside0.mk H
                clear H
                go_wp2_with (first | ((with_reducible refine gate_callee (f := 83) rfl ?_); refine goesL_ (some 21) rfl rfl Tryd.func83 (by kernel_rfl) rfl #[.int .u64 a0, .int .i64 (wrap64 (a1 - 1))] rfl (by (try simp only [List.map_toArray, List.map_cons, List.map_nil]); first | done | rfl | (simp only [List.length_drop, List.length_take]; rfl)) ?_; (with_reducible refine (caponierref01_Bit.calls a0 (wrap64 (a1 - 1)) t224 _ A7.out).mono ?_); rintro e w' ⟨rfl, ⟨nd, rfl⟩⟩; refine ⟨_, rfl, ?_⟩))
                go_roundg k2
                case measure => have := HJ2.out; have := HK2.out; omega
                case rel => exact ⟨(IntKind.u64.wrap ((IntKind.u64.wrap (2 * x5_2)) + t224)), (wrap64 (x6_2 - 1)), (by first | rfl | (simp; done) | (simp [*]; done)), (by first | rfl | (simp; done) | (simp [*]; done)), H', ⟨by have := HJ2.out; have := HK2.out; omega⟩, by repeat (first | exact Drawn0.refl _ | apply Drawn0.step)⟩
            · rw [if_neg c6] at H
              have c6b0 : decide (0 ≤ x6_2) = false := decide_eq_false c6
              clear c6
              obtain rfl := Option.some.inj H
              go_wp2
              go_ret
              exact ⟨by first | rfl | (simp; done) | (simp [*]; done), by repeat (first | exact Drawn0.refl _ | apply Drawn0.step)⟩
def caponierref19_number.f (k : Nat) (a0 : Int) (a1 : Int) : Option ((List (S43))) := (caponierref01_Sign.f k (Int.tmod a1 4096) 12).bind fun t226 => (some (([(⟨38, a0, 0, 0, wrap64 (IntKind.u64.wrap ((IntKind.u64.wrap (a1 + 2048)) - (Int.tmod (IntKind.u64.wrap (a1 + 2048)) 4096)))⟩ : S43), (⟨16, a0, a0, 0, t226⟩ : S43)] : List (S43))))
theorem caponierref19_number.mono : ∀ a0 a1 k, LeO (caponierref19_number.f k a0 a1) (caponierref19_number.f (k + 1) a0 a1) := by
  intro a0 a1 k
  unfold caponierref19_number.f
  repeat' first
      | (with_reducible exact caponierref01_Sign.mono _ _ _)
      | (with_reducible exact LeO.refl _)
      | (with_reducible exact LeO.none _)
      | (with_reducible refine LeO.ite ?_ ?_)
      | (with_reducible refine LeO.bind ?_ (fun _ => ?_))
      | exact caponierref01_Sign.mono _ _ _
      | exact LeO.none _
      | refine LeO.ite ?_ ?_
      | refine LeO.bind ?_ (fun _ => ?_)
set_option maxHeartbeats 8000000 in
set_option maxRecDepth 100000 in
theorem caponierref19_number.calls (k : Nat) (a0 : Int) (a1 : Int) (r : List (S43)) (w : World) (h : caponierref19_number.f k a0 a1 = some r) :
    Calls Tryd.prog 58 #[.int .i64 a0, .int .u64 a1] w fun e w' => ∃ v0_ : Value, e = .returned (v0_) ∧ Kd.R k43 43 w' w.heap.size (fun _ => True) v0_ r ∧ Below w.heap.size w w' := by
  have hu43 := Tryd.underlying43
  have HB := Aside0.mk (Below.refl w.heap.size w)
  have H : ((caponierref01_Sign.f k (Int.tmod a1 4096) 12).bind fun t226 => (some (([(⟨38, a0, 0, 0, wrap64 (IntKind.u64.wrap ((IntKind.u64.wrap (a1 + 2048)) - (Int.tmod (IntKind.u64.wrap (a1 + 2048)) 4096)))⟩ : S43), (⟨16, a0, a0, 0, t226⟩ : S43)] : List (S43))))) = some r := h
  clear h
  replace H := Option.bind_eq_some_iff.mp H
  obtain ⟨t226, A30, H⟩ := H
  replace H : (some (([(⟨38, a0, 0, 0, wrap64 (IntKind.u64.wrap ((IntKind.u64.wrap (a1 + 2048)) - (Int.tmod (IntKind.u64.wrap (a1 + 2048)) 4096)))⟩ : S43), (⟨16, a0, a0, 0, t226⟩ : S43)] : List (S43)))) = some r := H
  have A3 := Aside0.mk A30
  clear A30
  obtain ⟨y227, hy227⟩ : ∃ y_ : List (S43), y_ = (([(⟨38, a0, 0, 0, wrap64 (IntKind.u64.wrap ((IntKind.u64.wrap (a1 + 2048)) - (Int.tmod (IntKind.u64.wrap (a1 + 2048)) 4096)))⟩ : S43), (⟨16, a0, a0, 0, t226⟩ : S43)] : List (S43))) := ⟨_, rfl⟩
  replace H : (some y227) = some r := by first | (rw [hy227]; with_reducible exact H) | (have H2_ := (Option.bind_some _ _).symm.trans H; rw [hy227]; with_reducible exact H2_) | (have H2_ := (Option.bind_some _ _).symm.trans H; with_reducible exact H2_) | with_reducible exact H | (rw [hy227]; exact H) | exact H
  have Ny227 := Aside0.mk hy227
  clear hy227
  obtain rfl := Option.some.inj H
  go_enter Tryd.func58, Tryd.ntmps58
  go_wp2_with (first | ((with_reducible refine gate_callee (f := 62) rfl ?_); refine goesL_ (some 18) rfl rfl Tryd.func62 (by kernel_rfl) rfl #[.int .u64 (Int.tmod a1 4096), .int .i64 12] rfl (by (try simp only [List.map_toArray, List.map_cons, List.map_nil]); first | done | rfl | (simp only [List.length_drop, List.length_take]; rfl)) ?_; (with_reducible refine (caponierref01_Sign.calls k (Int.tmod a1 4096) 12 t226 _ A3.out).mono ?_); rintro e w' ⟨rfl, ⟨nd, rfl⟩⟩; refine ⟨_, rfl, ?_⟩) | ((with_reducible refine gate_dst (N := 20) rfl ?_); refine Kd.R_lit k43 _ 43 ?hg (N := 20) ?hd (xs := ([(⟨38, a0, 0, 0, wrap64 (IntKind.u64.wrap ((IntKind.u64.wrap (a1 + 2048)) - (Int.tmod (IntKind.u64.wrap (a1 + 2048)) 4096)))⟩ : S43), (⟨16, a0, a0, 0, t226⟩ : S43)] : List (S43))) (inner := [.int .i64 38, .int .i64 a0, .int .i64 0, .int .i64 0, .int .i64 (wrap64 (IntKind.u64.wrap ((IntKind.u64.wrap (a1 + 2048)) - (Int.tmod (IntKind.u64.wrap (a1 + 2048)) 4096)))), .int .i64 16, .int .i64 a0, .int .i64 a0, .int .i64 0, .int .i64 t226]) (ok := fun _ => True) (okp := fun _ => True) ?hr ?hp (fun _ hk => hk) trivial (Below.refl _ _) (Nat.le_refl _) (by simp) ?_; (case hd => rfl); (case hg => rfl); (case hr => first | (go_simp; done) | (go_simp; rfl)); (case hp => exact (Reps.c5 (show Kd.M k43 _ _ _ (⟨38, a0, 0, 0, wrap64 (IntKind.u64.wrap ((IntKind.u64.wrap (a1 + 2048)) - (Int.tmod (IntKind.u64.wrap (a1 + 2048)) 4096)))⟩ : S43) [.int .i64 38, .int .i64 a0, .int .i64 0, .int .i64 0, .int .i64 (wrap64 (IntKind.u64.wrap ((IntKind.u64.wrap (a1 + 2048)) - (Int.tmod (IntKind.u64.wrap (a1 + 2048)) 4096))))] from (k43_mkM _ _ _ (⟨38, a0, 0, 0, wrap64 (IntKind.u64.wrap ((IntKind.u64.wrap (a1 + 2048)) - (Int.tmod (IntKind.u64.wrap (a1 + 2048)) 4096)))⟩ : S43) )) (Reps.c5 (show Kd.M k43 _ _ _ (⟨16, a0, a0, 0, t226⟩ : S43) [.int .i64 16, .int .i64 a0, .int .i64 a0, .int .i64 0, .int .i64 t226] from (k43_mkM _ _ _ (⟨16, a0, a0, 0, t226⟩ : S43) )) (Reps.none _ _)))); intro v228 w4 ho5 hb hg_ hnew_; clear hg_ hnew_; (first | rw [← Ny227.out] at ho5 | (simp only [Int.reduceToNat] at ho5; rw [← Ny227.out] at ho5)); have n0_ := Aside0.mk (Kd.R_lower ho5 (below_size (by repeat (first | (with_reducible first | exact HB.out | apply below_alloc | apply pw_below_drewN | apply below_drew1) | exact HB.out)))); have n1_ := Aside0.mk (below_step (by repeat (first | (with_reducible first | exact HB.out | apply below_alloc | apply pw_below_drewN | apply below_drew1) | exact HB.out)) hb); clear HB; have HO229 := n0_; have HB := n1_; clear n0_ n1_; clear hb ho5))
  go_ret
  exact ⟨_, by first | rfl | (simp [errW_none, errW_some] <;> rfl) | (simp [*, errW_none, errW_some] <;> rfl), by (with_reducible repeat (first | apply Kd.R_alloc | apply Kd.R_drewN | apply Kd.R_drew)); exact HO229.out, by repeat (first | (with_reducible first | exact HB.out | apply below_alloc | apply pw_below_drewN | apply below_drew1) | exact HB.out)⟩
def caponierref19_points.f (k : Nat) (a0 : Int) (a1 : Int) (a2_0 : Int) (a2_1 : Int) (a2_2 : Int) (a2_3 : Int) (a2_4 : Int) (a2_5 : Int) (a2_6 : Int) (a2_7 : Int) (a2_8 : Int) (a2_9 : Int) (a2_10 : Int) (a2_11 : Int) (a2_12 : Int) (a2_13 : Int) (a2_14 : Int) (a2_15 : Int) (a2_16 : Int) (a2_17 : Int) (a2_18 : Int) (a2_19 : Int) : Option ((List (S43))) := if (IntKind.u64.wrap (a2_12 + (IntKind.u64.wrap (8 * (IntKind.u64.wrap (a1)))))) > a2_13 then (some (([(⟨40, 0, 0, 0, (-1)⟩ : S43)] : List (S43)))) else ((some (([(⟨21, 5, a0, 0, 7⟩ : S43), (⟨33, 0, 5, 0, (-1)⟩ : S43)] : List (S43)) : List (S43))).bind fun y234 => ((caponierref19_number.f k 5 a2_12).bind fun t237 => (if y234.length + t237.length < 3518437208883 then ((some (y234 ++ t237 : List (S43))).bind fun y240 => (if y240.length < 3518437208883 then ((some (y240 ++ [(⟨36, 0, a0, 5, (-1)⟩ : S43)] : List (S43))).bind fun y243 => ((caponierref19_number.f k 5 (IntKind.u64.wrap (a2_13 - (IntKind.u64.wrap (8 * (IntKind.u64.wrap (a1))))))).bind fun t246 => (if y243.length + t246.length < 3518437208883 then ((some (y243 ++ t246 : List (S43))).bind fun y249 => (if y249.length < 3518437208883 then (some (y249 ++ [(⟨36, 0, 5, a0, (-1)⟩ : S43)])) else (none))) else (none)))) else (none))) else (none))))
theorem caponierref19_points.mono : ∀ a0 a1 a2 a3 a4 a5 a6 a7 a8 a9 a10 a11 a12 a13 a14 a15 a16 a17 a18 a19 a20 a21 k, LeO (caponierref19_points.f k a0 a1 a2 a3 a4 a5 a6 a7 a8 a9 a10 a11 a12 a13 a14 a15 a16 a17 a18 a19 a20 a21) (caponierref19_points.f (k + 1) a0 a1 a2 a3 a4 a5 a6 a7 a8 a9 a10 a11 a12 a13 a14 a15 a16 a17 a18 a19 a20 a21) := by
  intro a0 a1 a2 a3 a4 a5 a6 a7 a8 a9 a10 a11 a12 a13 a14 a15 a16 a17 a18 a19 a20 a21 k
  unfold caponierref19_points.f
  repeat' first
      | (with_reducible exact caponierref19_number.mono _ _ _)
      | (with_reducible exact LeO.refl _)
      | (with_reducible exact LeO.none _)
      | (with_reducible refine LeO.ite ?_ ?_)
      | (with_reducible refine LeO.bind ?_ (fun _ => ?_))
      | exact caponierref19_number.mono _ _ _
      | exact LeO.none _
      | refine LeO.ite ?_ ?_
      | refine LeO.bind ?_ (fun _ => ?_)
set_option maxHeartbeats 8000000 in
set_option maxRecDepth 100000 in
theorem caponierref19_points.calls (k : Nat) (a0 : Int) (a1 : Int) (a2_0 : Int) (a2_1 : Int) (a2_2 : Int) (a2_3 : Int) (a2_4 : Int) (a2_5 : Int) (a2_6 : Int) (a2_7 : Int) (a2_8 : Int) (a2_9 : Int) (a2_10 : Int) (a2_11 : Int) (a2_12 : Int) (a2_13 : Int) (a2_14 : Int) (a2_15 : Int) (a2_16 : Int) (a2_17 : Int) (a2_18 : Int) (a2_19 : Int) (r : List (S43)) (w : World) (h : caponierref19_points.f k a0 a1 a2_0 a2_1 a2_2 a2_3 a2_4 a2_5 a2_6 a2_7 a2_8 a2_9 a2_10 a2_11 a2_12 a2_13 a2_14 a2_15 a2_16 a2_17 a2_18 a2_19 = some r) :
    Calls Tryd.prog 59 #[.int .i64 a0, .int .i64 a1, .agg #[.int .u64 a2_0, .int .u64 a2_1, .int .i64 a2_2, .int .i64 a2_3, .int .u64 a2_4, .int .u64 a2_5, .int .i64 a2_6, .int .i64 a2_7, .int .u64 a2_8, .int .u64 a2_9, .int .i64 a2_10, .int .i64 a2_11, .int .u64 a2_12, .int .u64 a2_13, .int .i64 a2_14, .int .i64 a2_15, .int .u64 a2_16, .int .u64 a2_17, .int .i64 a2_18, .int .i64 a2_19]] w fun e w' => ∃ v0_ : Value, e = .returned (v0_) ∧ Kd.R k43 43 w' w.heap.size (fun _ => True) v0_ r ∧ Below w.heap.size w w' := by
  have hu27 := Tryd.underlying27
  have hu43 := Tryd.underlying43
  have HB := Aside0.mk (Below.refl w.heap.size w)
  have H : (if (IntKind.u64.wrap (a2_12 + (IntKind.u64.wrap (8 * (IntKind.u64.wrap (a1)))))) > a2_13 then (some (([(⟨40, 0, 0, 0, (-1)⟩ : S43)] : List (S43)))) else ((some (([(⟨21, 5, a0, 0, 7⟩ : S43), (⟨33, 0, 5, 0, (-1)⟩ : S43)] : List (S43)) : List (S43))).bind fun y234 => ((caponierref19_number.f k 5 a2_12).bind fun t237 => (if y234.length + t237.length < 3518437208883 then ((some (y234 ++ t237 : List (S43))).bind fun y240 => (if y240.length < 3518437208883 then ((some (y240 ++ [(⟨36, 0, a0, 5, (-1)⟩ : S43)] : List (S43))).bind fun y243 => ((caponierref19_number.f k 5 (IntKind.u64.wrap (a2_13 - (IntKind.u64.wrap (8 * (IntKind.u64.wrap (a1))))))).bind fun t246 => (if y243.length + t246.length < 3518437208883 then ((some (y243 ++ t246 : List (S43))).bind fun y249 => (if y249.length < 3518437208883 then (some (y249 ++ [(⟨36, 0, 5, a0, (-1)⟩ : S43)])) else (none))) else (none)))) else (none))) else (none))))) = some r := h
  clear h
  by_cases c4 : (IntKind.u64.wrap (a2_12 + (IntKind.u64.wrap (8 * (IntKind.u64.wrap (a1)))))) > a2_13
  · rw [if_pos c4] at H
    have c4b0 : decide (a2_13 < (IntKind.u64.wrap (a2_12 + (IntKind.u64.wrap (8 * (IntKind.u64.wrap (a1))))))) = true := decide_eq_true c4
    clear c4
    obtain ⟨y231, hy231⟩ : ∃ y_ : List (S43), y_ = (([(⟨40, 0, 0, 0, (-1)⟩ : S43)] : List (S43))) := ⟨_, rfl⟩
    replace H : (some y231) = some r := by first | (rw [hy231]; with_reducible exact H) | (have H2_ := (Option.bind_some _ _).symm.trans H; rw [hy231]; with_reducible exact H2_) | (have H2_ := (Option.bind_some _ _).symm.trans H; with_reducible exact H2_) | with_reducible exact H | (rw [hy231]; exact H) | exact H
    have Ny231 := Aside0.mk hy231
    clear hy231
    obtain rfl := Option.some.inj H
    go_enter Tryd.func59, Tryd.ntmps59
    go_wp2_with (first | ((with_reducible refine gate_dst (N := 5) rfl ?_); refine box_event ?hg (N := 5) ?hd (cs := #[.int .u64 a2_0, .int .u64 a2_1, .int .i64 a2_2, .int .i64 a2_3, .int .u64 a2_4, .int .u64 a2_5, .int .i64 a2_6, .int .i64 a2_7, .int .u64 a2_8, .int .u64 a2_9, .int .i64 a2_10, .int .i64 a2_11, .int .u64 a2_12, .int .u64 a2_13, .int .i64 a2_14, .int .i64 a2_15, .int .u64 a2_16, .int .u64 a2_17, .int .i64 a2_18, .int .i64 a2_19]) (t := 27) ?hr ?_; (case hd => rfl); (case hg => rfl); (case hr => first | (go_simp; done) | (go_simp; rfl)); intro gb230 hg w5 hbox hb; have n0_ := Aside0.mk (below_step (by repeat (first | (with_reducible first | exact HB.out | apply below_alloc | apply pw_below_drewN | apply below_drew1) | exact HB.out)) hb); have n1_ := Aside0.mk (hbox); have n2_ := Aside0.mk ((by rw [hg]; exact (below_size (by repeat (first | (with_reducible first | exact HB.out | apply below_alloc | apply pw_below_drewN | apply below_drew1) | exact HB.out))) : w.heap.size ≤ gb230)); have n3_ := Aside0.mk ((by rw [hg]; exact (below_size (by repeat (first | (with_reducible first | exact HB.out | apply below_alloc | apply pw_below_drewN | apply below_drew1) | exact HB.out))) : w.heap.size ≤ gb230)); clear HB; have HB := n0_; have BK230 := n1_; have GW230 := n2_; have GE230 := n3_; clear n0_ n1_ n2_ n3_; clear hb hbox hg; have hcz6_0 : w5.cell? ⟨gb230, 0, none⟩ = some (.int .u64 a2_0) := (blk_cell BK230.out 0).trans rfl; have hcz6_1 : w5.cell? ⟨gb230, 1, none⟩ = some (.int .u64 a2_1) := (blk_cell BK230.out 1).trans rfl; have hcz6_2 : w5.cell? ⟨gb230, 2, none⟩ = some (.int .i64 a2_2) := (blk_cell BK230.out 2).trans rfl; have hcz6_3 : w5.cell? ⟨gb230, 3, none⟩ = some (.int .i64 a2_3) := (blk_cell BK230.out 3).trans rfl; have hcz6_4 : w5.cell? ⟨gb230, 4, none⟩ = some (.int .u64 a2_4) := (blk_cell BK230.out 4).trans rfl; have hcz6_5 : w5.cell? ⟨gb230, 5, none⟩ = some (.int .u64 a2_5) := (blk_cell BK230.out 5).trans rfl; have hcz6_6 : w5.cell? ⟨gb230, 6, none⟩ = some (.int .i64 a2_6) := (blk_cell BK230.out 6).trans rfl; have hcz6_7 : w5.cell? ⟨gb230, 7, none⟩ = some (.int .i64 a2_7) := (blk_cell BK230.out 7).trans rfl; have hcz6_8 : w5.cell? ⟨gb230, 8, none⟩ = some (.int .u64 a2_8) := (blk_cell BK230.out 8).trans rfl; have hcz6_9 : w5.cell? ⟨gb230, 9, none⟩ = some (.int .u64 a2_9) := (blk_cell BK230.out 9).trans rfl; have hcz6_10 : w5.cell? ⟨gb230, 10, none⟩ = some (.int .i64 a2_10) := (blk_cell BK230.out 10).trans rfl; have hcz6_11 : w5.cell? ⟨gb230, 11, none⟩ = some (.int .i64 a2_11) := (blk_cell BK230.out 11).trans rfl; have hcz6_12 : w5.cell? ⟨gb230, 12, none⟩ = some (.int .u64 a2_12) := (blk_cell BK230.out 12).trans rfl; have hcz6_13 : w5.cell? ⟨gb230, 13, none⟩ = some (.int .u64 a2_13) := (blk_cell BK230.out 13).trans rfl; have hcz6_14 : w5.cell? ⟨gb230, 14, none⟩ = some (.int .i64 a2_14) := (blk_cell BK230.out 14).trans rfl; have hcz6_15 : w5.cell? ⟨gb230, 15, none⟩ = some (.int .i64 a2_15) := (blk_cell BK230.out 15).trans rfl; have hcz6_16 : w5.cell? ⟨gb230, 16, none⟩ = some (.int .u64 a2_16) := (blk_cell BK230.out 16).trans rfl; have hcz6_17 : w5.cell? ⟨gb230, 17, none⟩ = some (.int .u64 a2_17) := (blk_cell BK230.out 17).trans rfl; have hcz6_18 : w5.cell? ⟨gb230, 18, none⟩ = some (.int .i64 a2_18) := (blk_cell BK230.out 18).trans rfl; have hcz6_19 : w5.cell? ⟨gb230, 19, none⟩ = some (.int .i64 a2_19) := (blk_cell BK230.out 19).trans rfl; have hfz6_0 := blk_frozen BK230.out 0; have hfz6_1 := blk_frozen BK230.out 1; have hfz6_2 := blk_frozen BK230.out 2; have hfz6_3 := blk_frozen BK230.out 3; have hfz6_4 := blk_frozen BK230.out 4; have hfz6_5 := blk_frozen BK230.out 5; have hfz6_6 := blk_frozen BK230.out 6; have hfz6_7 := blk_frozen BK230.out 7; have hfz6_8 := blk_frozen BK230.out 8; have hfz6_9 := blk_frozen BK230.out 9; have hfz6_10 := blk_frozen BK230.out 10; have hfz6_11 := blk_frozen BK230.out 11; have hfz6_12 := blk_frozen BK230.out 12; have hfz6_13 := blk_frozen BK230.out 13; have hfz6_14 := blk_frozen BK230.out 14; have hfz6_15 := blk_frozen BK230.out 15; have hfz6_16 := blk_frozen BK230.out 16; have hfz6_17 := blk_frozen BK230.out 17; have hfz6_18 := blk_frozen BK230.out 18; have hfz6_19 := blk_frozen BK230.out 19) | ((with_reducible refine gate_dst (N := 20) rfl ?_); refine Kd.R_lit k43 _ 43 ?hg (N := 20) ?hd (xs := ([(⟨40, 0, 0, 0, (-1)⟩ : S43)] : List (S43))) (inner := [.int .i64 40, .int .i64 0, .int .i64 0, .int .i64 0, .int .i64 (-1)]) (ok := fun _ => True) (okp := fun _ => True) ?hr ?hp (fun _ hk => hk) trivial (Below.refl _ _) (Nat.le_refl _) (by simp) ?_; (case hd => rfl); (case hg => rfl); (case hr => first | (go_simp; done) | (go_simp; rfl)); (case hp => exact (Reps.c5 (show Kd.M k43 _ _ _ (⟨40, 0, 0, 0, (-1)⟩ : S43) [.int .i64 40, .int .i64 0, .int .i64 0, .int .i64 0, .int .i64 (-1)] from (k43_mkM _ _ _ (⟨40, 0, 0, 0, (-1)⟩ : S43) )) (Reps.none _ _))); intro v232 w7 ho8 hb hg_ hnew_; clear hg_ hnew_; (first | rw [← Ny231.out] at ho8 | (simp only [Int.reduceToNat] at ho8; rw [← Ny231.out] at ho8)); have n0_ := Aside0.mk (Kd.R_lower ho8 (below_size (by repeat (first | (with_reducible first | exact HB.out | apply below_alloc | apply pw_below_drewN | apply below_drew1 | refine below_set ?_ GE230.out) | exact HB.out)))); have n1_ := Aside0.mk (blk_below (g := gb230) (o := .cells #[.int .u64 a2_0, .int .u64 a2_1, .int .i64 a2_2, .int .i64 a2_3, .int .u64 a2_4, .int .u64 a2_5, .int .i64 a2_6, .int .i64 a2_7, .int .u64 a2_8, .int .u64 a2_9, .int .i64 a2_10, .int .i64 a2_11, .int .u64 a2_12, .int .u64 a2_13, .int .i64 a2_14, .int .i64 a2_15, .int .u64 a2_16, .int .u64 a2_17, .int .i64 a2_18, .int .i64 a2_19] 27 (0, 0)) (by (with_reducible repeat (first | refine blk_drewN ?_ _ | refine blk_drew ?_ | refine blk_alloc ?_ _)); exact BK230.out) hb); have n2_ := Aside0.mk (below_step (by repeat (first | (with_reducible first | exact HB.out | apply below_alloc | apply pw_below_drewN | apply below_drew1 | refine below_set ?_ GE230.out) | exact HB.out)) hb); clear BK230; clear HB; have HO233 := n0_; have BK230 := n1_; have HB := n2_; clear n0_ n1_ n2_; clear hb ho8))
    go_ret
    exact ⟨_, by first | rfl | (simp [errW_none, errW_some] <;> rfl) | (simp [*, errW_none, errW_some] <;> rfl), by (with_reducible repeat (first | apply Kd.R_alloc | apply Kd.R_drewN | apply Kd.R_drew)); exact HO233.out, by repeat (first | (with_reducible first | exact HB.out | apply below_alloc | apply pw_below_drewN | apply below_drew1 | refine below_set ?_ GE230.out) | exact HB.out)⟩
  · rw [if_neg c4] at H
    have c4b0 : decide (a2_13 < (IntKind.u64.wrap (a2_12 + (IntKind.u64.wrap (8 * (IntKind.u64.wrap (a1))))))) = false := decide_eq_false c4
    clear c4
    obtain ⟨y234, hy234⟩ : ∃ y_ : List (S43), y_ = (([(⟨21, 5, a0, 0, 7⟩ : S43), (⟨33, 0, 5, 0, (-1)⟩ : S43)] : List (S43))) := ⟨_, rfl⟩
    replace H : ((caponierref19_number.f k 5 a2_12).bind fun t237 => (if y234.length + t237.length < 3518437208883 then ((some (y234 ++ t237 : List (S43))).bind fun y240 => (if y240.length < 3518437208883 then ((some (y240 ++ [(⟨36, 0, a0, 5, (-1)⟩ : S43)] : List (S43))).bind fun y243 => ((caponierref19_number.f k 5 (IntKind.u64.wrap (a2_13 - (IntKind.u64.wrap (8 * (IntKind.u64.wrap (a1))))))).bind fun t246 => (if y243.length + t246.length < 3518437208883 then ((some (y243 ++ t246 : List (S43))).bind fun y249 => (if y249.length < 3518437208883 then (some (y249 ++ [(⟨36, 0, 5, a0, (-1)⟩ : S43)])) else (none))) else (none)))) else (none))) else (none))) = some r := by first | (rw [hy234]; with_reducible exact H) | (have H2_ := (Option.bind_some _ _).symm.trans H; rw [hy234]; with_reducible exact H2_) | (have H2_ := (Option.bind_some _ _).symm.trans H; with_reducible exact H2_) | with_reducible exact H | (rw [hy234]; exact H) | exact H
    have Ny234 := Aside0.mk hy234
    clear hy234
    replace H := Option.bind_eq_some_iff.mp H
    obtain ⟨t237, A90, H⟩ := H
    replace H : (if y234.length + t237.length < 3518437208883 then ((some (y234 ++ t237 : List (S43))).bind fun y240 => (if y240.length < 3518437208883 then ((some (y240 ++ [(⟨36, 0, a0, 5, (-1)⟩ : S43)] : List (S43))).bind fun y243 => ((caponierref19_number.f k 5 (IntKind.u64.wrap (a2_13 - (IntKind.u64.wrap (8 * (IntKind.u64.wrap (a1))))))).bind fun t246 => (if y243.length + t246.length < 3518437208883 then ((some (y243 ++ t246 : List (S43))).bind fun y249 => (if y249.length < 3518437208883 then (some (y249 ++ [(⟨36, 0, 5, a0, (-1)⟩ : S43)])) else (none))) else (none)))) else (none))) else (none)) = some r := H
    have A9 := Aside0.mk A90
    clear A90
    by_cases c10 : y234.length + t237.length < 3518437208883
    · rw [if_pos c10] at H
      have LMc10 := Aside0.mk c10
      clear c10
      obtain ⟨y240, hy240⟩ : ∃ y_ : List (S43), y_ = (y234 ++ t237) := ⟨_, rfl⟩
      replace H : (if y240.length < 3518437208883 then ((some (y240 ++ [(⟨36, 0, a0, 5, (-1)⟩ : S43)] : List (S43))).bind fun y243 => ((caponierref19_number.f k 5 (IntKind.u64.wrap (a2_13 - (IntKind.u64.wrap (8 * (IntKind.u64.wrap (a1))))))).bind fun t246 => (if y243.length + t246.length < 3518437208883 then ((some (y243 ++ t246 : List (S43))).bind fun y249 => (if y249.length < 3518437208883 then (some (y249 ++ [(⟨36, 0, 5, a0, (-1)⟩ : S43)])) else (none))) else (none)))) else (none)) = some r := by first | (rw [hy240]; with_reducible exact H) | (have H2_ := (Option.bind_some _ _).symm.trans H; rw [hy240]; with_reducible exact H2_) | (have H2_ := (Option.bind_some _ _).symm.trans H; with_reducible exact H2_) | with_reducible exact H | (rw [hy240]; exact H) | exact H
      have Ny240 := Aside0.mk hy240
      clear hy240
      by_cases c11 : y240.length < 3518437208883
      · rw [if_pos c11] at H
        have LMc11 := Aside0.mk c11
        clear c11
        obtain ⟨y243, hy243⟩ : ∃ y_ : List (S43), y_ = (y240 ++ [(⟨36, 0, a0, 5, (-1)⟩ : S43)]) := ⟨_, rfl⟩
        replace H : ((caponierref19_number.f k 5 (IntKind.u64.wrap (a2_13 - (IntKind.u64.wrap (8 * (IntKind.u64.wrap (a1))))))).bind fun t246 => (if y243.length + t246.length < 3518437208883 then ((some (y243 ++ t246 : List (S43))).bind fun y249 => (if y249.length < 3518437208883 then (some (y249 ++ [(⟨36, 0, 5, a0, (-1)⟩ : S43)])) else (none))) else (none))) = some r := by first | (rw [hy243]; with_reducible exact H) | (have H2_ := (Option.bind_some _ _).symm.trans H; rw [hy243]; with_reducible exact H2_) | (have H2_ := (Option.bind_some _ _).symm.trans H; with_reducible exact H2_) | with_reducible exact H | (rw [hy243]; exact H) | exact H
        have Ny243 := Aside0.mk hy243
        clear hy243
        replace H := Option.bind_eq_some_iff.mp H
        obtain ⟨t246, A120, H⟩ := H
        replace H : (if y243.length + t246.length < 3518437208883 then ((some (y243 ++ t246 : List (S43))).bind fun y249 => (if y249.length < 3518437208883 then (some (y249 ++ [(⟨36, 0, 5, a0, (-1)⟩ : S43)])) else (none))) else (none)) = some r := H
        have A12 := Aside0.mk A120
        clear A120
        by_cases c13 : y243.length + t246.length < 3518437208883
        · rw [if_pos c13] at H
          have LMc13 := Aside0.mk c13
          clear c13
          obtain ⟨y249, hy249⟩ : ∃ y_ : List (S43), y_ = (y243 ++ t246) := ⟨_, rfl⟩
          replace H : (if y249.length < 3518437208883 then (some (y249 ++ [(⟨36, 0, 5, a0, (-1)⟩ : S43)])) else (none)) = some r := by first | (rw [hy249]; with_reducible exact H) | (have H2_ := (Option.bind_some _ _).symm.trans H; rw [hy249]; with_reducible exact H2_) | (have H2_ := (Option.bind_some _ _).symm.trans H; with_reducible exact H2_) | with_reducible exact H | (rw [hy249]; exact H) | exact H
          have Ny249 := Aside0.mk hy249
          clear hy249
          by_cases c14 : y249.length < 3518437208883
          · rw [if_pos c14] at H
            have LMc14 := Aside0.mk c14
            clear c14
            obtain ⟨y252, hy252⟩ : ∃ y_ : List (S43), y_ = (y249 ++ [(⟨36, 0, 5, a0, (-1)⟩ : S43)]) := ⟨_, rfl⟩
            replace H : (some y252) = some r := by first | (rw [hy252]; with_reducible exact H) | (have H2_ := (Option.bind_some _ _).symm.trans H; rw [hy252]; with_reducible exact H2_) | (have H2_ := (Option.bind_some _ _).symm.trans H; with_reducible exact H2_) | with_reducible exact H | (rw [hy252]; exact H) | exact H
            have Ny252 := Aside0.mk hy252
            clear hy252
            obtain rfl := Option.some.inj H
            go_enter Tryd.func59, Tryd.ntmps59
            go_wp2_with (first | ((with_reducible refine gate_dst (N := 5) rfl ?_); refine box_event ?hg (N := 5) ?hd (cs := #[.int .u64 a2_0, .int .u64 a2_1, .int .i64 a2_2, .int .i64 a2_3, .int .u64 a2_4, .int .u64 a2_5, .int .i64 a2_6, .int .i64 a2_7, .int .u64 a2_8, .int .u64 a2_9, .int .i64 a2_10, .int .i64 a2_11, .int .u64 a2_12, .int .u64 a2_13, .int .i64 a2_14, .int .i64 a2_15, .int .u64 a2_16, .int .u64 a2_17, .int .i64 a2_18, .int .i64 a2_19]) (t := 27) ?hr ?_; (case hd => rfl); (case hg => rfl); (case hr => first | (go_simp; done) | (go_simp; rfl)); intro gb230 hg w15 hbox hb; have n0_ := Aside0.mk (below_step (by repeat (first | (with_reducible first | exact HB.out | apply below_alloc | apply pw_below_drewN | apply below_drew1) | exact HB.out)) hb); have n1_ := Aside0.mk (hbox); have n2_ := Aside0.mk ((by rw [hg]; exact (below_size (by repeat (first | (with_reducible first | exact HB.out | apply below_alloc | apply pw_below_drewN | apply below_drew1) | exact HB.out))) : w.heap.size ≤ gb230)); have n3_ := Aside0.mk ((by rw [hg]; exact (below_size (by repeat (first | (with_reducible first | exact HB.out | apply below_alloc | apply pw_below_drewN | apply below_drew1) | exact HB.out))) : w.heap.size ≤ gb230)); clear HB; have HB := n0_; have BK230 := n1_; have GW230 := n2_; have GE230 := n3_; clear n0_ n1_ n2_ n3_; clear hb hbox hg; have hcz16_0 : w15.cell? ⟨gb230, 0, none⟩ = some (.int .u64 a2_0) := (blk_cell BK230.out 0).trans rfl; have hcz16_1 : w15.cell? ⟨gb230, 1, none⟩ = some (.int .u64 a2_1) := (blk_cell BK230.out 1).trans rfl; have hcz16_2 : w15.cell? ⟨gb230, 2, none⟩ = some (.int .i64 a2_2) := (blk_cell BK230.out 2).trans rfl; have hcz16_3 : w15.cell? ⟨gb230, 3, none⟩ = some (.int .i64 a2_3) := (blk_cell BK230.out 3).trans rfl; have hcz16_4 : w15.cell? ⟨gb230, 4, none⟩ = some (.int .u64 a2_4) := (blk_cell BK230.out 4).trans rfl; have hcz16_5 : w15.cell? ⟨gb230, 5, none⟩ = some (.int .u64 a2_5) := (blk_cell BK230.out 5).trans rfl; have hcz16_6 : w15.cell? ⟨gb230, 6, none⟩ = some (.int .i64 a2_6) := (blk_cell BK230.out 6).trans rfl; have hcz16_7 : w15.cell? ⟨gb230, 7, none⟩ = some (.int .i64 a2_7) := (blk_cell BK230.out 7).trans rfl; have hcz16_8 : w15.cell? ⟨gb230, 8, none⟩ = some (.int .u64 a2_8) := (blk_cell BK230.out 8).trans rfl; have hcz16_9 : w15.cell? ⟨gb230, 9, none⟩ = some (.int .u64 a2_9) := (blk_cell BK230.out 9).trans rfl; have hcz16_10 : w15.cell? ⟨gb230, 10, none⟩ = some (.int .i64 a2_10) := (blk_cell BK230.out 10).trans rfl; have hcz16_11 : w15.cell? ⟨gb230, 11, none⟩ = some (.int .i64 a2_11) := (blk_cell BK230.out 11).trans rfl; have hcz16_12 : w15.cell? ⟨gb230, 12, none⟩ = some (.int .u64 a2_12) := (blk_cell BK230.out 12).trans rfl; have hcz16_13 : w15.cell? ⟨gb230, 13, none⟩ = some (.int .u64 a2_13) := (blk_cell BK230.out 13).trans rfl; have hcz16_14 : w15.cell? ⟨gb230, 14, none⟩ = some (.int .i64 a2_14) := (blk_cell BK230.out 14).trans rfl; have hcz16_15 : w15.cell? ⟨gb230, 15, none⟩ = some (.int .i64 a2_15) := (blk_cell BK230.out 15).trans rfl; have hcz16_16 : w15.cell? ⟨gb230, 16, none⟩ = some (.int .u64 a2_16) := (blk_cell BK230.out 16).trans rfl; have hcz16_17 : w15.cell? ⟨gb230, 17, none⟩ = some (.int .u64 a2_17) := (blk_cell BK230.out 17).trans rfl; have hcz16_18 : w15.cell? ⟨gb230, 18, none⟩ = some (.int .i64 a2_18) := (blk_cell BK230.out 18).trans rfl; have hcz16_19 : w15.cell? ⟨gb230, 19, none⟩ = some (.int .i64 a2_19) := (blk_cell BK230.out 19).trans rfl; have hfz16_0 := blk_frozen BK230.out 0; have hfz16_1 := blk_frozen BK230.out 1; have hfz16_2 := blk_frozen BK230.out 2; have hfz16_3 := blk_frozen BK230.out 3; have hfz16_4 := blk_frozen BK230.out 4; have hfz16_5 := blk_frozen BK230.out 5; have hfz16_6 := blk_frozen BK230.out 6; have hfz16_7 := blk_frozen BK230.out 7; have hfz16_8 := blk_frozen BK230.out 8; have hfz16_9 := blk_frozen BK230.out 9; have hfz16_10 := blk_frozen BK230.out 10; have hfz16_11 := blk_frozen BK230.out 11; have hfz16_12 := blk_frozen BK230.out 12; have hfz16_13 := blk_frozen BK230.out 13; have hfz16_14 := blk_frozen BK230.out 14; have hfz16_15 := blk_frozen BK230.out 15; have hfz16_16 := blk_frozen BK230.out 16; have hfz16_17 := blk_frozen BK230.out 17; have hfz16_18 := blk_frozen BK230.out 18; have hfz16_19 := blk_frozen BK230.out 19) | ((with_reducible refine gate_dst (N := 24) rfl ?_); refine Kd.R_lit k43 _ 43 ?hg (N := 24) ?hd (xs := ([(⟨21, 5, a0, 0, 7⟩ : S43), (⟨33, 0, 5, 0, (-1)⟩ : S43)] : List (S43))) (inner := [.int .i64 21, .int .i64 5, .int .i64 a0, .int .i64 0, .int .i64 7, .int .i64 33, .int .i64 0, .int .i64 5, .int .i64 0, .int .i64 (-1)]) (ok := fun _ => True) (okp := fun _ => True) ?hr ?hp (fun _ hk => hk) trivial (Below.refl _ _) (Nat.le_refl _) (by simp) ?_; (case hd => rfl); (case hg => rfl); (case hr => first | (go_simp; done) | (go_simp; rfl)); (case hp => exact (Reps.c5 (show Kd.M k43 _ _ _ (⟨21, 5, a0, 0, 7⟩ : S43) [.int .i64 21, .int .i64 5, .int .i64 a0, .int .i64 0, .int .i64 7] from (k43_mkM _ _ _ (⟨21, 5, a0, 0, 7⟩ : S43) )) (Reps.c5 (show Kd.M k43 _ _ _ (⟨33, 0, 5, 0, (-1)⟩ : S43) [.int .i64 33, .int .i64 0, .int .i64 5, .int .i64 0, .int .i64 (-1)] from (k43_mkM _ _ _ (⟨33, 0, 5, 0, (-1)⟩ : S43) )) (Reps.none _ _)))); intro v235 w17 ho18 hb hg_ hnew_; clear hg_ hnew_; (first | rw [← Ny234.out] at ho18 | (simp only [Int.reduceToNat] at ho18; rw [← Ny234.out] at ho18)); have n0_ := Aside0.mk (Kd.R_lower ho18 (below_size (by repeat (first | (with_reducible first | exact HB.out | apply below_alloc | apply pw_below_drewN | apply below_drew1 | refine below_set ?_ GE230.out) | exact HB.out)))); have n1_ := Aside0.mk (blk_below (g := gb230) (o := .cells #[.int .u64 a2_0, .int .u64 a2_1, .int .i64 a2_2, .int .i64 a2_3, .int .u64 a2_4, .int .u64 a2_5, .int .i64 a2_6, .int .i64 a2_7, .int .u64 a2_8, .int .u64 a2_9, .int .i64 a2_10, .int .i64 a2_11, .int .u64 a2_12, .int .u64 a2_13, .int .i64 a2_14, .int .i64 a2_15, .int .u64 a2_16, .int .u64 a2_17, .int .i64 a2_18, .int .i64 a2_19] 27 (0, 0)) (by (with_reducible repeat (first | refine blk_drewN ?_ _ | refine blk_drew ?_ | refine blk_alloc ?_ _)); exact BK230.out) hb); have n2_ := Aside0.mk (below_step (by repeat (first | (with_reducible first | exact HB.out | apply below_alloc | apply pw_below_drewN | apply below_drew1 | refine below_set ?_ GE230.out) | exact HB.out)) hb); clear BK230; clear HB; have HO236 := n0_; have BK230 := n1_; have HB := n2_; clear n0_ n1_ n2_; clear hb ho18; have hcz19_0 : w17.cell? ⟨gb230, 0, none⟩ = some (.int .u64 a2_0) := (blk_cell BK230.out 0).trans rfl; have hcz19_1 : w17.cell? ⟨gb230, 1, none⟩ = some (.int .u64 a2_1) := (blk_cell BK230.out 1).trans rfl; have hcz19_2 : w17.cell? ⟨gb230, 2, none⟩ = some (.int .i64 a2_2) := (blk_cell BK230.out 2).trans rfl; have hcz19_3 : w17.cell? ⟨gb230, 3, none⟩ = some (.int .i64 a2_3) := (blk_cell BK230.out 3).trans rfl; have hcz19_4 : w17.cell? ⟨gb230, 4, none⟩ = some (.int .u64 a2_4) := (blk_cell BK230.out 4).trans rfl; have hcz19_5 : w17.cell? ⟨gb230, 5, none⟩ = some (.int .u64 a2_5) := (blk_cell BK230.out 5).trans rfl; have hcz19_6 : w17.cell? ⟨gb230, 6, none⟩ = some (.int .i64 a2_6) := (blk_cell BK230.out 6).trans rfl; have hcz19_7 : w17.cell? ⟨gb230, 7, none⟩ = some (.int .i64 a2_7) := (blk_cell BK230.out 7).trans rfl; have hcz19_8 : w17.cell? ⟨gb230, 8, none⟩ = some (.int .u64 a2_8) := (blk_cell BK230.out 8).trans rfl; have hcz19_9 : w17.cell? ⟨gb230, 9, none⟩ = some (.int .u64 a2_9) := (blk_cell BK230.out 9).trans rfl; have hcz19_10 : w17.cell? ⟨gb230, 10, none⟩ = some (.int .i64 a2_10) := (blk_cell BK230.out 10).trans rfl; have hcz19_11 : w17.cell? ⟨gb230, 11, none⟩ = some (.int .i64 a2_11) := (blk_cell BK230.out 11).trans rfl; have hcz19_12 : w17.cell? ⟨gb230, 12, none⟩ = some (.int .u64 a2_12) := (blk_cell BK230.out 12).trans rfl; have hcz19_13 : w17.cell? ⟨gb230, 13, none⟩ = some (.int .u64 a2_13) := (blk_cell BK230.out 13).trans rfl; have hcz19_14 : w17.cell? ⟨gb230, 14, none⟩ = some (.int .i64 a2_14) := (blk_cell BK230.out 14).trans rfl; have hcz19_15 : w17.cell? ⟨gb230, 15, none⟩ = some (.int .i64 a2_15) := (blk_cell BK230.out 15).trans rfl; have hcz19_16 : w17.cell? ⟨gb230, 16, none⟩ = some (.int .u64 a2_16) := (blk_cell BK230.out 16).trans rfl; have hcz19_17 : w17.cell? ⟨gb230, 17, none⟩ = some (.int .u64 a2_17) := (blk_cell BK230.out 17).trans rfl; have hcz19_18 : w17.cell? ⟨gb230, 18, none⟩ = some (.int .i64 a2_18) := (blk_cell BK230.out 18).trans rfl; have hcz19_19 : w17.cell? ⟨gb230, 19, none⟩ = some (.int .i64 a2_19) := (blk_cell BK230.out 19).trans rfl; have hfz19_0 := blk_frozen BK230.out 0; have hfz19_1 := blk_frozen BK230.out 1; have hfz19_2 := blk_frozen BK230.out 2; have hfz19_3 := blk_frozen BK230.out 3; have hfz19_4 := blk_frozen BK230.out 4; have hfz19_5 := blk_frozen BK230.out 5; have hfz19_6 := blk_frozen BK230.out 6; have hfz19_7 := blk_frozen BK230.out 7; have hfz19_8 := blk_frozen BK230.out 8; have hfz19_9 := blk_frozen BK230.out 9; have hfz19_10 := blk_frozen BK230.out 10; have hfz19_11 := blk_frozen BK230.out 11; have hfz19_12 := blk_frozen BK230.out 12; have hfz19_13 := blk_frozen BK230.out 13; have hfz19_14 := blk_frozen BK230.out 14; have hfz19_15 := blk_frozen BK230.out 15; have hfz19_16 := blk_frozen BK230.out 16; have hfz19_17 := blk_frozen BK230.out 17; have hfz19_18 := blk_frozen BK230.out 18; have hfz19_19 := blk_frozen BK230.out 19) | ((with_reducible refine gate_callee (f := 58) rfl ?_); refine goesL_ (some 29) rfl rfl Tryd.func58 (by kernel_rfl) rfl #[.int .i64 5, .int .u64 a2_12] rfl (by (try simp only [List.map_toArray, List.map_cons, List.map_nil]); first | done | rfl | (simp only [List.length_drop, List.length_take]; rfl)) ?_; (with_reducible refine (caponierref19_number.calls k 5 a2_12 t237 _ A9.out).mono ?_); rintro e w20 ⟨v238, rfl, ho0, hb⟩; refine ⟨_, rfl, ?_⟩; have n0_ := Aside0.mk (Kd.R_elder' (by (with_reducible repeat (first | apply Kd.R_alloc | apply Kd.R_drewN | apply Kd.R_drew)); exact HO236.out) (Kd.R_base ho0) hb); have n1_ := Aside0.mk (Kd.R_lower (Kd.R_new' ho0 (Kd.R_lt (by (with_reducible repeat (first | apply Kd.R_alloc | apply Kd.R_drewN | apply Kd.R_drew)); exact HO236.out))) (below_size (by repeat (first | (with_reducible first | exact HB.out | apply below_alloc | apply pw_below_drewN | apply below_drew1 | refine below_set ?_ GE230.out) | exact HB.out)))); have n2_ := Aside0.mk (blk_below (g := gb230) (o := .cells #[.int .u64 a2_0, .int .u64 a2_1, .int .i64 a2_2, .int .i64 a2_3, .int .u64 a2_4, .int .u64 a2_5, .int .i64 a2_6, .int .i64 a2_7, .int .u64 a2_8, .int .u64 a2_9, .int .i64 a2_10, .int .i64 a2_11, .int .u64 a2_12, .int .u64 a2_13, .int .i64 a2_14, .int .i64 a2_15, .int .u64 a2_16, .int .u64 a2_17, .int .i64 a2_18, .int .i64 a2_19] 27 (0, 0)) (by (with_reducible repeat (first | refine blk_drewN ?_ _ | refine blk_drew ?_ | refine blk_alloc ?_ _)); exact BK230.out) hb); have n3_ := Aside0.mk (below_step (by repeat (first | (with_reducible first | exact HB.out | apply below_alloc | apply pw_below_drewN | apply below_drew1 | refine below_set ?_ GE230.out) | exact HB.out)) hb); clear HO236; clear BK230; clear HB; have HO236 := n0_; have HO239 := n1_; have BK230 := n2_; have HB := n3_; clear n0_ n1_ n2_ n3_; (try clear hb); (try clear hb2); (try clear hk); (try clear hi); (try clear ho0); obtain ⟨Ao22, co22, eo22⟩ := Kd.R_slice HO239.out; subst eo22) | ((with_reducible refine gate_builtin (b := .append) (xs := #[.tmp 25, .tmp 29]) rfl ?_); at_builtin; refine Kd.R_append_rows k43 (w0 := w) w.heap.size rfl (.tmp 25) (.tmp 29) 56 43 (.agg #[(.int .i64 0), (.int .i64 0), (.int .i64 0), (.int .i64 0), (.int .i64 0)]) 40 rfl Tryd.underlying56 info43 rfl (by decide) (by omega) v235 y234 t237 _ _ _ (fun k_ => some k_ ≠ (.slice Ao22 t237.length co22 : Value).ownBlock) (fun _ => False) rfl rfl ?aO ?aR (fun _ _ h => h) (fun _ h => h.elim) ?aF ?aB ?aS ?aL ?_; (case aR => repeat (first | exact (Kd.R_reads' HO239.out).2.2 | (with_reducible refine Kd.C_alloc ?_ _) | (with_reducible refine Kd.C_drewN ?_ _) | (with_reducible refine Kd.C_drew ?_))); (case aB => exact (by repeat (first | (with_reducible first | exact HB.out | apply below_alloc | apply pw_below_drewN | apply below_drew1 | refine below_set ?_ GE230.out) | exact HB.out))); (case aF => exact (fun k_ hk => Kd.fresh' (Kd.R_lt (by (with_reducible repeat (first | apply Kd.R_alloc | apply Kd.R_drewN | apply Kd.R_drew)); exact HO239.out)) k_ hk)); (case aO => exact (by (with_reducible repeat (first | apply Kd.R_alloc | apply Kd.R_drewN | apply Kd.R_drew)); exact Kd.R_mono HO236.out (fun _ hk => hk.2))); (case aS => exact (below_size (by repeat (first | (with_reducible first | exact HB.out | apply below_alloc | apply pw_below_drewN | apply below_drew1 | refine below_set ?_ GE230.out) | exact HB.out)))); (case aL => have := LMc10.out; omega); intro v241 w21 ho hb hg hat; rw [← Ny240.out] at ho; have n0_ := Aside0.mk (blk_grown (g := gb230) (o := .cells #[.int .u64 a2_0, .int .u64 a2_1, .int .i64 a2_2, .int .i64 a2_3, .int .u64 a2_4, .int .u64 a2_5, .int .i64 a2_6, .int .i64 a2_7, .int .u64 a2_8, .int .u64 a2_9, .int .i64 a2_10, .int .i64 a2_11, .int .u64 a2_12, .int .u64 a2_13, .int .i64 a2_14, .int .i64 a2_15, .int .u64 a2_16, .int .u64 a2_17, .int .i64 a2_18, .int .i64 a2_19] 27 (0, 0)) (by (with_reducible repeat (first | refine blk_drewN ?_ _ | refine blk_drew ?_ | refine blk_alloc ?_ _)); exact BK230.out) hg (Kd.R_ne HO236.out BK230.out (by decide))); have n1_ := Aside0.mk (Kd.R_after (ok := (fun _ => True)) (by (with_reducible repeat (first | apply Kd.R_alloc | apply Kd.R_drewN | apply Kd.R_drew)); exact HO239.out) hg hat); have n2_ := Aside0.mk (hb); have n3_ := Aside0.mk (ho); clear BK230; clear HO239; clear HB; clear HO236; have BK230 := n0_; have HO239 := n1_; have HB := n2_; have HO242 := n3_; clear n0_ n1_ n2_ n3_; clear ho hb hg hat) | ((with_reducible refine gate_builtin (b := .append) (xs := #[.tmp 30, .tmp 33]) rfl ?_); at_builtin; refine Kd.R_append k43 (w0 := w) w.heap.size rfl (.tmp 30) (.tmp 33) 56 43 (.agg #[(.int .i64 0), (.int .i64 0), (.int .i64 0), (.int .i64 0), (.int .i64 0)]) 40 rfl Tryd.underlying56 info43 rfl (by decide) (by omega) v241 y240 (⟨36, 0, a0, 5, (-1)⟩ : S43) [.int .i64 36, .int .i64 0, .int .i64 a0, .int .i64 5, .int .i64 (-1)] (fun k_ => some k_ ≠ (.slice Ao22 t237.length co22 : Value).ownBlock) (fun _ => False) rfl rfl ?aP (fun _ hk => hk.elim) ?aF ?aO ?aB ?aS ?aL ?_; (case aP => exact k43_mkM _ _ _ (⟨36, 0, a0, 5, (-1)⟩ : S43)); (case aB => exact (by repeat (first | (with_reducible first | exact HB.out | apply below_alloc | apply pw_below_drewN | apply below_drew1 | refine below_set ?_ GE230.out) | exact HB.out))); (case aF => exact (fun k_ hk => Kd.fresh' (Kd.R_lt (by (with_reducible repeat (first | apply Kd.R_alloc | apply Kd.R_drewN | apply Kd.R_drew)); exact HO239.out)) k_ hk)); (case aO => exact (by (with_reducible repeat (first | apply Kd.R_alloc | apply Kd.R_drewN | apply Kd.R_drew)); exact HO242.out)); (case aS => exact (below_size (by repeat (first | (with_reducible first | exact HB.out | apply below_alloc | apply pw_below_drewN | apply below_drew1 | refine below_set ?_ GE230.out) | exact HB.out)))); (case aL => have := LMc11.out; omega); intro v244 w23 ho hb hg hat; rw [← Ny243.out] at ho; have n0_ := Aside0.mk (blk_grown (g := gb230) (o := .cells #[.int .u64 a2_0, .int .u64 a2_1, .int .i64 a2_2, .int .i64 a2_3, .int .u64 a2_4, .int .u64 a2_5, .int .i64 a2_6, .int .i64 a2_7, .int .u64 a2_8, .int .u64 a2_9, .int .i64 a2_10, .int .i64 a2_11, .int .u64 a2_12, .int .u64 a2_13, .int .i64 a2_14, .int .i64 a2_15, .int .u64 a2_16, .int .u64 a2_17, .int .i64 a2_18, .int .i64 a2_19] 27 (0, 0)) (by (with_reducible repeat (first | refine blk_drewN ?_ _ | refine blk_drew ?_ | refine blk_alloc ?_ _)); exact BK230.out) hg (Kd.R_ne HO242.out BK230.out (by decide))); have n1_ := Aside0.mk (Kd.R_after (ok := (fun _ => True)) (by (with_reducible repeat (first | apply Kd.R_alloc | apply Kd.R_drewN | apply Kd.R_drew)); exact HO239.out) hg hat); have n2_ := Aside0.mk (hb); have n3_ := Aside0.mk (ho); clear BK230; clear HO239; clear HB; clear HO242; have BK230 := n0_; have HO239 := n1_; have HB := n2_; have HO245 := n3_; clear n0_ n1_ n2_ n3_; clear ho hb hg hat; have hcz24_0 : w23.cell? ⟨gb230, 0, none⟩ = some (.int .u64 a2_0) := (blk_cell BK230.out 0).trans rfl; have hcz24_1 : w23.cell? ⟨gb230, 1, none⟩ = some (.int .u64 a2_1) := (blk_cell BK230.out 1).trans rfl; have hcz24_2 : w23.cell? ⟨gb230, 2, none⟩ = some (.int .i64 a2_2) := (blk_cell BK230.out 2).trans rfl; have hcz24_3 : w23.cell? ⟨gb230, 3, none⟩ = some (.int .i64 a2_3) := (blk_cell BK230.out 3).trans rfl; have hcz24_4 : w23.cell? ⟨gb230, 4, none⟩ = some (.int .u64 a2_4) := (blk_cell BK230.out 4).trans rfl; have hcz24_5 : w23.cell? ⟨gb230, 5, none⟩ = some (.int .u64 a2_5) := (blk_cell BK230.out 5).trans rfl; have hcz24_6 : w23.cell? ⟨gb230, 6, none⟩ = some (.int .i64 a2_6) := (blk_cell BK230.out 6).trans rfl; have hcz24_7 : w23.cell? ⟨gb230, 7, none⟩ = some (.int .i64 a2_7) := (blk_cell BK230.out 7).trans rfl; have hcz24_8 : w23.cell? ⟨gb230, 8, none⟩ = some (.int .u64 a2_8) := (blk_cell BK230.out 8).trans rfl; have hcz24_9 : w23.cell? ⟨gb230, 9, none⟩ = some (.int .u64 a2_9) := (blk_cell BK230.out 9).trans rfl; have hcz24_10 : w23.cell? ⟨gb230, 10, none⟩ = some (.int .i64 a2_10) := (blk_cell BK230.out 10).trans rfl; have hcz24_11 : w23.cell? ⟨gb230, 11, none⟩ = some (.int .i64 a2_11) := (blk_cell BK230.out 11).trans rfl; have hcz24_12 : w23.cell? ⟨gb230, 12, none⟩ = some (.int .u64 a2_12) := (blk_cell BK230.out 12).trans rfl; have hcz24_13 : w23.cell? ⟨gb230, 13, none⟩ = some (.int .u64 a2_13) := (blk_cell BK230.out 13).trans rfl; have hcz24_14 : w23.cell? ⟨gb230, 14, none⟩ = some (.int .i64 a2_14) := (blk_cell BK230.out 14).trans rfl; have hcz24_15 : w23.cell? ⟨gb230, 15, none⟩ = some (.int .i64 a2_15) := (blk_cell BK230.out 15).trans rfl; have hcz24_16 : w23.cell? ⟨gb230, 16, none⟩ = some (.int .u64 a2_16) := (blk_cell BK230.out 16).trans rfl; have hcz24_17 : w23.cell? ⟨gb230, 17, none⟩ = some (.int .u64 a2_17) := (blk_cell BK230.out 17).trans rfl; have hcz24_18 : w23.cell? ⟨gb230, 18, none⟩ = some (.int .i64 a2_18) := (blk_cell BK230.out 18).trans rfl; have hcz24_19 : w23.cell? ⟨gb230, 19, none⟩ = some (.int .i64 a2_19) := (blk_cell BK230.out 19).trans rfl; have hfz24_0 := blk_frozen BK230.out 0; have hfz24_1 := blk_frozen BK230.out 1; have hfz24_2 := blk_frozen BK230.out 2; have hfz24_3 := blk_frozen BK230.out 3; have hfz24_4 := blk_frozen BK230.out 4; have hfz24_5 := blk_frozen BK230.out 5; have hfz24_6 := blk_frozen BK230.out 6; have hfz24_7 := blk_frozen BK230.out 7; have hfz24_8 := blk_frozen BK230.out 8; have hfz24_9 := blk_frozen BK230.out 9; have hfz24_10 := blk_frozen BK230.out 10; have hfz24_11 := blk_frozen BK230.out 11; have hfz24_12 := blk_frozen BK230.out 12; have hfz24_13 := blk_frozen BK230.out 13; have hfz24_14 := blk_frozen BK230.out 14; have hfz24_15 := blk_frozen BK230.out 15; have hfz24_16 := blk_frozen BK230.out 16; have hfz24_17 := blk_frozen BK230.out 17; have hfz24_18 := blk_frozen BK230.out 18; have hfz24_19 := blk_frozen BK230.out 19) | ((with_reducible refine gate_callee (f := 58) rfl ?_); refine goesL_ (some 43) rfl rfl Tryd.func58 (by kernel_rfl) rfl #[.int .i64 5, .int .u64 (IntKind.u64.wrap (a2_13 - (IntKind.u64.wrap (8 * (IntKind.u64.wrap (a1))))))] rfl (by (try simp only [List.map_toArray, List.map_cons, List.map_nil]); first | done | rfl | (simp only [List.length_drop, List.length_take]; rfl)) ?_; (with_reducible refine (caponierref19_number.calls k 5 (IntKind.u64.wrap (a2_13 - (IntKind.u64.wrap (8 * (IntKind.u64.wrap (a1)))))) t246 _ A12.out).mono ?_); rintro e w25 ⟨v247, rfl, ho0, hb⟩; refine ⟨_, rfl, ?_⟩; have n0_ := Aside0.mk (Kd.R_elder' (by (with_reducible repeat (first | apply Kd.R_alloc | apply Kd.R_drewN | apply Kd.R_drew)); exact HO239.out) (Kd.R_base ho0) hb); have n1_ := Aside0.mk (Kd.R_elder' (by (with_reducible repeat (first | apply Kd.R_alloc | apply Kd.R_drewN | apply Kd.R_drew)); exact HO245.out) (Kd.R_base ho0) hb); have n2_ := Aside0.mk (Kd.R_lower (Kd.R_new' (Kd.R_new' ho0 (Kd.R_lt (by (with_reducible repeat (first | apply Kd.R_alloc | apply Kd.R_drewN | apply Kd.R_drew)); exact HO239.out))) (Kd.R_lt (by (with_reducible repeat (first | apply Kd.R_alloc | apply Kd.R_drewN | apply Kd.R_drew)); exact HO245.out))) (below_size (by repeat (first | (with_reducible first | exact HB.out | apply below_alloc | apply pw_below_drewN | apply below_drew1 | refine below_set ?_ GE230.out) | exact HB.out)))); have n3_ := Aside0.mk (blk_below (g := gb230) (o := .cells #[.int .u64 a2_0, .int .u64 a2_1, .int .i64 a2_2, .int .i64 a2_3, .int .u64 a2_4, .int .u64 a2_5, .int .i64 a2_6, .int .i64 a2_7, .int .u64 a2_8, .int .u64 a2_9, .int .i64 a2_10, .int .i64 a2_11, .int .u64 a2_12, .int .u64 a2_13, .int .i64 a2_14, .int .i64 a2_15, .int .u64 a2_16, .int .u64 a2_17, .int .i64 a2_18, .int .i64 a2_19] 27 (0, 0)) (by (with_reducible repeat (first | refine blk_drewN ?_ _ | refine blk_drew ?_ | refine blk_alloc ?_ _)); exact BK230.out) hb); have n4_ := Aside0.mk (below_step (by repeat (first | (with_reducible first | exact HB.out | apply below_alloc | apply pw_below_drewN | apply below_drew1 | refine below_set ?_ GE230.out) | exact HB.out)) hb); clear HO239; clear HO245; clear BK230; clear HB; have HO239 := n0_; have HO245 := n1_; have HO248 := n2_; have BK230 := n3_; have HB := n4_; clear n0_ n1_ n2_ n3_ n4_; (try clear hb); (try clear hb2); (try clear hk); (try clear hi); (try clear ho0); obtain ⟨Ao27, co27, eo27⟩ := Kd.R_slice HO248.out; subst eo27) | ((with_reducible refine gate_builtin (b := .append) (xs := #[.tmp 35, .tmp 43]) rfl ?_); at_builtin; refine Kd.R_append_rows k43 (w0 := w) w.heap.size rfl (.tmp 35) (.tmp 43) 56 43 (.agg #[(.int .i64 0), (.int .i64 0), (.int .i64 0), (.int .i64 0), (.int .i64 0)]) 40 rfl Tryd.underlying56 info43 rfl (by decide) (by omega) v244 y243 t246 _ _ _ (fun k_ => some k_ ≠ (.slice Ao22 t237.length co22 : Value).ownBlock ∧ some k_ ≠ (.slice Ao27 t246.length co27 : Value).ownBlock) (fun _ => False) rfl rfl ?aO ?aR (fun _ _ h => h) (fun _ h => h.elim) ?aF ?aB ?aS ?aL ?_; (case aR => repeat (first | exact (Kd.R_reads' HO248.out).2.2 | (with_reducible refine Kd.C_alloc ?_ _) | (with_reducible refine Kd.C_drewN ?_ _) | (with_reducible refine Kd.C_drew ?_))); (case aB => exact (by repeat (first | (with_reducible first | exact HB.out | apply below_alloc | apply pw_below_drewN | apply below_drew1 | refine below_set ?_ GE230.out) | exact HB.out))); (case aF => exact (fun k_ hk => ⟨Kd.fresh' (Kd.R_lt (by (with_reducible repeat (first | apply Kd.R_alloc | apply Kd.R_drewN | apply Kd.R_drew)); exact HO239.out)) k_ hk, Kd.fresh' (Kd.R_lt (by (with_reducible repeat (first | apply Kd.R_alloc | apply Kd.R_drewN | apply Kd.R_drew)); exact HO248.out)) k_ hk⟩)); (case aO => exact (by (with_reducible repeat (first | apply Kd.R_alloc | apply Kd.R_drewN | apply Kd.R_drew)); exact HO245.out)); (case aS => exact (below_size (by repeat (first | (with_reducible first | exact HB.out | apply below_alloc | apply pw_below_drewN | apply below_drew1 | refine below_set ?_ GE230.out) | exact HB.out)))); (case aL => have := LMc13.out; omega); intro v250 w26 ho hb hg hat; rw [← Ny249.out] at ho; have n0_ := Aside0.mk (blk_grown (g := gb230) (o := .cells #[.int .u64 a2_0, .int .u64 a2_1, .int .i64 a2_2, .int .i64 a2_3, .int .u64 a2_4, .int .u64 a2_5, .int .i64 a2_6, .int .i64 a2_7, .int .u64 a2_8, .int .u64 a2_9, .int .i64 a2_10, .int .i64 a2_11, .int .u64 a2_12, .int .u64 a2_13, .int .i64 a2_14, .int .i64 a2_15, .int .u64 a2_16, .int .u64 a2_17, .int .i64 a2_18, .int .i64 a2_19] 27 (0, 0)) (by (with_reducible repeat (first | refine blk_drewN ?_ _ | refine blk_drew ?_ | refine blk_alloc ?_ _)); exact BK230.out) hg (Kd.R_ne HO245.out BK230.out (by decide))); have n1_ := Aside0.mk (Kd.R_after (ok := (fun k_ => some k_ ≠ (.slice Ao27 t246.length co27 : Value).ownBlock)) (by (with_reducible repeat (first | apply Kd.R_alloc | apply Kd.R_drewN | apply Kd.R_drew)); exact Kd.R_mono HO239.out (fun _ hk => ⟨hk.2, hk.1.2⟩)) hg hat); have n2_ := Aside0.mk (Kd.R_after (ok := (fun k_ => some k_ ≠ (.slice Ao22 t237.length co22 : Value).ownBlock)) (by (with_reducible repeat (first | apply Kd.R_alloc | apply Kd.R_drewN | apply Kd.R_drew)); exact Kd.R_mono HO248.out (fun _ hk => ⟨hk.1.2, hk.2⟩)) hg hat); have n3_ := Aside0.mk (hb); have n4_ := Aside0.mk (ho); clear BK230; clear HO239; clear HO248; clear HB; clear HO245; have BK230 := n0_; have HO239 := n1_; have HO248 := n2_; have HB := n3_; have HO251 := n4_; clear n0_ n1_ n2_ n3_ n4_; clear ho hb hg hat) | ((with_reducible refine gate_builtin (b := .append) (xs := #[.tmp 44, .tmp 47]) rfl ?_); at_builtin; refine Kd.R_append k43 (w0 := w) w.heap.size rfl (.tmp 44) (.tmp 47) 56 43 (.agg #[(.int .i64 0), (.int .i64 0), (.int .i64 0), (.int .i64 0), (.int .i64 0)]) 40 rfl Tryd.underlying56 info43 rfl (by decide) (by omega) v250 y249 (⟨36, 0, 5, a0, (-1)⟩ : S43) [.int .i64 36, .int .i64 0, .int .i64 5, .int .i64 a0, .int .i64 (-1)] (fun k_ => some k_ ≠ (.slice Ao22 t237.length co22 : Value).ownBlock ∧ some k_ ≠ (.slice Ao27 t246.length co27 : Value).ownBlock) (fun _ => False) rfl rfl ?aP (fun _ hk => hk.elim) ?aF ?aO ?aB ?aS ?aL ?_; (case aP => exact k43_mkM _ _ _ (⟨36, 0, 5, a0, (-1)⟩ : S43)); (case aB => exact (by repeat (first | (with_reducible first | exact HB.out | apply below_alloc | apply pw_below_drewN | apply below_drew1 | refine below_set ?_ GE230.out) | exact HB.out))); (case aF => exact (fun k_ hk => ⟨Kd.fresh' (Kd.R_lt (by (with_reducible repeat (first | apply Kd.R_alloc | apply Kd.R_drewN | apply Kd.R_drew)); exact HO239.out)) k_ hk, Kd.fresh' (Kd.R_lt (by (with_reducible repeat (first | apply Kd.R_alloc | apply Kd.R_drewN | apply Kd.R_drew)); exact HO248.out)) k_ hk⟩)); (case aO => exact (by (with_reducible repeat (first | apply Kd.R_alloc | apply Kd.R_drewN | apply Kd.R_drew)); exact HO251.out)); (case aS => exact (below_size (by repeat (first | (with_reducible first | exact HB.out | apply below_alloc | apply pw_below_drewN | apply below_drew1 | refine below_set ?_ GE230.out) | exact HB.out)))); (case aL => have := LMc14.out; omega); intro v253 w28 ho hb hg hat; rw [← Ny252.out] at ho; have n0_ := Aside0.mk (blk_grown (g := gb230) (o := .cells #[.int .u64 a2_0, .int .u64 a2_1, .int .i64 a2_2, .int .i64 a2_3, .int .u64 a2_4, .int .u64 a2_5, .int .i64 a2_6, .int .i64 a2_7, .int .u64 a2_8, .int .u64 a2_9, .int .i64 a2_10, .int .i64 a2_11, .int .u64 a2_12, .int .u64 a2_13, .int .i64 a2_14, .int .i64 a2_15, .int .u64 a2_16, .int .u64 a2_17, .int .i64 a2_18, .int .i64 a2_19] 27 (0, 0)) (by (with_reducible repeat (first | refine blk_drewN ?_ _ | refine blk_drew ?_ | refine blk_alloc ?_ _)); exact BK230.out) hg (Kd.R_ne HO251.out BK230.out (by decide))); have n1_ := Aside0.mk (Kd.R_after (ok := (fun k_ => some k_ ≠ (.slice Ao27 t246.length co27 : Value).ownBlock)) (by (with_reducible repeat (first | apply Kd.R_alloc | apply Kd.R_drewN | apply Kd.R_drew)); exact HO239.out) hg hat); have n2_ := Aside0.mk (Kd.R_after (ok := (fun k_ => some k_ ≠ (.slice Ao22 t237.length co22 : Value).ownBlock)) (by (with_reducible repeat (first | apply Kd.R_alloc | apply Kd.R_drewN | apply Kd.R_drew)); exact HO248.out) hg hat); have n3_ := Aside0.mk (hb); have n4_ := Aside0.mk (ho); clear BK230; clear HO239; clear HO248; clear HB; clear HO251; have BK230 := n0_; have HO239 := n1_; have HO248 := n2_; have HB := n3_; have HO254 := n4_; clear n0_ n1_ n2_ n3_ n4_; clear ho hb hg hat))
            go_ret
            exact ⟨_, by first | rfl | (simp [errW_none, errW_some] <;> rfl) | (simp [*, errW_none, errW_some] <;> rfl), by (with_reducible repeat (first | apply Kd.R_alloc | apply Kd.R_drewN | apply Kd.R_drew)); exact Kd.R_mono HO254.out (fun _ hk => trivial), by repeat (first | (with_reducible first | exact HB.out | apply below_alloc | apply pw_below_drewN | apply below_drew1 | refine below_set ?_ GE230.out) | exact HB.out)⟩
          · rw [if_neg c14] at H
            exact absurd H (by simp)
        · rw [if_neg c13] at H
          exact absurd H (by simp)
      · rw [if_neg c11] at H
        exact absurd H (by simp)
    · rw [if_neg c10] at H
      exact absurd H (by simp)
end Go.Proofs.YtaoajlaocphgdaaDoor.PA
end
section
namespace Go.Proofs.YtaoajlaocphgdaaDoor.PA
open Go.RowKit Go.Proofs.YtaoajlaocphgdaaDoorW.PrintWords Go.Proofs.YtaoajlaocphgdaaDoorW.PrintLast Go.Proofs.YtaoajlaocphgdaaDoorW.PrintMore
attribute [local go_sem] max2_int min2_int max_two min_two max_three min_three max_four min_four   -- for this text's walks alone
set_option linter.unusedVariables false
set_option linter.unusedSimpArgs false
def caponierref02_field.f (k : Nat) (a0 : Int) (a1 : Int) (a2 : Int) : Option (Int) := (caponierref01_Field.f k (IntKind.u64.wrap (a0)) a1 a2).bind fun bt400 => (some bt400.1)
theorem caponierref02_field.mono : ∀ a0 a1 a2 k, LeO (caponierref02_field.f k a0 a1 a2) (caponierref02_field.f (k + 1) a0 a1 a2) := by
  intro a0 a1 a2 k
  unfold caponierref02_field.f
  repeat' first
      | (with_reducible exact caponierref01_Field.mono _ _ _ _)
      | (with_reducible exact LeO.refl _)
      | (with_reducible exact LeO.none _)
      | (with_reducible refine LeO.ite ?_ ?_)
      | (with_reducible refine LeO.bind ?_ (fun _ => ?_))
      | exact caponierref01_Field.mono _ _ _ _
      | exact LeO.none _
      | refine LeO.ite ?_ ?_
      | refine LeO.bind ?_ (fun _ => ?_)
set_option maxHeartbeats 8000000 in
set_option maxRecDepth 100000 in
theorem caponierref02_field.calls (k : Nat) (a0 : Int) (a1 : Int) (a2 : Int) (r : Int) (w : World) (h : caponierref02_field.f k a0 a1 a2 = some r) :
    Calls Tryd.prog 61 #[.int .u32 a0, .int .i64 a1, .int .i64 a2] w fun e w' => e = .returned (.int .u64 r) ∧ Drawn0 w w' := by
  have H : ((caponierref01_Field.f k (IntKind.u64.wrap (a0)) a1 a2).bind fun bt400 => (some bt400.1)) = some r := h
  clear h
  replace H := Option.bind_eq_some_iff.mp H
  obtain ⟨⟨t400, t401⟩, A40, H⟩ := H
  replace H : (some t400) = some r := H
  have A4 := Aside0.mk A40
  clear A40
  obtain rfl := Option.some.inj H
  go_enter Tryd.func61, Tryd.ntmps61
  go_wp2_with (first | ((with_reducible refine gate_callee (f := 63) rfl ?_); refine goesL_ (some 14) rfl rfl Tryd.func63 (by kernel_rfl) rfl #[.int .u64 (IntKind.u64.wrap (a0)), .int .i64 a1, .int .i64 a2] rfl (by (try simp only [List.map_toArray, List.map_cons, List.map_nil]); first | done | rfl | (simp only [List.length_drop, List.length_take]; rfl)) ?_; (with_reducible refine (caponierref01_Field.calls k (IntKind.u64.wrap (a0)) a1 a2 t400 t401 _ A4.out).mono ?_); rintro e w' ⟨rfl, ⟨nd, rfl⟩⟩; refine ⟨_, rfl, ?_⟩))
  go_ret
  exact ⟨by first | rfl | (simp; done) | (simp [*]; done), by repeat (first | exact Drawn0.refl _ | apply Drawn0.step)⟩
end Go.Proofs.YtaoajlaocphgdaaDoor.PA
end
