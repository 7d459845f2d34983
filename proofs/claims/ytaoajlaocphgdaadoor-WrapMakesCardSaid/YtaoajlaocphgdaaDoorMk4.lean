/-
Texts of this proof, put together: part 4.
-/
import Derived.Test.YtaoajlaocphgdaaDoorMk3
import Derived.WalkKit
import Derived.MapKept
import Derived.Below

section
namespace Go.Proofs.YtaoajlaocphgdaaDoor.PA
open Go.RowKit Go.Proofs.YtaoajlaocphgdaaDoorW.PrintWords Go.Proofs.YtaoajlaocphgdaaDoorW.PrintLast Go.Proofs.YtaoajlaocphgdaaDoorW.PrintMore
attribute [local go_sem] max2_int min2_int max_two min_two max_three min_three max_four min_four   -- for this text's walks alone
set_option linter.unusedVariables false
set_option linter.unusedSimpArgs false
mutual
def caponierref02_Encode.j0 : Nat → ByteArray → Int → Bool → Int → Int → Int → Int → Int → Option (Int × Int)
  | 0, _, _, _, _, _, _, _, _ => none
  | k + 1, x4, x5, x39, x205000, x205001, x205002, x205003, x205004 => if x39 = true then ((caponierref02_Kind.f x205000).bind fun t208 => (caponierref02_Encode.j1 k x4 (IntKind.u64.wrap (x5 + (IntKind.u64.wrap (t208 * 4096)))) x205000 x205001 x205002 x205003 x205004)) else (caponierref02_Encode.j1 k x4 x5 x205000 x205001 x205002 x205003 x205004)
def caponierref02_Encode.j1 : Nat → ByteArray → Int → Int → Int → Int → Int → Int → Option (Int × Int)
  | 0, _, _, _, _, _, _, _ => none
  | k + 1, x4, x5, x205000, x205001, x205002, x205003, x205004 => if x4.toList = ([82] : List UInt8) then ((caponierref02_Top.f k x205000).bind fun t209 => (some ((IntKind.u64.wrap (x5 + (IntKind.u64.wrap (t209 * 33554432)))) % 4294967296, 0))) else (if x4.toList = ([73] : List UInt8) then ((caponierref02_bit.f k x205004 0 12 20).bind fun t210 => ((caponierref02_Shift.f x205000).bind fun t211 => (if t211 = true then ((caponierref02_Top.f k x205000).bind fun t212 => (some ((IntKind.u64.wrap ((IntKind.u64.wrap (x5 + t210)) + (IntKind.u64.wrap (t212 * 33554432)))) % 4294967296, 0))) else (some ((IntKind.u64.wrap (x5 + t210)) % 4294967296, 0))))) else (if x4.toList = ([83] : List UInt8) then ((caponierref02_bit.f k x205004 0 5 7).bind fun t213 => ((caponierref02_bit.f k x205004 5 7 25).bind fun t214 => (some ((IntKind.u64.wrap ((IntKind.u64.wrap (x5 + t213)) + t214)) % 4294967296, 0)))) else (if x4.toList = ([66] : List UInt8) then ((caponierref02_bit.f k x205004 1 4 8).bind fun t215 => ((caponierref02_bit.f k x205004 5 6 25).bind fun t216 => ((caponierref02_bit.f k x205004 11 1 7).bind fun t217 => ((caponierref02_bit.f k x205004 12 1 31).bind fun t218 => (some ((IntKind.u64.wrap ((IntKind.u64.wrap ((IntKind.u64.wrap ((IntKind.u64.wrap (x5 + t215)) + t216)) + t217)) + t218)) % 4294967296, 0)))))) else (if x4.toList = ([85] : List UInt8) then ((caponierref02_bit.f k x205004 12 20 12).bind fun t219 => (some ((IntKind.u64.wrap (x5 + t219)) % 4294967296, 0))) else (if x4.toList = ([74] : List UInt8) then ((caponierref02_bit.f k x205004 1 10 21).bind fun t220 => ((caponierref02_bit.f k x205004 11 1 20).bind fun t221 => ((caponierref02_bit.f k x205004 12 8 12).bind fun t222 => ((caponierref02_bit.f k x205004 20 1 31).bind fun t223 => (some ((IntKind.u64.wrap ((IntKind.u64.wrap ((IntKind.u64.wrap ((IntKind.u64.wrap (x5 + t220)) + t221)) + t222)) + t223)) % 4294967296, 0)))))) else (some ((x5) % 4294967296, 0)))))))
end
def caponierref02_Encode.f (k : Nat) (a0_0 : Int) (a0_1 : Int) (a0_2 : Int) (a0_3 : Int) (a0_4 : Int) : Option (Int × Int) := (caponierref02_May.f k a0_0 a0_1 a0_2 a0_3 a0_4).bind fun t205 => (if t205 = true then (if a0_0 = 42 then (some (1048691, 0)) else ((caponierref02_Form.f k a0_0).bind fun t206 => ((caponierref02_low.f a0_0).bind fun t207 => (if t206.toList = ([85] : List UInt8) then (caponierref02_Encode.j0 k t206 (IntKind.u64.wrap ((IntKind.u64.wrap ((IntKind.u64.wrap (t207 + (IntKind.u64.wrap ((IntKind.u64.wrap (a0_1)) * 128)))) + (IntKind.u64.wrap ((IntKind.u64.wrap (a0_2)) * 32768)))) + (IntKind.u64.wrap ((IntKind.u64.wrap (a0_3)) * 1048576)))) false a0_0 a0_1 a0_2 a0_3 a0_4) else (caponierref02_Encode.j0 k t206 (IntKind.u64.wrap ((IntKind.u64.wrap ((IntKind.u64.wrap (t207 + (IntKind.u64.wrap ((IntKind.u64.wrap (a0_1)) * 128)))) + (IntKind.u64.wrap ((IntKind.u64.wrap (a0_2)) * 32768)))) + (IntKind.u64.wrap ((IntKind.u64.wrap (a0_3)) * 1048576)))) (t206.toList != ([74] : List UInt8)) a0_0 a0_1 a0_2 a0_3 a0_4))))) else (some (0, 1)))
def caponierref02_Encode.T6 : Bool × List (List Nat × List Nat) := (true, [([], []), ([0], [0]), ([1], [1]), ([], []), ([3], [3]), ([4], [4]), ([5], [5]), ([2, 6], [2, 6]), ([], []), ([8], [8]), ([9], [9]), ([10], [10]), ([7, 11], [7, 11]), ([], []), ([13], [13]), ([14], [14]), ([15], [15]), ([12, 16], [12, 16]), ([17, 2, 0, 1, 2, 3, 4, 5, 6, 7, 8, 9, 10, 11, 12, 13, 14, 15, 16, 17], [17])])
def caponierref02_Encode.B6 : List Nat := [0, 1, 3, 0, 8, 24, 56, 127, 0, 256, 768, 1792, 4095, 0, 8192, 24576, 57344, 131071, 262143]
theorem caponierref02_Encode.tab6 : rtab .any (opsOf Tryd.f18 6) = caponierref02_Encode.T6 := by kernel_rfl
theorem caponierref02_Encode.bits6 : waitsOk caponierref02_Encode.T6.2 caponierref02_Encode.B6 = true := by kernel_rfl
set_option maxHeartbeats 8000000 in
set_option maxRecDepth 100000 in
theorem caponierref02_Encode.calls (k : Nat) (a0_0 : Int) (a0_1 : Int) (a0_2 : Int) (a0_3 : Int) (a0_4 : Int) (r1 : Int) (r2 : Int) (w : World) (h : caponierref02_Encode.f k a0_0 a0_1 a0_2 a0_3 a0_4 = some (r1, r2)) :
    Calls Tryd.prog 18 #[.agg #[.int .i64 a0_0, .int .i64 a0_1, .int .i64 a0_2, .int .i64 a0_3, .int .i64 a0_4]] w fun e w' => e = .returned (.tuple #[.int .u32 r1, .int .i64 r2]) ∧ Below w.heap.size w w' := by
  have hu43 := Tryd.underlying43
  have HB := Aside0.mk (Below.refl w.heap.size w)
  have H : ((caponierref02_May.f k a0_0 a0_1 a0_2 a0_3 a0_4).bind fun t205 => (if t205 = true then (if a0_0 = 42 then (some (1048691, 0)) else ((caponierref02_Form.f k a0_0).bind fun t206 => ((caponierref02_low.f a0_0).bind fun t207 => (if t206.toList = ([85] : List UInt8) then (caponierref02_Encode.j0 k t206 (IntKind.u64.wrap ((IntKind.u64.wrap ((IntKind.u64.wrap (t207 + (IntKind.u64.wrap ((IntKind.u64.wrap (a0_1)) * 128)))) + (IntKind.u64.wrap ((IntKind.u64.wrap (a0_2)) * 32768)))) + (IntKind.u64.wrap ((IntKind.u64.wrap (a0_3)) * 1048576)))) false a0_0 a0_1 a0_2 a0_3 a0_4) else (caponierref02_Encode.j0 k t206 (IntKind.u64.wrap ((IntKind.u64.wrap ((IntKind.u64.wrap (t207 + (IntKind.u64.wrap ((IntKind.u64.wrap (a0_1)) * 128)))) + (IntKind.u64.wrap ((IntKind.u64.wrap (a0_2)) * 32768)))) + (IntKind.u64.wrap ((IntKind.u64.wrap (a0_3)) * 1048576)))) (t206.toList != ([74] : List UInt8)) a0_0 a0_1 a0_2 a0_3 a0_4))))) else (some (0, 1)))) = some (r1, r2) := h
  clear h
  replace H := Option.bind_eq_some_iff.mp H
  obtain ⟨t205, A20, H⟩ := H
  replace H : (if t205 = true then (if a0_0 = 42 then (some (1048691, 0)) else ((caponierref02_Form.f k a0_0).bind fun t206 => ((caponierref02_low.f a0_0).bind fun t207 => (if t206.toList = ([85] : List UInt8) then (caponierref02_Encode.j0 k t206 (IntKind.u64.wrap ((IntKind.u64.wrap ((IntKind.u64.wrap (t207 + (IntKind.u64.wrap ((IntKind.u64.wrap (a0_1)) * 128)))) + (IntKind.u64.wrap ((IntKind.u64.wrap (a0_2)) * 32768)))) + (IntKind.u64.wrap ((IntKind.u64.wrap (a0_3)) * 1048576)))) false a0_0 a0_1 a0_2 a0_3 a0_4) else (caponierref02_Encode.j0 k t206 (IntKind.u64.wrap ((IntKind.u64.wrap ((IntKind.u64.wrap (t207 + (IntKind.u64.wrap ((IntKind.u64.wrap (a0_1)) * 128)))) + (IntKind.u64.wrap ((IntKind.u64.wrap (a0_2)) * 32768)))) + (IntKind.u64.wrap ((IntKind.u64.wrap (a0_3)) * 1048576)))) (t206.toList != ([74] : List UInt8)) a0_0 a0_1 a0_2 a0_3 a0_4))))) else (some (0, 1))) = some (r1, r2) := H
  have A2 := Aside0.mk A20
  clear A20
  by_cases c3 : t205 = true
  · subst c3
    have H1 : (if a0_0 = 42 then (some (1048691, 0)) else ((caponierref02_Form.f k a0_0).bind fun t206 => ((caponierref02_low.f a0_0).bind fun t207 => (if t206.toList = ([85] : List UInt8) then (caponierref02_Encode.j0 k t206 (IntKind.u64.wrap ((IntKind.u64.wrap ((IntKind.u64.wrap (t207 + (IntKind.u64.wrap ((IntKind.u64.wrap (a0_1)) * 128)))) + (IntKind.u64.wrap ((IntKind.u64.wrap (a0_2)) * 32768)))) + (IntKind.u64.wrap ((IntKind.u64.wrap (a0_3)) * 1048576)))) false a0_0 a0_1 a0_2 a0_3 a0_4) else (caponierref02_Encode.j0 k t206 (IntKind.u64.wrap ((IntKind.u64.wrap ((IntKind.u64.wrap (t207 + (IntKind.u64.wrap ((IntKind.u64.wrap (a0_1)) * 128)))) + (IntKind.u64.wrap ((IntKind.u64.wrap (a0_2)) * 32768)))) + (IntKind.u64.wrap ((IntKind.u64.wrap (a0_3)) * 1048576)))) (t206.toList != ([74] : List UInt8)) a0_0 a0_1 a0_2 a0_3 a0_4))))) = some (r1, r2) := by rw [if_pos rfl] at H; exact H
    clear H
    have H := H1
    clear H1
    by_cases c4 : a0_0 = 42
    · rw [if_pos c4] at H
      have c4b0 : (a0_0 == 42) = true := beq_iff_eq.mpr c4
      have c4b1 : (a0_0 != 42) = false := bne_eq_false_iff_eq.mpr c4
      clear c4
      simp only [Option.some.injEq, Prod.mk.injEq] at H
      obtain ⟨rfl, rfl⟩ := H
      go_enter Tryd.func18, Tryd.ntmps18
      go_wp2_with (first | ((with_reducible refine gate_dst (N := 1) rfl ?_); refine box_event ?hg (N := 1) ?hd (cs := #[.int .i64 a0_0, .int .i64 a0_1, .int .i64 a0_2, .int .i64 a0_3, .int .i64 a0_4]) (t := 43) ?hr ?_; (case hd => rfl); (case hg => rfl); (case hr => first | (go_simp; done) | (go_simp; rfl)); intro gb204 hg w5 hbox hb; have n0_ := Aside0.mk (below_step (by repeat (first | (with_reducible first | exact HB.out | apply below_alloc | apply pw_below_drewN | apply below_drew1) | exact HB.out)) hb); have n1_ := Aside0.mk (hbox); have n2_ := Aside0.mk ((by rw [hg]; exact (below_size (by repeat (first | (with_reducible first | exact HB.out | apply below_alloc | apply pw_below_drewN | apply below_drew1) | exact HB.out))) : w.heap.size ≤ gb204)); have n3_ := Aside0.mk ((by rw [hg]; exact (below_size (by repeat (first | (with_reducible first | exact HB.out | apply below_alloc | apply pw_below_drewN | apply below_drew1) | exact HB.out))) : w.heap.size ≤ gb204)); clear HB; have HB := n0_; have BK204 := n1_; have GW204 := n2_; have GE204 := n3_; clear n0_ n1_ n2_ n3_; clear hb hbox hg; have hcz6_0 : w5.cell? ⟨gb204, 0, none⟩ = some (.int .i64 a0_0) := (blk_cell BK204.out 0).trans rfl; have hcz6_1 : w5.cell? ⟨gb204, 1, none⟩ = some (.int .i64 a0_1) := (blk_cell BK204.out 1).trans rfl; have hcz6_2 : w5.cell? ⟨gb204, 2, none⟩ = some (.int .i64 a0_2) := (blk_cell BK204.out 2).trans rfl; have hcz6_3 : w5.cell? ⟨gb204, 3, none⟩ = some (.int .i64 a0_3) := (blk_cell BK204.out 3).trans rfl; have hcz6_4 : w5.cell? ⟨gb204, 4, none⟩ = some (.int .i64 a0_4) := (blk_cell BK204.out 4).trans rfl; have hfz6_0 := blk_frozen BK204.out 0; have hfz6_1 := blk_frozen BK204.out 1; have hfz6_2 := blk_frozen BK204.out 2; have hfz6_3 := blk_frozen BK204.out 3; have hfz6_4 := blk_frozen BK204.out 4) | ((with_reducible refine gate_callee (f := 30) rfl ?_); refine goesL_ (some 8) rfl rfl Tryd.func30 (by kernel_rfl) rfl #[.agg #[.int .i64 a0_0, .int .i64 a0_1, .int .i64 a0_2, .int .i64 a0_3, .int .i64 a0_4]] rfl (by (try simp only [List.map_toArray, List.map_cons, List.map_nil]); first | done | rfl | (simp only [List.length_drop, List.length_take]; rfl)) ?_; (with_reducible refine (caponierref02_May.calls k a0_0 a0_1 a0_2 a0_3 a0_4 true _ A2.out).mono ?_); rintro e w7 ⟨rfl, hb⟩; refine ⟨_, rfl, ?_⟩; have n0_ := Aside0.mk (blk_below (g := gb204) (o := .cells #[.int .i64 a0_0, .int .i64 a0_1, .int .i64 a0_2, .int .i64 a0_3, .int .i64 a0_4] 43 (0, 0)) (by (with_reducible repeat (first | refine blk_drewN ?_ _ | refine blk_drew ?_ | refine blk_alloc ?_ _)); exact BK204.out) hb); have n1_ := Aside0.mk (below_step (by repeat (first | (with_reducible first | exact HB.out | apply below_alloc | apply pw_below_drewN | apply below_drew1 | refine below_set ?_ GE204.out) | exact HB.out)) hb); clear BK204; clear HB; have BK204 := n0_; have HB := n1_; clear n0_ n1_; (try clear hb); (try clear hb2); (try clear hk); (try clear hi); have hcz8_0 : w7.cell? ⟨gb204, 0, none⟩ = some (.int .i64 a0_0) := (blk_cell BK204.out 0).trans rfl; have hcz8_1 : w7.cell? ⟨gb204, 1, none⟩ = some (.int .i64 a0_1) := (blk_cell BK204.out 1).trans rfl; have hcz8_2 : w7.cell? ⟨gb204, 2, none⟩ = some (.int .i64 a0_2) := (blk_cell BK204.out 2).trans rfl; have hcz8_3 : w7.cell? ⟨gb204, 3, none⟩ = some (.int .i64 a0_3) := (blk_cell BK204.out 3).trans rfl; have hcz8_4 : w7.cell? ⟨gb204, 4, none⟩ = some (.int .i64 a0_4) := (blk_cell BK204.out 4).trans rfl; have hfz8_0 := blk_frozen BK204.out 0; have hfz8_1 := blk_frozen BK204.out 1; have hfz8_2 := blk_frozen BK204.out 2; have hfz8_3 := blk_frozen BK204.out 3; have hfz8_4 := blk_frozen BK204.out 4))
      go_ret2
      exact ⟨by first | rfl | (simp [errW_none, errW_some] <;> rfl) | (simp [*, errW_none, errW_some] <;> rfl), by repeat (first | (with_reducible first | exact HB.out | apply below_alloc | apply pw_below_drewN | apply below_drew1 | refine below_set ?_ GE204.out) | exact HB.out)⟩
    · rw [if_neg c4] at H
      have c4b0 : (a0_0 == 42) = false := beq_eq_false_iff_ne.mpr c4
      have c4b1 : (a0_0 != 42) = true := bne_iff_ne.mpr c4
      replace H := Option.bind_eq_some_iff.mp H
      obtain ⟨t206, A90, H⟩ := H
      replace H : ((caponierref02_low.f a0_0).bind fun t207 => (if t206.toList = ([85] : List UInt8) then (caponierref02_Encode.j0 k t206 (IntKind.u64.wrap ((IntKind.u64.wrap ((IntKind.u64.wrap (t207 + (IntKind.u64.wrap ((IntKind.u64.wrap (a0_1)) * 128)))) + (IntKind.u64.wrap ((IntKind.u64.wrap (a0_2)) * 32768)))) + (IntKind.u64.wrap ((IntKind.u64.wrap (a0_3)) * 1048576)))) false a0_0 a0_1 a0_2 a0_3 a0_4) else (caponierref02_Encode.j0 k t206 (IntKind.u64.wrap ((IntKind.u64.wrap ((IntKind.u64.wrap (t207 + (IntKind.u64.wrap ((IntKind.u64.wrap (a0_1)) * 128)))) + (IntKind.u64.wrap ((IntKind.u64.wrap (a0_2)) * 32768)))) + (IntKind.u64.wrap ((IntKind.u64.wrap (a0_3)) * 1048576)))) (t206.toList != ([74] : List UInt8)) a0_0 a0_1 a0_2 a0_3 a0_4))) = some (r1, r2) := H
      have A9 := Aside0.mk A90
      clear A90
      replace H := Option.bind_eq_some_iff.mp H
      obtain ⟨t207, A100, H⟩ := H
      replace H : (if t206.toList = ([85] : List UInt8) then (caponierref02_Encode.j0 k t206 (IntKind.u64.wrap ((IntKind.u64.wrap ((IntKind.u64.wrap (t207 + (IntKind.u64.wrap ((IntKind.u64.wrap (a0_1)) * 128)))) + (IntKind.u64.wrap ((IntKind.u64.wrap (a0_2)) * 32768)))) + (IntKind.u64.wrap ((IntKind.u64.wrap (a0_3)) * 1048576)))) false a0_0 a0_1 a0_2 a0_3 a0_4) else (caponierref02_Encode.j0 k t206 (IntKind.u64.wrap ((IntKind.u64.wrap ((IntKind.u64.wrap (t207 + (IntKind.u64.wrap ((IntKind.u64.wrap (a0_1)) * 128)))) + (IntKind.u64.wrap ((IntKind.u64.wrap (a0_2)) * 32768)))) + (IntKind.u64.wrap ((IntKind.u64.wrap (a0_3)) * 1048576)))) (t206.toList != ([74] : List UInt8)) a0_0 a0_1 a0_2 a0_3 a0_4)) = some (r1, r2) := H
      have A10 := Aside0.mk A100
      clear A100
      have HC11 := Aside0.mk H
      clear H
      go_enter Tryd.func18, Tryd.ntmps18
      try go_wp2_with (first | ((with_reducible refine gate_dst (N := 1) rfl ?_); refine box_event ?hg (N := 1) ?hd (cs := #[.int .i64 a0_0, .int .i64 a0_1, .int .i64 a0_2, .int .i64 a0_3, .int .i64 a0_4]) (t := 43) ?hr ?_; (case hd => rfl); (case hg => rfl); (case hr => first | (go_simp; done) | (go_simp; rfl)); intro gb204 hg w12 hbox hb; have n0_ := Aside0.mk (below_step (by repeat (first | (with_reducible first | exact HB.out | apply below_alloc | apply pw_below_drewN | apply below_drew1) | exact HB.out)) hb); have n1_ := Aside0.mk (hbox); have n2_ := Aside0.mk ((by rw [hg]; exact (below_size (by repeat (first | (with_reducible first | exact HB.out | apply below_alloc | apply pw_below_drewN | apply below_drew1) | exact HB.out))) : w.heap.size ≤ gb204)); have n3_ := Aside0.mk ((by rw [hg]; exact (below_size (by repeat (first | (with_reducible first | exact HB.out | apply below_alloc | apply pw_below_drewN | apply below_drew1) | exact HB.out))) : w.heap.size ≤ gb204)); clear HB; have HB := n0_; have BK204 := n1_; have GW204 := n2_; have GE204 := n3_; clear n0_ n1_ n2_ n3_; clear hb hbox hg; have hcz13_0 : w12.cell? ⟨gb204, 0, none⟩ = some (.int .i64 a0_0) := (blk_cell BK204.out 0).trans rfl; have hcz13_1 : w12.cell? ⟨gb204, 1, none⟩ = some (.int .i64 a0_1) := (blk_cell BK204.out 1).trans rfl; have hcz13_2 : w12.cell? ⟨gb204, 2, none⟩ = some (.int .i64 a0_2) := (blk_cell BK204.out 2).trans rfl; have hcz13_3 : w12.cell? ⟨gb204, 3, none⟩ = some (.int .i64 a0_3) := (blk_cell BK204.out 3).trans rfl; have hcz13_4 : w12.cell? ⟨gb204, 4, none⟩ = some (.int .i64 a0_4) := (blk_cell BK204.out 4).trans rfl; have hfz13_0 := blk_frozen BK204.out 0; have hfz13_1 := blk_frozen BK204.out 1; have hfz13_2 := blk_frozen BK204.out 2; have hfz13_3 := blk_frozen BK204.out 3; have hfz13_4 := blk_frozen BK204.out 4) | ((with_reducible refine gate_callee (f := 30) rfl ?_); refine goesL_ (some 8) rfl rfl Tryd.func30 (by kernel_rfl) rfl #[.agg #[.int .i64 a0_0, .int .i64 a0_1, .int .i64 a0_2, .int .i64 a0_3, .int .i64 a0_4]] rfl (by (try simp only [List.map_toArray, List.map_cons, List.map_nil]); first | done | rfl | (simp only [List.length_drop, List.length_take]; rfl)) ?_; (with_reducible refine (caponierref02_May.calls k a0_0 a0_1 a0_2 a0_3 a0_4 true _ A2.out).mono ?_); rintro e w14 ⟨rfl, hb⟩; refine ⟨_, rfl, ?_⟩; have n0_ := Aside0.mk (blk_below (g := gb204) (o := .cells #[.int .i64 a0_0, .int .i64 a0_1, .int .i64 a0_2, .int .i64 a0_3, .int .i64 a0_4] 43 (0, 0)) (by (with_reducible repeat (first | refine blk_drewN ?_ _ | refine blk_drew ?_ | refine blk_alloc ?_ _)); exact BK204.out) hb); have n1_ := Aside0.mk (below_step (by repeat (first | (with_reducible first | exact HB.out | apply below_alloc | apply pw_below_drewN | apply below_drew1 | refine below_set ?_ GE204.out) | exact HB.out)) hb); clear BK204; clear HB; have BK204 := n0_; have HB := n1_; clear n0_ n1_; (try clear hb); (try clear hb2); (try clear hk); (try clear hi); have hcz15_0 : w14.cell? ⟨gb204, 0, none⟩ = some (.int .i64 a0_0) := (blk_cell BK204.out 0).trans rfl; have hcz15_1 : w14.cell? ⟨gb204, 1, none⟩ = some (.int .i64 a0_1) := (blk_cell BK204.out 1).trans rfl; have hcz15_2 : w14.cell? ⟨gb204, 2, none⟩ = some (.int .i64 a0_2) := (blk_cell BK204.out 2).trans rfl; have hcz15_3 : w14.cell? ⟨gb204, 3, none⟩ = some (.int .i64 a0_3) := (blk_cell BK204.out 3).trans rfl; have hcz15_4 : w14.cell? ⟨gb204, 4, none⟩ = some (.int .i64 a0_4) := (blk_cell BK204.out 4).trans rfl; have hfz15_0 := blk_frozen BK204.out 0; have hfz15_1 := blk_frozen BK204.out 1; have hfz15_2 := blk_frozen BK204.out 2; have hfz15_3 := blk_frozen BK204.out 3; have hfz15_4 := blk_frozen BK204.out 4) | ((with_reducible refine gate_callee (f := 16) rfl ?_); refine goesL_ (some 15) rfl rfl Tryd.func16 (by kernel_rfl) rfl #[.int .i64 a0_0] rfl (by (try simp only [List.map_toArray, List.map_cons, List.map_nil]); first | done | rfl | (simp only [List.length_drop, List.length_take]; rfl)) ?_; (with_reducible refine (caponierref02_Form.calls k a0_0 t206 _ A9.out).mono ?_); rintro e w' ⟨rfl, ⟨nd, rfl⟩⟩; refine ⟨_, rfl, ?_⟩))
      (try (rw [drewN_self w14]; generalize hq_ : World.drewN w14 _ = w14; have n0_ : Aside0 (w14.heap[gb204]? = some (.cells #[.int .i64 a0_0, .int .i64 a0_1, .int .i64 a0_2, .int .i64 a0_3, .int .i64 a0_4] 43 (0, 0))) := ⟨by rw [← hq_]; exact (by (with_reducible repeat (first | refine blk_drewN ?_ _ | refine blk_drew ?_ | refine blk_alloc ?_ _)); exact BK204.out)⟩; have n1_ : Aside0 (Below w.heap.size w w14) := ⟨by rw [← hq_]; exact (by repeat (first | (with_reducible first | exact HB.out | apply below_alloc | apply pw_below_drewN | apply below_drew1 | refine below_set ?_ GE204.out) | exact HB.out))⟩; clear BK204 HB hq_; have BK204 := n0_; have HB := n1_; clear n0_ n1_))
      have n0_ := Aside0.mk (blk_drew BK204.out)
      have n1_ := Aside0.mk (below_drew1 HB.out)
      clear BK204
      clear HB
      have BK204 := n0_
      have HB := n1_
      clear n0_ n1_
      refine start_ (n := 19) (S := fun w' => w'.cell? ⟨gb204, 0, none⟩ = some (.int .i64 a0_0) ∧ w'.cell? ⟨gb204, 1, none⟩ = some (.int .i64 a0_1) ∧ w'.cell? ⟨gb204, 2, none⟩ = some (.int .i64 a0_2) ∧ w'.cell? ⟨gb204, 3, none⟩ = some (.int .i64 a0_3) ∧ w'.cell? ⟨gb204, 4, none⟩ = some (.int .i64 a0_4)) (ds := []) #[false, false, false, false, false, false, false, false, false, false, false, false, false, false, false, false, false, false, false] (by kernel_rfl) rfl rfl ⟨(blk_cell BK204.out 0).trans rfl, (blk_cell BK204.out 1).trans rfl, (blk_cell BK204.out 2).trans rfl, (blk_cell BK204.out 3).trans rfl, (blk_cell BK204.out 4).trans rfl⟩ (fun hHeld => ?_); refine with_tabW caponierref02_Encode.tab6 caponierref02_Encode.bits6 (fun HT_ HW_ => ?_)
      generalize w14.drew = w16 at BK204 HB hHeld ⊢
      refine pure_ (i := 0) (N := some 16) (v := ?_) (a' := ?_) #[true, false, false, false, false, false, false, false, false, false, false, false, false, false, false, false, false, false, false] rfl rfl (any_of HT_.out (by kernel_rfl)) (fun _ _ _ h => h) (Or.inl ⟨by rfl, ?_⟩) ?_ ?_
      rotate_left
      · intro w'
        go_simp
        with_reducible rfl
      rotate_left
      · simp only [Act.put, List.setIfInBounds_toArray, List.set_cons_zero, List.set_cons_succ, i64_w, i32_w]
        rfl
      refine pure_ (i := 3) (N := some 19) (v := ?_) (a' := ?_) #[true, false, false, true, false, false, false, false, false, false, false, false, false, false, false, false, false, false, false] rfl rfl (any_of HT_.out (by kernel_rfl)) (fun _ _ _ h => h) (Or.inl ⟨by rfl, ?_⟩) ?_ ?_
      rotate_left
      · intro w'
        go_simp
        with_reducible rfl
      rotate_left
      · simp only [Act.put, List.setIfInBounds_toArray, List.set_cons_zero, List.set_cons_succ, i64_w, i32_w]
        rfl
      refine pure_ (i := 8) (N := some 24) (v := ?_) (a' := ?_) #[true, false, false, true, false, false, false, false, true, false, false, false, false, false, false, false, false, false, false] rfl rfl (any_of HT_.out (by kernel_rfl)) (fun _ _ _ h => h) (Or.inl ⟨by rfl, ?_⟩) ?_ ?_
      rotate_left
      · intro w'
        go_simp
        with_reducible rfl
      rotate_left
      · simp only [Act.put, List.setIfInBounds_toArray, List.set_cons_zero, List.set_cons_succ, i64_w, i32_w]
        rfl
      refine pure_ (i := 13) (N := some 29) (v := ?_) (a' := ?_) #[true, false, false, true, false, false, false, false, true, false, false, false, false, true, false, false, false, false, false] rfl rfl (any_of HT_.out (by kernel_rfl)) (fun _ _ _ h => h) (Or.inl ⟨by rfl, ?_⟩) ?_ ?_
      rotate_left
      · intro w'
        go_simp
        with_reducible rfl
      rotate_left
      · simp only [Act.put, List.setIfInBounds_toArray, List.set_cons_zero, List.set_cons_succ, i64_w, i32_w]
        rfl
      refine take_ (i := 1) (N := some 17) (v := ?_) (a' := ?_) #[true, true, false, true, false, false, false, false, true, false, false, false, false, true, false, false, false, false, false] rfl rfl (take_ofW HT_.out HW_.out (by kernel_rfl)) (fun _ _ _ h => h) (Or.inl ⟨by rfl, ?_⟩) hHeld ?_ ?_
      rotate_left
      · rintro w' ⟨s0, s1, s2, s3, s4⟩
        go_simp
        with_reducible rfl
      rotate_left
      · simp only [Act.put, List.setIfInBounds_toArray, List.set_cons_zero, List.set_cons_succ, i64_w, i32_w]
        rfl
      refine take_ (i := 4) (N := some 20) (v := ?_) (a' := ?_) #[true, true, false, true, true, false, false, false, true, false, false, false, false, true, false, false, false, false, false] rfl rfl (take_ofW HT_.out HW_.out (by kernel_rfl)) (fun _ _ _ h => h) (Or.inl ⟨by rfl, ?_⟩) hHeld ?_ ?_
      rotate_left
      · rintro w' ⟨s0, s1, s2, s3, s4⟩
        go_simp
        with_reducible rfl
      rotate_left
      · simp only [Act.put, List.setIfInBounds_toArray, List.set_cons_zero, List.set_cons_succ, i64_w, i32_w]
        rfl
      refine pure_ (i := 5) (N := some 21) (v := ?_) (a' := ?_) #[true, true, false, true, true, true, false, false, true, false, false, false, false, true, false, false, false, false, false] rfl rfl (any_of HT_.out (by kernel_rfl)) (fun _ _ _ h => h) (Or.inl ⟨by rfl, ?_⟩) ?_ ?_
      rotate_left
      · intro w'
        go_simp
        with_reducible rfl
      rotate_left
      · simp only [Act.put, List.setIfInBounds_toArray, List.set_cons_zero, List.set_cons_succ, i64_w, i32_w]
        rfl
      refine pure_ (i := 6) (N := some 22) (v := ?_) (a' := ?_) #[true, true, false, true, true, true, true, false, true, false, false, false, false, true, false, false, false, false, false] rfl rfl (any_of HT_.out (by kernel_rfl)) (fun _ _ _ h => h) (Or.inl ⟨by rfl, ?_⟩) ?_ ?_
      rotate_left
      · intro w'
        go_simp
        with_reducible rfl
      rotate_left
      · simp only [Act.put, List.setIfInBounds_toArray, List.set_cons_zero, List.set_cons_succ, i64_w, i32_w]
        rfl
      refine take_ (i := 9) (N := some 25) (v := ?_) (a' := ?_) #[true, true, false, true, true, true, true, false, true, true, false, false, false, true, false, false, false, false, false] rfl rfl (take_ofW HT_.out HW_.out (by kernel_rfl)) (fun _ _ _ h => h) (Or.inl ⟨by rfl, ?_⟩) hHeld ?_ ?_
      rotate_left
      · rintro w' ⟨s0, s1, s2, s3, s4⟩
        go_simp
        with_reducible rfl
      rotate_left
      · simp only [Act.put, List.setIfInBounds_toArray, List.set_cons_zero, List.set_cons_succ, i64_w, i32_w]
        rfl
      refine pure_ (i := 10) (N := some 26) (v := ?_) (a' := ?_) #[true, true, false, true, true, true, true, false, true, true, true, false, false, true, false, false, false, false, false] rfl rfl (any_of HT_.out (by kernel_rfl)) (fun _ _ _ h => h) (Or.inl ⟨by rfl, ?_⟩) ?_ ?_
      rotate_left
      · intro w'
        go_simp
        with_reducible rfl
      rotate_left
      · simp only [Act.put, List.setIfInBounds_toArray, List.set_cons_zero, List.set_cons_succ, i64_w, i32_w]
        rfl
      refine pure_ (i := 11) (N := some 27) (v := ?_) (a' := ?_) #[true, true, false, true, true, true, true, false, true, true, true, true, false, true, false, false, false, false, false] rfl rfl (any_of HT_.out (by kernel_rfl)) (fun _ _ _ h => h) (Or.inl ⟨by rfl, ?_⟩) ?_ ?_
      rotate_left
      · intro w'
        go_simp
        with_reducible rfl
      rotate_left
      · simp only [Act.put, List.setIfInBounds_toArray, List.set_cons_zero, List.set_cons_succ, i64_w, i32_w]
        rfl
      refine take_ (i := 14) (N := some 30) (v := ?_) (a' := ?_) #[true, true, false, true, true, true, true, false, true, true, true, true, false, true, true, false, false, false, false] rfl rfl (take_ofW HT_.out HW_.out (by kernel_rfl)) (fun _ _ _ h => h) (Or.inl ⟨by rfl, ?_⟩) hHeld ?_ ?_
      rotate_left
      · rintro w' ⟨s0, s1, s2, s3, s4⟩
        go_simp
        with_reducible rfl
      rotate_left
      · simp only [Act.put, List.setIfInBounds_toArray, List.set_cons_zero, List.set_cons_succ, i64_w, i32_w]
        rfl
      refine pure_ (i := 15) (N := some 31) (v := ?_) (a' := ?_) #[true, true, false, true, true, true, true, false, true, true, true, true, false, true, true, true, false, false, false] rfl rfl (any_of HT_.out (by kernel_rfl)) (fun _ _ _ h => h) (Or.inl ⟨by rfl, ?_⟩) ?_ ?_
      rotate_left
      · intro w'
        go_simp
        with_reducible rfl
      rotate_left
      · simp only [Act.put, List.setIfInBounds_toArray, List.set_cons_zero, List.set_cons_succ, i64_w, i32_w]
        rfl
      refine pure_ (i := 16) (N := some 32) (v := ?_) (a' := ?_) #[true, true, false, true, true, true, true, false, true, true, true, true, false, true, true, true, true, false, false] rfl rfl (any_of HT_.out (by kernel_rfl)) (fun _ _ _ h => h) (Or.inl ⟨by rfl, ?_⟩) ?_ ?_
      rotate_left
      · intro w'
        go_simp
        with_reducible rfl
      rotate_left
      · simp only [Act.put, List.setIfInBounds_toArray, List.set_cons_zero, List.set_cons_succ, i64_w, i32_w]
        rfl
      refine one_ (i := 2) (N := some 18) #[true, true, true, true, true, true, true, false, true, true, true, true, false, true, true, true, true, false, false] rfl rfl (one_of HT_.out (by kernel_rfl)) (by decide) (fun K hK => ?_)
      refine goes_ Tryd.func31 (by kernel_rfl) rfl #[.int .i64 a0_0] (by rfl) rfl rfl (by (try simp only [List.map_toArray, List.map_cons, List.map_nil]); first | done | rfl | (simp only [List.length_drop, List.length_take]; rfl)) ?_
      with_reducible refine (caponierref02_low.calls a0_0 t207 _ A10.out).mono ?_
      rintro e w17 ⟨rfl, hb⟩
      refine ⟨_, rfl, ?_⟩
      have n0_ := Aside0.mk (blk_below (g := gb204) (o := .cells #[.int .i64 a0_0, .int .i64 a0_1, .int .i64 a0_2, .int .i64 a0_3, .int .i64 a0_4] 43 (0, 0)) (by (with_reducible repeat (first | refine blk_drewN ?_ _ | refine blk_drew ?_ | refine blk_alloc ?_ _)); exact BK204.out) hb)
      have n1_ := Aside0.mk (below_step (by repeat (first | (with_reducible first | exact HB.out | apply below_alloc | apply pw_below_drewN | apply below_drew1 | refine below_set ?_ GE204.out) | exact HB.out)) hb)
      clear BK204
      clear HB
      have BK204 := n0_
      have HB := n1_
      clear n0_ n1_
      (try clear hb)
      (try clear hb2)
      (try clear hk)
      (try clear hi)
      refine hK.out _ _ ⟨(blk_cell BK204.out 0).trans rfl, (blk_cell BK204.out 1).trans rfl, (blk_cell BK204.out 2).trans rfl, (blk_cell BK204.out 3).trans rfl, (blk_cell BK204.out 4).trans rfl⟩ (fun hHeld => ?_)
      clear hK K
      refine norm_ (a' := ?_) ?_ ?_
      rotate_left
      · show Act.put _ (some 18) _ = _
        simp only [Act.put, List.setIfInBounds_toArray, List.set_cons_zero, List.set_cons_succ, i64_w, i32_w]
        rfl
      refine pure_ (i := 7) (N := some 23) (v := ?_) (a' := ?_) #[true, true, true, true, true, true, true, true, true, true, true, true, false, true, true, true, true, false, false] rfl rfl (any_of HT_.out (by kernel_rfl)) (fun _ _ _ h => h) (Or.inl ⟨by rfl, ?_⟩) ?_ ?_
      rotate_left
      · intro w'
        go_simp
        with_reducible rfl
      rotate_left
      · simp only [Act.put, List.setIfInBounds_toArray, List.set_cons_zero, List.set_cons_succ, i64_w, i32_w]
        rfl
      refine pure_ (i := 12) (N := some 28) (v := ?_) (a' := ?_) #[true, true, true, true, true, true, true, true, true, true, true, true, true, true, true, true, true, false, false] rfl rfl (any_of HT_.out (by kernel_rfl)) (fun _ _ _ h => h) (Or.inl ⟨by rfl, ?_⟩) ?_ ?_
      rotate_left
      · intro w'
        go_simp
        with_reducible rfl
      rotate_left
      · simp only [Act.put, List.setIfInBounds_toArray, List.set_cons_zero, List.set_cons_succ, i64_w, i32_w]
        rfl
      refine pure_ (i := 17) (N := some 33) (v := ?_) (a' := ?_) #[true, true, true, true, true, true, true, true, true, true, true, true, true, true, true, true, true, true, false] rfl rfl (any_of HT_.out (by kernel_rfl)) (fun _ _ _ h => h) (Or.inl ⟨by rfl, ?_⟩) ?_ ?_
      rotate_left
      · intro w'
        go_simp
        with_reducible rfl
      rotate_left
      · simp only [Act.put, List.setIfInBounds_toArray, List.set_cons_zero, List.set_cons_succ, i64_w, i32_w]
        rfl
      refine pure_ (i := 18) (N := some 5) (v := ?_) (a' := ?_) #[true, true, true, true, true, true, true, true, true, true, true, true, true, true, true, true, true, true, true] rfl rfl (any_of HT_.out (by kernel_rfl)) (fun _ _ _ h => h) (Or.inl ⟨by rfl, ?_⟩) ?_ ?_
      rotate_left
      · intro w'
        go_simp
        with_reducible rfl
      rotate_left
      · simp only [Act.put, List.setIfInBounds_toArray, List.set_cons_zero, List.set_cons_succ, i64_w, i32_w]
        rfl
      refine done_ (done_of HT_.out (by kernel_rfl)) ?_
      go_upto_region 7 with (fail)
      go_cut [39] (fun v39 wc => ∃ (kq : Nat) (x39_10 : Bool), v39 = .bool x39_10 ∧ Aside0 (caponierref02_Encode.j0 kq t206 (IntKind.u64.wrap ((IntKind.u64.wrap ((IntKind.u64.wrap (t207 + (IntKind.u64.wrap ((IntKind.u64.wrap (a0_1)) * 128)))) + (IntKind.u64.wrap ((IntKind.u64.wrap (a0_2)) * 32768)))) + (IntKind.u64.wrap ((IntKind.u64.wrap (a0_3)) * 1048576)))) x39_10 a0_0 a0_1 a0_2 a0_3 a0_4 = some (r1, r2)) ∧ Aside0 (kq ≤ k) ∧ Aside0 (wc.heap[gb204]? = some (.cells #[.int .i64 a0_0, .int .i64 a0_1, .int .i64 a0_2, .int .i64 a0_3, .int .i64 a0_4] 43 (0, 0))) ∧ Aside0 (Below w.heap.size w wc))
      case first =>
        have H := HC11.out
        clear HC11
        by_cases c18 : t206.toList = ([85] : List UInt8)
        · rw [if_pos c18] at H
          have c18b0 : (t206.toList == ([85] : List UInt8)) = true := beq_iff_eq.mpr c18
          have c18b1 : (t206.toList != ([85] : List UInt8)) = false := bne_eq_false_iff_eq.mpr c18
          clear c18
          (first | rw [c18b0] | (simp only [i64_w, i32_w]; rw [c18b0]) | skip)
          have H' := Aside0.mk H
          clear H
          go_wp2
          go_meet
          case rel => exact ⟨_, (false), (by first | rfl | (simp; done) | (simp [*]; done)), H', ⟨by first | omega | exact Nat.le_refl _⟩, ⟨by (with_reducible repeat (first | refine blk_drewN ?_ _ | refine blk_drew ?_ | refine blk_alloc ?_ _)); exact BK204.out⟩, ⟨by repeat (first | (with_reducible first | exact HB.out | apply below_alloc | apply pw_below_drewN | apply below_drew1 | refine below_set ?_ GE204.out) | exact HB.out)⟩⟩
        · rw [if_neg c18] at H
          have c18b0 : (t206.toList == ([85] : List UInt8)) = false := beq_eq_false_iff_ne.mpr c18
          have c18b1 : (t206.toList != ([85] : List UInt8)) = true := bne_iff_ne.mpr c18
          (first | rw [c18b0] | (simp only [i64_w, i32_w]; rw [c18b0]) | skip)
          have H' := Aside0.mk H
          clear H
          go_wp2
          go_meet
          case rel => exact ⟨_, ((t206.toList != ([74] : List UInt8))), (by first | rfl | (simp; done) | (simp [*]; done)), H', ⟨by first | omega | exact Nat.le_refl _⟩, ⟨by (with_reducible repeat (first | refine blk_drewN ?_ _ | refine blk_drew ?_ | refine blk_alloc ?_ _)); exact BK204.out⟩, ⟨by repeat (first | (with_reducible first | exact HB.out | apply below_alloc | apply pw_below_drewN | apply below_drew1 | refine below_set ?_ GE204.out) | exact HB.out)⟩⟩
      case rest =>
        clear HC11
        try clear c1
        try clear p2
        try clear c3
        try clear c4
        try clear c4b0
        try clear c4b1
        try clear c16
        try clear c18
        try clear c18b0
        try clear c18b1
        try clear hcz13_0
        try clear hcz13_1
        try clear hcz13_2
        try clear hcz13_3
        try clear hcz13_4
        try clear hcz15_0
        try clear hcz15_1
        try clear hcz15_2
        try clear hcz15_3
        try clear hcz15_4
        try clear hcz6_0
        try clear hcz6_1
        try clear hcz6_2
        try clear hcz6_3
        try clear hcz6_4
        try clear hcz8_0
        try clear hcz8_1
        try clear hcz8_2
        try clear hcz8_3
        try clear hcz8_4
        try clear hfz13_0
        try clear hfz13_1
        try clear hfz13_2
        try clear hfz13_3
        try clear hfz13_4
        try clear hfz15_0
        try clear hfz15_1
        try clear hfz15_2
        try clear hfz15_3
        try clear hfz15_4
        try clear hfz6_0
        try clear hfz6_1
        try clear hfz6_2
        try clear hfz6_3
        try clear hfz6_4
        try clear hfz8_0
        try clear hfz8_1
        try clear hfz8_2
        try clear hfz8_3
        try clear hfz8_4
        obtain ⟨kq, x39_10, rfl, HA, HJ10, BK204, HB⟩ := hcut
        cases kq with
        | zero => exact absurd HA.out (by simp [caponierref02_Encode.j0])
        | succ kj10 =>
          have H := HA.out
          clear HA
          simp only [caponierref02_Encode.j0] at H
          have HC19 := Aside0.mk H
          clear H
          go_upto_if 39 with (fail)
          go_cut [5] (fun v5 wc => ∃ (kq : Nat) (x5_18 : Int), v5 = .int .u64 x5_18 ∧ Aside0 (caponierref02_Encode.j1 kq t206 x5_18 a0_0 a0_1 a0_2 a0_3 a0_4 = some (r1, r2)) ∧ Aside0 (kq ≤ kj10) ∧ Aside0 (wc.heap[gb204]? = some (.cells #[.int .i64 a0_0, .int .i64 a0_1, .int .i64 a0_2, .int .i64 a0_3, .int .i64 a0_4] 43 (0, 0))) ∧ Aside0 (Below w.heap.size w wc))
          case first =>
            have H := HC19.out
            clear HC19
            by_cases c20 : x39_10 = true
            · subst c20
              have H1 : ((caponierref02_Kind.f a0_0).bind fun t208 => (caponierref02_Encode.j1 kj10 t206 (IntKind.u64.wrap ((IntKind.u64.wrap ((IntKind.u64.wrap ((IntKind.u64.wrap (t207 + (IntKind.u64.wrap ((IntKind.u64.wrap (a0_1)) * 128)))) + (IntKind.u64.wrap ((IntKind.u64.wrap (a0_2)) * 32768)))) + (IntKind.u64.wrap ((IntKind.u64.wrap (a0_3)) * 1048576)))) + (IntKind.u64.wrap (t208 * 4096)))) a0_0 a0_1 a0_2 a0_3 a0_4)) = some (r1, r2) := by rw [if_pos rfl] at H; exact H
              clear H
              have H := H1
              clear H1
              replace H := Option.bind_eq_some_iff.mp H
              obtain ⟨t208, A210, H⟩ := H
              replace H : (caponierref02_Encode.j1 kj10 t206 (IntKind.u64.wrap ((IntKind.u64.wrap ((IntKind.u64.wrap ((IntKind.u64.wrap (t207 + (IntKind.u64.wrap ((IntKind.u64.wrap (a0_1)) * 128)))) + (IntKind.u64.wrap ((IntKind.u64.wrap (a0_2)) * 32768)))) + (IntKind.u64.wrap ((IntKind.u64.wrap (a0_3)) * 1048576)))) + (IntKind.u64.wrap (t208 * 4096)))) a0_0 a0_1 a0_2 a0_3 a0_4) = some (r1, r2) := H
              have A21 := Aside0.mk A210
              clear A210
              have H' := Aside0.mk H
              clear H
              have hcz22_0 : wc.cell? ⟨gb204, 0, none⟩ = some (.int .i64 a0_0) := (blk_cell BK204.out 0).trans rfl
              have hcz22_1 : wc.cell? ⟨gb204, 1, none⟩ = some (.int .i64 a0_1) := (blk_cell BK204.out 1).trans rfl
              have hcz22_2 : wc.cell? ⟨gb204, 2, none⟩ = some (.int .i64 a0_2) := (blk_cell BK204.out 2).trans rfl
              have hcz22_3 : wc.cell? ⟨gb204, 3, none⟩ = some (.int .i64 a0_3) := (blk_cell BK204.out 3).trans rfl
              have hcz22_4 : wc.cell? ⟨gb204, 4, none⟩ = some (.int .i64 a0_4) := (blk_cell BK204.out 4).trans rfl
              have hfz22_0 := blk_frozen BK204.out 0
              have hfz22_1 := blk_frozen BK204.out 1
              have hfz22_2 := blk_frozen BK204.out 2
              have hfz22_3 := blk_frozen BK204.out 3
              have hfz22_4 := blk_frozen BK204.out 4
              go_wp2_with (first | ((with_reducible refine gate_callee (f := 32) rfl ?_); refine goesL_ (some 43) rfl rfl Tryd.func32 (by kernel_rfl) rfl #[.int .i64 a0_0] rfl (by (try simp only [List.map_toArray, List.map_cons, List.map_nil]); first | done | rfl | (simp only [List.length_drop, List.length_take]; rfl)) ?_; (with_reducible refine (caponierref02_Kind.calls a0_0 t208 _ A21.out).mono ?_); rintro e w23 ⟨rfl, hb⟩; refine ⟨_, rfl, ?_⟩; have n0_ := Aside0.mk (blk_below (g := gb204) (o := .cells #[.int .i64 a0_0, .int .i64 a0_1, .int .i64 a0_2, .int .i64 a0_3, .int .i64 a0_4] 43 (0, 0)) (by (with_reducible repeat (first | refine blk_drewN ?_ _ | refine blk_drew ?_ | refine blk_alloc ?_ _)); exact BK204.out) hb); have n1_ := Aside0.mk (below_step (by repeat (first | (with_reducible first | exact HB.out | apply below_alloc | apply pw_below_drewN | apply below_drew1 | refine below_set ?_ GE204.out) | exact HB.out)) hb); clear BK204; clear HB; have BK204 := n0_; have HB := n1_; clear n0_ n1_; (try clear hb); (try clear hb2); (try clear hk); (try clear hi)))
              go_meet
              case rel => exact ⟨_, (IntKind.u64.wrap ((IntKind.u64.wrap ((IntKind.u64.wrap ((IntKind.u64.wrap (t207 + (IntKind.u64.wrap ((IntKind.u64.wrap (a0_1)) * 128)))) + (IntKind.u64.wrap ((IntKind.u64.wrap (a0_2)) * 32768)))) + (IntKind.u64.wrap ((IntKind.u64.wrap (a0_3)) * 1048576)))) + (IntKind.u64.wrap (t208 * 4096)))), (by first | rfl | (simp; done) | (simp [*]; done)), H', ⟨by have := HJ10.out; first | omega | exact Nat.le_refl _⟩, ⟨by (with_reducible repeat (first | refine blk_drewN ?_ _ | refine blk_drew ?_ | refine blk_alloc ?_ _)); exact BK204.out⟩, ⟨by repeat (first | (with_reducible first | exact HB.out | apply below_alloc | apply pw_below_drewN | apply below_drew1 | refine below_set ?_ GE204.out) | exact HB.out)⟩⟩
            · replace c20 := Bool.eq_false_iff.mpr c20
              subst c20
              have H1 : (caponierref02_Encode.j1 kj10 t206 (IntKind.u64.wrap ((IntKind.u64.wrap ((IntKind.u64.wrap (t207 + (IntKind.u64.wrap ((IntKind.u64.wrap (a0_1)) * 128)))) + (IntKind.u64.wrap ((IntKind.u64.wrap (a0_2)) * 32768)))) + (IntKind.u64.wrap ((IntKind.u64.wrap (a0_3)) * 1048576)))) a0_0 a0_1 a0_2 a0_3 a0_4) = some (r1, r2) := by rw [if_neg (show ¬ (false = true) by decide)] at H; exact H
              clear H
              have H := H1
              clear H1
              have H' := Aside0.mk H
              clear H
              go_wp2
              go_meet
              case rel => exact ⟨_, ((IntKind.u64.wrap ((IntKind.u64.wrap ((IntKind.u64.wrap (t207 + (IntKind.u64.wrap ((IntKind.u64.wrap (a0_1)) * 128)))) + (IntKind.u64.wrap ((IntKind.u64.wrap (a0_2)) * 32768)))) + (IntKind.u64.wrap ((IntKind.u64.wrap (a0_3)) * 1048576))))), (by first | rfl | (simp; done) | (simp [*]; done)), H', ⟨by have := HJ10.out; first | omega | exact Nat.le_refl _⟩, ⟨by (with_reducible repeat (first | refine blk_drewN ?_ _ | refine blk_drew ?_ | refine blk_alloc ?_ _)); exact BK204.out⟩, ⟨by repeat (first | (with_reducible first | exact HB.out | apply below_alloc | apply pw_below_drewN | apply below_drew1 | refine below_set ?_ GE204.out) | exact HB.out)⟩⟩
          case rest =>
            clear HC19
            try clear c1
            try clear c2
            try clear p2
            try clear c3
            try clear c4
            try clear c4b0
            try clear c4b1
            try clear c16
            try clear c18
            try clear c18b0
            try clear c18b1
            try clear c20
            try clear hcz13_0
            try clear hcz13_1
            try clear hcz13_2
            try clear hcz13_3
            try clear hcz13_4
            try clear hcz15_0
            try clear hcz15_1
            try clear hcz15_2
            try clear hcz15_3
            try clear hcz15_4
            try clear hcz22_0
            try clear hcz22_1
            try clear hcz22_2
            try clear hcz22_3
            try clear hcz22_4
            try clear hcz6_0
            try clear hcz6_1
            try clear hcz6_2
            try clear hcz6_3
            try clear hcz6_4
            try clear hcz8_0
            try clear hcz8_1
            try clear hcz8_2
            try clear hcz8_3
            try clear hcz8_4
            try clear hfz13_0
            try clear hfz13_1
            try clear hfz13_2
            try clear hfz13_3
            try clear hfz13_4
            try clear hfz15_0
            try clear hfz15_1
            try clear hfz15_2
            try clear hfz15_3
            try clear hfz15_4
            try clear hfz22_0
            try clear hfz22_1
            try clear hfz22_2
            try clear hfz22_3
            try clear hfz22_4
            try clear hfz6_0
            try clear hfz6_1
            try clear hfz6_2
            try clear hfz6_3
            try clear hfz6_4
            try clear hfz8_0
            try clear hfz8_1
            try clear hfz8_2
            try clear hfz8_3
            try clear hfz8_4
            try clear p2
            obtain ⟨kq, x5_18, rfl, HA, HJ18, BK204, HB⟩ := hcut
            cases kq with
            | zero => exact absurd HA.out (by simp [caponierref02_Encode.j1])
            | succ kj18 =>
              have H := HA.out
              clear HA
              simp only [caponierref02_Encode.j1] at H
              by_cases c24 : t206.toList = ([82] : List UInt8)
              · rw [if_pos c24] at H
                have c24b0 : (t206.toList == ([82] : List UInt8)) = true := beq_iff_eq.mpr c24
                have c24b1 : (t206.toList != ([82] : List UInt8)) = false := bne_eq_false_iff_eq.mpr c24
                clear c24
                replace H := Option.bind_eq_some_iff.mp H
                obtain ⟨t209, A250, H⟩ := H
                replace H : (some ((IntKind.u64.wrap (x5_18 + (IntKind.u64.wrap (t209 * 33554432)))) % 4294967296, 0)) = some (r1, r2) := H
                have A25 := Aside0.mk A250
                clear A250
                simp only [Option.some.injEq, Prod.mk.injEq] at H
                obtain ⟨rfl, rfl⟩ := H
                have hcz26_0 : wc.cell? ⟨gb204, 0, none⟩ = some (.int .i64 a0_0) := (blk_cell BK204.out 0).trans rfl
                have hcz26_1 : wc.cell? ⟨gb204, 1, none⟩ = some (.int .i64 a0_1) := (blk_cell BK204.out 1).trans rfl
                have hcz26_2 : wc.cell? ⟨gb204, 2, none⟩ = some (.int .i64 a0_2) := (blk_cell BK204.out 2).trans rfl
                have hcz26_3 : wc.cell? ⟨gb204, 3, none⟩ = some (.int .i64 a0_3) := (blk_cell BK204.out 3).trans rfl
                have hcz26_4 : wc.cell? ⟨gb204, 4, none⟩ = some (.int .i64 a0_4) := (blk_cell BK204.out 4).trans rfl
                have hfz26_0 := blk_frozen BK204.out 0
                have hfz26_1 := blk_frozen BK204.out 1
                have hfz26_2 := blk_frozen BK204.out 2
                have hfz26_3 := blk_frozen BK204.out 3
                have hfz26_4 := blk_frozen BK204.out 4
                go_wp2_with (first | ((with_reducible refine gate_callee (f := 33) rfl ?_); refine goesL_ (some 54) rfl rfl Tryd.func33 (by kernel_rfl) rfl #[.int .i64 a0_0] rfl (by (try simp only [List.map_toArray, List.map_cons, List.map_nil]); first | done | rfl | (simp only [List.length_drop, List.length_take]; rfl)) ?_; (with_reducible refine (caponierref02_Top.calls kj18 a0_0 t209 _ A25.out).mono ?_); rintro e w' ⟨rfl, ⟨nd, rfl⟩⟩; refine ⟨_, rfl, ?_⟩))
                go_ret2
                exact ⟨by first | rfl | (simp [errW_none, errW_some] <;> rfl) | (simp [*, errW_none, errW_some] <;> rfl), by repeat (first | (with_reducible first | exact HB.out | apply below_alloc | apply pw_below_drewN | apply below_drew1 | refine below_set ?_ GE204.out) | exact HB.out)⟩
              · rw [if_neg c24] at H
                have c24b0 : (t206.toList == ([82] : List UInt8)) = false := beq_eq_false_iff_ne.mpr c24
                have c24b1 : (t206.toList != ([82] : List UInt8)) = true := bne_iff_ne.mpr c24
                by_cases c27 : t206.toList = ([73] : List UInt8)
                · rw [if_pos c27] at H
                  have c27b0 : (t206.toList == ([73] : List UInt8)) = true := beq_iff_eq.mpr c27
                  have c27b1 : (t206.toList != ([73] : List UInt8)) = false := bne_eq_false_iff_eq.mpr c27
                  clear c27
                  replace H := Option.bind_eq_some_iff.mp H
                  obtain ⟨t210, A280, H⟩ := H
                  replace H : ((caponierref02_Shift.f a0_0).bind fun t211 => (if t211 = true then ((caponierref02_Top.f kj18 a0_0).bind fun t212 => (some ((IntKind.u64.wrap ((IntKind.u64.wrap (x5_18 + t210)) + (IntKind.u64.wrap (t212 * 33554432)))) % 4294967296, 0))) else (some ((IntKind.u64.wrap (x5_18 + t210)) % 4294967296, 0)))) = some (r1, r2) := H
                  have A28 := Aside0.mk A280
                  clear A280
                  replace H := Option.bind_eq_some_iff.mp H
                  obtain ⟨t211, A290, H⟩ := H
                  replace H : (if t211 = true then ((caponierref02_Top.f kj18 a0_0).bind fun t212 => (some ((IntKind.u64.wrap ((IntKind.u64.wrap (x5_18 + t210)) + (IntKind.u64.wrap (t212 * 33554432)))) % 4294967296, 0))) else (some ((IntKind.u64.wrap (x5_18 + t210)) % 4294967296, 0))) = some (r1, r2) := H
                  have A29 := Aside0.mk A290
                  clear A290
                  by_cases c30 : t211 = true
                  · subst c30
                    have H1 : ((caponierref02_Top.f kj18 a0_0).bind fun t212 => (some ((IntKind.u64.wrap ((IntKind.u64.wrap (x5_18 + t210)) + (IntKind.u64.wrap (t212 * 33554432)))) % 4294967296, 0))) = some (r1, r2) := by rw [if_pos rfl] at H; exact H
                    clear H
                    have H := H1
                    clear H1
                    replace H := Option.bind_eq_some_iff.mp H
                    obtain ⟨t212, A310, H⟩ := H
                    replace H : (some ((IntKind.u64.wrap ((IntKind.u64.wrap (x5_18 + t210)) + (IntKind.u64.wrap (t212 * 33554432)))) % 4294967296, 0)) = some (r1, r2) := H
                    have A31 := Aside0.mk A310
                    clear A310
                    simp only [Option.some.injEq, Prod.mk.injEq] at H
                    obtain ⟨rfl, rfl⟩ := H
                    have hcz32_0 : wc.cell? ⟨gb204, 0, none⟩ = some (.int .i64 a0_0) := (blk_cell BK204.out 0).trans rfl
                    have hcz32_1 : wc.cell? ⟨gb204, 1, none⟩ = some (.int .i64 a0_1) := (blk_cell BK204.out 1).trans rfl
                    have hcz32_2 : wc.cell? ⟨gb204, 2, none⟩ = some (.int .i64 a0_2) := (blk_cell BK204.out 2).trans rfl
                    have hcz32_3 : wc.cell? ⟨gb204, 3, none⟩ = some (.int .i64 a0_3) := (blk_cell BK204.out 3).trans rfl
                    have hcz32_4 : wc.cell? ⟨gb204, 4, none⟩ = some (.int .i64 a0_4) := (blk_cell BK204.out 4).trans rfl
                    have hfz32_0 := blk_frozen BK204.out 0
                    have hfz32_1 := blk_frozen BK204.out 1
                    have hfz32_2 := blk_frozen BK204.out 2
                    have hfz32_3 := blk_frozen BK204.out 3
                    have hfz32_4 := blk_frozen BK204.out 4
                    go_wp2_with (first | ((with_reducible refine gate_callee (f := 34) rfl ?_); refine goesL_ (some 61) rfl rfl Tryd.func34 (by kernel_rfl) rfl #[.int .i64 a0_4, .int .i64 0, .int .i64 12, .int .i64 20] rfl (by (try simp only [List.map_toArray, List.map_cons, List.map_nil]); first | done | rfl | (simp only [List.length_drop, List.length_take]; rfl)) ?_; (with_reducible refine (caponierref02_bit.calls kj18 a0_4 0 12 20 t210 _ A28.out).mono ?_); rintro e w' ⟨rfl, ⟨nd, rfl⟩⟩; refine ⟨_, rfl, ?_⟩) | ((with_reducible refine gate_callee (f := 35) rfl ?_); refine goesL_ (some 65) rfl rfl Tryd.func35 (by kernel_rfl) rfl #[.int .i64 a0_0] rfl (by (try simp only [List.map_toArray, List.map_cons, List.map_nil]); first | done | rfl | (simp only [List.length_drop, List.length_take]; rfl)) ?_; (with_reducible refine (caponierref02_Shift.calls a0_0 true _ A29.out).mono ?_); rintro e w' ⟨rfl, ⟨nd, rfl⟩⟩; refine ⟨_, rfl, ?_⟩) | ((with_reducible refine gate_callee (f := 33) rfl ?_); refine goesL_ (some 69) rfl rfl Tryd.func33 (by kernel_rfl) rfl #[.int .i64 a0_0] rfl (by (try simp only [List.map_toArray, List.map_cons, List.map_nil]); first | done | rfl | (simp only [List.length_drop, List.length_take]; rfl)) ?_; (with_reducible refine (caponierref02_Top.calls kj18 a0_0 t212 _ A31.out).mono ?_); rintro e w' ⟨rfl, ⟨nd, rfl⟩⟩; refine ⟨_, rfl, ?_⟩))
                    go_ret2
                    exact ⟨by first | rfl | (simp [errW_none, errW_some] <;> rfl) | (simp [*, errW_none, errW_some] <;> rfl), by repeat (first | (with_reducible first | exact HB.out | apply below_alloc | apply pw_below_drewN | apply below_drew1 | refine below_set ?_ GE204.out) | exact HB.out)⟩
                  · replace c30 := Bool.eq_false_iff.mpr c30
                    subst c30
                    have H1 : (some ((IntKind.u64.wrap (x5_18 + t210)) % 4294967296, 0)) = some (r1, r2) := by rw [if_neg (show ¬ (false = true) by decide)] at H; exact H
                    clear H
                    have H := H1
                    clear H1
                    simp only [Option.some.injEq, Prod.mk.injEq] at H
                    obtain ⟨rfl, rfl⟩ := H
                    have hcz33_0 : wc.cell? ⟨gb204, 0, none⟩ = some (.int .i64 a0_0) := (blk_cell BK204.out 0).trans rfl
                    have hcz33_1 : wc.cell? ⟨gb204, 1, none⟩ = some (.int .i64 a0_1) := (blk_cell BK204.out 1).trans rfl
                    have hcz33_2 : wc.cell? ⟨gb204, 2, none⟩ = some (.int .i64 a0_2) := (blk_cell BK204.out 2).trans rfl
                    have hcz33_3 : wc.cell? ⟨gb204, 3, none⟩ = some (.int .i64 a0_3) := (blk_cell BK204.out 3).trans rfl
                    have hcz33_4 : wc.cell? ⟨gb204, 4, none⟩ = some (.int .i64 a0_4) := (blk_cell BK204.out 4).trans rfl
                    have hfz33_0 := blk_frozen BK204.out 0
                    have hfz33_1 := blk_frozen BK204.out 1
                    have hfz33_2 := blk_frozen BK204.out 2
                    have hfz33_3 := blk_frozen BK204.out 3
                    have hfz33_4 := blk_frozen BK204.out 4
                    go_wp2_with (first | ((with_reducible refine gate_callee (f := 34) rfl ?_); refine goesL_ (some 61) rfl rfl Tryd.func34 (by kernel_rfl) rfl #[.int .i64 a0_4, .int .i64 0, .int .i64 12, .int .i64 20] rfl (by (try simp only [List.map_toArray, List.map_cons, List.map_nil]); first | done | rfl | (simp only [List.length_drop, List.length_take]; rfl)) ?_; (with_reducible refine (caponierref02_bit.calls kj18 a0_4 0 12 20 t210 _ A28.out).mono ?_); rintro e w' ⟨rfl, ⟨nd, rfl⟩⟩; refine ⟨_, rfl, ?_⟩) | ((with_reducible refine gate_callee (f := 35) rfl ?_); refine goesL_ (some 65) rfl rfl Tryd.func35 (by kernel_rfl) rfl #[.int .i64 a0_0] rfl (by (try simp only [List.map_toArray, List.map_cons, List.map_nil]); first | done | rfl | (simp only [List.length_drop, List.length_take]; rfl)) ?_; (with_reducible refine (caponierref02_Shift.calls a0_0 false _ A29.out).mono ?_); rintro e w' ⟨rfl, ⟨nd, rfl⟩⟩; refine ⟨_, rfl, ?_⟩))
                    go_ret2
                    exact ⟨by first | rfl | (simp [errW_none, errW_some] <;> rfl) | (simp [*, errW_none, errW_some] <;> rfl), by repeat (first | (with_reducible first | exact HB.out | apply below_alloc | apply pw_below_drewN | apply below_drew1 | refine below_set ?_ GE204.out) | exact HB.out)⟩
                · rw [if_neg c27] at H
                  have c27b0 : (t206.toList == ([73] : List UInt8)) = false := beq_eq_false_iff_ne.mpr c27
                  have c27b1 : (t206.toList != ([73] : List UInt8)) = true := bne_iff_ne.mpr c27
                  by_cases c34 : t206.toList = ([83] : List UInt8)
                  · rw [if_pos c34] at H
                    have c34b0 : (t206.toList == ([83] : List UInt8)) = true := beq_iff_eq.mpr c34
                    have c34b1 : (t206.toList != ([83] : List UInt8)) = false := bne_eq_false_iff_eq.mpr c34
                    clear c34
                    replace H := Option.bind_eq_some_iff.mp H
                    obtain ⟨t213, A350, H⟩ := H
                    replace H : ((caponierref02_bit.f kj18 a0_4 5 7 25).bind fun t214 => (some ((IntKind.u64.wrap ((IntKind.u64.wrap (x5_18 + t213)) + t214)) % 4294967296, 0))) = some (r1, r2) := H
                    have A35 := Aside0.mk A350
                    clear A350
                    replace H := Option.bind_eq_some_iff.mp H
                    obtain ⟨t214, A360, H⟩ := H
                    replace H : (some ((IntKind.u64.wrap ((IntKind.u64.wrap (x5_18 + t213)) + t214)) % 4294967296, 0)) = some (r1, r2) := H
                    have A36 := Aside0.mk A360
                    clear A360
                    simp only [Option.some.injEq, Prod.mk.injEq] at H
                    obtain ⟨rfl, rfl⟩ := H
                    have hcz37_0 : wc.cell? ⟨gb204, 0, none⟩ = some (.int .i64 a0_0) := (blk_cell BK204.out 0).trans rfl
                    have hcz37_1 : wc.cell? ⟨gb204, 1, none⟩ = some (.int .i64 a0_1) := (blk_cell BK204.out 1).trans rfl
                    have hcz37_2 : wc.cell? ⟨gb204, 2, none⟩ = some (.int .i64 a0_2) := (blk_cell BK204.out 2).trans rfl
                    have hcz37_3 : wc.cell? ⟨gb204, 3, none⟩ = some (.int .i64 a0_3) := (blk_cell BK204.out 3).trans rfl
                    have hcz37_4 : wc.cell? ⟨gb204, 4, none⟩ = some (.int .i64 a0_4) := (blk_cell BK204.out 4).trans rfl
                    have hfz37_0 := blk_frozen BK204.out 0
                    have hfz37_1 := blk_frozen BK204.out 1
                    have hfz37_2 := blk_frozen BK204.out 2
                    have hfz37_3 := blk_frozen BK204.out 3
                    have hfz37_4 := blk_frozen BK204.out 4
                    go_wp2_with (first | ((with_reducible refine gate_callee (f := 34) rfl ?_); refine goesL_ (some 76) rfl rfl Tryd.func34 (by kernel_rfl) rfl #[.int .i64 a0_4, .int .i64 0, .int .i64 5, .int .i64 7] rfl (by (try simp only [List.map_toArray, List.map_cons, List.map_nil]); first | done | rfl | (simp only [List.length_drop, List.length_take]; rfl)) ?_; (with_reducible refine (caponierref02_bit.calls kj18 a0_4 0 5 7 t213 _ A35.out).mono ?_); rintro e w' ⟨rfl, ⟨nd, rfl⟩⟩; refine ⟨_, rfl, ?_⟩) | ((with_reducible refine gate_callee (f := 34) rfl ?_); refine goesL_ (some 79) rfl rfl Tryd.func34 (by kernel_rfl) rfl #[.int .i64 a0_4, .int .i64 5, .int .i64 7, .int .i64 25] rfl (by (try simp only [List.map_toArray, List.map_cons, List.map_nil]); first | done | rfl | (simp only [List.length_drop, List.length_take]; rfl)) ?_; (with_reducible refine (caponierref02_bit.calls kj18 a0_4 5 7 25 t214 _ A36.out).mono ?_); rintro e w' ⟨rfl, ⟨nd, rfl⟩⟩; refine ⟨_, rfl, ?_⟩))
                    go_ret2
                    exact ⟨by first | rfl | (simp [errW_none, errW_some] <;> rfl) | (simp [*, errW_none, errW_some] <;> rfl), by repeat (first | (with_reducible first | exact HB.out | apply below_alloc | apply pw_below_drewN | apply below_drew1 | refine below_set ?_ GE204.out) | exact HB.out)⟩
                  · rw [if_neg c34] at H
                    have c34b0 : (t206.toList == ([83] : List UInt8)) = false := beq_eq_false_iff_ne.mpr c34
                    have c34b1 : (t206.toList != ([83] : List UInt8)) = true := bne_iff_ne.mpr c34
                    by_cases c38 : t206.toList = ([66] : List UInt8)
                    · rw [if_pos c38] at H
                      have c38b0 : (t206.toList == ([66] : List UInt8)) = true := beq_iff_eq.mpr c38
                      have c38b1 : (t206.toList != ([66] : List UInt8)) = false := bne_eq_false_iff_eq.mpr c38
                      clear c38
                      replace H := Option.bind_eq_some_iff.mp H
                      obtain ⟨t215, A390, H⟩ := H
                      replace H : ((caponierref02_bit.f kj18 a0_4 5 6 25).bind fun t216 => ((caponierref02_bit.f kj18 a0_4 11 1 7).bind fun t217 => ((caponierref02_bit.f kj18 a0_4 12 1 31).bind fun t218 => (some ((IntKind.u64.wrap ((IntKind.u64.wrap ((IntKind.u64.wrap ((IntKind.u64.wrap (x5_18 + t215)) + t216)) + t217)) + t218)) % 4294967296, 0))))) = some (r1, r2) := H
                      have A39 := Aside0.mk A390
                      clear A390
                      replace H := Option.bind_eq_some_iff.mp H
                      obtain ⟨t216, A400, H⟩ := H
                      replace H : ((caponierref02_bit.f kj18 a0_4 11 1 7).bind fun t217 => ((caponierref02_bit.f kj18 a0_4 12 1 31).bind fun t218 => (some ((IntKind.u64.wrap ((IntKind.u64.wrap ((IntKind.u64.wrap ((IntKind.u64.wrap (x5_18 + t215)) + t216)) + t217)) + t218)) % 4294967296, 0)))) = some (r1, r2) := H
                      have A40 := Aside0.mk A400
                      clear A400
                      replace H := Option.bind_eq_some_iff.mp H
                      obtain ⟨t217, A410, H⟩ := H
                      replace H : ((caponierref02_bit.f kj18 a0_4 12 1 31).bind fun t218 => (some ((IntKind.u64.wrap ((IntKind.u64.wrap ((IntKind.u64.wrap ((IntKind.u64.wrap (x5_18 + t215)) + t216)) + t217)) + t218)) % 4294967296, 0))) = some (r1, r2) := H
                      have A41 := Aside0.mk A410
                      clear A410
                      replace H := Option.bind_eq_some_iff.mp H
                      obtain ⟨t218, A420, H⟩ := H
                      replace H : (some ((IntKind.u64.wrap ((IntKind.u64.wrap ((IntKind.u64.wrap ((IntKind.u64.wrap (x5_18 + t215)) + t216)) + t217)) + t218)) % 4294967296, 0)) = some (r1, r2) := H
                      have A42 := Aside0.mk A420
                      clear A420
                      simp only [Option.some.injEq, Prod.mk.injEq] at H
                      obtain ⟨rfl, rfl⟩ := H
                      have hcz43_0 : wc.cell? ⟨gb204, 0, none⟩ = some (.int .i64 a0_0) := (blk_cell BK204.out 0).trans rfl
                      have hcz43_1 : wc.cell? ⟨gb204, 1, none⟩ = some (.int .i64 a0_1) := (blk_cell BK204.out 1).trans rfl
                      have hcz43_2 : wc.cell? ⟨gb204, 2, none⟩ = some (.int .i64 a0_2) := (blk_cell BK204.out 2).trans rfl
                      have hcz43_3 : wc.cell? ⟨gb204, 3, none⟩ = some (.int .i64 a0_3) := (blk_cell BK204.out 3).trans rfl
                      have hcz43_4 : wc.cell? ⟨gb204, 4, none⟩ = some (.int .i64 a0_4) := (blk_cell BK204.out 4).trans rfl
                      have hfz43_0 := blk_frozen BK204.out 0
                      have hfz43_1 := blk_frozen BK204.out 1
                      have hfz43_2 := blk_frozen BK204.out 2
                      have hfz43_3 := blk_frozen BK204.out 3
                      have hfz43_4 := blk_frozen BK204.out 4
                      go_wp2_with (first | ((with_reducible refine gate_callee (f := 34) rfl ?_); refine goesL_ (some 85) rfl rfl Tryd.func34 (by kernel_rfl) rfl #[.int .i64 a0_4, .int .i64 1, .int .i64 4, .int .i64 8] rfl (by (try simp only [List.map_toArray, List.map_cons, List.map_nil]); first | done | rfl | (simp only [List.length_drop, List.length_take]; rfl)) ?_; (with_reducible refine (caponierref02_bit.calls kj18 a0_4 1 4 8 t215 _ A39.out).mono ?_); rintro e w' ⟨rfl, ⟨nd, rfl⟩⟩; refine ⟨_, rfl, ?_⟩) | ((with_reducible refine gate_callee (f := 34) rfl ?_); refine goesL_ (some 88) rfl rfl Tryd.func34 (by kernel_rfl) rfl #[.int .i64 a0_4, .int .i64 5, .int .i64 6, .int .i64 25] rfl (by (try simp only [List.map_toArray, List.map_cons, List.map_nil]); first | done | rfl | (simp only [List.length_drop, List.length_take]; rfl)) ?_; (with_reducible refine (caponierref02_bit.calls kj18 a0_4 5 6 25 t216 _ A40.out).mono ?_); rintro e w' ⟨rfl, ⟨nd, rfl⟩⟩; refine ⟨_, rfl, ?_⟩) | ((with_reducible refine gate_callee (f := 34) rfl ?_); refine goesL_ (some 91) rfl rfl Tryd.func34 (by kernel_rfl) rfl #[.int .i64 a0_4, .int .i64 11, .int .i64 1, .int .i64 7] rfl (by (try simp only [List.map_toArray, List.map_cons, List.map_nil]); first | done | rfl | (simp only [List.length_drop, List.length_take]; rfl)) ?_; (with_reducible refine (caponierref02_bit.calls kj18 a0_4 11 1 7 t217 _ A41.out).mono ?_); rintro e w' ⟨rfl, ⟨nd, rfl⟩⟩; refine ⟨_, rfl, ?_⟩) | ((with_reducible refine gate_callee (f := 34) rfl ?_); refine goesL_ (some 94) rfl rfl Tryd.func34 (by kernel_rfl) rfl #[.int .i64 a0_4, .int .i64 12, .int .i64 1, .int .i64 31] rfl (by (try simp only [List.map_toArray, List.map_cons, List.map_nil]); first | done | rfl | (simp only [List.length_drop, List.length_take]; rfl)) ?_; (with_reducible refine (caponierref02_bit.calls kj18 a0_4 12 1 31 t218 _ A42.out).mono ?_); rintro e w' ⟨rfl, ⟨nd, rfl⟩⟩; refine ⟨_, rfl, ?_⟩))
                      go_ret2
                      exact ⟨by first | rfl | (simp [errW_none, errW_some] <;> rfl) | (simp [*, errW_none, errW_some] <;> rfl), by repeat (first | (with_reducible first | exact HB.out | apply below_alloc | apply pw_below_drewN | apply below_drew1 | refine below_set ?_ GE204.out) | exact HB.out)⟩
                    · rw [if_neg c38] at H
                      have c38b0 : (t206.toList == ([66] : List UInt8)) = false := beq_eq_false_iff_ne.mpr c38
                      have c38b1 : (t206.toList != ([66] : List UInt8)) = true := bne_iff_ne.mpr c38
                      by_cases c44 : t206.toList = ([85] : List UInt8)
                      · rw [if_pos c44] at H
                        have c44b0 : (t206.toList == ([85] : List UInt8)) = true := beq_iff_eq.mpr c44
                        have c44b1 : (t206.toList != ([85] : List UInt8)) = false := bne_eq_false_iff_eq.mpr c44
                        clear c44
                        replace H := Option.bind_eq_some_iff.mp H
                        obtain ⟨t219, A450, H⟩ := H
                        replace H : (some ((IntKind.u64.wrap (x5_18 + t219)) % 4294967296, 0)) = some (r1, r2) := H
                        have A45 := Aside0.mk A450
                        clear A450
                        simp only [Option.some.injEq, Prod.mk.injEq] at H
                        obtain ⟨rfl, rfl⟩ := H
                        have hcz46_0 : wc.cell? ⟨gb204, 0, none⟩ = some (.int .i64 a0_0) := (blk_cell BK204.out 0).trans rfl
                        have hcz46_1 : wc.cell? ⟨gb204, 1, none⟩ = some (.int .i64 a0_1) := (blk_cell BK204.out 1).trans rfl
                        have hcz46_2 : wc.cell? ⟨gb204, 2, none⟩ = some (.int .i64 a0_2) := (blk_cell BK204.out 2).trans rfl
                        have hcz46_3 : wc.cell? ⟨gb204, 3, none⟩ = some (.int .i64 a0_3) := (blk_cell BK204.out 3).trans rfl
                        have hcz46_4 : wc.cell? ⟨gb204, 4, none⟩ = some (.int .i64 a0_4) := (blk_cell BK204.out 4).trans rfl
                        have hfz46_0 := blk_frozen BK204.out 0
                        have hfz46_1 := blk_frozen BK204.out 1
                        have hfz46_2 := blk_frozen BK204.out 2
                        have hfz46_3 := blk_frozen BK204.out 3
                        have hfz46_4 := blk_frozen BK204.out 4
                        go_wp2_with (first | ((with_reducible refine gate_callee (f := 34) rfl ?_); refine goesL_ (some 100) rfl rfl Tryd.func34 (by kernel_rfl) rfl #[.int .i64 a0_4, .int .i64 12, .int .i64 20, .int .i64 12] rfl (by (try simp only [List.map_toArray, List.map_cons, List.map_nil]); first | done | rfl | (simp only [List.length_drop, List.length_take]; rfl)) ?_; (with_reducible refine (caponierref02_bit.calls kj18 a0_4 12 20 12 t219 _ A45.out).mono ?_); rintro e w' ⟨rfl, ⟨nd, rfl⟩⟩; refine ⟨_, rfl, ?_⟩))
                        go_ret2
                        exact ⟨by first | rfl | (simp [errW_none, errW_some] <;> rfl) | (simp [*, errW_none, errW_some] <;> rfl), by repeat (first | (with_reducible first | exact HB.out | apply below_alloc | apply pw_below_drewN | apply below_drew1 | refine below_set ?_ GE204.out) | exact HB.out)⟩
                      · rw [if_neg c44] at H
                        have c44b0 : (t206.toList == ([85] : List UInt8)) = false := beq_eq_false_iff_ne.mpr c44
                        have c44b1 : (t206.toList != ([85] : List UInt8)) = true := bne_iff_ne.mpr c44
                        by_cases c47 : t206.toList = ([74] : List UInt8)
                        · rw [if_pos c47] at H
                          have c47b0 : (t206.toList == ([74] : List UInt8)) = true := beq_iff_eq.mpr c47
                          have c47b1 : (t206.toList != ([74] : List UInt8)) = false := bne_eq_false_iff_eq.mpr c47
                          clear c47
                          replace H := Option.bind_eq_some_iff.mp H
                          obtain ⟨t220, A480, H⟩ := H
                          replace H : ((caponierref02_bit.f kj18 a0_4 11 1 20).bind fun t221 => ((caponierref02_bit.f kj18 a0_4 12 8 12).bind fun t222 => ((caponierref02_bit.f kj18 a0_4 20 1 31).bind fun t223 => (some ((IntKind.u64.wrap ((IntKind.u64.wrap ((IntKind.u64.wrap ((IntKind.u64.wrap (x5_18 + t220)) + t221)) + t222)) + t223)) % 4294967296, 0))))) = some (r1, r2) := H
                          have A48 := Aside0.mk A480
                          clear A480
                          replace H := Option.bind_eq_some_iff.mp H
                          obtain ⟨t221, A490, H⟩ := H
                          replace H : ((caponierref02_bit.f kj18 a0_4 12 8 12).bind fun t222 => ((caponierref02_bit.f kj18 a0_4 20 1 31).bind fun t223 => (some ((IntKind.u64.wrap ((IntKind.u64.wrap ((IntKind.u64.wrap ((IntKind.u64.wrap (x5_18 + t220)) + t221)) + t222)) + t223)) % 4294967296, 0)))) = some (r1, r2) := H
                          have A49 := Aside0.mk A490
                          clear A490
                          replace H := Option.bind_eq_some_iff.mp H
                          obtain ⟨t222, A500, H⟩ := H
                          replace H : ((caponierref02_bit.f kj18 a0_4 20 1 31).bind fun t223 => (some ((IntKind.u64.wrap ((IntKind.u64.wrap ((IntKind.u64.wrap ((IntKind.u64.wrap (x5_18 + t220)) + t221)) + t222)) + t223)) % 4294967296, 0))) = some (r1, r2) := H
                          have A50 := Aside0.mk A500
                          clear A500
                          replace H := Option.bind_eq_some_iff.mp H
                          obtain ⟨t223, A510, H⟩ := H
                          replace H : (some ((IntKind.u64.wrap ((IntKind.u64.wrap ((IntKind.u64.wrap ((IntKind.u64.wrap (x5_18 + t220)) + t221)) + t222)) + t223)) % 4294967296, 0)) = some (r1, r2) := H
                          have A51 := Aside0.mk A510
                          clear A510
                          simp only [Option.some.injEq, Prod.mk.injEq] at H
                          obtain ⟨rfl, rfl⟩ := H
                          have hcz52_0 : wc.cell? ⟨gb204, 0, none⟩ = some (.int .i64 a0_0) := (blk_cell BK204.out 0).trans rfl
                          have hcz52_1 : wc.cell? ⟨gb204, 1, none⟩ = some (.int .i64 a0_1) := (blk_cell BK204.out 1).trans rfl
                          have hcz52_2 : wc.cell? ⟨gb204, 2, none⟩ = some (.int .i64 a0_2) := (blk_cell BK204.out 2).trans rfl
                          have hcz52_3 : wc.cell? ⟨gb204, 3, none⟩ = some (.int .i64 a0_3) := (blk_cell BK204.out 3).trans rfl
                          have hcz52_4 : wc.cell? ⟨gb204, 4, none⟩ = some (.int .i64 a0_4) := (blk_cell BK204.out 4).trans rfl
                          have hfz52_0 := blk_frozen BK204.out 0
                          have hfz52_1 := blk_frozen BK204.out 1
                          have hfz52_2 := blk_frozen BK204.out 2
                          have hfz52_3 := blk_frozen BK204.out 3
                          have hfz52_4 := blk_frozen BK204.out 4
                          go_wp2_with (first | ((with_reducible refine gate_callee (f := 34) rfl ?_); refine goesL_ (some 106) rfl rfl Tryd.func34 (by kernel_rfl) rfl #[.int .i64 a0_4, .int .i64 1, .int .i64 10, .int .i64 21] rfl (by (try simp only [List.map_toArray, List.map_cons, List.map_nil]); first | done | rfl | (simp only [List.length_drop, List.length_take]; rfl)) ?_; (with_reducible refine (caponierref02_bit.calls kj18 a0_4 1 10 21 t220 _ A48.out).mono ?_); rintro e w' ⟨rfl, ⟨nd, rfl⟩⟩; refine ⟨_, rfl, ?_⟩) | ((with_reducible refine gate_callee (f := 34) rfl ?_); refine goesL_ (some 109) rfl rfl Tryd.func34 (by kernel_rfl) rfl #[.int .i64 a0_4, .int .i64 11, .int .i64 1, .int .i64 20] rfl (by (try simp only [List.map_toArray, List.map_cons, List.map_nil]); first | done | rfl | (simp only [List.length_drop, List.length_take]; rfl)) ?_; (with_reducible refine (caponierref02_bit.calls kj18 a0_4 11 1 20 t221 _ A49.out).mono ?_); rintro e w' ⟨rfl, ⟨nd, rfl⟩⟩; refine ⟨_, rfl, ?_⟩) | ((with_reducible refine gate_callee (f := 34) rfl ?_); refine goesL_ (some 112) rfl rfl Tryd.func34 (by kernel_rfl) rfl #[.int .i64 a0_4, .int .i64 12, .int .i64 8, .int .i64 12] rfl (by (try simp only [List.map_toArray, List.map_cons, List.map_nil]); first | done | rfl | (simp only [List.length_drop, List.length_take]; rfl)) ?_; (with_reducible refine (caponierref02_bit.calls kj18 a0_4 12 8 12 t222 _ A50.out).mono ?_); rintro e w' ⟨rfl, ⟨nd, rfl⟩⟩; refine ⟨_, rfl, ?_⟩) | ((with_reducible refine gate_callee (f := 34) rfl ?_); refine goesL_ (some 115) rfl rfl Tryd.func34 (by kernel_rfl) rfl #[.int .i64 a0_4, .int .i64 20, .int .i64 1, .int .i64 31] rfl (by (try simp only [List.map_toArray, List.map_cons, List.map_nil]); first | done | rfl | (simp only [List.length_drop, List.length_take]; rfl)) ?_; (with_reducible refine (caponierref02_bit.calls kj18 a0_4 20 1 31 t223 _ A51.out).mono ?_); rintro e w' ⟨rfl, ⟨nd, rfl⟩⟩; refine ⟨_, rfl, ?_⟩))
                          go_ret2
                          exact ⟨by first | rfl | (simp [errW_none, errW_some] <;> rfl) | (simp [*, errW_none, errW_some] <;> rfl), by repeat (first | (with_reducible first | exact HB.out | apply below_alloc | apply pw_below_drewN | apply below_drew1 | refine below_set ?_ GE204.out) | exact HB.out)⟩
                        · rw [if_neg c47] at H
                          have c47b0 : (t206.toList == ([74] : List UInt8)) = false := beq_eq_false_iff_ne.mpr c47
                          have c47b1 : (t206.toList != ([74] : List UInt8)) = true := bne_iff_ne.mpr c47
                          simp only [Option.some.injEq, Prod.mk.injEq] at H
                          obtain ⟨rfl, rfl⟩ := H
                          have hcz53_0 : wc.cell? ⟨gb204, 0, none⟩ = some (.int .i64 a0_0) := (blk_cell BK204.out 0).trans rfl
                          have hcz53_1 : wc.cell? ⟨gb204, 1, none⟩ = some (.int .i64 a0_1) := (blk_cell BK204.out 1).trans rfl
                          have hcz53_2 : wc.cell? ⟨gb204, 2, none⟩ = some (.int .i64 a0_2) := (blk_cell BK204.out 2).trans rfl
                          have hcz53_3 : wc.cell? ⟨gb204, 3, none⟩ = some (.int .i64 a0_3) := (blk_cell BK204.out 3).trans rfl
                          have hcz53_4 : wc.cell? ⟨gb204, 4, none⟩ = some (.int .i64 a0_4) := (blk_cell BK204.out 4).trans rfl
                          have hfz53_0 := blk_frozen BK204.out 0
                          have hfz53_1 := blk_frozen BK204.out 1
                          have hfz53_2 := blk_frozen BK204.out 2
                          have hfz53_3 := blk_frozen BK204.out 3
                          have hfz53_4 := blk_frozen BK204.out 4
                          go_wp2
                          go_ret2
                          exact ⟨by first | rfl | (simp [errW_none, errW_some] <;> rfl) | (simp [*, errW_none, errW_some] <;> rfl), by repeat (first | (with_reducible first | exact HB.out | apply below_alloc | apply pw_below_drewN | apply below_drew1 | refine below_set ?_ GE204.out) | exact HB.out)⟩
  · replace c3 := Bool.eq_false_iff.mpr c3
    subst c3
    have H1 : (some (0, 1)) = some (r1, r2) := by rw [if_neg (show ¬ (false = true) by decide)] at H; exact H
    clear H
    have H := H1
    clear H1
    simp only [Option.some.injEq, Prod.mk.injEq] at H
    obtain ⟨rfl, rfl⟩ := H
    go_enter Tryd.func18, Tryd.ntmps18
    go_wp2_with (first | ((with_reducible refine gate_dst (N := 1) rfl ?_); refine box_event ?hg (N := 1) ?hd (cs := #[.int .i64 a0_0, .int .i64 a0_1, .int .i64 a0_2, .int .i64 a0_3, .int .i64 a0_4]) (t := 43) ?hr ?_; (case hd => rfl); (case hg => rfl); (case hr => first | (go_simp; done) | (go_simp; rfl)); intro gb204 hg w54 hbox hb; have n0_ := Aside0.mk (below_step (by repeat (first | (with_reducible first | exact HB.out | apply below_alloc | apply pw_below_drewN | apply below_drew1) | exact HB.out)) hb); have n1_ := Aside0.mk (hbox); have n2_ := Aside0.mk ((by rw [hg]; exact (below_size (by repeat (first | (with_reducible first | exact HB.out | apply below_alloc | apply pw_below_drewN | apply below_drew1) | exact HB.out))) : w.heap.size ≤ gb204)); have n3_ := Aside0.mk ((by rw [hg]; exact (below_size (by repeat (first | (with_reducible first | exact HB.out | apply below_alloc | apply pw_below_drewN | apply below_drew1) | exact HB.out))) : w.heap.size ≤ gb204)); clear HB; have HB := n0_; have BK204 := n1_; have GW204 := n2_; have GE204 := n3_; clear n0_ n1_ n2_ n3_; clear hb hbox hg; have hcz55_0 : w54.cell? ⟨gb204, 0, none⟩ = some (.int .i64 a0_0) := (blk_cell BK204.out 0).trans rfl; have hcz55_1 : w54.cell? ⟨gb204, 1, none⟩ = some (.int .i64 a0_1) := (blk_cell BK204.out 1).trans rfl; have hcz55_2 : w54.cell? ⟨gb204, 2, none⟩ = some (.int .i64 a0_2) := (blk_cell BK204.out 2).trans rfl; have hcz55_3 : w54.cell? ⟨gb204, 3, none⟩ = some (.int .i64 a0_3) := (blk_cell BK204.out 3).trans rfl; have hcz55_4 : w54.cell? ⟨gb204, 4, none⟩ = some (.int .i64 a0_4) := (blk_cell BK204.out 4).trans rfl; have hfz55_0 := blk_frozen BK204.out 0; have hfz55_1 := blk_frozen BK204.out 1; have hfz55_2 := blk_frozen BK204.out 2; have hfz55_3 := blk_frozen BK204.out 3; have hfz55_4 := blk_frozen BK204.out 4) | ((with_reducible refine gate_callee (f := 30) rfl ?_); refine goesL_ (some 8) rfl rfl Tryd.func30 (by kernel_rfl) rfl #[.agg #[.int .i64 a0_0, .int .i64 a0_1, .int .i64 a0_2, .int .i64 a0_3, .int .i64 a0_4]] rfl (by (try simp only [List.map_toArray, List.map_cons, List.map_nil]); first | done | rfl | (simp only [List.length_drop, List.length_take]; rfl)) ?_; (with_reducible refine (caponierref02_May.calls k a0_0 a0_1 a0_2 a0_3 a0_4 false _ A2.out).mono ?_); rintro e w56 ⟨rfl, hb⟩; refine ⟨_, rfl, ?_⟩; have n0_ := Aside0.mk (blk_below (g := gb204) (o := .cells #[.int .i64 a0_0, .int .i64 a0_1, .int .i64 a0_2, .int .i64 a0_3, .int .i64 a0_4] 43 (0, 0)) (by (with_reducible repeat (first | refine blk_drewN ?_ _ | refine blk_drew ?_ | refine blk_alloc ?_ _)); exact BK204.out) hb); have n1_ := Aside0.mk (below_step (by repeat (first | (with_reducible first | exact HB.out | apply below_alloc | apply pw_below_drewN | apply below_drew1 | refine below_set ?_ GE204.out) | exact HB.out)) hb); clear BK204; clear HB; have BK204 := n0_; have HB := n1_; clear n0_ n1_; (try clear hb); (try clear hb2); (try clear hk); (try clear hi)))
    go_ret2
    exact ⟨by first | rfl | (simp [errW_none, errW_some] <;> rfl) | (simp [*, errW_none, errW_some] <;> rfl), by repeat (first | (with_reducible first | exact HB.out | apply below_alloc | apply pw_below_drewN | apply below_drew1 | refine below_set ?_ GE204.out) | exact HB.out)⟩
end Go.Proofs.YtaoajlaocphgdaaDoor.PA
end
section
namespace Go.Proofs.YtaoajlaocphgdaaDoor.PA
open Go.RowKit Go.Proofs.YtaoajlaocphgdaaDoorW.PrintWords Go.Proofs.YtaoajlaocphgdaaDoorW.PrintLast Go.Proofs.YtaoajlaocphgdaaDoorW.PrintMore
attribute [local go_sem] max2_int min2_int max_two min_two max_three min_three max_four min_four   -- for this text's walks alone
set_option linter.unusedVariables false
set_option linter.unusedSimpArgs false
mutual
def caponierref01_Sign.j0 : Nat → Int → Int → Int → Bool → Option (Int)
  | 0, _, _, _, _ => none
  | k + 1, x0, x1, x5, x13 => if x13 = true then (some 0) else (caponierref01_Sign.l0 k x0 x1 x5 63)
def caponierref01_Sign.l0 : Nat → Int → Int → Int → Int → Option (Int)
  | 0, _, _, _, _ => none
  | k + 1, x0, x1, x5, x6 => if x6 ≥ 0 then ((caponierref01_Bit.f x0 (wrap64 (x1 - 1))).bind fun t224 => (if x6 < x1 then ((caponierref01_Bit.f x0 x6).bind fun t225 => (caponierref01_Sign.l0 k x0 x1 (IntKind.u64.wrap ((IntKind.u64.wrap (2 * x5)) + t225)) (wrap64 (x6 - 1)))) else (caponierref01_Sign.l0 k x0 x1 (IntKind.u64.wrap ((IntKind.u64.wrap (2 * x5)) + t224)) (wrap64 (x6 - 1))))) else (some (wrap64 (x5)))
end
def caponierref01_Sign.f (k : Nat) (a0 : Int) (a1 : Int) : Option (Int) := if a1 < 1 then (caponierref01_Sign.j0 k a0 a1 0 true) else (caponierref01_Sign.j0 k a0 a1 0 (decide (a1 > 64)))
set_option maxHeartbeats 8000000 in
set_option maxRecDepth 100000 in
theorem caponierref01_Sign.calls (k : Nat) (a0 : Int) (a1 : Int) (r : Int) (w : World) (h : caponierref01_Sign.f k a0 a1 = some r) :
    Calls Tryd.prog 62 #[.int .u64 a0, .int .i64 a1] w fun e w' => e = .returned (.int .i64 r) ∧ Drawn0 w w' := by
  have H : (if a1 < 1 then (caponierref01_Sign.j0 k a0 a1 0 true) else (caponierref01_Sign.j0 k a0 a1 0 (decide (a1 > 64)))) = some r := h
  clear h
  have HC3 := Aside0.mk H
  clear H
  go_enter Tryd.func62, Tryd.ntmps62
  go_upto_region 2 with (fail)
  go_cut [13] (fun v13 wc => ∃ (kq : Nat) (x13_2 : Bool), v13 = .bool x13_2 ∧ Aside0 (caponierref01_Sign.j0 kq a0 a1 0 x13_2 = some r) ∧ Aside0 (kq ≤ k) ∧ Drawn0 w wc)
  case first =>
    have H := HC3.out
    clear HC3
    by_cases c4 : a1 < 1
    · rw [if_pos c4] at H
      have c4b0 : decide (a1 < 1) = true := decide_eq_true c4
      clear c4
      (first | rw [c4b0] | (simp only [i64_w, i32_w]; rw [c4b0]) | skip)
      have H' := Aside0.mk H
      clear H
      go_wp2
      go_meet
      case rel => exact ⟨_, (true), (by first | rfl | (simp; done) | (simp [*]; done)), H', ⟨by first | omega | exact Nat.le_refl _⟩, by repeat (first | exact Drawn0.refl _ | apply Drawn0.step)⟩
    · rw [if_neg c4] at H
      have c4b0 : decide (a1 < 1) = false := decide_eq_false c4
      clear c4
      (first | rw [c4b0] | (simp only [i64_w, i32_w]; rw [c4b0]) | skip)
      have H' := Aside0.mk H
      clear H
      go_wp2
      go_meet
      case rel => exact ⟨_, (decide (a1 > 64)), (by first | rfl | (simp; done) | (simp [*]; done)), H', ⟨by first | omega | exact Nat.le_refl _⟩, by repeat (first | exact Drawn0.refl _ | apply Drawn0.step)⟩
  case rest =>
    clear HC3
    try clear p2
    try clear c4
    try clear c4b0
    obtain ⟨kq, x13_2, rfl, HA, HJ2, ⟨mc2, rfl⟩⟩ := hcut
    cases kq with
    | zero => exact absurd HA.out (by simp [caponierref01_Sign.j0])
    | succ kj2 =>
      have H := HA.out
      clear HA
      simp only [caponierref01_Sign.j0] at H
      by_cases c5 : x13_2 = true
      · subst c5
        have H1 : (some 0) = some r := by rw [if_pos rfl] at H; exact H
        clear H
        have H := H1
        clear H1
        obtain rfl := Option.some.inj H
        go_wp2
        go_ret
        exact ⟨by first | rfl | (simp; done) | (simp [*]; done), by repeat (first | exact Drawn0.refl _ | apply Drawn0.step)⟩
      · replace c5 := Bool.eq_false_iff.mpr c5
        subst c5
        have H1 : (caponierref01_Sign.l0 kj2 a0 a1 0 63) = some r := by rw [if_neg (show ¬ (false = true) by decide)] at H; exact H
        clear H
        have H := H1
        clear H1
        have H' := Aside0.mk H
        clear H
        go_wp2
        go_loopg [5, 6] kj2 (fun kq v5 v6 w' => ∃ (x5_2 : Int) (x6_2 : Int), v5 = .int .u64 x5_2 ∧ v6 = .int .i64 x6_2 ∧ Aside0 (caponierref01_Sign.l0 kq a0 a1 x5_2 x6_2 = some r) ∧ Aside0 (kq ≤ kj2) ∧ Drawn0 w w')
        case atStart => exact ⟨(0), (63), (by first | rfl | (simp; done) | (simp [*]; done)), (by first | rfl | (simp; done) | (simp [*]; done)), H', ⟨Nat.le_refl _⟩, by repeat (first | exact Drawn0.refl _ | apply Drawn0.step)⟩
        case round =>
          clear H'
          try clear c2
          try clear p2
          try clear c4
          try clear c4b0
          try clear c5
          try clear p2
          obtain ⟨x5_2, x6_2, rfl, rfl, HA, HK2, ⟨m2, rfl⟩⟩ := hrel
          cases gk with
          | zero => exact absurd HA.out (by simp [caponierref01_Sign.l0])
          | succ k2 =>
            have H := HA.out
            clear HA
            simp only [caponierref01_Sign.l0] at H
            by_cases c6 : x6_2 ≥ 0
            · rw [if_pos c6] at H
              have c6b0 : decide (0 ≤ x6_2) = true := decide_eq_true c6
              clear c6
              replace H := Option.bind_eq_some_iff.mp H
              obtain ⟨t224, A70, H⟩ := H
              replace H : (if x6_2 < a1 then ((caponierref01_Bit.f a0 x6_2).bind fun t225 => (caponierref01_Sign.l0 k2 a0 a1 (IntKind.u64.wrap ((IntKind.u64.wrap (2 * x5_2)) + t225)) (wrap64 (x6_2 - 1)))) else (caponierref01_Sign.l0 k2 a0 a1 (IntKind.u64.wrap ((IntKind.u64.wrap (2 * x5_2)) + t224)) (wrap64 (x6_2 - 1)))) = some r := H
              have A7 := Aside0.mk A70
              clear A70
              by_cases c8 : x6_2 < a1
              · rw [if_pos c8] at H
                have c8b0 : decide (x6_2 < a1) = true := decide_eq_true c8
                clear c8
                replace H := Option.bind_eq_some_iff.mp H
                obtain ⟨t225, A90, H⟩ := H
                replace H : (caponierref01_Sign.l0 k2 a0 a1 (IntKind.u64.wrap ((IntKind.u64.wrap (2 * x5_2)) + t225)) (wrap64 (x6_2 - 1))) = some r := H
                have A9 := Aside0.mk A90
                clear A90
                have H' := Aside0.mk H
                clear H
                go_wp2_with (first | ((with_reducible refine gate_callee (f := 83) rfl ?_); refine goesL_ (some 21) rfl rfl Tryd.func83 (by kernel_rfl) rfl #[.int .u64 a0, .int .i64 (wrap64 (a1 - 1))] rfl (by (try simp only [List.map_toArray, List.map_cons, List.map_nil]); first | done | rfl | (simp only [List.length_drop, List.length_take]; rfl)) ?_; (with_reducible refine (caponierref01_Bit.calls a0 (wrap64 (a1 - 1)) t224 _ A7.out).mono ?_); rintro e w' ⟨rfl, ⟨nd, rfl⟩⟩; refine ⟨_, rfl, ?_⟩) | ((with_reducible refine gate_callee (f := 83) rfl ?_); refine goesL_ (some 27) rfl rfl Tryd.func83 (by kernel_rfl) rfl #[.int .u64 a0, .int .i64 x6_2] rfl (by (try simp only [List.map_toArray, List.map_cons, List.map_nil]); first | done | rfl | (simp only [List.length_drop, List.length_take]; rfl)) ?_; (with_reducible refine (caponierref01_Bit.calls a0 x6_2 t225 _ A9.out).mono ?_); rintro e w' ⟨rfl, ⟨nd, rfl⟩⟩; refine ⟨_, rfl, ?_⟩))
                go_roundg k2
                case measure => have := HJ2.out; have := HK2.out; omega
                case rel => exact ⟨(IntKind.u64.wrap ((IntKind.u64.wrap (2 * x5_2)) + t225)), (wrap64 (x6_2 - 1)), (by first | rfl | (simp; done) | (simp [*]; done)), (by first | rfl | (simp; done) | (simp [*]; done)), H', ⟨by have := HJ2.out; have := HK2.out; omega⟩, by repeat (first | exact Drawn0.refl _ | apply Drawn0.step)⟩
              · rw [if_neg c8] at H
                have c8b0 : decide (x6_2 < a1) = false := decide_eq_false c8
                clear c8
                have H' := Aside0.mk H
                clear H
                go_wp2_with (first | ((with_reducible refine gate_callee (f := 83) rfl ?_); refine goesL_ (some 21) rfl rfl Tryd.func83 (by kernel_rfl) rfl #[.int .u64 a0, .int .i64 (wrap64 (a1 - 1))] rfl (by (try simp only [List.map_toArray, List.map_cons, List.map_nil]); first | done | rfl | (simp only [List.length_drop, List.length_take]; rfl)) ?_; (with_reducible refine (caponierref01_Bit.calls a0 (wrap64 (a1 - 1)) t224 _ A7.out).mono ?_); rintro e w' ⟨rfl, ⟨nd, rfl⟩⟩; refine ⟨_, rfl, ?_⟩))
                go_roundg k2
                case measure => have := HJ2.out; have := HK2.out; omega
                case rel => exact ⟨(IntKind.u64.wrap ((IntKind.u64.wrap (2 * x5_2)) + t224)), (wrap64 (x6_2 - 1)), (by first | rfl | (simp; done) | (simp [*]; done)), (by first | rfl | (simp; done) | (simp [*]; done)), H', ⟨by have := HJ2.out; have := HK2.out; omega⟩, by repeat (first | exact Drawn0.refl _ | apply Drawn0.step)⟩
            · rw [if_neg c6] at H
              have c6b0 : decide (0 ≤ x6_2) = false := decide_eq_false c6
              clear c6
              obtain rfl := Option.some.inj H
              go_wp2
              go_ret
              exact ⟨by first | rfl | (simp; done) | (simp [*]; done), by repeat (first | exact Drawn0.refl _ | apply Drawn0.step)⟩
def caponierref19_number.f (k : Nat) (a0 : Int) (a1 : Int) : Option ((List (S43))) := (caponierref01_Sign.f k (Int.tmod a1 4096) 12).bind fun t226 => (some (([(⟨38, a0, 0, 0, wrap64 (IntKind.u64.wrap ((IntKind.u64.wrap (a1 + 2048)) - (Int.tmod (IntKind.u64.wrap (a1 + 2048)) 4096)))⟩ : S43), (⟨16, a0, a0, 0, t226⟩ : S43)] : List (S43))))
set_option maxHeartbeats 8000000 in
set_option maxRecDepth 100000 in
theorem caponierref19_number.calls (k : Nat) (a0 : Int) (a1 : Int) (r : List (S43)) (w : World) (h : caponierref19_number.f k a0 a1 = some r) :
    Calls Tryd.prog 58 #[.int .i64 a0, .int .u64 a1] w fun e w' => ∃ v0_ : Value, e = .returned (v0_) ∧ Kd.R k43 43 w' w.heap.size (fun _ => True) v0_ r ∧ Below w.heap.size w w' := by
  have hu43 := Tryd.underlying43
  have HB := Aside0.mk (Below.refl w.heap.size w)
  have H : ((caponierref01_Sign.f k (Int.tmod a1 4096) 12).bind fun t226 => (some (([(⟨38, a0, 0, 0, wrap64 (IntKind.u64.wrap ((IntKind.u64.wrap (a1 + 2048)) - (Int.tmod (IntKind.u64.wrap (a1 + 2048)) 4096)))⟩ : S43), (⟨16, a0, a0, 0, t226⟩ : S43)] : List (S43))))) = some r := h
  clear h
  replace H := Option.bind_eq_some_iff.mp H
  obtain ⟨t226, A30, H⟩ := H
  replace H : (some (([(⟨38, a0, 0, 0, wrap64 (IntKind.u64.wrap ((IntKind.u64.wrap (a1 + 2048)) - (Int.tmod (IntKind.u64.wrap (a1 + 2048)) 4096)))⟩ : S43), (⟨16, a0, a0, 0, t226⟩ : S43)] : List (S43)))) = some r := H
  have A3 := Aside0.mk A30
  clear A30
  obtain ⟨y227, hy227⟩ : ∃ y_ : List (S43), y_ = (([(⟨38, a0, 0, 0, wrap64 (IntKind.u64.wrap ((IntKind.u64.wrap (a1 + 2048)) - (Int.tmod (IntKind.u64.wrap (a1 + 2048)) 4096)))⟩ : S43), (⟨16, a0, a0, 0, t226⟩ : S43)] : List (S43))) := ⟨_, rfl⟩
  replace H : (some y227) = some r := by first | (rw [hy227]; with_reducible exact H) | (have H2_ := (Option.bind_some _ _).symm.trans H; rw [hy227]; with_reducible exact H2_) | (have H2_ := (Option.bind_some _ _).symm.trans H; with_reducible exact H2_) | with_reducible exact H | (rw [hy227]; exact H) | exact H
  have Ny227 := Aside0.mk hy227
  clear hy227
  obtain rfl := Option.some.inj H
  go_enter Tryd.func58, Tryd.ntmps58
  go_wp2_with (first | ((with_reducible refine gate_callee (f := 62) rfl ?_); refine goesL_ (some 18) rfl rfl Tryd.func62 (by kernel_rfl) rfl #[.int .u64 (Int.tmod a1 4096), .int .i64 12] rfl (by (try simp only [List.map_toArray, List.map_cons, List.map_nil]); first | done | rfl | (simp only [List.length_drop, List.length_take]; rfl)) ?_; (with_reducible refine (caponierref01_Sign.calls k (Int.tmod a1 4096) 12 t226 _ A3.out).mono ?_); rintro e w' ⟨rfl, ⟨nd, rfl⟩⟩; refine ⟨_, rfl, ?_⟩) | ((with_reducible refine gate_dst (N := 20) rfl ?_); refine Kd.R_lit k43 _ 43 ?hg (N := 20) ?hd (xs := ([(⟨38, a0, 0, 0, wrap64 (IntKind.u64.wrap ((IntKind.u64.wrap (a1 + 2048)) - (Int.tmod (IntKind.u64.wrap (a1 + 2048)) 4096)))⟩ : S43), (⟨16, a0, a0, 0, t226⟩ : S43)] : List (S43))) (inner := [.int .i64 38, .int .i64 a0, .int .i64 0, .int .i64 0, .int .i64 (wrap64 (IntKind.u64.wrap ((IntKind.u64.wrap (a1 + 2048)) - (Int.tmod (IntKind.u64.wrap (a1 + 2048)) 4096)))), .int .i64 16, .int .i64 a0, .int .i64 a0, .int .i64 0, .int .i64 t226]) (ok := fun _ => True) (okp := fun _ => True) ?hr ?hp (fun _ hk => hk) trivial (Below.refl _ _) (Nat.le_refl _) (by simp) ?_; (case hd => rfl); (case hg => rfl); (case hr => first | (go_simp; done) | (go_simp; rfl)); (case hp => exact (Reps.c5 (show Kd.M k43 _ _ _ (⟨38, a0, 0, 0, wrap64 (IntKind.u64.wrap ((IntKind.u64.wrap (a1 + 2048)) - (Int.tmod (IntKind.u64.wrap (a1 + 2048)) 4096)))⟩ : S43) [.int .i64 38, .int .i64 a0, .int .i64 0, .int .i64 0, .int .i64 (wrap64 (IntKind.u64.wrap ((IntKind.u64.wrap (a1 + 2048)) - (Int.tmod (IntKind.u64.wrap (a1 + 2048)) 4096))))] from (k43_mkM _ _ _ (⟨38, a0, 0, 0, wrap64 (IntKind.u64.wrap ((IntKind.u64.wrap (a1 + 2048)) - (Int.tmod (IntKind.u64.wrap (a1 + 2048)) 4096)))⟩ : S43) )) (Reps.c5 (show Kd.M k43 _ _ _ (⟨16, a0, a0, 0, t226⟩ : S43) [.int .i64 16, .int .i64 a0, .int .i64 a0, .int .i64 0, .int .i64 t226] from (k43_mkM _ _ _ (⟨16, a0, a0, 0, t226⟩ : S43) )) (Reps.none _ _)))); intro v228 w4 ho5 hb hg_ hnew_; clear hg_ hnew_; (first | rw [← Ny227.out] at ho5 | (simp only [Int.reduceToNat] at ho5; rw [← Ny227.out] at ho5)); have n0_ := Aside0.mk (Kd.R_lower ho5 (below_size (by repeat (first | (with_reducible first | exact HB.out | apply below_alloc | apply pw_below_drewN | apply below_drew1) | exact HB.out)))); have n1_ := Aside0.mk (below_step (by repeat (first | (with_reducible first | exact HB.out | apply below_alloc | apply pw_below_drewN | apply below_drew1) | exact HB.out)) hb); clear HB; have HO229 := n0_; have HB := n1_; clear n0_ n1_; clear hb ho5))
  go_ret
  exact ⟨_, by first | rfl | (simp [errW_none, errW_some] <;> rfl) | (simp [*, errW_none, errW_some] <;> rfl), by (with_reducible repeat (first | apply Kd.R_alloc | apply Kd.R_drewN | apply Kd.R_drew)); exact HO229.out, by repeat (first | (with_reducible first | exact HB.out | apply below_alloc | apply pw_below_drewN | apply below_drew1) | exact HB.out)⟩
def caponierref19_points.f (k : Nat) (a0 : Int) (a1 : Int) (a2_0 : Int) (a2_1 : Int) (a2_2 : Int) (a2_3 : Int) (a2_4 : Int) (a2_5 : Int) (a2_6 : Int) (a2_7 : Int) (a2_8 : Int) (a2_9 : Int) (a2_10 : Int) (a2_11 : Int) (a2_12 : Int) (a2_13 : Int) (a2_14 : Int) (a2_15 : Int) (a2_16 : Int) (a2_17 : Int) (a2_18 : Int) (a2_19 : Int) : Option ((List (S43))) := if (IntKind.u64.wrap (a2_12 + (IntKind.u64.wrap (8 * (IntKind.u64.wrap (a1)))))) > a2_13 then (some (([(⟨40, 0, 0, 0, (-1)⟩ : S43)] : List (S43)))) else ((some (([(⟨21, 5, a0, 0, 7⟩ : S43), (⟨33, 0, 5, 0, (-1)⟩ : S43)] : List (S43)) : List (S43))).bind fun y234 => ((caponierref19_number.f k 5 a2_12).bind fun t237 => (if y234.length + t237.length < 3518437208883 then ((some (y234 ++ t237 : List (S43))).bind fun y240 => (if y240.length < 3518437208883 then ((some (y240 ++ [(⟨36, 0, a0, 5, (-1)⟩ : S43)] : List (S43))).bind fun y243 => ((caponierref19_number.f k 5 (IntKind.u64.wrap (a2_13 - (IntKind.u64.wrap (8 * (IntKind.u64.wrap (a1))))))).bind fun t246 => (if y243.length + t246.length < 3518437208883 then ((some (y243 ++ t246 : List (S43))).bind fun y249 => (if y249.length < 3518437208883 then (some (y249 ++ [(⟨36, 0, 5, a0, (-1)⟩ : S43)])) else (none))) else (none)))) else (none))) else (none))))
set_option maxHeartbeats 8000000 in
set_option maxRecDepth 100000 in
theorem caponierref19_points.calls (k : Nat) (a0 : Int) (a1 : Int) (a2_0 : Int) (a2_1 : Int) (a2_2 : Int) (a2_3 : Int) (a2_4 : Int) (a2_5 : Int) (a2_6 : Int) (a2_7 : Int) (a2_8 : Int) (a2_9 : Int) (a2_10 : Int) (a2_11 : Int) (a2_12 : Int) (a2_13 : Int) (a2_14 : Int) (a2_15 : Int) (a2_16 : Int) (a2_17 : Int) (a2_18 : Int) (a2_19 : Int) (r : List (S43)) (w : World) (h : caponierref19_points.f k a0 a1 a2_0 a2_1 a2_2 a2_3 a2_4 a2_5 a2_6 a2_7 a2_8 a2_9 a2_10 a2_11 a2_12 a2_13 a2_14 a2_15 a2_16 a2_17 a2_18 a2_19 = some r) :
    Calls Tryd.prog 59 #[.int .i64 a0, .int .i64 a1, .agg #[.int .u64 a2_0, .int .u64 a2_1, .int .i64 a2_2, .int .i64 a2_3, .int .u64 a2_4, .int .u64 a2_5, .int .i64 a2_6, .int .i64 a2_7, .int .u64 a2_8, .int .u64 a2_9, .int .i64 a2_10, .int .i64 a2_11, .int .u64 a2_12, .int .u64 a2_13, .int .i64 a2_14, .int .i64 a2_15, .int .u64 a2_16, .int .u64 a2_17, .int .i64 a2_18, .int .i64 a2_19]] w fun e w' => ∃ v0_ : Value, e = .returned (v0_) ∧ Kd.R k43 43 w' w.heap.size (fun _ => True) v0_ r ∧ Below w.heap.size w w' := by
  have hu27 := Tryd.underlying27
  have hu43 := Tryd.underlying43
  have HB := Aside0.mk (Below.refl w.heap.size w)
  have H : (if (IntKind.u64.wrap (a2_12 + (IntKind.u64.wrap (8 * (IntKind.u64.wrap (a1)))))) > a2_13 then (some (([(⟨40, 0, 0, 0, (-1)⟩ : S43)] : List (S43)))) else ((some (([(⟨21, 5, a0, 0, 7⟩ : S43), (⟨33, 0, 5, 0, (-1)⟩ : S43)] : List (S43)) : List (S43))).bind fun y234 => ((caponierref19_number.f k 5 a2_12).bind fun t237 => (if y234.length + t237.length < 3518437208883 then ((some (y234 ++ t237 : List (S43))).bind fun y240 => (if y240.length < 3518437208883 then ((some (y240 ++ [(⟨36, 0, a0, 5, (-1)⟩ : S43)] : List (S43))).bind fun y243 => ((caponierref19_number.f k 5 (IntKind.u64.wrap (a2_13 - (IntKind.u64.wrap (8 * (IntKind.u64.wrap (a1))))))).bind fun t246 => (if y243.length + t246.length < 3518437208883 then ((some (y243 ++ t246 : List (S43))).bind fun y249 => (if y249.length < 3518437208883 then (some (y249 ++ [(⟨36, 0, 5, a0, (-1)⟩ : S43)])) else (none))) else (none)))) else (none))) else (none))))) = some r := h
  clear h
  by_cases c4 : (IntKind.u64.wrap (a2_12 + (IntKind.u64.wrap (8 * (IntKind.u64.wrap (a1)))))) > a2_13
  · rw [if_pos c4] at H
    have c4b0 : decide (a2_13 < (IntKind.u64.wrap (a2_12 + (IntKind.u64.wrap (8 * (IntKind.u64.wrap (a1))))))) = true := decide_eq_true c4
    clear c4
    obtain ⟨y231, hy231⟩ : ∃ y_ : List (S43), y_ = (([(⟨40, 0, 0, 0, (-1)⟩ : S43)] : List (S43))) := ⟨_, rfl⟩
    replace H : (some y231) = some r := by first | (rw [hy231]; with_reducible exact H) | (have H2_ := (Option.bind_some _ _).symm.trans H; rw [hy231]; with_reducible exact H2_) | (have H2_ := (Option.bind_some _ _).symm.trans H; with_reducible exact H2_) | with_reducible exact H | (rw [hy231]; exact H) | exact H
    have Ny231 := Aside0.mk hy231
    clear hy231
    obtain rfl := Option.some.inj H
    go_enter Tryd.func59, Tryd.ntmps59
    go_wp2_with (first | ((with_reducible refine gate_dst (N := 5) rfl ?_); refine box_event ?hg (N := 5) ?hd (cs := #[.int .u64 a2_0, .int .u64 a2_1, .int .i64 a2_2, .int .i64 a2_3, .int .u64 a2_4, .int .u64 a2_5, .int .i64 a2_6, .int .i64 a2_7, .int .u64 a2_8, .int .u64 a2_9, .int .i64 a2_10, .int .i64 a2_11, .int .u64 a2_12, .int .u64 a2_13, .int .i64 a2_14, .int .i64 a2_15, .int .u64 a2_16, .int .u64 a2_17, .int .i64 a2_18, .int .i64 a2_19]) (t := 27) ?hr ?_; (case hd => rfl); (case hg => rfl); (case hr => first | (go_simp; done) | (go_simp; rfl)); intro gb230 hg w5 hbox hb; have n0_ := Aside0.mk (below_step (by repeat (first | (with_reducible first | exact HB.out | apply below_alloc | apply pw_below_drewN | apply below_drew1) | exact HB.out)) hb); have n1_ := Aside0.mk (hbox); have n2_ := Aside0.mk ((by rw [hg]; exact (below_size (by repeat (first | (with_reducible first | exact HB.out | apply below_alloc | apply pw_below_drewN | apply below_drew1) | exact HB.out))) : w.heap.size ≤ gb230)); have n3_ := Aside0.mk ((by rw [hg]; exact (below_size (by repeat (first | (with_reducible first | exact HB.out | apply below_alloc | apply pw_below_drewN | apply below_drew1) | exact HB.out))) : w.heap.size ≤ gb230)); clear HB; have HB := n0_; have BK230 := n1_; have GW230 := n2_; have GE230 := n3_; clear n0_ n1_ n2_ n3_; clear hb hbox hg; have hcz6_0 : w5.cell? ⟨gb230, 0, none⟩ = some (.int .u64 a2_0) := (blk_cell BK230.out 0).trans rfl; have hcz6_1 : w5.cell? ⟨gb230, 1, none⟩ = some (.int .u64 a2_1) := (blk_cell BK230.out 1).trans rfl; have hcz6_2 : w5.cell? ⟨gb230, 2, none⟩ = some (.int .i64 a2_2) := (blk_cell BK230.out 2).trans rfl; have hcz6_3 : w5.cell? ⟨gb230, 3, none⟩ = some (.int .i64 a2_3) := (blk_cell BK230.out 3).trans rfl; have hcz6_4 : w5.cell? ⟨gb230, 4, none⟩ = some (.int .u64 a2_4) := (blk_cell BK230.out 4).trans rfl; have hcz6_5 : w5.cell? ⟨gb230, 5, none⟩ = some (.int .u64 a2_5) := (blk_cell BK230.out 5).trans rfl; have hcz6_6 : w5.cell? ⟨gb230, 6, none⟩ = some (.int .i64 a2_6) := (blk_cell BK230.out 6).trans rfl; have hcz6_7 : w5.cell? ⟨gb230, 7, none⟩ = some (.int .i64 a2_7) := (blk_cell BK230.out 7).trans rfl; have hcz6_8 : w5.cell? ⟨gb230, 8, none⟩ = some (.int .u64 a2_8) := (blk_cell BK230.out 8).trans rfl; have hcz6_9 : w5.cell? ⟨gb230, 9, none⟩ = some (.int .u64 a2_9) := (blk_cell BK230.out 9).trans rfl; have hcz6_10 : w5.cell? ⟨gb230, 10, none⟩ = some (.int .i64 a2_10) := (blk_cell BK230.out 10).trans rfl; have hcz6_11 : w5.cell? ⟨gb230, 11, none⟩ = some (.int .i64 a2_11) := (blk_cell BK230.out 11).trans rfl; have hcz6_12 : w5.cell? ⟨gb230, 12, none⟩ = some (.int .u64 a2_12) := (blk_cell BK230.out 12).trans rfl; have hcz6_13 : w5.cell? ⟨gb230, 13, none⟩ = some (.int .u64 a2_13) := (blk_cell BK230.out 13).trans rfl; have hcz6_14 : w5.cell? ⟨gb230, 14, none⟩ = some (.int .i64 a2_14) := (blk_cell BK230.out 14).trans rfl; have hcz6_15 : w5.cell? ⟨gb230, 15, none⟩ = some (.int .i64 a2_15) := (blk_cell BK230.out 15).trans rfl; have hcz6_16 : w5.cell? ⟨gb230, 16, none⟩ = some (.int .u64 a2_16) := (blk_cell BK230.out 16).trans rfl; have hcz6_17 : w5.cell? ⟨gb230, 17, none⟩ = some (.int .u64 a2_17) := (blk_cell BK230.out 17).trans rfl; have hcz6_18 : w5.cell? ⟨gb230, 18, none⟩ = some (.int .i64 a2_18) := (blk_cell BK230.out 18).trans rfl; have hcz6_19 : w5.cell? ⟨gb230, 19, none⟩ = some (.int .i64 a2_19) := (blk_cell BK230.out 19).trans rfl; have hfz6_0 := blk_frozen BK230.out 0; have hfz6_1 := blk_frozen BK230.out 1; have hfz6_2 := blk_frozen BK230.out 2; have hfz6_3 := blk_frozen BK230.out 3; have hfz6_4 := blk_frozen BK230.out 4; have hfz6_5 := blk_frozen BK230.out 5; have hfz6_6 := blk_frozen BK230.out 6; have hfz6_7 := blk_frozen BK230.out 7; have hfz6_8 := blk_frozen BK230.out 8; have hfz6_9 := blk_frozen BK230.out 9; have hfz6_10 := blk_frozen BK230.out 10; have hfz6_11 := blk_frozen BK230.out 11; have hfz6_12 := blk_frozen BK230.out 12; have hfz6_13 := blk_frozen BK230.out 13; have hfz6_14 := blk_frozen BK230.out 14; have hfz6_15 := blk_frozen BK230.out 15; have hfz6_16 := blk_frozen BK230.out 16; have hfz6_17 := blk_frozen BK230.out 17; have hfz6_18 := blk_frozen BK230.out 18; have hfz6_19 := blk_frozen BK230.out 19) | ((with_reducible refine gate_dst (N := 20) rfl ?_); refine Kd.R_lit k43 _ 43 ?hg (N := 20) ?hd (xs := ([(⟨40, 0, 0, 0, (-1)⟩ : S43)] : List (S43))) (inner := [.int .i64 40, .int .i64 0, .int .i64 0, .int .i64 0, .int .i64 (-1)]) (ok := fun _ => True) (okp := fun _ => True) ?hr ?hp (fun _ hk => hk) trivial (Below.refl _ _) (Nat.le_refl _) (by simp) ?_; (case hd => rfl); (case hg => rfl); (case hr => first | (go_simp; done) | (go_simp; rfl)); (case hp => exact (Reps.c5 (show Kd.M k43 _ _ _ (⟨40, 0, 0, 0, (-1)⟩ : S43) [.int .i64 40, .int .i64 0, .int .i64 0, .int .i64 0, .int .i64 (-1)] from (k43_mkM _ _ _ (⟨40, 0, 0, 0, (-1)⟩ : S43) )) (Reps.none _ _))); intro v232 w7 ho8 hb hg_ hnew_; clear hg_ hnew_; (first | rw [← Ny231.out] at ho8 | (simp only [Int.reduceToNat] at ho8; rw [← Ny231.out] at ho8)); have n0_ := Aside0.mk (Kd.R_lower ho8 (below_size (by repeat (first | (with_reducible first | exact HB.out | apply below_alloc | apply pw_below_drewN | apply below_drew1 | refine below_set ?_ GE230.out) | exact HB.out)))); have n1_ := Aside0.mk (blk_below (g := gb230) (o := .cells #[.int .u64 a2_0, .int .u64 a2_1, .int .i64 a2_2, .int .i64 a2_3, .int .u64 a2_4, .int .u64 a2_5, .int .i64 a2_6, .int .i64 a2_7, .int .u64 a2_8, .int .u64 a2_9, .int .i64 a2_10, .int .i64 a2_11, .int .u64 a2_12, .int .u64 a2_13, .int .i64 a2_14, .int .i64 a2_15, .int .u64 a2_16, .int .u64 a2_17, .int .i64 a2_18, .int .i64 a2_19] 27 (0, 0)) (by (with_reducible repeat (first | refine blk_drewN ?_ _ | refine blk_drew ?_ | refine blk_alloc ?_ _)); exact BK230.out) hb); have n2_ := Aside0.mk (below_step (by repeat (first | (with_reducible first | exact HB.out | apply below_alloc | apply pw_below_drewN | apply below_drew1 | refine below_set ?_ GE230.out) | exact HB.out)) hb); clear BK230; clear HB; have HO233 := n0_; have BK230 := n1_; have HB := n2_; clear n0_ n1_ n2_; clear hb ho8))
    go_ret
    exact ⟨_, by first | rfl | (simp [errW_none, errW_some] <;> rfl) | (simp [*, errW_none, errW_some] <;> rfl), by (with_reducible repeat (first | apply Kd.R_alloc | apply Kd.R_drewN | apply Kd.R_drew)); exact HO233.out, by repeat (first | (with_reducible first | exact HB.out | apply below_alloc | apply pw_below_drewN | apply below_drew1 | refine below_set ?_ GE230.out) | exact HB.out)⟩
  · rw [if_neg c4] at H
    have c4b0 : decide (a2_13 < (IntKind.u64.wrap (a2_12 + (IntKind.u64.wrap (8 * (IntKind.u64.wrap (a1))))))) = false := decide_eq_false c4
    clear c4
    obtain ⟨y234, hy234⟩ : ∃ y_ : List (S43), y_ = (([(⟨21, 5, a0, 0, 7⟩ : S43), (⟨33, 0, 5, 0, (-1)⟩ : S43)] : List (S43))) := ⟨_, rfl⟩
    replace H : ((caponierref19_number.f k 5 a2_12).bind fun t237 => (if y234.length + t237.length < 3518437208883 then ((some (y234 ++ t237 : List (S43))).bind fun y240 => (if y240.length < 3518437208883 then ((some (y240 ++ [(⟨36, 0, a0, 5, (-1)⟩ : S43)] : List (S43))).bind fun y243 => ((caponierref19_number.f k 5 (IntKind.u64.wrap (a2_13 - (IntKind.u64.wrap (8 * (IntKind.u64.wrap (a1))))))).bind fun t246 => (if y243.length + t246.length < 3518437208883 then ((some (y243 ++ t246 : List (S43))).bind fun y249 => (if y249.length < 3518437208883 then (some (y249 ++ [(⟨36, 0, 5, a0, (-1)⟩ : S43)])) else (none))) else (none)))) else (none))) else (none))) = some r := by first | (rw [hy234]; with_reducible exact H) | (have H2_ := (Option.bind_some _ _).symm.trans H; rw [hy234]; with_reducible exact H2_) | (have H2_ := (Option.bind_some _ _).symm.trans H; with_reducible exact H2_) | with_reducible exact H | (rw [hy234]; exact H) | exact H
    have Ny234 := Aside0.mk hy234
    clear hy234
    replace H := Option.bind_eq_some_iff.mp H
    obtain ⟨t237, A90, H⟩ := H
    replace H : (if y234.length + t237.length < 3518437208883 then ((some (y234 ++ t237 : List (S43))).bind fun y240 => (if y240.length < 3518437208883 then ((some (y240 ++ [(⟨36, 0, a0, 5, (-1)⟩ : S43)] : List (S43))).bind fun y243 => ((caponierref19_number.f k 5 (IntKind.u64.wrap (a2_13 - (IntKind.u64.wrap (8 * (IntKind.u64.wrap (a1))))))).bind fun t246 => (if y243.length + t246.length < 3518437208883 then ((some (y243 ++ t246 : List (S43))).bind fun y249 => (if y249.length < 3518437208883 then (some (y249 ++ [(⟨36, 0, 5, a0, (-1)⟩ : S43)])) else (none))) else (none)))) else (none))) else (none)) = some r := H
    have A9 := Aside0.mk A90
    clear A90
    by_cases c10 : y234.length + t237.length < 3518437208883
    · rw [if_pos c10] at H
      have LMc10 := Aside0.mk c10
      clear c10
      obtain ⟨y240, hy240⟩ : ∃ y_ : List (S43), y_ = (y234 ++ t237) := ⟨_, rfl⟩
      replace H : (if y240.length < 3518437208883 then ((some (y240 ++ [(⟨36, 0, a0, 5, (-1)⟩ : S43)] : List (S43))).bind fun y243 => ((caponierref19_number.f k 5 (IntKind.u64.wrap (a2_13 - (IntKind.u64.wrap (8 * (IntKind.u64.wrap (a1))))))).bind fun t246 => (if y243.length + t246.length < 3518437208883 then ((some (y243 ++ t246 : List (S43))).bind fun y249 => (if y249.length < 3518437208883 then (some (y249 ++ [(⟨36, 0, 5, a0, (-1)⟩ : S43)])) else (none))) else (none)))) else (none)) = some r := by first | (rw [hy240]; with_reducible exact H) | (have H2_ := (Option.bind_some _ _).symm.trans H; rw [hy240]; with_reducible exact H2_) | (have H2_ := (Option.bind_some _ _).symm.trans H; with_reducible exact H2_) | with_reducible exact H | (rw [hy240]; exact H) | exact H
      have Ny240 := Aside0.mk hy240
      clear hy240
      by_cases c11 : y240.length < 3518437208883
      · rw [if_pos c11] at H
        have LMc11 := Aside0.mk c11
        clear c11
        obtain ⟨y243, hy243⟩ : ∃ y_ : List (S43), y_ = (y240 ++ [(⟨36, 0, a0, 5, (-1)⟩ : S43)]) := ⟨_, rfl⟩
        replace H : ((caponierref19_number.f k 5 (IntKind.u64.wrap (a2_13 - (IntKind.u64.wrap (8 * (IntKind.u64.wrap (a1))))))).bind fun t246 => (if y243.length + t246.length < 3518437208883 then ((some (y243 ++ t246 : List (S43))).bind fun y249 => (if y249.length < 3518437208883 then (some (y249 ++ [(⟨36, 0, 5, a0, (-1)⟩ : S43)])) else (none))) else (none))) = some r := by first | (rw [hy243]; with_reducible exact H) | (have H2_ := (Option.bind_some _ _).symm.trans H; rw [hy243]; with_reducible exact H2_) | (have H2_ := (Option.bind_some _ _).symm.trans H; with_reducible exact H2_) | with_reducible exact H | (rw [hy243]; exact H) | exact H
        have Ny243 := Aside0.mk hy243
        clear hy243
        replace H := Option.bind_eq_some_iff.mp H
        obtain ⟨t246, A120, H⟩ := H
        replace H : (if y243.length + t246.length < 3518437208883 then ((some (y243 ++ t246 : List (S43))).bind fun y249 => (if y249.length < 3518437208883 then (some (y249 ++ [(⟨36, 0, 5, a0, (-1)⟩ : S43)])) else (none))) else (none)) = some r := H
        have A12 := Aside0.mk A120
        clear A120
        by_cases c13 : y243.length + t246.length < 3518437208883
        · rw [if_pos c13] at H
          have LMc13 := Aside0.mk c13
          clear c13
          obtain ⟨y249, hy249⟩ : ∃ y_ : List (S43), y_ = (y243 ++ t246) := ⟨_, rfl⟩
          replace H : (if y249.length < 3518437208883 then (some (y249 ++ [(⟨36, 0, 5, a0, (-1)⟩ : S43)])) else (none)) = some r := by first | (rw [hy249]; with_reducible exact H) | (have H2_ := (Option.bind_some _ _).symm.trans H; rw [hy249]; with_reducible exact H2_) | (have H2_ := (Option.bind_some _ _).symm.trans H; with_reducible exact H2_) | with_reducible exact H | (rw [hy249]; exact H) | exact H
          have Ny249 := Aside0.mk hy249
          clear hy249
          by_cases c14 : y249.length < 3518437208883
          · rw [if_pos c14] at H
            have LMc14 := Aside0.mk c14
            clear c14
            obtain ⟨y252, hy252⟩ : ∃ y_ : List (S43), y_ = (y249 ++ [(⟨36, 0, 5, a0, (-1)⟩ : S43)]) := ⟨_, rfl⟩
            replace H : (some y252) = some r := by first | (rw [hy252]; with_reducible exact H) | (have H2_ := (Option.bind_some _ _).symm.trans H; rw [hy252]; with_reducible exact H2_) | (have H2_ := (Option.bind_some _ _).symm.trans H; with_reducible exact H2_) | with_reducible exact H | (rw [hy252]; exact H) | exact H
            have Ny252 := Aside0.mk hy252
            clear hy252
            obtain rfl := Option.some.inj H
            go_enter Tryd.func59, Tryd.ntmps59
            go_wp2_with (first | ((with_reducible refine gate_dst (N := 5) rfl ?_); refine box_event ?hg (N := 5) ?hd (cs := #[.int .u64 a2_0, .int .u64 a2_1, .int .i64 a2_2, .int .i64 a2_3, .int .u64 a2_4, .int .u64 a2_5, .int .i64 a2_6, .int .i64 a2_7, .int .u64 a2_8, .int .u64 a2_9, .int .i64 a2_10, .int .i64 a2_11, .int .u64 a2_12, .int .u64 a2_13, .int .i64 a2_14, .int .i64 a2_15, .int .u64 a2_16, .int .u64 a2_17, .int .i64 a2_18, .int .i64 a2_19]) (t := 27) ?hr ?_; (case hd => rfl); (case hg => rfl); (case hr => first | (go_simp; done) | (go_simp; rfl)); intro gb230 hg w15 hbox hb; have n0_ := Aside0.mk (below_step (by repeat (first | (with_reducible first | exact HB.out | apply below_alloc | apply pw_below_drewN | apply below_drew1) | exact HB.out)) hb); have n1_ := Aside0.mk (hbox); have n2_ := Aside0.mk ((by rw [hg]; exact (below_size (by repeat (first | (with_reducible first | exact HB.out | apply below_alloc | apply pw_below_drewN | apply below_drew1) | exact HB.out))) : w.heap.size ≤ gb230)); have n3_ := Aside0.mk ((by rw [hg]; exact (below_size (by repeat (first | (with_reducible first | exact HB.out | apply below_alloc | apply pw_below_drewN | apply below_drew1) | exact HB.out))) : w.heap.size ≤ gb230)); clear HB; have HB := n0_; have BK230 := n1_; have GW230 := n2_; have GE230 := n3_; clear n0_ n1_ n2_ n3_; clear hb hbox hg; have hcz16_0 : w15.cell? ⟨gb230, 0, none⟩ = some (.int .u64 a2_0) := (blk_cell BK230.out 0).trans rfl; have hcz16_1 : w15.cell? ⟨gb230, 1, none⟩ = some (.int .u64 a2_1) := (blk_cell BK230.out 1).trans rfl; have hcz16_2 : w15.cell? ⟨gb230, 2, none⟩ = some (.int .i64 a2_2) := (blk_cell BK230.out 2).trans rfl; have hcz16_3 : w15.cell? ⟨gb230, 3, none⟩ = some (.int .i64 a2_3) := (blk_cell BK230.out 3).trans rfl; have hcz16_4 : w15.cell? ⟨gb230, 4, none⟩ = some (.int .u64 a2_4) := (blk_cell BK230.out 4).trans rfl; have hcz16_5 : w15.cell? ⟨gb230, 5, none⟩ = some (.int .u64 a2_5) := (blk_cell BK230.out 5).trans rfl; have hcz16_6 : w15.cell? ⟨gb230, 6, none⟩ = some (.int .i64 a2_6) := (blk_cell BK230.out 6).trans rfl; have hcz16_7 : w15.cell? ⟨gb230, 7, none⟩ = some (.int .i64 a2_7) := (blk_cell BK230.out 7).trans rfl; have hcz16_8 : w15.cell? ⟨gb230, 8, none⟩ = some (.int .u64 a2_8) := (blk_cell BK230.out 8).trans rfl; have hcz16_9 : w15.cell? ⟨gb230, 9, none⟩ = some (.int .u64 a2_9) := (blk_cell BK230.out 9).trans rfl; have hcz16_10 : w15.cell? ⟨gb230, 10, none⟩ = some (.int .i64 a2_10) := (blk_cell BK230.out 10).trans rfl; have hcz16_11 : w15.cell? ⟨gb230, 11, none⟩ = some (.int .i64 a2_11) := (blk_cell BK230.out 11).trans rfl; have hcz16_12 : w15.cell? ⟨gb230, 12, none⟩ = some (.int .u64 a2_12) := (blk_cell BK230.out 12).trans rfl; have hcz16_13 : w15.cell? ⟨gb230, 13, none⟩ = some (.int .u64 a2_13) := (blk_cell BK230.out 13).trans rfl; have hcz16_14 : w15.cell? ⟨gb230, 14, none⟩ = some (.int .i64 a2_14) := (blk_cell BK230.out 14).trans rfl; have hcz16_15 : w15.cell? ⟨gb230, 15, none⟩ = some (.int .i64 a2_15) := (blk_cell BK230.out 15).trans rfl; have hcz16_16 : w15.cell? ⟨gb230, 16, none⟩ = some (.int .u64 a2_16) := (blk_cell BK230.out 16).trans rfl; have hcz16_17 : w15.cell? ⟨gb230, 17, none⟩ = some (.int .u64 a2_17) := (blk_cell BK230.out 17).trans rfl; have hcz16_18 : w15.cell? ⟨gb230, 18, none⟩ = some (.int .i64 a2_18) := (blk_cell BK230.out 18).trans rfl; have hcz16_19 : w15.cell? ⟨gb230, 19, none⟩ = some (.int .i64 a2_19) := (blk_cell BK230.out 19).trans rfl; have hfz16_0 := blk_frozen BK230.out 0; have hfz16_1 := blk_frozen BK230.out 1; have hfz16_2 := blk_frozen BK230.out 2; have hfz16_3 := blk_frozen BK230.out 3; have hfz16_4 := blk_frozen BK230.out 4; have hfz16_5 := blk_frozen BK230.out 5; have hfz16_6 := blk_frozen BK230.out 6; have hfz16_7 := blk_frozen BK230.out 7; have hfz16_8 := blk_frozen BK230.out 8; have hfz16_9 := blk_frozen BK230.out 9; have hfz16_10 := blk_frozen BK230.out 10; have hfz16_11 := blk_frozen BK230.out 11; have hfz16_12 := blk_frozen BK230.out 12; have hfz16_13 := blk_frozen BK230.out 13; have hfz16_14 := blk_frozen BK230.out 14; have hfz16_15 := blk_frozen BK230.out 15; have hfz16_16 := blk_frozen BK230.out 16; have hfz16_17 := blk_frozen BK230.out 17; have hfz16_18 := blk_frozen BK230.out 18; have hfz16_19 := blk_frozen BK230.out 19) | ((with_reducible refine gate_dst (N := 24) rfl ?_); refine Kd.R_lit k43 _ 43 ?hg (N := 24) ?hd (xs := ([(⟨21, 5, a0, 0, 7⟩ : S43), (⟨33, 0, 5, 0, (-1)⟩ : S43)] : List (S43))) (inner := [.int .i64 21, .int .i64 5, .int .i64 a0, .int .i64 0, .int .i64 7, .int .i64 33, .int .i64 0, .int .i64 5, .int .i64 0, .int .i64 (-1)]) (ok := fun _ => True) (okp := fun _ => True) ?hr ?hp (fun _ hk => hk) trivial (Below.refl _ _) (Nat.le_refl _) (by simp) ?_; (case hd => rfl); (case hg => rfl); (case hr => first | (go_simp; done) | (go_simp; rfl)); (case hp => exact (Reps.c5 (show Kd.M k43 _ _ _ (⟨21, 5, a0, 0, 7⟩ : S43) [.int .i64 21, .int .i64 5, .int .i64 a0, .int .i64 0, .int .i64 7] from (k43_mkM _ _ _ (⟨21, 5, a0, 0, 7⟩ : S43) )) (Reps.c5 (show Kd.M k43 _ _ _ (⟨33, 0, 5, 0, (-1)⟩ : S43) [.int .i64 33, .int .i64 0, .int .i64 5, .int .i64 0, .int .i64 (-1)] from (k43_mkM _ _ _ (⟨33, 0, 5, 0, (-1)⟩ : S43) )) (Reps.none _ _)))); intro v235 w17 ho18 hb hg_ hnew_; clear hg_ hnew_; (first | rw [← Ny234.out] at ho18 | (simp only [Int.reduceToNat] at ho18; rw [← Ny234.out] at ho18)); have n0_ := Aside0.mk (Kd.R_lower ho18 (below_size (by repeat (first | (with_reducible first | exact HB.out | apply below_alloc | apply pw_below_drewN | apply below_drew1 | refine below_set ?_ GE230.out) | exact HB.out)))); have n1_ := Aside0.mk (blk_below (g := gb230) (o := .cells #[.int .u64 a2_0, .int .u64 a2_1, .int .i64 a2_2, .int .i64 a2_3, .int .u64 a2_4, .int .u64 a2_5, .int .i64 a2_6, .int .i64 a2_7, .int .u64 a2_8, .int .u64 a2_9, .int .i64 a2_10, .int .i64 a2_11, .int .u64 a2_12, .int .u64 a2_13, .int .i64 a2_14, .int .i64 a2_15, .int .u64 a2_16, .int .u64 a2_17, .int .i64 a2_18, .int .i64 a2_19] 27 (0, 0)) (by (with_reducible repeat (first | refine blk_drewN ?_ _ | refine blk_drew ?_ | refine blk_alloc ?_ _)); exact BK230.out) hb); have n2_ := Aside0.mk (below_step (by repeat (first | (with_reducible first | exact HB.out | apply below_alloc | apply pw_below_drewN | apply below_drew1 | refine below_set ?_ GE230.out) | exact HB.out)) hb); clear BK230; clear HB; have HO236 := n0_; have BK230 := n1_; have HB := n2_; clear n0_ n1_ n2_; clear hb ho18; have hcz19_0 : w17.cell? ⟨gb230, 0, none⟩ = some (.int .u64 a2_0) := (blk_cell BK230.out 0).trans rfl; have hcz19_1 : w17.cell? ⟨gb230, 1, none⟩ = some (.int .u64 a2_1) := (blk_cell BK230.out 1).trans rfl; have hcz19_2 : w17.cell? ⟨gb230, 2, none⟩ = some (.int .i64 a2_2) := (blk_cell BK230.out 2).trans rfl; have hcz19_3 : w17.cell? ⟨gb230, 3, none⟩ = some (.int .i64 a2_3) := (blk_cell BK230.out 3).trans rfl; have hcz19_4 : w17.cell? ⟨gb230, 4, none⟩ = some (.int .u64 a2_4) := (blk_cell BK230.out 4).trans rfl; have hcz19_5 : w17.cell? ⟨gb230, 5, none⟩ = some (.int .u64 a2_5) := (blk_cell BK230.out 5).trans rfl; have hcz19_6 : w17.cell? ⟨gb230, 6, none⟩ = some (.int .i64 a2_6) := (blk_cell BK230.out 6).trans rfl; have hcz19_7 : w17.cell? ⟨gb230, 7, none⟩ = some (.int .i64 a2_7) := (blk_cell BK230.out 7).trans rfl; have hcz19_8 : w17.cell? ⟨gb230, 8, none⟩ = some (.int .u64 a2_8) := (blk_cell BK230.out 8).trans rfl; have hcz19_9 : w17.cell? ⟨gb230, 9, none⟩ = some (.int .u64 a2_9) := (blk_cell BK230.out 9).trans rfl; have hcz19_10 : w17.cell? ⟨gb230, 10, none⟩ = some (.int .i64 a2_10) := (blk_cell BK230.out 10).trans rfl; have hcz19_11 : w17.cell? ⟨gb230, 11, none⟩ = some (.int .i64 a2_11) := (blk_cell BK230.out 11).trans rfl; have hcz19_12 : w17.cell? ⟨gb230, 12, none⟩ = some (.int .u64 a2_12) := (blk_cell BK230.out 12).trans rfl; have hcz19_13 : w17.cell? ⟨gb230, 13, none⟩ = some (.int .u64 a2_13) := (blk_cell BK230.out 13).trans rfl; have hcz19_14 : w17.cell? ⟨gb230, 14, none⟩ = some (.int .i64 a2_14) := (blk_cell BK230.out 14).trans rfl; have hcz19_15 : w17.cell? ⟨gb230, 15, none⟩ = some (.int .i64 a2_15) := (blk_cell BK230.out 15).trans rfl; have hcz19_16 : w17.cell? ⟨gb230, 16, none⟩ = some (.int .u64 a2_16) := (blk_cell BK230.out 16).trans rfl; have hcz19_17 : w17.cell? ⟨gb230, 17, none⟩ = some (.int .u64 a2_17) := (blk_cell BK230.out 17).trans rfl; have hcz19_18 : w17.cell? ⟨gb230, 18, none⟩ = some (.int .i64 a2_18) := (blk_cell BK230.out 18).trans rfl; have hcz19_19 : w17.cell? ⟨gb230, 19, none⟩ = some (.int .i64 a2_19) := (blk_cell BK230.out 19).trans rfl; have hfz19_0 := blk_frozen BK230.out 0; have hfz19_1 := blk_frozen BK230.out 1; have hfz19_2 := blk_frozen BK230.out 2; have hfz19_3 := blk_frozen BK230.out 3; have hfz19_4 := blk_frozen BK230.out 4; have hfz19_5 := blk_frozen BK230.out 5; have hfz19_6 := blk_frozen BK230.out 6; have hfz19_7 := blk_frozen BK230.out 7; have hfz19_8 := blk_frozen BK230.out 8; have hfz19_9 := blk_frozen BK230.out 9; have hfz19_10 := blk_frozen BK230.out 10; have hfz19_11 := blk_frozen BK230.out 11; have hfz19_12 := blk_frozen BK230.out 12; have hfz19_13 := blk_frozen BK230.out 13; have hfz19_14 := blk_frozen BK230.out 14; have hfz19_15 := blk_frozen BK230.out 15; have hfz19_16 := blk_frozen BK230.out 16; have hfz19_17 := blk_frozen BK230.out 17; have hfz19_18 := blk_frozen BK230.out 18; have hfz19_19 := blk_frozen BK230.out 19) | ((with_reducible refine gate_callee (f := 58) rfl ?_); refine goesL_ (some 29) rfl rfl Tryd.func58 (by kernel_rfl) rfl #[.int .i64 5, .int .u64 a2_12] rfl (by (try simp only [List.map_toArray, List.map_cons, List.map_nil]); first | done | rfl | (simp only [List.length_drop, List.length_take]; rfl)) ?_; (with_reducible refine (caponierref19_number.calls k 5 a2_12 t237 _ A9.out).mono ?_); rintro e w20 ⟨v238, rfl, ho0, hb⟩; refine ⟨_, rfl, ?_⟩; have n0_ := Aside0.mk (Kd.R_elder' (by (with_reducible repeat (first | apply Kd.R_alloc | apply Kd.R_drewN | apply Kd.R_drew)); exact HO236.out) (Kd.R_base ho0) hb); have n1_ := Aside0.mk (Kd.R_lower (Kd.R_new' ho0 (Kd.R_lt (by (with_reducible repeat (first | apply Kd.R_alloc | apply Kd.R_drewN | apply Kd.R_drew)); exact HO236.out))) (below_size (by repeat (first | (with_reducible first | exact HB.out | apply below_alloc | apply pw_below_drewN | apply below_drew1 | refine below_set ?_ GE230.out) | exact HB.out)))); have n2_ := Aside0.mk (blk_below (g := gb230) (o := .cells #[.int .u64 a2_0, .int .u64 a2_1, .int .i64 a2_2, .int .i64 a2_3, .int .u64 a2_4, .int .u64 a2_5, .int .i64 a2_6, .int .i64 a2_7, .int .u64 a2_8, .int .u64 a2_9, .int .i64 a2_10, .int .i64 a2_11, .int .u64 a2_12, .int .u64 a2_13, .int .i64 a2_14, .int .i64 a2_15, .int .u64 a2_16, .int .u64 a2_17, .int .i64 a2_18, .int .i64 a2_19] 27 (0, 0)) (by (with_reducible repeat (first | refine blk_drewN ?_ _ | refine blk_drew ?_ | refine blk_alloc ?_ _)); exact BK230.out) hb); have n3_ := Aside0.mk (below_step (by repeat (first | (with_reducible first | exact HB.out | apply below_alloc | apply pw_below_drewN | apply below_drew1 | refine below_set ?_ GE230.out) | exact HB.out)) hb); clear HO236; clear BK230; clear HB; have HO236 := n0_; have HO239 := n1_; have BK230 := n2_; have HB := n3_; clear n0_ n1_ n2_ n3_; (try clear hb); (try clear hb2); (try clear hk); (try clear hi); (try clear ho0); obtain ⟨Ao22, co22, eo22⟩ := Kd.R_slice HO239.out; subst eo22) | ((with_reducible refine gate_builtin (b := .append) (xs := #[.tmp 25, .tmp 29]) rfl ?_); at_builtin; refine Kd.R_append_rows k43 (w0 := w) w.heap.size rfl (.tmp 25) (.tmp 29) 56 43 (.agg #[(.int .i64 0), (.int .i64 0), (.int .i64 0), (.int .i64 0), (.int .i64 0)]) 40 rfl Tryd.underlying56 info43 rfl (by decide) (by omega) v235 y234 t237 _ _ _ (fun k_ => some k_ ≠ (.slice Ao22 t237.length co22 : Value).ownBlock) (fun _ => False) rfl rfl ?aO ?aR (fun _ _ h => h) (fun _ h => h.elim) ?aF ?aB ?aS ?aL ?_; (case aR => repeat (first | exact (Kd.R_reads' HO239.out).2.2 | (with_reducible refine Kd.C_alloc ?_ _) | (with_reducible refine Kd.C_drewN ?_ _) | (with_reducible refine Kd.C_drew ?_))); (case aB => exact (by repeat (first | (with_reducible first | exact HB.out | apply below_alloc | apply pw_below_drewN | apply below_drew1 | refine below_set ?_ GE230.out) | exact HB.out))); (case aF => exact (fun k_ hk => Kd.fresh' (Kd.R_lt (by (with_reducible repeat (first | apply Kd.R_alloc | apply Kd.R_drewN | apply Kd.R_drew)); exact HO239.out)) k_ hk)); (case aO => exact (by (with_reducible repeat (first | apply Kd.R_alloc | apply Kd.R_drewN | apply Kd.R_drew)); exact Kd.R_mono HO236.out (fun _ hk => hk.2))); (case aS => exact (below_size (by repeat (first | (with_reducible first | exact HB.out | apply below_alloc | apply pw_below_drewN | apply below_drew1 | refine below_set ?_ GE230.out) | exact HB.out)))); (case aL => have := LMc10.out; omega); intro v241 w21 ho hb hg hat; rw [← Ny240.out] at ho; have n0_ := Aside0.mk (blk_grown (g := gb230) (o := .cells #[.int .u64 a2_0, .int .u64 a2_1, .int .i64 a2_2, .int .i64 a2_3, .int .u64 a2_4, .int .u64 a2_5, .int .i64 a2_6, .int .i64 a2_7, .int .u64 a2_8, .int .u64 a2_9, .int .i64 a2_10, .int .i64 a2_11, .int .u64 a2_12, .int .u64 a2_13, .int .i64 a2_14, .int .i64 a2_15, .int .u64 a2_16, .int .u64 a2_17, .int .i64 a2_18, .int .i64 a2_19] 27 (0, 0)) (by (with_reducible repeat (first | refine blk_drewN ?_ _ | refine blk_drew ?_ | refine blk_alloc ?_ _)); exact BK230.out) hg (Kd.R_ne HO236.out BK230.out (by decide))); have n1_ := Aside0.mk (Kd.R_after (ok := (fun _ => True)) (by (with_reducible repeat (first | apply Kd.R_alloc | apply Kd.R_drewN | apply Kd.R_drew)); exact HO239.out) hg hat); have n2_ := Aside0.mk (hb); have n3_ := Aside0.mk (ho); clear BK230; clear HO239; clear HB; clear HO236; have BK230 := n0_; have HO239 := n1_; have HB := n2_; have HO242 := n3_; clear n0_ n1_ n2_ n3_; clear ho hb hg hat) | ((with_reducible refine gate_builtin (b := .append) (xs := #[.tmp 30, .tmp 33]) rfl ?_); at_builtin; refine Kd.R_append k43 (w0 := w) w.heap.size rfl (.tmp 30) (.tmp 33) 56 43 (.agg #[(.int .i64 0), (.int .i64 0), (.int .i64 0), (.int .i64 0), (.int .i64 0)]) 40 rfl Tryd.underlying56 info43 rfl (by decide) (by omega) v241 y240 (⟨36, 0, a0, 5, (-1)⟩ : S43) [.int .i64 36, .int .i64 0, .int .i64 a0, .int .i64 5, .int .i64 (-1)] (fun k_ => some k_ ≠ (.slice Ao22 t237.length co22 : Value).ownBlock) (fun _ => False) rfl rfl ?aP (fun _ hk => hk.elim) ?aF ?aO ?aB ?aS ?aL ?_; (case aP => exact k43_mkM _ _ _ (⟨36, 0, a0, 5, (-1)⟩ : S43)); (case aB => exact (by repeat (first | (with_reducible first | exact HB.out | apply below_alloc | apply pw_below_drewN | apply below_drew1 | refine below_set ?_ GE230.out) | exact HB.out))); (case aF => exact (fun k_ hk => Kd.fresh' (Kd.R_lt (by (with_reducible repeat (first | apply Kd.R_alloc | apply Kd.R_drewN | apply Kd.R_drew)); exact HO239.out)) k_ hk)); (case aO => exact (by (with_reducible repeat (first | apply Kd.R_alloc | apply Kd.R_drewN | apply Kd.R_drew)); exact HO242.out)); (case aS => exact (below_size (by repeat (first | (with_reducible first | exact HB.out | apply below_alloc | apply pw_below_drewN | apply below_drew1 | refine below_set ?_ GE230.out) | exact HB.out)))); (case aL => have := LMc11.out; omega); intro v244 w23 ho hb hg hat; rw [← Ny243.out] at ho; have n0_ := Aside0.mk (blk_grown (g := gb230) (o := .cells #[.int .u64 a2_0, .int .u64 a2_1, .int .i64 a2_2, .int .i64 a2_3, .int .u64 a2_4, .int .u64 a2_5, .int .i64 a2_6, .int .i64 a2_7, .int .u64 a2_8, .int .u64 a2_9, .int .i64 a2_10, .int .i64 a2_11, .int .u64 a2_12, .int .u64 a2_13, .int .i64 a2_14, .int .i64 a2_15, .int .u64 a2_16, .int .u64 a2_17, .int .i64 a2_18, .int .i64 a2_19] 27 (0, 0)) (by (with_reducible repeat (first | refine blk_drewN ?_ _ | refine blk_drew ?_ | refine blk_alloc ?_ _)); exact BK230.out) hg (Kd.R_ne HO242.out BK230.out (by decide))); have n1_ := Aside0.mk (Kd.R_after (ok := (fun _ => True)) (by (with_reducible repeat (first | apply Kd.R_alloc | apply Kd.R_drewN | apply Kd.R_drew)); exact HO239.out) hg hat); have n2_ := Aside0.mk (hb); have n3_ := Aside0.mk (ho); clear BK230; clear HO239; clear HB; clear HO242; have BK230 := n0_; have HO239 := n1_; have HB := n2_; have HO245 := n3_; clear n0_ n1_ n2_ n3_; clear ho hb hg hat; have hcz24_0 : w23.cell? ⟨gb230, 0, none⟩ = some (.int .u64 a2_0) := (blk_cell BK230.out 0).trans rfl; have hcz24_1 : w23.cell? ⟨gb230, 1, none⟩ = some (.int .u64 a2_1) := (blk_cell BK230.out 1).trans rfl; have hcz24_2 : w23.cell? ⟨gb230, 2, none⟩ = some (.int .i64 a2_2) := (blk_cell BK230.out 2).trans rfl; have hcz24_3 : w23.cell? ⟨gb230, 3, none⟩ = some (.int .i64 a2_3) := (blk_cell BK230.out 3).trans rfl; have hcz24_4 : w23.cell? ⟨gb230, 4, none⟩ = some (.int .u64 a2_4) := (blk_cell BK230.out 4).trans rfl; have hcz24_5 : w23.cell? ⟨gb230, 5, none⟩ = some (.int .u64 a2_5) := (blk_cell BK230.out 5).trans rfl; have hcz24_6 : w23.cell? ⟨gb230, 6, none⟩ = some (.int .i64 a2_6) := (blk_cell BK230.out 6).trans rfl; have hcz24_7 : w23.cell? ⟨gb230, 7, none⟩ = some (.int .i64 a2_7) := (blk_cell BK230.out 7).trans rfl; have hcz24_8 : w23.cell? ⟨gb230, 8, none⟩ = some (.int .u64 a2_8) := (blk_cell BK230.out 8).trans rfl; have hcz24_9 : w23.cell? ⟨gb230, 9, none⟩ = some (.int .u64 a2_9) := (blk_cell BK230.out 9).trans rfl; have hcz24_10 : w23.cell? ⟨gb230, 10, none⟩ = some (.int .i64 a2_10) := (blk_cell BK230.out 10).trans rfl; have hcz24_11 : w23.cell? ⟨gb230, 11, none⟩ = some (.int .i64 a2_11) := (blk_cell BK230.out 11).trans rfl; have hcz24_12 : w23.cell? ⟨gb230, 12, none⟩ = some (.int .u64 a2_12) := (blk_cell BK230.out 12).trans rfl; have hcz24_13 : w23.cell? ⟨gb230, 13, none⟩ = some (.int .u64 a2_13) := (blk_cell BK230.out 13).trans rfl; have hcz24_14 : w23.cell? ⟨gb230, 14, none⟩ = some (.int .i64 a2_14) := (blk_cell BK230.out 14).trans rfl; have hcz24_15 : w23.cell? ⟨gb230, 15, none⟩ = some (.int .i64 a2_15) := (blk_cell BK230.out 15).trans rfl; have hcz24_16 : w23.cell? ⟨gb230, 16, none⟩ = some (.int .u64 a2_16) := (blk_cell BK230.out 16).trans rfl; have hcz24_17 : w23.cell? ⟨gb230, 17, none⟩ = some (.int .u64 a2_17) := (blk_cell BK230.out 17).trans rfl; have hcz24_18 : w23.cell? ⟨gb230, 18, none⟩ = some (.int .i64 a2_18) := (blk_cell BK230.out 18).trans rfl; have hcz24_19 : w23.cell? ⟨gb230, 19, none⟩ = some (.int .i64 a2_19) := (blk_cell BK230.out 19).trans rfl; have hfz24_0 := blk_frozen BK230.out 0; have hfz24_1 := blk_frozen BK230.out 1; have hfz24_2 := blk_frozen BK230.out 2; have hfz24_3 := blk_frozen BK230.out 3; have hfz24_4 := blk_frozen BK230.out 4; have hfz24_5 := blk_frozen BK230.out 5; have hfz24_6 := blk_frozen BK230.out 6; have hfz24_7 := blk_frozen BK230.out 7; have hfz24_8 := blk_frozen BK230.out 8; have hfz24_9 := blk_frozen BK230.out 9; have hfz24_10 := blk_frozen BK230.out 10; have hfz24_11 := blk_frozen BK230.out 11; have hfz24_12 := blk_frozen BK230.out 12; have hfz24_13 := blk_frozen BK230.out 13; have hfz24_14 := blk_frozen BK230.out 14; have hfz24_15 := blk_frozen BK230.out 15; have hfz24_16 := blk_frozen BK230.out 16; have hfz24_17 := blk_frozen BK230.out 17; have hfz24_18 := blk_frozen BK230.out 18; have hfz24_19 := blk_frozen BK230.out 19) | ((with_reducible refine gate_callee (f := 58) rfl ?_); refine goesL_ (some 43) rfl rfl Tryd.func58 (by kernel_rfl) rfl #[.int .i64 5, .int .u64 (IntKind.u64.wrap (a2_13 - (IntKind.u64.wrap (8 * (IntKind.u64.wrap (a1))))))] rfl (by (try simp only [List.map_toArray, List.map_cons, List.map_nil]); first | done | rfl | (simp only [List.length_drop, List.length_take]; rfl)) ?_; (with_reducible refine (caponierref19_number.calls k 5 (IntKind.u64.wrap (a2_13 - (IntKind.u64.wrap (8 * (IntKind.u64.wrap (a1)))))) t246 _ A12.out).mono ?_); rintro e w25 ⟨v247, rfl, ho0, hb⟩; refine ⟨_, rfl, ?_⟩; have n0_ := Aside0.mk (Kd.R_elder' (by (with_reducible repeat (first | apply Kd.R_alloc | apply Kd.R_drewN | apply Kd.R_drew)); exact HO239.out) (Kd.R_base ho0) hb); have n1_ := Aside0.mk (Kd.R_elder' (by (with_reducible repeat (first | apply Kd.R_alloc | apply Kd.R_drewN | apply Kd.R_drew)); exact HO245.out) (Kd.R_base ho0) hb); have n2_ := Aside0.mk (Kd.R_lower (Kd.R_new' (Kd.R_new' ho0 (Kd.R_lt (by (with_reducible repeat (first | apply Kd.R_alloc | apply Kd.R_drewN | apply Kd.R_drew)); exact HO239.out))) (Kd.R_lt (by (with_reducible repeat (first | apply Kd.R_alloc | apply Kd.R_drewN | apply Kd.R_drew)); exact HO245.out))) (below_size (by repeat (first | (with_reducible first | exact HB.out | apply below_alloc | apply pw_below_drewN | apply below_drew1 | refine below_set ?_ GE230.out) | exact HB.out)))); have n3_ := Aside0.mk (blk_below (g := gb230) (o := .cells #[.int .u64 a2_0, .int .u64 a2_1, .int .i64 a2_2, .int .i64 a2_3, .int .u64 a2_4, .int .u64 a2_5, .int .i64 a2_6, .int .i64 a2_7, .int .u64 a2_8, .int .u64 a2_9, .int .i64 a2_10, .int .i64 a2_11, .int .u64 a2_12, .int .u64 a2_13, .int .i64 a2_14, .int .i64 a2_15, .int .u64 a2_16, .int .u64 a2_17, .int .i64 a2_18, .int .i64 a2_19] 27 (0, 0)) (by (with_reducible repeat (first | refine blk_drewN ?_ _ | refine blk_drew ?_ | refine blk_alloc ?_ _)); exact BK230.out) hb); have n4_ := Aside0.mk (below_step (by repeat (first | (with_reducible first | exact HB.out | apply below_alloc | apply pw_below_drewN | apply below_drew1 | refine below_set ?_ GE230.out) | exact HB.out)) hb); clear HO239; clear HO245; clear BK230; clear HB; have HO239 := n0_; have HO245 := n1_; have HO248 := n2_; have BK230 := n3_; have HB := n4_; clear n0_ n1_ n2_ n3_ n4_; (try clear hb); (try clear hb2); (try clear hk); (try clear hi); (try clear ho0); obtain ⟨Ao27, co27, eo27⟩ := Kd.R_slice HO248.out; subst eo27) | ((with_reducible refine gate_builtin (b := .append) (xs := #[.tmp 35, .tmp 43]) rfl ?_); at_builtin; refine Kd.R_append_rows k43 (w0 := w) w.heap.size rfl (.tmp 35) (.tmp 43) 56 43 (.agg #[(.int .i64 0), (.int .i64 0), (.int .i64 0), (.int .i64 0), (.int .i64 0)]) 40 rfl Tryd.underlying56 info43 rfl (by decide) (by omega) v244 y243 t246 _ _ _ (fun k_ => some k_ ≠ (.slice Ao22 t237.length co22 : Value).ownBlock ∧ some k_ ≠ (.slice Ao27 t246.length co27 : Value).ownBlock) (fun _ => False) rfl rfl ?aO ?aR (fun _ _ h => h) (fun _ h => h.elim) ?aF ?aB ?aS ?aL ?_; (case aR => repeat (first | exact (Kd.R_reads' HO248.out).2.2 | (with_reducible refine Kd.C_alloc ?_ _) | (with_reducible refine Kd.C_drewN ?_ _) | (with_reducible refine Kd.C_drew ?_))); (case aB => exact (by repeat (first | (with_reducible first | exact HB.out | apply below_alloc | apply pw_below_drewN | apply below_drew1 | refine below_set ?_ GE230.out) | exact HB.out))); (case aF => exact (fun k_ hk => ⟨Kd.fresh' (Kd.R_lt (by (with_reducible repeat (first | apply Kd.R_alloc | apply Kd.R_drewN | apply Kd.R_drew)); exact HO239.out)) k_ hk, Kd.fresh' (Kd.R_lt (by (with_reducible repeat (first | apply Kd.R_alloc | apply Kd.R_drewN | apply Kd.R_drew)); exact HO248.out)) k_ hk⟩)); (case aO => exact (by (with_reducible repeat (first | apply Kd.R_alloc | apply Kd.R_drewN | apply Kd.R_drew)); exact HO245.out)); (case aS => exact (below_size (by repeat (first | (with_reducible first | exact HB.out | apply below_alloc | apply pw_below_drewN | apply below_drew1 | refine below_set ?_ GE230.out) | exact HB.out)))); (case aL => have := LMc13.out; omega); intro v250 w26 ho hb hg hat; rw [← Ny249.out] at ho; have n0_ := Aside0.mk (blk_grown (g := gb230) (o := .cells #[.int .u64 a2_0, .int .u64 a2_1, .int .i64 a2_2, .int .i64 a2_3, .int .u64 a2_4, .int .u64 a2_5, .int .i64 a2_6, .int .i64 a2_7, .int .u64 a2_8, .int .u64 a2_9, .int .i64 a2_10, .int .i64 a2_11, .int .u64 a2_12, .int .u64 a2_13, .int .i64 a2_14, .int .i64 a2_15, .int .u64 a2_16, .int .u64 a2_17, .int .i64 a2_18, .int .i64 a2_19] 27 (0, 0)) (by (with_reducible repeat (first | refine blk_drewN ?_ _ | refine blk_drew ?_ | refine blk_alloc ?_ _)); exact BK230.out) hg (Kd.R_ne HO245.out BK230.out (by decide))); have n1_ := Aside0.mk (Kd.R_after (ok := (fun k_ => some k_ ≠ (.slice Ao27 t246.length co27 : Value).ownBlock)) (by (with_reducible repeat (first | apply Kd.R_alloc | apply Kd.R_drewN | apply Kd.R_drew)); exact Kd.R_mono HO239.out (fun _ hk => ⟨hk.2, hk.1.2⟩)) hg hat); have n2_ := Aside0.mk (Kd.R_after (ok := (fun k_ => some k_ ≠ (.slice Ao22 t237.length co22 : Value).ownBlock)) (by (with_reducible repeat (first | apply Kd.R_alloc | apply Kd.R_drewN | apply Kd.R_drew)); exact Kd.R_mono HO248.out (fun _ hk => ⟨hk.1.2, hk.2⟩)) hg hat); have n3_ := Aside0.mk (hb); have n4_ := Aside0.mk (ho); clear BK230; clear HO239; clear HO248; clear HB; clear HO245; have BK230 := n0_; have HO239 := n1_; have HO248 := n2_; have HB := n3_; have HO251 := n4_; clear n0_ n1_ n2_ n3_ n4_; clear ho hb hg hat) | ((with_reducible refine gate_builtin (b := .append) (xs := #[.tmp 44, .tmp 47]) rfl ?_); at_builtin; refine Kd.R_append k43 (w0 := w) w.heap.size rfl (.tmp 44) (.tmp 47) 56 43 (.agg #[(.int .i64 0), (.int .i64 0), (.int .i64 0), (.int .i64 0), (.int .i64 0)]) 40 rfl Tryd.underlying56 info43 rfl (by decide) (by omega) v250 y249 (⟨36, 0, 5, a0, (-1)⟩ : S43) [.int .i64 36, .int .i64 0, .int .i64 5, .int .i64 a0, .int .i64 (-1)] (fun k_ => some k_ ≠ (.slice Ao22 t237.length co22 : Value).ownBlock ∧ some k_ ≠ (.slice Ao27 t246.length co27 : Value).ownBlock) (fun _ => False) rfl rfl ?aP (fun _ hk => hk.elim) ?aF ?aO ?aB ?aS ?aL ?_; (case aP => exact k43_mkM _ _ _ (⟨36, 0, 5, a0, (-1)⟩ : S43)); (case aB => exact (by repeat (first | (with_reducible first | exact HB.out | apply below_alloc | apply pw_below_drewN | apply below_drew1 | refine below_set ?_ GE230.out) | exact HB.out))); (case aF => exact (fun k_ hk => ⟨Kd.fresh' (Kd.R_lt (by (with_reducible repeat (first | apply Kd.R_alloc | apply Kd.R_drewN | apply Kd.R_drew)); exact HO239.out)) k_ hk, Kd.fresh' (Kd.R_lt (by (with_reducible repeat (first | apply Kd.R_alloc | apply Kd.R_drewN | apply Kd.R_drew)); exact HO248.out)) k_ hk⟩)); (case aO => exact (by (with_reducible repeat (first | apply Kd.R_alloc | apply Kd.R_drewN | apply Kd.R_drew)); exact HO251.out)); (case aS => exact (below_size (by repeat (first | (with_reducible first | exact HB.out | apply below_alloc | apply pw_below_drewN | apply below_drew1 | refine below_set ?_ GE230.out) | exact HB.out)))); (case aL => have := LMc14.out; omega); intro v253 w28 ho hb hg hat; rw [← Ny252.out] at ho; have n0_ := Aside0.mk (blk_grown (g := gb230) (o := .cells #[.int .u64 a2_0, .int .u64 a2_1, .int .i64 a2_2, .int .i64 a2_3, .int .u64 a2_4, .int .u64 a2_5, .int .i64 a2_6, .int .i64 a2_7, .int .u64 a2_8, .int .u64 a2_9, .int .i64 a2_10, .int .i64 a2_11, .int .u64 a2_12, .int .u64 a2_13, .int .i64 a2_14, .int .i64 a2_15, .int .u64 a2_16, .int .u64 a2_17, .int .i64 a2_18, .int .i64 a2_19] 27 (0, 0)) (by (with_reducible repeat (first | refine blk_drewN ?_ _ | refine blk_drew ?_ | refine blk_alloc ?_ _)); exact BK230.out) hg (Kd.R_ne HO251.out BK230.out (by decide))); have n1_ := Aside0.mk (Kd.R_after (ok := (fun k_ => some k_ ≠ (.slice Ao27 t246.length co27 : Value).ownBlock)) (by (with_reducible repeat (first | apply Kd.R_alloc | apply Kd.R_drewN | apply Kd.R_drew)); exact HO239.out) hg hat); have n2_ := Aside0.mk (Kd.R_after (ok := (fun k_ => some k_ ≠ (.slice Ao22 t237.length co22 : Value).ownBlock)) (by (with_reducible repeat (first | apply Kd.R_alloc | apply Kd.R_drewN | apply Kd.R_drew)); exact HO248.out) hg hat); have n3_ := Aside0.mk (hb); have n4_ := Aside0.mk (ho); clear BK230; clear HO239; clear HO248; clear HB; clear HO251; have BK230 := n0_; have HO239 := n1_; have HO248 := n2_; have HB := n3_; have HO254 := n4_; clear n0_ n1_ n2_ n3_ n4_; clear ho hb hg hat))
            go_ret
            exact ⟨_, by first | rfl | (simp [errW_none, errW_some] <;> rfl) | (simp [*, errW_none, errW_some] <;> rfl), by (with_reducible repeat (first | apply Kd.R_alloc | apply Kd.R_drewN | apply Kd.R_drew)); exact Kd.R_mono HO254.out (fun _ hk => trivial), by repeat (first | (with_reducible first | exact HB.out | apply below_alloc | apply pw_below_drewN | apply below_drew1 | refine below_set ?_ GE230.out) | exact HB.out)⟩
          · rw [if_neg c14] at H
            exact absurd H (by simp)
        · rw [if_neg c13] at H
          exact absurd H (by simp)
      · rw [if_neg c11] at H
        exact absurd H (by simp)
    · rw [if_neg c10] at H
      exact absurd H (by simp)
end Go.Proofs.YtaoajlaocphgdaaDoor.PA
end
section
namespace Go.Proofs.YtaoajlaocphgdaaDoor.PA
open Go.RowKit Go.Proofs.YtaoajlaocphgdaaDoorW.PrintWords Go.Proofs.YtaoajlaocphgdaaDoorW.PrintLast Go.Proofs.YtaoajlaocphgdaaDoorW.PrintMore
attribute [local go_sem] max2_int min2_int max_two min_two max_three min_three max_four min_four   -- for this text's walks alone
set_option linter.unusedVariables false
set_option linter.unusedSimpArgs false
def caponierref02_field.f (k : Nat) (a0 : Int) (a1 : Int) (a2 : Int) : Option (Int) := (caponierref01_Field.f k (IntKind.u64.wrap (a0)) a1 a2).bind fun bt400 => (some bt400.1)
end Go.Proofs.YtaoajlaocphgdaaDoor.PA
end
section
namespace Go.Proofs.YtaoajlaocphgdaaDoor.PA
open Go.RowKit Go.Proofs.YtaoajlaocphgdaaDoorW.PrintWords Go.Proofs.YtaoajlaocphgdaaDoorW.PrintLast Go.Proofs.YtaoajlaocphgdaaDoorW.PrintMore
attribute [local go_sem] max2_int min2_int max_two min_two max_three min_three max_four min_four   -- for this text's walks alone
set_option linter.unusedVariables false
set_option linter.unusedSimpArgs false
mutual
def caponierref02_as.j0 : Nat → Int → Int → ByteArray → Bool → Int → Int → Int → Int → Int → Option (Int × Int × Int × Int × Int)
  | 0, _, _, _, _, _, _, _, _, _ => none
  | k + 1, x0, x1, x6, x20, x404000, x404001, x404002, x404003, x404004 => if x20 = true then ((caponierref02_field.f k x0 7 5).bind fun t405 => (caponierref02_as.j1 k x0 x1 x6 x404000 (wrap64 (t405)) x404002 x404003 x404004)) else (caponierref02_as.j1 k x0 x1 x6 x404000 x404001 x404002 x404003 x404004)
def caponierref02_as.j1 : Nat → Int → Int → ByteArray → Int → Int → Int → Int → Int → Option (Int × Int × Int × Int × Int)
  | 0, _, _, _, _, _, _, _, _ => none
  | k + 1, x0, x1, x6, x404000, x404001, x404002, x404003, x404004 => if x6.toList = ([85] : List UInt8) then (caponierref02_as.j2 k x0 x1 x6 false x404000 x404001 x404002 x404003 x404004) else (if x6.toList = ([74] : List UInt8) then (caponierref02_as.j2 k x0 x1 x6 false x404000 x404001 x404002 x404003 x404004) else (caponierref02_as.j2 k x0 x1 x6 (x6.toList != ([69] : List UInt8)) x404000 x404001 x404002 x404003 x404004))
def caponierref02_as.j2 : Nat → Int → Int → ByteArray → Bool → Int → Int → Int → Int → Int → Option (Int × Int × Int × Int × Int)
  | 0, _, _, _, _, _, _, _, _, _ => none
  | k + 1, x0, x1, x6, x34, x404000, x404001, x404002, x404003, x404004 => if x34 = true then ((caponierref02_field.f k x0 15 5).bind fun t406 => (caponierref02_as.j3 k x0 x1 x6 x404000 x404001 (wrap64 (t406)) x404003 x404004)) else (caponierref02_as.j3 k x0 x1 x6 x404000 x404001 x404002 x404003 x404004)
def caponierref02_as.j3 : Nat → Int → Int → ByteArray → Int → Int → Int → Int → Int → Option (Int × Int × Int × Int × Int)
  | 0, _, _, _, _, _, _, _, _ => none
  | k + 1, x0, x1, x6, x404000, x404001, x404002, x404003, x404004 => if x6.toList = ([82] : List UInt8) then (caponierref02_as.j4 k x0 x1 x6 true x404000 x404001 x404002 x404003 x404004) else (if x6.toList = ([83] : List UInt8) then (caponierref02_as.j4 k x0 x1 x6 true x404000 x404001 x404002 x404003 x404004) else (caponierref02_as.j4 k x0 x1 x6 (x6.toList == ([66] : List UInt8)) x404000 x404001 x404002 x404003 x404004))
def caponierref02_as.j4 : Nat → Int → Int → ByteArray → Bool → Int → Int → Int → Int → Int → Option (Int × Int × Int × Int × Int)
  | 0, _, _, _, _, _, _, _, _, _ => none
  | k + 1, x0, x1, x6, x48, x404000, x404001, x404002, x404003, x404004 => if x48 = true then ((caponierref02_field.f k x0 20 5).bind fun t407 => (caponierref02_as.j5 k x0 x1 x6 x404000 x404001 x404002 (wrap64 (t407)) x404004)) else (caponierref02_as.j5 k x0 x1 x6 x404000 x404001 x404002 x404003 x404004)
def caponierref02_as.j5 : Nat → Int → Int → ByteArray → Int → Int → Int → Int → Int → Option (Int × Int × Int × Int × Int)
  | 0, _, _, _, _, _, _, _, _ => none
  | k + 1, x0, x1, x6, x404000, x404001, x404002, x404003, x404004 => if x6.toList = ([73] : List UInt8) then ((caponierref02_field.f k x0 20 12).bind fun t408 => ((caponierref01_Sign.f k t408 12).bind fun t409 => ((caponierref02_Shift.f x1).bind fun t410 => (if t410 = true then ((caponierref02_field.f k x0 20 6).bind fun t411 => (some (x404000, x404001, x404002, x404003, wrap64 (t411)))) else (some (x404000, x404001, x404002, x404003, t409)))))) else (if x6.toList = ([83] : List UInt8) then ((caponierref02_field.f k x0 7 5).bind fun t412 => ((caponierref02_field.f k x0 25 7).bind fun t413 => ((caponierref01_Sign.f k (IntKind.u64.wrap (t412 + (IntKind.u64.wrap (t413 * 32)))) 12).bind fun t414 => (some (x404000, x404001, x404002, x404003, t414))))) else (if x6.toList = ([66] : List UInt8) then ((caponierref02_field.f k x0 8 4).bind fun t415 => ((caponierref02_field.f k x0 25 6).bind fun t416 => ((caponierref02_field.f k x0 7 1).bind fun t417 => ((caponierref02_field.f k x0 31 1).bind fun t418 => ((caponierref01_Sign.f k (IntKind.u64.wrap ((IntKind.u64.wrap ((IntKind.u64.wrap ((IntKind.u64.wrap (t415 * 2)) + (IntKind.u64.wrap (t416 * 32)))) + (IntKind.u64.wrap (t417 * 2048)))) + (IntKind.u64.wrap (t418 * 4096)))) 13).bind fun t419 => (some (x404000, x404001, x404002, x404003, t419))))))) else (if x6.toList = ([85] : List UInt8) then ((caponierref02_field.f k x0 12 20).bind fun t420 => ((caponierref01_Sign.f k (IntKind.u64.wrap (t420 * 4096)) 32).bind fun t421 => (some (x404000, x404001, x404002, x404003, t421)))) else (if x6.toList = ([74] : List UInt8) then ((caponierref02_field.f k x0 21 10).bind fun t422 => ((caponierref02_field.f k x0 20 1).bind fun t423 => ((caponierref02_field.f k x0 12 8).bind fun t424 => ((caponierref02_field.f k x0 31 1).bind fun t425 => ((caponierref01_Sign.f k (IntKind.u64.wrap ((IntKind.u64.wrap ((IntKind.u64.wrap ((IntKind.u64.wrap (t422 * 2)) + (IntKind.u64.wrap (t423 * 2048)))) + (IntKind.u64.wrap (t424 * 4096)))) + (IntKind.u64.wrap (t425 * 1048576)))) 21).bind fun t426 => (some (x404000, x404001, x404002, x404003, t426))))))) else (some (x404000, x404001, x404002, x404003, x404004))))))
end
def caponierref02_as.f (k : Nat) (a0 : Int) (a1 : Int) : Option (Int × Int × Int × Int × Int) := (caponierref02_Form.f k a1).bind fun t404 => (if t404.toList = ([83] : List UInt8) then (caponierref02_as.j0 k a0 a1 t404 false a1 0 0 0 0) else (if t404.toList = ([66] : List UInt8) then (caponierref02_as.j0 k a0 a1 t404 false a1 0 0 0 0) else (caponierref02_as.j0 k a0 a1 t404 (t404.toList != ([69] : List UInt8)) a1 0 0 0 0)))
end Go.Proofs.YtaoajlaocphgdaaDoor.PA
end
section
namespace Go.Proofs.YtaoajlaocphgdaaDoor.PA
open Go.RowKit Go.Proofs.YtaoajlaocphgdaaDoorW.PrintWords Go.Proofs.YtaoajlaocphgdaaDoorW.PrintLast Go.Proofs.YtaoajlaocphgdaaDoorW.PrintMore
attribute [local go_sem] max2_int min2_int max_two min_two max_three min_three max_four min_four   -- for this text's walks alone
set_option linter.unusedVariables false
set_option linter.unusedSimpArgs false
def caponierref02_Decode.l0 : Nat → Int → Int → Option (Int × Int × Int × Int × Int × Int)
  | 0, _, _ => none
  | k + 1, x0, x4 => if x4 ≤ 42 then ((caponierref02_as.f k x0 x4).bind fun bt428 => ((caponierref02_Encode.f k bt428.1 bt428.2.1 bt428.2.2.1 bt428.2.2.2.1 bt428.2.2.2.2).bind fun bt434 => (if bt434.2 = 0 then (if bt434.1 = x0 then (some (bt428.1, bt428.2.1, bt428.2.2.1, bt428.2.2.2.1, bt428.2.2.2.2, 0)) else (caponierref02_Decode.l0 k x0 (wrap64 (x4 + 1)))) else (caponierref02_Decode.l0 k x0 (wrap64 (x4 + 1)))))) else (some (0, 0, 0, 0, 0, 3))
def caponierref02_Decode.f (k : Nat) (a0 : Int) : Option (Int × Int × Int × Int × Int × Int) := caponierref02_Decode.l0 k a0 0
end Go.Proofs.YtaoajlaocphgdaaDoor.PA
end
section
namespace Go.Proofs.YtaoajlaocphgdaaDoor.PA
open Go.RowKit Go.Proofs.YtaoajlaocphgdaaDoorW.PrintWords Go.Proofs.YtaoajlaocphgdaaDoorW.PrintLast Go.Proofs.YtaoajlaocphgdaaDoorW.PrintMore
set_option linter.unusedVariables false
set_option linter.unusedSimpArgs false
theorem u64_nat (a : Nat) (h : a < 2 ^ 64) : IntKind.u64.wrap (a : Int) = (a : Int) := IntWalk.u64_in _ (by omega)
theorem or_nat (a b : Nat) (ha : a < 2 ^ 64) (hb : b < 2 ^ 64) : Go.bits .or .u64 (a : Int) (b : Int) = ((a ||| b : Nat) : Int) := by
  show IntKind.u64.wrap ((((BitVec.ofInt 64 (a : Int)) ||| (BitVec.ofInt 64 (b : Int)) : BitVec 64).toNat : Nat) : Int) = _
  rw [BitVec.toNat_or, BitVec.ofInt_natCast, BitVec.ofInt_natCast, BitVec.toNat_ofNat, BitVec.toNat_ofNat, Nat.mod_eq_of_lt ha, Nat.mod_eq_of_lt hb]
  exact u64_nat _ (Nat.or_lt_two_pow ha hb)
theorem and_nat (a b : Nat) (ha : a < 2 ^ 64) (hb : b < 2 ^ 64) : Go.bits .and .u64 (a : Int) (b : Int) = ((a &&& b : Nat) : Int) := by
  show IntKind.u64.wrap ((((BitVec.ofInt 64 (a : Int)) &&& (BitVec.ofInt 64 (b : Int)) : BitVec 64).toNat : Nat) : Int) = _
  rw [BitVec.toNat_and, BitVec.ofInt_natCast, BitVec.ofInt_natCast, BitVec.toNat_ofNat, BitVec.toNat_ofNat, Nat.mod_eq_of_lt ha, Nat.mod_eq_of_lt hb]
  exact u64_nat _ (Nat.and_lt_two_pow _ hb)
theorem andNot_nat (a b : Nat) (ha : a < 2 ^ 64) (hb : b < 2 ^ 64) : Go.bits .andNot .u64 (a : Int) (b : Int) = ((a &&& (2 ^ 64 - (b + 1)) : Nat) : Int) := by
  show IntKind.u64.wrap ((((BitVec.ofInt 64 (a : Int)) &&& ~~~ (BitVec.ofInt 64 (b : Int)) : BitVec 64).toNat : Nat) : Int) = _
  rw [BitVec.toNat_and, BitVec.toNat_not, BitVec.ofInt_natCast, BitVec.ofInt_natCast, BitVec.toNat_ofNat, BitVec.toNat_ofNat, Nat.mod_eq_of_lt ha, Nat.mod_eq_of_lt hb, show 2 ^ 64 - 1 - b = 2 ^ 64 - (b + 1) from by omega]
  exact u64_nat _ (Nat.and_lt_two_pow _ (by omega))
theorem or_add {a b : Nat} (k : Nat) (ha : a < 2 ^ k) (q : Nat) (hb : b = q * 2 ^ k) : a ||| b = a + b := by
  subst hb
  have := Nat.two_pow_add_eq_or_of_lt ha q
  rw [Nat.mul_comm q, Nat.or_comm, ← this, Nat.add_comm]
theorem mask_f (n : Nat) (h : n ≤ 64) : bits_mask.f (n : Int) = some ((2 ^ n - 1 : Nat) : Int) := by
  have H : ∀ n : Fin 65, bits_mask.f (n.val : Int) = some ((2 ^ n.val - 1 : Nat) : Int) := by decide +kernel
  exact H ⟨n, by omega⟩
theorem may_bits (a n : Nat) (h : a + n ≤ 64) : bits_may.f (a : Int) (n : Int) = some true := by
  unfold bits_may.f
  rw [if_pos (by omega), if_pos (by omega), if_pos (by omega), IntWalk.wrap64_in _ (by omega)]
  exact congrArg some (decide_eq_true (by omega))
theorem shr_nat (v a : Nat) (h : a ≤ 64) : shr .u64 (v : Int) (a : Int) = ((v / 2 ^ a : Nat) : Int) := by
  unfold shr
  rw [show min (a : Int).toNat IntKind.u64.bits = a from by rw [Int.toNat_natCast]; exact Nat.min_eq_left h]
  rw [Int.natCast_ediv, Int.natCast_pow]
  rfl
theorem shl_nat (v a : Nat) (h : a ≤ 64) (hv : v * 2 ^ a < 2 ^ 64) : shl .u64 (v : Int) (a : Int) = ((v * 2 ^ a : Nat) : Int) := by
  unfold shl
  rw [show min (a : Int).toNat IntKind.u64.bits = a from by rw [Int.toNat_natCast]; exact Nat.min_eq_left h]
  rw [← u64_nat _ hv, Int.natCast_mul, Int.natCast_pow]
  rfl
theorem field_f (v a n : Nat) (hv : v < 2 ^ 64) (h : a + n ≤ 64) : bits_Field.f (v : Int) (a : Int) (n : Int) = some (((v / 2 ^ a % 2 ^ n : Nat) : Int), true) := by
  unfold bits_Field.f
  rw [may_bits a n h, Option.bind_some, if_pos rfl, if_pos (by omega), mask_f n (by omega), Option.bind_some, shr_nat v a (by omega)]
  have h1 : v / 2 ^ a < 2 ^ 64 := Nat.lt_of_le_of_lt (Nat.div_le_self _ _) hv
  have h2 : 2 ^ n - 1 < 2 ^ 64 := by have := Nat.pow_le_pow_right (show 0 < 2 by decide) (show n ≤ 64 by omega); have := Nat.two_pow_pos n; omega
  rw [and_nat _ _ h1 h2, Nat.and_two_pow_sub_one_eq_mod]
theorem put_clear (w p n : Nat) (hw : w < 2 ^ 64) (h : p + n ≤ 64) (h0 : w / 2 ^ p % 2 ^ n = 0) : w &&& (2 ^ 64 - ((2 ^ n - 1) * 2 ^ p + 1)) = w := by
  have hm : (2 ^ n - 1) * 2 ^ p < 2 ^ 64 := by
    have h1 := Nat.two_pow_pos n
    have h2 : 2 ^ n * 2 ^ p ≤ 2 ^ 64 := by rw [← Nat.pow_add]; exact Nat.pow_le_pow_right (by decide) (by omega)
    have h3 : (2 ^ n - 1) * 2 ^ p < 2 ^ n * 2 ^ p := Nat.mul_lt_mul_of_pos_right (by omega) (Nat.two_pow_pos _)
    omega
  apply Nat.eq_of_testBit_eq
  intro i
  rw [Nat.testBit_and, Nat.testBit_two_pow_sub_succ hm]
  by_cases hi : i < 64
  · by_cases hr : p ≤ i ∧ i < p + n
    · have hb : w.testBit i = false := by
        have := congrArg (fun x => x.testBit (i - p)) h0
        simp only [Nat.testBit_mod_two_pow, Nat.testBit_div_two_pow, Nat.zero_testBit] at this
        rw [show i - p + p = i from by omega, decide_eq_true (show i - p < n by omega)] at this
        simpa using this
      rw [hb]; rfl
    · have hb : ((2 ^ n - 1) * 2 ^ p).testBit i = false := by
        rw [Nat.testBit_mul_two_pow, Nat.testBit_two_pow_sub_one]
        by_cases h1 : p ≤ i
        · rw [decide_eq_false (show ¬ (i - p < n) by omega)]; simp
        · rw [decide_eq_false h1]; rfl
      rw [hb, decide_eq_true hi]; simp
  · have hb : w.testBit i = false := Nat.testBit_lt_two_pow (Nat.lt_of_lt_of_le hw (Nat.pow_le_pow_right (by decide) (by omega)))
    rw [hb]; rfl
theorem put_or (w p n x : Nat) (hx : x < 2 ^ n) (h0 : w / 2 ^ p % 2 ^ n = 0) : w ||| x * 2 ^ p = w + x * 2 ^ p := by
  have e1 : w = w / 2 ^ p / 2 ^ n * 2 ^ (n + p) + w % 2 ^ p := by
    have a := Nat.div_add_mod (w / 2 ^ p) (2 ^ n)
    have b := Nat.div_add_mod w (2 ^ p)
    rw [h0, Nat.add_zero] at a
    rw [Nat.pow_add, ← Nat.mul_assoc, Nat.mul_comm _ (2 ^ n), a, Nat.mul_comm, b]
  obtain ⟨hi, hhi⟩ : ∃ hi, hi = w / 2 ^ p / 2 ^ n := ⟨_, rfl⟩
  obtain ⟨lo, hlo⟩ : ∃ lo, lo = w % 2 ^ p := ⟨_, rfl⟩
  have hl : lo < 2 ^ p := by rw [hlo]; exact Nat.mod_lt _ (Nat.two_pow_pos _)
  rw [← hhi, ← hlo] at e1
  have c1 : lo + x * 2 ^ p < 2 ^ (n + p) := by
    have : (x + 1) * 2 ^ p ≤ 2 ^ n * 2 ^ p := Nat.mul_le_mul_right _ (by omega)
    rw [← Nat.pow_add, Nat.add_mul, Nat.one_mul] at this
    omega
  have c2 : lo < 2 ^ (n + p) := Nat.lt_of_le_of_lt (Nat.le_add_right _ _) c1
  have d1 := or_add (a := lo) (n + p) c2 hi rfl
  have d2 := or_add (a := lo + x * 2 ^ p) (n + p) c1 hi rfl
  have d3 := or_add (a := lo) p hl x rfl
  have hw : w = lo ||| hi * 2 ^ (n + p) := by rw [d1]; omega
  calc w ||| x * 2 ^ p = (lo ||| x * 2 ^ p) ||| hi * 2 ^ (n + p) := by rw [hw, Nat.or_assoc, Nat.or_comm (hi * 2 ^ (n + p)), ← Nat.or_assoc]
    _ = w + x * 2 ^ p := by rw [d3, d2]; omega
theorem put_f (w p n x : Nat) (hw : w < 2 ^ 64) (hx : x < 2 ^ 64) (h : p + n ≤ 64) (h0 : w / 2 ^ p % 2 ^ n = 0) : bits_Put.f (w : Int) (p : Int) (n : Int) (x : Int) = some (((w + x % 2 ^ n * 2 ^ p : Nat) : Int), true) := by
  have h2 : 2 ^ n - 1 < 2 ^ 64 := by have := Nat.pow_le_pow_right (show 0 < 2 by decide) (show n ≤ 64 by omega); have := Nat.two_pow_pos n; omega
  have hp : 2 ^ n * 2 ^ p ≤ 2 ^ 64 := by rw [← Nat.pow_add]; exact Nat.pow_le_pow_right (by decide) (by omega)
  have hm : ∀ y, y < 2 ^ n → y * 2 ^ p < 2 ^ 64 := by
    intro y hy
    have h3 : y * 2 ^ p < 2 ^ n * 2 ^ p := Nat.mul_lt_mul_of_pos_right hy (Nat.two_pow_pos _)
    omega
  have hmm := hm (2 ^ n - 1) (by have := Nat.two_pow_pos n; omega)
  have hxn : x % 2 ^ n < 2 ^ n := Nat.mod_lt _ (Nat.two_pow_pos _)
  have hmx := hm (x % 2 ^ n) hxn
  unfold bits_Put.f
  rw [may_bits p n h, Option.bind_some, if_pos rfl, mask_f n (by omega), Option.bind_some, if_pos (by omega), shl_nat _ _ (by omega) hmm, and_nat _ _ hx h2, Nat.and_two_pow_sub_one_eq_mod, shl_nat _ _ (by omega) hmx, andNot_nat _ _ hw hmm, put_clear w p n hw h h0, or_nat _ _ hw hmx, put_or w p n _ hxn h0]
theorem rbit_f (v i : Nat) (hi : i ≤ 64) : caponierref01_Bit.f (v : Int) (i : Int) = some ((v / 2 ^ i % 2 : Nat) : Int) := by
  unfold caponierref01_Bit.f
  rw [u64_nat i (by omega), if_pos (by omega), shr_nat v i hi, Int.tmod_eq_emod_of_nonneg (Int.natCast_nonneg _)]
  rfl
theorem rfield_l0 (v a : Nat) (hv : v < 2 ^ 64) : ∀ (m k out : Nat), m < k → a + m ≤ 64 → (out + 1) * 2 ^ m ≤ 2 ^ 64 →
    caponierref01_Field.l0 k (v : Int) (a : Int) (out : Int) ((a : Int) + m - 1) = some (((out * 2 ^ m + v / 2 ^ a % 2 ^ m : Nat) : Int), true) := by
  intro m
  induction m with
  | zero =>
    intro k out hk ha ho
    obtain ⟨k, rfl⟩ : ∃ j, k = j + 1 := ⟨k - 1, by omega⟩
    rw [caponierref01_Field.l0, if_neg (by omega)]
    simp [Nat.mod_one]
  | succ m ih =>
    intro k out hk ha ho
    obtain ⟨k, rfl⟩ : ∃ j, k = j + 1 := ⟨k - 1, by omega⟩
    have hb : v / 2 ^ (a + m) % 2 < 2 := Nat.mod_lt _ (by decide)
    have ho2 : (2 * out + (v / 2 ^ (a + m) % 2) + 1) * 2 ^ m ≤ 2 ^ 64 := by
      rw [Nat.pow_succ, Nat.mul_comm (2 ^ m) 2, ← Nat.mul_assoc] at ho
      exact Nat.le_trans (Nat.mul_le_mul_right _ (by omega)) ho
    have hsm : 2 * out + (v / 2 ^ (a + m) % 2) + 1 ≤ 2 ^ 64 := Nat.le_trans (Nat.le_mul_of_pos_right _ (Nat.two_pow_pos _)) ho2
    rw [caponierref01_Field.l0, if_pos (by omega), show (a : Int) + ((m + 1 : Nat) : Int) - 1 = ((a + m : Nat) : Int) from by omega, rbit_f v (a + m) (by omega), Option.bind_some,
      show (2 : Int) * (out : Int) = ((2 * out : Nat) : Int) from by omega, u64_nat (2 * out) (by omega), show ((2 * out : Nat) : Int) + ((v / 2 ^ (a + m) % 2 : Nat) : Int) = ((2 * out + v / 2 ^ (a + m) % 2 : Nat) : Int) from by omega, u64_nat _ (by omega), IntWalk.wrap64_in _ (by omega),
      show ((a + m : Nat) : Int) - 1 = (a : Int) + (m : Int) - 1 from by omega, ih k _ (by omega) (by omega) ho2]
    have e1 : v / 2 ^ a % 2 ^ (m + 1) = v / 2 ^ a % 2 ^ m + 2 ^ m * (v / 2 ^ (a + m) % 2) := by rw [Nat.mod_pow_succ, Nat.div_div_eq_div_mul, ← Nat.pow_add]
    rw [e1, Nat.pow_succ, Nat.add_mul, Nat.mul_comm 2 out, Nat.mul_assoc, Nat.mul_comm 2 (2 ^ m), Nat.mul_comm (v / 2 ^ (a + m) % 2) (2 ^ m)]
    congr 2
    omega
theorem rfield_f (k v a n : Nat) (hk : n < k) (hv : v < 2 ^ 64) (h : a + n ≤ 64) : caponierref01_Field.f k (v : Int) (a : Int) (n : Int) = some (((v / 2 ^ a % 2 ^ n : Nat) : Int), true) := by
  unfold caponierref01_Field.f
  have hm : caponierref01_May.f (a : Int) (n : Int) = some true := by
    unfold caponierref01_May.f
    repeat' rw [if_pos (by omega)]
    try rw [IntWalk.wrap64_in _ (by omega)]
    exact congrArg some (decide_eq_true (by omega))
  rw [hm, Option.bind_some, if_pos rfl, IntWalk.wrap64_in ((a : Int) + n) (by omega), IntWalk.wrap64_in _ (by omega)]
  have := rfield_l0 v a hv n k 0 hk h (by rw [Nat.zero_add, Nat.one_mul]; exact Nat.pow_le_pow_right (by decide) (by omega))
  rw [Nat.zero_mul, Nat.zero_add] at this
  exact this
theorem rbit2_l0 : ∀ (m k v i : Nat), m < k → i + m ≤ 64 → v * 2 ^ m < 2 ^ 64 → caponierref02_bit.l0 k ((i + m : Nat) : Int) (v : Int) (i : Int) = some ((v * 2 ^ m : Nat) : Int) := by
  intro m
  induction m with
  | zero =>
    intro k v i hk hi hv
    obtain ⟨k, rfl⟩ : ∃ j, k = j + 1 := ⟨k - 1, by omega⟩
    rw [caponierref02_bit.l0, if_neg (by omega), Nat.pow_zero, Nat.mul_one]
  | succ m ih =>
    intro k v i hk hi hv
    obtain ⟨k, rfl⟩ : ∃ j, k = j + 1 := ⟨k - 1, by omega⟩
    have hv2 : v * 2 * 2 ^ m < 2 ^ 64 := by rw [Nat.mul_assoc, Nat.mul_comm 2, ← Nat.pow_succ]; exact hv
    have hv3 : v * 2 < 2 ^ 64 := Nat.lt_of_le_of_lt (Nat.le_mul_of_pos_right _ (Nat.two_pow_pos _)) hv2
    rw [caponierref02_bit.l0, if_pos (by omega), show (v : Int) * 2 = ((v * 2 : Nat) : Int) from by omega, u64_nat _ hv3, IntWalk.wrap64_in _ (by omega), show (i : Int) + 1 = ((i + 1 : Nat) : Int) from by omega,
      show i + (m + 1) = (i + 1) + m from by omega, ih k (v * 2) (i + 1) (by omega) (by omega) hv2, Nat.mul_assoc, Nat.mul_comm 2, ← Nat.pow_succ]
def u64N (x : Int) : Nat := (x % 18446744073709551616).toNat
theorem u64N_lt (x : Int) : u64N x < 2 ^ 64 := by unfold u64N; omega
theorem wrap_u64N (x : Int) : IntKind.u64.wrap x = (u64N x : Int) := by
  unfold u64N
  rw [Int.toNat_of_nonneg (by omega)]
  simp [IntKind.wrap, IntKind.bits, IntKind.signed]
theorem rbit2_f (k : Nat) (x : Int) (a n p : Nat) (hk : 65 < k) (h : a + n ≤ 64) (ht : p + n ≤ 64) : caponierref02_bit.f k x (a : Int) (n : Int) (p : Int) = some ((u64N x / 2 ^ a % 2 ^ n * 2 ^ p : Nat) : Int) := by
  unfold caponierref02_bit.f
  rw [wrap_u64N, rfield_f k (u64N x) a n (by omega) (u64N_lt x) h, Option.bind_some]
  have hp : 2 ^ n * 2 ^ p ≤ 2 ^ 64 := by rw [← Nat.pow_add]; exact Nat.pow_le_pow_right (by decide) (by omega)
  have h3 : u64N x / 2 ^ a % 2 ^ n * 2 ^ p < 2 ^ n * 2 ^ p := Nat.mul_lt_mul_of_pos_right (Nat.mod_lt _ (Nat.two_pow_pos _)) (Nat.two_pow_pos _)
  have := rbit2_l0 p k (u64N x / 2 ^ a % 2 ^ n) 0 (by omega) (by omega) (by omega)
  rw [Nat.zero_add] at this
  exact this
end Go.Proofs.YtaoajlaocphgdaaDoor.PA
end
section
namespace Go.Proofs.YtaoajlaocphgdaaDoor.PA
open Go.RowKit Go.Proofs.YtaoajlaocphgdaaDoorW.PrintWords Go.Proofs.YtaoajlaocphgdaaDoorW.PrintLast Go.Proofs.YtaoajlaocphgdaaDoorW.PrintMore
set_option linter.unusedVariables false
set_option linter.unusedSimpArgs false
theorem wrap_u64 (n : Int) : IntKind.u64.wrap n = n % 18446744073709551616 := by simp [IntKind.wrap, IntKind.bits, IntKind.signed]
def sgn (v n : Nat) : Int := if v % 2 ^ n < 2 ^ (n - 1) then ((v % 2 ^ n : Nat) : Int) else ((v % 2 ^ n : Nat) : Int) - ((2 ^ n : Nat) : Int)
theorem sign_f (v n : Nat) (h1 : 1 ≤ n) (h2 : n ≤ 64) : bits_Sign.f (v : Int) (n : Int) = some (sgn v n) := by
  unfold bits_Sign.f
  rw [if_neg (by omega), if_neg (by omega), IntWalk.wrap64_in _ (by omega), if_pos (by omega)]
  obtain ⟨m, rfl⟩ : ∃ m, n = m + 1 := ⟨n - 1, by omega⟩
  have hq : 2 ^ (m + 1) * 2 ^ (64 - (m + 1)) = 2 ^ 64 := by rw [← Nat.pow_add, show m + 1 + (64 - (m + 1)) = 64 from by omega]
  have hh : 2 ^ m * 2 ^ (64 - (m + 1)) = 2 ^ 63 := by rw [← Nat.pow_add, show m + (64 - (m + 1)) = 63 from by omega]
  have e64 : (64 : Int) - ((m + 1 : Nat) : Int) = ((64 - (m + 1) : Nat) : Int) := by omega
  rw [e64]
  have es : shl .u64 (v : Int) ((64 - (m + 1) : Nat) : Int) = ((v % 2 ^ (m + 1) * 2 ^ (64 - (m + 1)) : Nat) : Int) := by
    unfold shl
    rw [show min (((64 - (m + 1) : Nat) : Int)).toNat IntKind.u64.bits = 64 - (m + 1) from by rw [Int.toNat_natCast]; exact Nat.min_eq_left (by show _ ≤ 64; omega), wrap_u64]
    rw [← Nat.mul_mod_mul_right, hq, Int.natCast_emod, Int.natCast_mul, Int.natCast_pow]
    rfl
  rw [es]
  obtain ⟨q, hqq⟩ : ∃ q, q = 2 ^ (64 - (m + 1)) := ⟨_, rfl⟩
  obtain ⟨r, hr⟩ : ∃ r, r = v % 2 ^ (m + 1) := ⟨_, rfl⟩
  have hrl : r < 2 ^ (m + 1) := by rw [hr]; exact Nat.mod_lt _ (Nat.two_pow_pos _)
  have hqp : 0 < q := by rw [hqq]; exact Nat.two_pow_pos _
  unfold sgn shr
  rw [show min (((64 - (m + 1) : Nat) : Int)).toNat IntKind.i64.bits = 64 - (m + 1) from by rw [Int.toNat_natCast]; exact Nat.min_eq_left (by show _ ≤ 64; omega), show m + 1 - 1 = m from rfl, ← hr, ← hqq,
    show (2 : Int) ^ (64 - (m + 1)) = (q : Int) from by rw [hqq, Int.natCast_pow]; rfl]
  rw [← hqq] at hq hh
  have hrq : r * q < 2 ^ 64 := by rw [← hq]; exact Nat.mul_lt_mul_of_pos_right hrl hqp
  by_cases hc : r < 2 ^ m
  · have hlt : r * q < 2 ^ 63 := by rw [← hh]; exact Nat.mul_lt_mul_of_pos_right hc hqp
    rw [if_pos hc, IntWalk.wrap64_in _ (by omega), Int.natCast_mul, Int.mul_ediv_cancel _ (by omega)]
  · have hge : 2 ^ 63 ≤ r * q := by rw [← hh]; exact Nat.mul_le_mul_right _ (by omega)
    have hw : wrap64 ((r * q : Nat) : Int) = ((r : Int) - ((2 ^ (m + 1) : Nat) : Int)) * (q : Int) := by
      rw [Int.sub_mul, ← Int.natCast_mul, ← Int.natCast_mul, hq]
      unfold wrap64
      omega
    rw [if_neg hc, hw, Int.mul_ediv_cancel _ (by omega)]
theorem rsign_l0 (v n T : Nat) (h1 : 1 ≤ n) (h2 : n ≤ 64) (hT : T < 2 ^ 64)
    (hb : ∀ i, i < 64 → T / 2 ^ i % 2 = if i < n then v / 2 ^ i % 2 else v / 2 ^ (n - 1) % 2) : ∀ (m k : Nat), m < k → m ≤ 64 →
    caponierref01_Sign.l0 k (v : Int) (n : Int) ((T / 2 ^ m : Nat) : Int) ((m : Int) - 1) = some (wrap64 (T : Int)) := by
  intro m
  induction m with
  | zero =>
    intro k hk hm
    obtain ⟨k, rfl⟩ : ∃ j, k = j + 1 := ⟨k - 1, by omega⟩
    rw [caponierref01_Sign.l0, if_neg (by omega), Nat.pow_zero, Nat.div_one]
  | succ m ih =>
    intro k hk hm
    obtain ⟨k, rfl⟩ : ∃ j, k = j + 1 := ⟨k - 1, by omega⟩
    have hbm := hb m (by omega)
    have hd : T / 2 ^ m = 2 * (T / 2 ^ (m + 1)) + T / 2 ^ m % 2 := by
      have := Nat.div_add_mod (T / 2 ^ m) 2
      rw [Nat.div_div_eq_div_mul, ← Nat.pow_succ] at this
      exact this.symm
    have hdl : T / 2 ^ m ≤ T := Nat.div_le_self _ _
    have hstep : ∀ b : Nat, b = T / 2 ^ m % 2 → IntKind.u64.wrap (IntKind.u64.wrap (2 * ((T / 2 ^ (m + 1) : Nat) : Int)) + (b : Int)) = ((T / 2 ^ m : Nat) : Int) := by
      intro b he
      rw [show (2 : Int) * ((T / 2 ^ (m + 1) : Nat) : Int) = ((2 * (T / 2 ^ (m + 1)) : Nat) : Int) from by rw [Int.natCast_mul]; rfl, u64_nat _ (by omega), ← Int.natCast_add, u64_nat _ (by omega)]
      congr 1
      omega
    rw [caponierref01_Sign.l0, if_pos (by omega), IntWalk.wrap64_in _ (by omega), show (n : Int) - 1 = ((n - 1 : Nat) : Int) from by omega, rbit_f v (n - 1) (by omega), Option.bind_some,
      show ((m + 1 : Nat) : Int) - 1 = (m : Int) from by omega]
    by_cases hc : m < n
    · rw [if_pos (by omega), rbit_f v m (by omega), Option.bind_some, hstep _ (by rw [hbm, if_pos hc]), IntWalk.wrap64_in _ (by omega)]
      exact ih k (by omega) (by omega)
    · rw [if_neg (by omega), hstep _ (by rw [hbm, if_neg hc]), IntWalk.wrap64_in _ (by omega)]
      exact ih k (by omega) (by omega)
theorem rsign_f (k v n : Nat) (hk : 67 < k) (h1 : 1 ≤ n) (h2 : n ≤ 63) : caponierref01_Sign.f k (v : Int) (n : Int) = some (sgn v n) := by
  obtain ⟨k, rfl⟩ : ∃ j, k = j + 1 := ⟨k - 1, by omega⟩
  unfold caponierref01_Sign.f
  rw [if_neg (by omega), decide_eq_false (show ¬ ((n : Int) > 64) by omega), caponierref01_Sign.j0, if_neg (by decide)]
  have hp : 2 ^ n < 2 ^ 64 := Nat.pow_lt_pow_right (by decide) (by omega)
  have hpp := Nat.two_pow_pos n
  have hr : v % 2 ^ n < 2 ^ n := Nat.mod_lt _ hpp
  have hpm : 2 ^ n = 2 * 2 ^ (n - 1) := by rw [Nat.mul_comm, ← Nat.pow_succ, Nat.succ_eq_add_one, Nat.sub_add_cancel h1]
  have hbit : ∀ i, i < n → v % 2 ^ n / 2 ^ i % 2 = v / 2 ^ i % 2 := by
    intro i hi
    have a := Nat.testBit_mod_two_pow v n i
    rw [decide_eq_true hi, Bool.true_and, Nat.testBit_eq_decide_div_mod_eq, Nat.testBit_eq_decide_div_mod_eq] at a
    have := decide_eq_decide.1 a
    omega
  have htop : v % 2 ^ n / 2 ^ (n - 1) = v / 2 ^ (n - 1) % 2 := by
    rw [← hbit (n - 1) (by omega)]
    have : v % 2 ^ n / 2 ^ (n - 1) < 2 := (Nat.div_lt_iff_lt_mul (Nat.two_pow_pos _)).2 (by omega)
    exact (Nat.mod_eq_of_lt this).symm
  by_cases hc : v % 2 ^ n < 2 ^ (n - 1)
  · have h0 : v / 2 ^ (n - 1) % 2 = 0 := by rw [← htop]; exact Nat.div_eq_of_lt hc
    have := rsign_l0 v n (v % 2 ^ n) h1 (by omega) (by omega) (fun i hi => by
      by_cases hin : i < n
      · rw [if_pos hin, hbit i hin]
      · rw [if_neg hin, h0, Nat.div_eq_of_lt (Nat.lt_of_lt_of_le hr (Nat.pow_le_pow_right (by decide) (by omega)))]) 64 k (by omega) (by omega)
    rw [Nat.div_eq_of_lt (Nat.lt_trans hr hp)] at this
    refine this.trans ?_
    unfold sgn
    have h63 : 2 ^ (n - 1) ≤ 2 ^ 62 := Nat.pow_le_pow_right (by decide) (by omega)
    rw [if_pos hc, IntWalk.wrap64_in _ (by omega)]
  · have h0 : v / 2 ^ (n - 1) % 2 = 1 := by
      have : 1 ≤ v % 2 ^ n / 2 ^ (n - 1) := (Nat.le_div_iff_mul_le (Nat.two_pow_pos _)).2 (by omega)
      omega
    obtain ⟨c, hcq⟩ : ∃ c, 2 ^ 64 = 2 ^ n * c ∧ c = 2 ^ (64 - n) := ⟨2 ^ (64 - n), by rw [← Nat.pow_add, show n + (64 - n) = 64 from by omega], rfl⟩
    have hcp : 0 < c := by rw [hcq.2]; exact Nat.two_pow_pos _
    have eT : v % 2 ^ n + (2 ^ 64 - 2 ^ n) = v % 2 ^ n + 2 ^ n * (2 ^ (64 - n) - 1) := by rw [Nat.mul_sub, Nat.mul_one, ← hcq.2, ← hcq.1]
    have := rsign_l0 v n (v % 2 ^ n + (2 ^ 64 - 2 ^ n)) h1 (by omega) (by omega) (fun i hi => by
      rw [eT]
      have tb := Nat.testBit_two_pow_mul_add (2 ^ (64 - n) - 1) hr i
      rw [Nat.add_comm] at tb
      rw [Nat.testBit_eq_decide_div_mod_eq] at tb
      by_cases hin : i < n
      · rw [if_pos hin] at tb ⊢
        rw [Nat.testBit_eq_decide_div_mod_eq] at tb
        have := decide_eq_decide.1 tb
        rw [hbit i hin] at this
        omega
      · rw [if_neg hin] at tb ⊢
        rw [Nat.testBit_two_pow_sub_one, decide_eq_true (show i - n < 64 - n by omega)] at tb
        have := of_decide_eq_true tb
        omega) 64 k (by omega) (by omega)
    rw [Nat.div_eq_of_lt (by omega)] at this
    refine this.trans ?_
    unfold sgn
    rw [if_neg hc]
    unfold wrap64
    have h63 : 2 ^ n ≤ 2 ^ 63 := Nat.pow_le_pow_right (by decide) (by omega)
    obtain ⟨P, hP⟩ : ∃ P, P = 2 ^ n := ⟨_, rfl⟩
    obtain ⟨r, hrr⟩ : ∃ r, r = v % 2 ^ n := ⟨_, rfl⟩
    have g1 : r < P := by rw [hP, hrr]; exact hr
    have g2 : P ≤ 2 ^ 63 := by rw [hP]; exact h63
    have g3 : P ≤ 2 * r := by rw [hP, hrr]; omega
    rw [← hrr, ← hP]
    clear hpm hcq eT
    have eN : ((r + (2 ^ 64 - P) : Nat) : Int) = (r : Int) + 18446744073709551616 - (P : Int) := by omega
    rw [eN]
    refine congrArg some ?_
    omega
end Go.Proofs.YtaoajlaocphgdaaDoor.PA
end
section
namespace Go.Proofs.YtaoajlaocphgdaaDoor.PA
open Go.RowKit Go.Proofs.YtaoajlaocphgdaaDoorW.PrintWords Go.Proofs.YtaoajlaocphgdaaDoorW.PrintLast Go.Proofs.YtaoajlaocphgdaaDoorW.PrintMore
set_option linter.unusedVariables false
set_option linter.unusedSimpArgs false
inductive Fm where
  | R | I | S | B | U | J | E
deriving DecidableEq
def Fm.bytes : Fm → ByteArray
  | .R => ⟨#[82]⟩
  | .I => ⟨#[73]⟩
  | .S => ⟨#[83]⟩
  | .B => ⟨#[66]⟩
  | .U => ⟨#[85]⟩
  | .J => ⟨#[74]⟩
  | .E => ⟨#[69]⟩
def fm (op : Nat) : Fm := if op ≤ 15 then .R else if op ≤ 28 then .I else if op ≤ 31 then .S else if op ≤ 37 then .B else if op ≤ 39 then .U else if op = 40 then .J else if op = 41 then .I else .E
def lowN (op : Nat) : Nat := if op ≤ 15 then 51 else if op ≤ 24 then 19 else if op ≤ 28 then 3 else if op ≤ 31 then 35 else if op ≤ 37 then 99 else if op = 38 then 55 else if op = 39 then 23 else if op = 40 then 111 else if op = 41 then 103 else 115
def kindN (op : Nat) : Nat := [0, 0, 1, 2, 3, 4, 5, 5, 6, 7, 0, 3, 4, 5, 6, 7, 0, 2, 3, 4, 6, 7, 1, 5, 5, 0, 4, 2, 3, 0, 2, 3, 0, 1, 4, 5, 6, 7, 0, 0, 0, 0, 0].getD op 0
def topN (op : Nat) : Nat := if op = 1 ∨ op = 7 ∨ op = 24 then 32 else if 10 ≤ op ∧ op ≤ 15 then 1 else 0
def shiftN (op : Nat) : Bool := decide (22 ≤ op ∧ op ≤ 24)
theorem l82 : (⟨#[82]⟩ : ByteArray).toList = [82] := by kernel_rfl
theorem l73 : (⟨#[73]⟩ : ByteArray).toList = [73] := by kernel_rfl
theorem l83 : (⟨#[83]⟩ : ByteArray).toList = [83] := by kernel_rfl
theorem l66 : (⟨#[66]⟩ : ByteArray).toList = [66] := by kernel_rfl
theorem l85 : (⟨#[85]⟩ : ByteArray).toList = [85] := by kernel_rfl
theorem l74 : (⟨#[74]⟩ : ByteArray).toList = [74] := by kernel_rfl
theorem l69 : (⟨#[69]⟩ : ByteArray).toList = [69] := by kernel_rfl
theorem low_f (op : Nat) (h : op < 43) : caponierref02_low.f (op : Int) = some ((lowN op : Nat) : Int) :=
  (by decide +kernel : ∀ o : Fin 43, caponierref02_low.f ((o.val : Nat) : Int) = some ((lowN o.val : Nat) : Int)) ⟨op, h⟩
theorem kind_f (op : Nat) (h : op < 43) : caponierref02_Kind.f (op : Int) = some ((kindN op : Nat) : Int) :=
  (by decide +kernel : ∀ o : Fin 43, caponierref02_Kind.f ((o.val : Nat) : Int) = some ((kindN o.val : Nat) : Int)) ⟨op, h⟩
theorem shift_f (op : Nat) (h : op < 43) : caponierref02_Shift.f (op : Int) = some (shiftN op) :=
  (by decide +kernel : ∀ o : Fin 43, caponierref02_Shift.f ((o.val : Nat) : Int) = some (shiftN o.val)) ⟨op, h⟩
theorem tab_lt (op : Nat) (h : op < 43) : lowN op < 128 ∧ kindN op < 8 ∧ topN op < 64 :=
  (by decide +kernel : ∀ o : Fin 43, lowN o.val < 128 ∧ kindN o.val < 8 ∧ topN o.val < 64) ⟨op, h⟩
theorem form_f (k op : Nat) (h : op < 43) : caponierref02_Form.f (k + 2) (op : Int) = some (fm op).bytes := by
  unfold caponierref02_Form.f fm
  rw [if_neg (by omega), decide_eq_false (by omega)]
  simp only [caponierref02_Form.j0, caponierref02_Form.j1]
  by_cases h1 : op ≤ 15
  · rw [if_neg (by decide), if_pos (by omega), if_pos h1]; rfl
  by_cases h2 : op ≤ 28
  · rw [if_neg (by decide), if_neg (by omega), if_pos (by omega), if_neg h1, if_pos h2]; rfl
  rw [if_neg (by decide), if_neg (by omega), if_neg (by omega), if_neg h1, if_neg h2]
  by_cases h8 : op = 41
  · subst h8; rfl
  rw [show ((op : Int) == 41) = false from beq_eq_false_iff_ne.2 (by omega), if_neg (by decide)]
  by_cases h3 : op ≤ 31
  · rw [if_pos (by omega), if_pos h3]; rfl
  by_cases h4 : op ≤ 37
  · rw [if_neg (by omega), if_pos (by omega), if_neg h3, if_pos h4]; rfl
  by_cases h5 : op ≤ 39
  · rw [if_neg (by omega), if_neg (by omega), if_pos (by omega), if_neg h3, if_neg h4, if_pos h5]; rfl
  rw [if_neg (by omega), if_neg (by omega), if_neg (by omega), if_neg h3, if_neg h4, if_neg h5]
  by_cases h6 : op = 40
  · subst h6; rfl
  · rw [if_neg (by omega), if_neg h6, if_neg h8]; rfl
theorem top_f (k op : Nat) (h : op < 43) : caponierref02_Top.f (k + 1) (op : Int) = some ((topN op : Nat) : Int) := by
  unfold caponierref02_Top.f topN
  simp only [caponierref02_Top.j0]
  by_cases h1 : op = 1
  · subst h1; rfl
  by_cases h2 : op = 7
  · subst h2; rfl
  by_cases h3 : op = 24
  · subst h3; rfl
  rw [if_neg (show ¬ ((op : Int) = 1) by omega), if_neg (show ¬ ((op : Int) = 7) by omega), show ((op : Int) == 24) = false from beq_eq_false_iff_ne.2 (by omega), if_neg Bool.false_ne_true, if_neg (show ¬ (op = 1 ∨ op = 7 ∨ op = 24) by omega)]
  by_cases h4 : 10 ≤ op
  · by_cases h5 : op ≤ 15
    · rw [if_pos (show (op : Int) ≥ 10 by omega), if_pos (show (op : Int) ≤ 15 by omega), if_pos (show 10 ≤ op ∧ op ≤ 15 by omega)]; rfl
    · rw [if_pos (show (op : Int) ≥ 10 by omega), if_neg (show ¬ ((op : Int) ≤ 15) by omega), if_neg (show ¬ (10 ≤ op ∧ op ≤ 15) by omega)]; rfl
  · rw [if_neg (show ¬ ((op : Int) ≥ 10) by omega), if_neg (show ¬ (10 ≤ op ∧ op ≤ 15) by omega)]; rfl
theorem form_some (k : Nat) (op : Int) : ∃ f, caponierref02_Form.f (k + 2) op = some f := by
  unfold caponierref02_Form.f
  simp only [caponierref02_Form.j0, caponierref02_Form.j1]
  repeat' split
  all_goals exact ⟨_, rfl⟩
theorem shift_some (op : Int) : ∃ b, caponierref02_Shift.f op = some b := by
  unfold caponierref02_Shift.f
  split <;> exact ⟨_, rfl⟩
theorem may2_j2 (k : Nat) (a : Int) (f : ByteArray) (b : Bool) (c d e g h : Int) : (caponierref02_May.j2 (k + 1) a f b c d e g h).isSome = true := by
  obtain ⟨s, hs⟩ := shift_some c
  simp only [caponierref02_May.j2, hs, Option.bind_some]
  repeat' split
  all_goals rfl
theorem may2_j1 (k : Nat) (f : ByteArray) (b : Bool) (c d e g h : Int) : (caponierref02_May.j1 (k + 2) f b c d e g h).isSome = true := by
  simp only [caponierref02_May.j1]
  repeat' split
  all_goals first | rfl | exact may2_j2 _ _ _ _ _ _ _ _ _
theorem may2_j0 (k : Nat) (f : ByteArray) (b : Bool) (c d e g h : Int) : (caponierref02_May.j0 (k + 3) f b c d e g h).isSome = true := by
  have H : ∀ b', (caponierref02_May.j1 (k + 2) f b' c d e g h).isSome = true := fun b' => may2_j1 _ _ _ _ _ _ _ _
  rw [caponierref02_May.j0]
  generalize caponierref02_May.j1 (k + 2) f = z at H ⊢
  repeat' split
  all_goals first | rfl | exact H _
theorem may2_some (k : Nat) (c d e g h : Int) : ∃ r, caponierref02_May.f (k + 3) c d e g h = some r := by
  obtain ⟨f, hf⟩ := form_some (k + 1) c
  refine Option.isSome_iff_exists.1 ?_
  unfold caponierref02_May.f
  rw [hf, Option.bind_some]
  repeat' split
  all_goals exact may2_j0 _ _ _ _ _ _ _ _
def wordN (op rd rs1 rs2 u : Nat) : Nat :=
  match fm op with
  | .R => lowN op + rd * 128 + rs1 * 32768 + rs2 * 1048576 + kindN op * 4096 + topN op * 33554432
  | .I => lowN op + rd * 128 + rs1 * 32768 + rs2 * 1048576 + kindN op * 4096 + u % 4096 * 1048576 + (if shiftN op then topN op * 33554432 else 0)
  | .S => lowN op + rd * 128 + rs1 * 32768 + rs2 * 1048576 + kindN op * 4096 + u % 32 * 128 + u / 32 % 128 * 33554432
  | .B => lowN op + rd * 128 + rs1 * 32768 + rs2 * 1048576 + kindN op * 4096 + u / 2 % 16 * 256 + u / 32 % 64 * 33554432 + u / 2048 % 2 * 128 + u / 4096 % 2 * 2147483648
  | .U => lowN op + rd * 128 + rs1 * 32768 + rs2 * 1048576 + u / 4096 % 1048576 * 4096
  | .J => lowN op + rd * 128 + rs1 * 32768 + rs2 * 1048576 + u / 2 % 1024 * 2097152 + u / 2048 % 2 * 1048576 + u / 4096 % 256 * 4096 + u / 1048576 % 2 * 2147483648
  | .E => 1048691
set_option maxHeartbeats 1000000 in
theorem enc_f (k op rd rs1 rs2 : Nat) (imm : Int) (hop : op < 43) (h1 : rd < 32) (h2 : rs1 < 32) (h3 : rs2 < 32) (hm : caponierref02_May.f (k + 100) op rd rs1 rs2 imm = some true) :
    caponierref02_Encode.f (k + 100) op rd rs1 rs2 imm = some (((wordN op rd rs1 rs2 (u64N imm) % 4294967296 : Nat) : Int), 0) := by
  obtain ⟨t1, t2, t3⟩ := tab_lt op hop
  unfold caponierref02_Encode.f
  rw [hm, Option.bind_some, if_pos rfl]
  by_cases h42 : op = 42
  · subst h42; rfl
  have hu := u64N_lt imm
  have b1 : ∀ j, caponierref02_bit.f (j + 70) imm 0 12 20 = some ((u64N imm / 2 ^ 0 % 2 ^ 12 * 2 ^ 20 : Nat) : Int) := fun j => rbit2_f (j + 70) imm 0 12 20 (by omega) (by omega) (by omega)
  have b2 : ∀ j, caponierref02_bit.f (j + 70) imm 0 5 7 = some ((u64N imm / 2 ^ 0 % 2 ^ 5 * 2 ^ 7 : Nat) : Int) := fun j => rbit2_f (j + 70) imm 0 5 7 (by omega) (by omega) (by omega)
  have b3 : ∀ j, caponierref02_bit.f (j + 70) imm 5 7 25 = some ((u64N imm / 2 ^ 5 % 2 ^ 7 * 2 ^ 25 : Nat) : Int) := fun j => rbit2_f (j + 70) imm 5 7 25 (by omega) (by omega) (by omega)
  have b4 : ∀ j, caponierref02_bit.f (j + 70) imm 1 4 8 = some ((u64N imm / 2 ^ 1 % 2 ^ 4 * 2 ^ 8 : Nat) : Int) := fun j => rbit2_f (j + 70) imm 1 4 8 (by omega) (by omega) (by omega)
  have b5 : ∀ j, caponierref02_bit.f (j + 70) imm 5 6 25 = some ((u64N imm / 2 ^ 5 % 2 ^ 6 * 2 ^ 25 : Nat) : Int) := fun j => rbit2_f (j + 70) imm 5 6 25 (by omega) (by omega) (by omega)
  have b6 : ∀ j, caponierref02_bit.f (j + 70) imm 11 1 7 = some ((u64N imm / 2 ^ 11 % 2 ^ 1 * 2 ^ 7 : Nat) : Int) := fun j => rbit2_f (j + 70) imm 11 1 7 (by omega) (by omega) (by omega)
  have b7 : ∀ j, caponierref02_bit.f (j + 70) imm 12 1 31 = some ((u64N imm / 2 ^ 12 % 2 ^ 1 * 2 ^ 31 : Nat) : Int) := fun j => rbit2_f (j + 70) imm 12 1 31 (by omega) (by omega) (by omega)
  have b8 : ∀ j, caponierref02_bit.f (j + 70) imm 12 20 12 = some ((u64N imm / 2 ^ 12 % 2 ^ 20 * 2 ^ 12 : Nat) : Int) := fun j => rbit2_f (j + 70) imm 12 20 12 (by omega) (by omega) (by omega)
  have b9 : ∀ j, caponierref02_bit.f (j + 70) imm 1 10 21 = some ((u64N imm / 2 ^ 1 % 2 ^ 10 * 2 ^ 21 : Nat) : Int) := fun j => rbit2_f (j + 70) imm 1 10 21 (by omega) (by omega) (by omega)
  have b10 : ∀ j, caponierref02_bit.f (j + 70) imm 11 1 20 = some ((u64N imm / 2 ^ 11 % 2 ^ 1 * 2 ^ 20 : Nat) : Int) := fun j => rbit2_f (j + 70) imm 11 1 20 (by omega) (by omega) (by omega)
  have b11 : ∀ j, caponierref02_bit.f (j + 70) imm 12 8 12 = some ((u64N imm / 2 ^ 12 % 2 ^ 8 * 2 ^ 12 : Nat) : Int) := fun j => rbit2_f (j + 70) imm 12 8 12 (by omega) (by omega) (by omega)
  have b12 : ∀ j, caponierref02_bit.f (j + 70) imm 20 1 31 = some ((u64N imm / 2 ^ 20 % 2 ^ 1 * 2 ^ 31 : Nat) : Int) := fun j => rbit2_f (j + 70) imm 20 1 31 (by omega) (by omega) (by omega)
  obtain ⟨u, hu2⟩ : ∃ u, u = u64N imm := ⟨_, rfl⟩
  rw [← hu2] at b1 b2 b3 b4 b5 b6 b7 b8 b9 b10 b11 b12 ⊢
  rw [if_neg (by omega), form_f (k + 98) op hop, Option.bind_some, low_f op hop, Option.bind_some]
  have ht := fun j => top_f j op hop
  have hk := kind_f op hop
  have hs := shift_f op hop
  unfold wordN
  have h42' : fm op ≠ .E := by
    unfold fm
    repeat' split
    all_goals first | (intro h; cases h; done) | (exfalso; omega)
  cases hf : fm op
  case E => exact absurd hf h42'
  case I =>
    cases hsh : shiftN op
    all_goals
      simp [Fm.bytes, l82, l73, l83, l66, l85, l74, l69, caponierref02_Encode.j0, caponierref02_Encode.j1, hk, ht, hs, hsh, b1, wrap_u64]
      omega
  all_goals
    simp [Fm.bytes, l82, l73, l83, l66, l85, l74, l69, caponierref02_Encode.j0, caponierref02_Encode.j1, hk, ht, b2, b3, b4, b5, b6, b7, b8, b9, b10, b11, b12, wrap_u64]
    omega
theorem enc_some (k op rd rs1 rs2 : Nat) (imm : Int) (hop : op < 43) (h1 : rd < 32) (h2 : rs1 < 32) (h3 : rs2 < 32) :
    caponierref02_Encode.f (k + 100) op rd rs1 rs2 imm = some (0, 1) ∨ caponierref02_Encode.f (k + 100) op rd rs1 rs2 imm = some (((wordN op rd rs1 rs2 (u64N imm) % 4294967296 : Nat) : Int), 0) := by
  obtain ⟨b, hb⟩ := may2_some (k + 97) op rd rs1 rs2 imm
  cases b
  · left
    unfold caponierref02_Encode.f
    rw [hb]
    rfl
  · exact Or.inr (enc_f k op rd rs1 rs2 imm hop h1 h2 h3 hb)
end Go.Proofs.YtaoajlaocphgdaaDoor.PA
end
section
namespace Go.Proofs.YtaoajlaocphgdaaDoor.PA
open Go.RowKit Go.Proofs.YtaoajlaocphgdaaDoorW.PrintWords Go.Proofs.YtaoajlaocphgdaaDoorW.PrintLast Go.Proofs.YtaoajlaocphgdaaDoorW.PrintMore
set_option linter.unusedVariables false
set_option linter.unusedSimpArgs false
theorem fm_E {op : Nat} (hop : op < 43) (hf : fm op = .E) : op = 42 := by
  unfold fm at hf
  repeat' split at hf
  all_goals first | (cases hf; done) | omega
theorem word_low (op rd rs1 rs2 u : Nat) (hop : op < 43) : wordN op rd rs1 rs2 u % 4294967296 % 128 = lowN op := by
  obtain ⟨t1, t2, t3⟩ := tab_lt op hop
  unfold wordN
  cases hf : fm op
  case E =>
    obtain rfl := fm_E hop hf
    dsimp only
    decide
  case I =>
    dsimp only
    cases shiftN op
    · rw [if_neg (by decide)]; omega
    · rw [if_pos rfl]; omega
  all_goals dsimp only; omega
theorem word_kind (op rd rs1 rs2 u : Nat) (hop : op < 43) (h1 : rd < 32) (hU : fm op ≠ .U) (hJ : fm op ≠ .J) (hE : fm op ≠ .E) (hz : (fm op = .S ∨ fm op = .B) → rd = 0) : wordN op rd rs1 rs2 u % 4294967296 / 4096 % 8 = kindN op := by
  obtain ⟨t1, t2, t3⟩ := tab_lt op hop
  unfold wordN
  cases hf : fm op
  case E => exact absurd hf hE
  case U => exact absurd hf hU
  case J => exact absurd hf hJ
  case I =>
    dsimp only
    cases shiftN op
    · rw [if_neg (by decide)]; omega
    · rw [if_pos rfl]; omega
  case R => dsimp only; omega
  case S => have := hz (Or.inl hf); dsimp only; omega
  case B =>
    have := hz (Or.inr hf)
    subst this
    dsimp only
    have x1 : u / 2 % 16 < 16 := Nat.mod_lt _ (by decide)
    have x2 : u / 32 % 64 < 64 := Nat.mod_lt _ (by decide)
    have x3 : u / 2048 % 2 < 2 := Nat.mod_lt _ (by decide)
    have x4 : u / 4096 % 2 < 2 := Nat.mod_lt _ (by decide)
    generalize u / 2 % 16 = y1 at *
    generalize u / 32 % 64 = y2 at *
    generalize u / 2048 % 2 = y3 at *
    generalize u / 4096 % 2 = y4 at *
    generalize lowN op = lo at *
    generalize kindN op = kd at *
    omega
end Go.Proofs.YtaoajlaocphgdaaDoor.PA
end
section
namespace Go.Proofs.YtaoajlaocphgdaaDoor.PA
open Go.RowKit Go.Proofs.YtaoajlaocphgdaaDoorW.PrintWords Go.Proofs.YtaoajlaocphgdaaDoorW.PrintLast Go.Proofs.YtaoajlaocphgdaaDoorW.PrintMore
set_option linter.unusedVariables false
set_option linter.unusedSimpArgs false
theorem rfld (k w a n : Nat) (hk : n < k) (hw : w < 2 ^ 32) (h : a + n ≤ 64) : caponierref02_field.f k (w : Int) (a : Int) (n : Int) = some ((w / 2 ^ a % 2 ^ n : Nat) : Int) := by
  unfold caponierref02_field.f
  rw [u64_nat w (by omega), rfield_f k w a n hk (by omega) h]
  rfl
theorem w64n (a : Nat) (h : a < 2 ^ 63) : wrap64 (a : Int) = (a : Int) := IntWalk.wrap64_in _ (by omega)
theorem y2 (w : Nat) : w / 1048576 % 64 < 64 := Nat.mod_lt _ (by decide)
theorem y3 : 64 ≤ 2 ^ 63 := by decide
theorem y4 (w : Nat) : w / 1048576 % 64 < 2 ^ 63 := Nat.lt_of_lt_of_le (y2 w) y3
theorem y1 (w : Nat) : wrap64 ((w / 1048576 % 64 : Nat) : Int) = ((w / 1048576 % 64 : Nat) : Int) := w64n (w / 1048576 % 64) (y4 w)
theorem add2 (a b : Nat) (ha : a < 32) (hb : b < 128) : IntKind.u64.wrap ((a : Int) + IntKind.u64.wrap ((b : Int) * 32)) = ((a + b * 32 : Nat) : Int) := by simp only [wrap_u64]; omega
theorem add4 (a b c d : Nat) (ha : a < 16) (hb : b < 64) (hc : c < 2) (hd : d < 2) : IntKind.u64.wrap ((IntKind.u64.wrap ((IntKind.u64.wrap ((IntKind.u64.wrap ((a : Int) * 2)) + (IntKind.u64.wrap ((b : Int) * 32)))) + (IntKind.u64.wrap ((c : Int) * 2048)))) + (IntKind.u64.wrap ((d : Int) * 4096))) = ((a * 2 + b * 32 + c * 2048 + d * 4096 : Nat) : Int) := by simp only [wrap_u64]; omega
theorem mul1 (a : Nat) (ha : a < 1048576) : IntKind.u64.wrap ((a : Int) * 4096) = ((a * 4096 : Nat) : Int) := by simp only [wrap_u64]; omega
theorem add5 (a b c d : Nat) (ha : a < 1024) (hb : b < 2) (hc : c < 256) (hd : d < 2) : IntKind.u64.wrap ((IntKind.u64.wrap ((IntKind.u64.wrap ((IntKind.u64.wrap ((a : Int) * 2)) + (IntKind.u64.wrap ((b : Int) * 2048)))) + (IntKind.u64.wrap ((c : Int) * 4096)))) + (IntKind.u64.wrap ((d : Int) * 1048576))) = ((a * 2 + b * 2048 + c * 4096 + d * 1048576 : Nat) : Int) := by simp only [wrap_u64]; omega
theorem as_R (k op w : Nat) (hop : op < 43) (hw : w < 2 ^ 32) (hf : fm op = .R) : caponierref02_as.f (k + 100) (w : Int) (op : Int) = some ((op : Int), ((w / 128 % 32 : Nat) : Int), ((w / 32768 % 32 : Nat) : Int), ((w / 1048576 % 32 : Nat) : Int), 0) := by
  have f1 : ∀ j, caponierref02_field.f (j + 70) (w : Int) 7 5 = some ((w / 128 % 32 : Nat) : Int) := fun j => rfld (j + 70) w 7 5 (by omega) hw (by omega)
  have f2 : ∀ j, caponierref02_field.f (j + 70) (w : Int) 15 5 = some ((w / 32768 % 32 : Nat) : Int) := fun j => rfld (j + 70) w 15 5 (by omega) hw (by omega)
  have f3 : ∀ j, caponierref02_field.f (j + 70) (w : Int) 20 5 = some ((w / 1048576 % 32 : Nat) : Int) := fun j => rfld (j + 70) w 20 5 (by omega) hw (by omega)
  have g1 := w64n (w / 128 % 32) (Nat.lt_of_lt_of_le (Nat.mod_lt _ (by decide)) (by decide))
  have g2 := w64n (w / 32768 % 32) (Nat.lt_of_lt_of_le (Nat.mod_lt _ (by decide)) (by decide))
  have g3 := w64n (w / 1048576 % 32) (Nat.lt_of_lt_of_le (Nat.mod_lt _ (by decide)) (by decide))
  unfold caponierref02_as.f
  rw [form_f (k + 98) op hop, Option.bind_some, hf]
  simp (decide := true) only [Fm.bytes, l82, l73, l83, l66, l85, l74, l69, caponierref02_as.j0, caponierref02_as.j1, caponierref02_as.j2, caponierref02_as.j3, caponierref02_as.j4, caponierref02_as.j5, List.cons.injEq, and_true, if_true, if_false, reduceIte, bne, BEq.rfl, Bool.not_true, Bool.not_false, Bool.false_eq_true, Option.bind_some, beq_iff_eq, Bool.not_eq_true', beq_eq_false_iff_ne, ne_eq, not_false_eq_true, not_true_eq_false, f1, f2, f3, g1, g2, g3]
theorem as_I0 (k op w : Nat) (hop : op < 43) (hw : w < 2 ^ 32) (hf : fm op = .I) (hsh : shiftN op = false) : caponierref02_as.f (k + 100) (w : Int) (op : Int) = some ((op : Int), ((w / 128 % 32 : Nat) : Int), ((w / 32768 % 32 : Nat) : Int), 0, sgn (w / 1048576 % 4096) 12) := by
  have f1 : ∀ j, caponierref02_field.f (j + 70) (w : Int) 7 5 = some ((w / 128 % 32 : Nat) : Int) := fun j => rfld (j + 70) w 7 5 (by omega) hw (by omega)
  have f2 : ∀ j, caponierref02_field.f (j + 70) (w : Int) 15 5 = some ((w / 32768 % 32 : Nat) : Int) := fun j => rfld (j + 70) w 15 5 (by omega) hw (by omega)
  have f4 : ∀ j, caponierref02_field.f (j + 70) (w : Int) 20 12 = some ((w / 1048576 % 4096 : Nat) : Int) := fun j => rfld (j + 70) w 20 12 (by omega) hw (by omega)
  have f5 : ∀ j, caponierref02_field.f (j + 70) (w : Int) 20 6 = some ((w / 1048576 % 64 : Nat) : Int) := fun j => rfld (j + 70) w 20 6 (by omega) hw (by omega)
  have s12 : ∀ j (v : Nat), caponierref01_Sign.f (j + 70) (v : Int) 12 = some (sgn v 12) := fun j v => rsign_f (j + 70) v 12 (by omega) (by omega) (by omega)
  have g1 := w64n (w / 128 % 32) (Nat.lt_of_lt_of_le (Nat.mod_lt _ (by decide)) (by decide))
  have g2 := w64n (w / 32768 % 32) (Nat.lt_of_lt_of_le (Nat.mod_lt _ (by decide)) (by decide))
  have hs := shift_f op hop
  rw [hsh] at hs
  unfold caponierref02_as.f
  rw [form_f (k + 98) op hop, Option.bind_some, hf]
  simp (decide := true) only [Fm.bytes, l82, l73, l83, l66, l85, l74, l69, caponierref02_as.j0, caponierref02_as.j1, caponierref02_as.j2, caponierref02_as.j3, caponierref02_as.j4, caponierref02_as.j5, List.cons.injEq, and_true, if_true, if_false, reduceIte, bne, BEq.rfl, Bool.not_true, Bool.not_false, Bool.false_eq_true, Option.bind_some, beq_iff_eq, Bool.not_eq_true', beq_eq_false_iff_ne, ne_eq, not_false_eq_true, not_true_eq_false, f1, f2, f4, f5, s12, g1, g2, hs]
theorem as_j5_I (k : Nat) (x0 : Nat) (op : Nat) (hop : op < 43) (hw : x0 < 2 ^ 32) (a b c d e : Int) : ∃ imm, caponierref02_as.j5 (k + 80) (x0 : Int) (op : Int) Fm.I.bytes a b c d e = some (a, b, c, d, imm) := by
  obtain ⟨z4, hz4⟩ : ∃ z : Nat, caponierref02_field.f (k + 79) (x0 : Int) 20 12 = some (z : Int) := ⟨_, rfld (k + 79) x0 20 12 (by omega) hw (by omega)⟩
  obtain ⟨z5, hz5⟩ : ∃ z : Int, caponierref01_Sign.f (k + 79) (z4 : Int) 12 = some z := ⟨_, rsign_f (k + 79) z4 12 (by omega) (by omega) (by omega)⟩
  obtain ⟨z, hz⟩ : ∃ z : Nat, caponierref02_field.f (k + 79) (x0 : Int) 20 6 = some (z : Int) := ⟨_, rfld (k + 79) x0 20 6 (by omega) hw (by omega)⟩
  obtain ⟨s, hs⟩ := shift_some (op : Int)
  rw [caponierref02_as.j5, show Fm.I.bytes.toList = [73] from l73, if_pos rfl, hz4, Option.bind_some, hz5, Option.bind_some, hs, Option.bind_some]
  cases s
  · exact ⟨z5, rfl⟩
  · rw [if_pos rfl, hz]; exact ⟨wrap64 (z : Int), rfl⟩
theorem as_I1 (k op w : Nat) (hop : op < 43) (hw : w < 2 ^ 32) (hf : fm op = .I) : ∃ imm, caponierref02_as.f (k + 100) (w : Int) (op : Int) = some ((op : Int), ((w / 128 % 32 : Nat) : Int), ((w / 32768 % 32 : Nat) : Int), 0, imm) := by
  have f1 : ∀ j, caponierref02_field.f (j + 70) (w : Int) 7 5 = some ((w / 128 % 32 : Nat) : Int) := fun j => rfld (j + 70) w 7 5 (by omega) hw (by omega)
  have f2 : ∀ j, caponierref02_field.f (j + 70) (w : Int) 15 5 = some ((w / 32768 % 32 : Nat) : Int) := fun j => rfld (j + 70) w 15 5 (by omega) hw (by omega)
  have g1 := w64n (w / 128 % 32) (Nat.lt_of_lt_of_le (Nat.mod_lt _ (by decide)) (by decide))
  have g2 := w64n (w / 32768 % 32) (Nat.lt_of_lt_of_le (Nat.mod_lt _ (by decide)) (by decide))
  obtain ⟨imm, hj⟩ := as_j5_I (k + 15) w op hop hw (op : Int) ((w / 128 % 32 : Nat) : Int) ((w / 32768 % 32 : Nat) : Int) 0 0
  refine ⟨imm, ?_⟩
  unfold caponierref02_as.f
  have hb : Fm.I.bytes.toList = [73] := l73
  rw [form_f (k + 98) op hop, Option.bind_some, hf, hb, if_neg (by decide), if_neg (by decide), show (([73] : List UInt8) != [69]) = true from by decide,
    caponierref02_as.j0, if_pos rfl, f1, Option.bind_some, g1, caponierref02_as.j1, hb, if_neg (by decide), if_neg (by decide), show (([73] : List UInt8) != [69]) = true from by decide,
    caponierref02_as.j2, if_pos rfl, f2, Option.bind_some, g2, caponierref02_as.j3, hb, if_neg (by decide), if_neg (by decide), show (([73] : List UInt8) == [66]) = false from by decide,
    caponierref02_as.j4, if_neg (by decide)]
  exact hj
theorem as_S (k op w : Nat) (hop : op < 43) (hw : w < 2 ^ 32) (hf : fm op = .S) : caponierref02_as.f (k + 100) (w : Int) (op : Int) = some ((op : Int), 0, ((w / 32768 % 32 : Nat) : Int), ((w / 1048576 % 32 : Nat) : Int), sgn (w / 128 % 32 + w / 33554432 % 128 * 32) 12) := by
  have f1 : ∀ j, caponierref02_field.f (j + 70) (w : Int) 7 5 = some ((w / 128 % 32 : Nat) : Int) := fun j => rfld (j + 70) w 7 5 (by omega) hw (by omega)
  have f2 : ∀ j, caponierref02_field.f (j + 70) (w : Int) 15 5 = some ((w / 32768 % 32 : Nat) : Int) := fun j => rfld (j + 70) w 15 5 (by omega) hw (by omega)
  have f3 : ∀ j, caponierref02_field.f (j + 70) (w : Int) 20 5 = some ((w / 1048576 % 32 : Nat) : Int) := fun j => rfld (j + 70) w 20 5 (by omega) hw (by omega)
  have f6 : ∀ j, caponierref02_field.f (j + 70) (w : Int) 25 7 = some ((w / 33554432 % 128 : Nat) : Int) := fun j => rfld (j + 70) w 25 7 (by omega) hw (by omega)
  have s12 : ∀ j (v : Nat), caponierref01_Sign.f (j + 70) (v : Int) 12 = some (sgn v 12) := fun j v => rsign_f (j + 70) v 12 (by omega) (by omega) (by omega)
  have g2 := w64n (w / 32768 % 32) (Nat.lt_of_lt_of_le (Nat.mod_lt _ (by decide)) (by decide))
  have g3 := w64n (w / 1048576 % 32) (Nat.lt_of_lt_of_le (Nat.mod_lt _ (by decide)) (by decide))
  have e1 := add2 (w / 128 % 32) (w / 33554432 % 128) (Nat.mod_lt _ (by decide)) (Nat.mod_lt _ (by decide))
  unfold caponierref02_as.f
  rw [form_f (k + 98) op hop, Option.bind_some, hf]
  simp (decide := true) only [Fm.bytes, l82, l73, l83, l66, l85, l74, l69, caponierref02_as.j0, caponierref02_as.j1, caponierref02_as.j2, caponierref02_as.j3, caponierref02_as.j4, caponierref02_as.j5, List.cons.injEq, and_true, if_true, if_false, reduceIte, bne, BEq.rfl, Bool.not_true, Bool.not_false, Bool.false_eq_true, Option.bind_some, beq_iff_eq, Bool.not_eq_true', beq_eq_false_iff_ne, ne_eq, not_false_eq_true, not_true_eq_false, f1, f2, f3, f6, s12, g2, g3, e1]
theorem as_B (k op w : Nat) (hop : op < 43) (hw : w < 2 ^ 32) (hf : fm op = .B) : caponierref02_as.f (k + 100) (w : Int) (op : Int) = some ((op : Int), 0, ((w / 32768 % 32 : Nat) : Int), ((w / 1048576 % 32 : Nat) : Int), sgn (w / 256 % 16 * 2 + w / 33554432 % 64 * 32 + w / 128 % 2 * 2048 + w / 2147483648 % 2 * 4096) 13) := by
  have f2 : ∀ j, caponierref02_field.f (j + 70) (w : Int) 15 5 = some ((w / 32768 % 32 : Nat) : Int) := fun j => rfld (j + 70) w 15 5 (by omega) hw (by omega)
  have f3 : ∀ j, caponierref02_field.f (j + 70) (w : Int) 20 5 = some ((w / 1048576 % 32 : Nat) : Int) := fun j => rfld (j + 70) w 20 5 (by omega) hw (by omega)
  have f7 : ∀ j, caponierref02_field.f (j + 70) (w : Int) 8 4 = some ((w / 256 % 16 : Nat) : Int) := fun j => rfld (j + 70) w 8 4 (by omega) hw (by omega)
  have f8 : ∀ j, caponierref02_field.f (j + 70) (w : Int) 25 6 = some ((w / 33554432 % 64 : Nat) : Int) := fun j => rfld (j + 70) w 25 6 (by omega) hw (by omega)
  have f9 : ∀ j, caponierref02_field.f (j + 70) (w : Int) 7 1 = some ((w / 128 % 2 : Nat) : Int) := fun j => rfld (j + 70) w 7 1 (by omega) hw (by omega)
  have f10 : ∀ j, caponierref02_field.f (j + 70) (w : Int) 31 1 = some ((w / 2147483648 % 2 : Nat) : Int) := fun j => rfld (j + 70) w 31 1 (by omega) hw (by omega)
  have s13 : ∀ j (v : Nat), caponierref01_Sign.f (j + 70) (v : Int) 13 = some (sgn v 13) := fun j v => rsign_f (j + 70) v 13 (by omega) (by omega) (by omega)
  have g2 := w64n (w / 32768 % 32) (Nat.lt_of_lt_of_le (Nat.mod_lt _ (by decide)) (by decide))
  have g3 := w64n (w / 1048576 % 32) (Nat.lt_of_lt_of_le (Nat.mod_lt _ (by decide)) (by decide))
  have e2 := add4 (w / 256 % 16) (w / 33554432 % 64) (w / 128 % 2) (w / 2147483648 % 2) (Nat.mod_lt _ (by decide)) (Nat.mod_lt _ (by decide)) (Nat.mod_lt _ (by decide)) (Nat.mod_lt _ (by decide))
  unfold caponierref02_as.f
  rw [form_f (k + 98) op hop, Option.bind_some, hf]
  simp (decide := true) only [Fm.bytes, l82, l73, l83, l66, l85, l74, l69, caponierref02_as.j0, caponierref02_as.j1, caponierref02_as.j2, caponierref02_as.j3, caponierref02_as.j4, caponierref02_as.j5, List.cons.injEq, and_true, if_true, if_false, reduceIte, bne, BEq.rfl, Bool.not_true, Bool.not_false, Bool.false_eq_true, Option.bind_some, beq_iff_eq, Bool.not_eq_true', beq_eq_false_iff_ne, ne_eq, not_false_eq_true, not_true_eq_false, f2, f3, f7, f8, f9, f10, s13, g2, g3, e2]
theorem as_U (k op w : Nat) (hop : op < 43) (hw : w < 2 ^ 32) (hf : fm op = .U) : caponierref02_as.f (k + 100) (w : Int) (op : Int) = some ((op : Int), ((w / 128 % 32 : Nat) : Int), 0, 0, sgn (w / 4096 % 1048576 * 4096) 32) := by
  have f1 : ∀ j, caponierref02_field.f (j + 70) (w : Int) 7 5 = some ((w / 128 % 32 : Nat) : Int) := fun j => rfld (j + 70) w 7 5 (by omega) hw (by omega)
  have f11 : ∀ j, caponierref02_field.f (j + 70) (w : Int) 12 20 = some ((w / 4096 % 1048576 : Nat) : Int) := fun j => rfld (j + 70) w 12 20 (by omega) hw (by omega)
  have s32 : ∀ j (v : Nat), caponierref01_Sign.f (j + 70) (v : Int) 32 = some (sgn v 32) := fun j v => rsign_f (j + 70) v 32 (by omega) (by omega) (by omega)
  have g1 := w64n (w / 128 % 32) (Nat.lt_of_lt_of_le (Nat.mod_lt _ (by decide)) (by decide))
  have e3 := mul1 (w / 4096 % 1048576) (Nat.mod_lt _ (by decide))
  unfold caponierref02_as.f
  rw [form_f (k + 98) op hop, Option.bind_some, hf]
  simp (decide := true) only [Fm.bytes, l82, l73, l83, l66, l85, l74, l69, caponierref02_as.j0, caponierref02_as.j1, caponierref02_as.j2, caponierref02_as.j3, caponierref02_as.j4, caponierref02_as.j5, List.cons.injEq, and_true, if_true, if_false, reduceIte, bne, BEq.rfl, Bool.not_true, Bool.not_false, Bool.false_eq_true, Option.bind_some, beq_iff_eq, Bool.not_eq_true', beq_eq_false_iff_ne, ne_eq, not_false_eq_true, not_true_eq_false, f1, f11, s32, g1, e3]
theorem as_J (k op w : Nat) (hop : op < 43) (hw : w < 2 ^ 32) (hf : fm op = .J) : caponierref02_as.f (k + 100) (w : Int) (op : Int) = some ((op : Int), ((w / 128 % 32 : Nat) : Int), 0, 0, sgn (w / 2097152 % 1024 * 2 + w / 1048576 % 2 * 2048 + w / 4096 % 256 * 4096 + w / 2147483648 % 2 * 1048576) 21) := by
  have f1 : ∀ j, caponierref02_field.f (j + 70) (w : Int) 7 5 = some ((w / 128 % 32 : Nat) : Int) := fun j => rfld (j + 70) w 7 5 (by omega) hw (by omega)
  have f12 : ∀ j, caponierref02_field.f (j + 70) (w : Int) 21 10 = some ((w / 2097152 % 1024 : Nat) : Int) := fun j => rfld (j + 70) w 21 10 (by omega) hw (by omega)
  have f13 : ∀ j, caponierref02_field.f (j + 70) (w : Int) 20 1 = some ((w / 1048576 % 2 : Nat) : Int) := fun j => rfld (j + 70) w 20 1 (by omega) hw (by omega)
  have f14 : ∀ j, caponierref02_field.f (j + 70) (w : Int) 12 8 = some ((w / 4096 % 256 : Nat) : Int) := fun j => rfld (j + 70) w 12 8 (by omega) hw (by omega)
  have f10 : ∀ j, caponierref02_field.f (j + 70) (w : Int) 31 1 = some ((w / 2147483648 % 2 : Nat) : Int) := fun j => rfld (j + 70) w 31 1 (by omega) hw (by omega)
  have s21 : ∀ j (v : Nat), caponierref01_Sign.f (j + 70) (v : Int) 21 = some (sgn v 21) := fun j v => rsign_f (j + 70) v 21 (by omega) (by omega) (by omega)
  have g1 := w64n (w / 128 % 32) (Nat.lt_of_lt_of_le (Nat.mod_lt _ (by decide)) (by decide))
  have e4 := add5 (w / 2097152 % 1024) (w / 1048576 % 2) (w / 4096 % 256) (w / 2147483648 % 2) (Nat.mod_lt _ (by decide)) (Nat.mod_lt _ (by decide)) (Nat.mod_lt _ (by decide)) (Nat.mod_lt _ (by decide))
  unfold caponierref02_as.f
  rw [form_f (k + 98) op hop, Option.bind_some, hf]
  simp (decide := true) only [Fm.bytes, l82, l73, l83, l66, l85, l74, l69, caponierref02_as.j0, caponierref02_as.j1, caponierref02_as.j2, caponierref02_as.j3, caponierref02_as.j4, caponierref02_as.j5, List.cons.injEq, and_true, if_true, if_false, reduceIte, bne, BEq.rfl, Bool.not_true, Bool.not_false, Bool.false_eq_true, Option.bind_some, beq_iff_eq, Bool.not_eq_true', beq_eq_false_iff_ne, ne_eq, not_false_eq_true, not_true_eq_false, f1, f12, f13, f14, f10, s21, g1, e4]
theorem as_E (k op w : Nat) (hop : op < 43) (hw : w < 2 ^ 32) (hf : fm op = .E) : caponierref02_as.f (k + 100) (w : Int) (op : Int) = some ((op : Int), 0, 0, 0, 0) := by
  unfold caponierref02_as.f
  rw [form_f (k + 98) op hop, Option.bind_some, hf]
  simp (decide := true) only [Fm.bytes, l82, l73, l83, l66, l85, l74, l69, caponierref02_as.j0, caponierref02_as.j1, caponierref02_as.j2, caponierref02_as.j3, caponierref02_as.j4, caponierref02_as.j5, List.cons.injEq, and_true, if_true, if_false, reduceIte, bne, BEq.rfl, Bool.not_true, Bool.not_false, Bool.false_eq_true, Option.bind_some, beq_iff_eq, Bool.not_eq_true', beq_eq_false_iff_ne, ne_eq, not_false_eq_true, not_true_eq_false, ]
end Go.Proofs.YtaoajlaocphgdaaDoor.PA
end
section
namespace Go.Proofs.YtaoajlaocphgdaaDoor.PA
open Go.RowKit Go.Proofs.YtaoajlaocphgdaaDoorW.PrintWords Go.Proofs.YtaoajlaocphgdaaDoorW.PrintLast Go.Proofs.YtaoajlaocphgdaaDoorW.PrintMore
set_option linter.unusedVariables false
set_option linter.unusedSimpArgs false
theorem as_some (k op w : Nat) (hop : op < 43) (hw : w < 2 ^ 32) : ∃ (rd rs1 rs2 : Nat) (imm : Int), rd < 32 ∧ rs1 < 32 ∧ rs2 < 32 ∧ ((fm op = .S ∨ fm op = .B) → rd = 0) ∧ caponierref02_as.f (k + 100) (w : Int) (op : Int) = some ((op : Int), (rd : Int), (rs1 : Int), (rs2 : Int), imm) := by
  have m1 : w / 128 % 32 < 32 := Nat.mod_lt _ (by decide)
  have m2 : w / 32768 % 32 < 32 := Nat.mod_lt _ (by decide)
  have m3 : w / 1048576 % 32 < 32 := Nat.mod_lt _ (by decide)
  cases hf : fm op
  case R => exact ⟨_, _, _, _, m1, m2, m3, (fun h => by rcases h with h | h <;> cases h), as_R k op w hop hw hf⟩
  case I =>
    obtain ⟨imm, h⟩ := as_I1 k op w hop hw hf
    exact ⟨_, _, 0, imm, m1, m2, by decide, (fun h => by rcases h with h | h <;> cases h), h⟩
  case S => exact ⟨0, _, _, _, by decide, m2, m3, fun _ => rfl, as_S k op w hop hw hf⟩
  case B => exact ⟨0, _, _, _, by decide, m2, m3, fun _ => rfl, as_B k op w hop hw hf⟩
  case U => exact ⟨_, 0, 0, _, m1, by decide, by decide, (fun h => by rcases h with h | h <;> cases h), as_U k op w hop hw hf⟩
  case J => exact ⟨_, 0, 0, _, m1, by decide, by decide, (fun h => by rcases h with h | h <;> cases h), as_J k op w hop hw hf⟩
  case E => exact ⟨0, 0, 0, _, by decide, by decide, by decide, fun _ => rfl, as_E k op w hop hw hf⟩
def Miss (o w : Nat) : Prop := lowN o ≠ w % 128 ∨ (fm o ≠ .U ∧ fm o ≠ .J ∧ fm o ≠ .E ∧ kindN o ≠ w / 4096 % 8)
theorem dec_step (k o w : Nat) (ho : o < 43) (hw : w < 2 ^ 32) (hm : Miss o w) : caponierref02_Decode.l0 (k + 101) (w : Int) (o : Int) = caponierref02_Decode.l0 (k + 100) (w : Int) ((o + 1 : Nat) : Int) := by
  obtain ⟨rd, rs1, rs2, imm, h1, h2, h3, hz, has⟩ := as_some k o w ho hw
  rw [caponierref02_Decode.l0, if_pos (by omega), has, Option.bind_some, IntWalk.wrap64_in _ (by omega)]
  rcases enc_some k o rd rs1 rs2 imm ho h1 h2 h3 with he | he
  · rw [he, Option.bind_some, if_neg (by decide)]
    rfl
  · rw [he, Option.bind_some, if_pos rfl, if_neg ?_]
    · rfl
    · intro hc
      have hc' := Int.ofNat.inj hc
      rcases hm with hm | ⟨a, b, c, d⟩
      · exact hm (by rw [← hc']; exact (word_low o rd rs1 rs2 _ ho).symm)
      · exact d (by rw [← hc']; exact (word_kind o rd rs1 rs2 _ ho h1 a b c hz).symm)
theorem dec_run (k op w rd rs1 rs2 : Nat) (imm : Int) (hop : op < 43) (hw : w < 2 ^ 32) (hm : ∀ o, o < op → Miss o w)
    (has : ∀ j, caponierref02_as.f (j + 100) (w : Int) (op : Int) = some ((op : Int), (rd : Int), (rs1 : Int), (rs2 : Int), imm))
    (he : ∀ j, caponierref02_Encode.f (j + 100) op rd rs1 rs2 imm = some ((w : Int), 0)) :
    ∀ n o, o + n = op → caponierref02_Decode.l0 (k + 101 + n) (w : Int) (o : Int) = some ((op : Int), (rd : Int), (rs1 : Int), (rs2 : Int), imm, 0) := by
  intro n
  induction n with
  | zero =>
    intro o ho
    obtain rfl : o = op := by omega
    rw [Nat.add_zero, caponierref02_Decode.l0, if_pos (by omega), has, Option.bind_some, he, Option.bind_some, if_pos rfl, if_pos rfl]
  | succ n ih =>
    intro o ho
    rw [show k + 101 + (n + 1) = (k + n + 1) + 101 from by omega, dec_step (k + n + 1) o w (by omega) hw (hm o (by omega)), show k + n + 1 + 100 = k + 101 + n from by omega]
    exact ih (o + 1) (by omega)
theorem dec_f (k op w rd rs1 rs2 : Nat) (imm : Int) (hop : op < 43) (hw : w < 2 ^ 32) (hm : ∀ o, o < op → Miss o w)
    (has : ∀ j, caponierref02_as.f (j + 100) (w : Int) (op : Int) = some ((op : Int), (rd : Int), (rs1 : Int), (rs2 : Int), imm))
    (he : ∀ j, caponierref02_Encode.f (j + 100) op rd rs1 rs2 imm = some ((w : Int), 0)) : caponierref02_Decode.f (k + 200) (w : Int) = some ((op : Int), (rd : Int), (rs1 : Int), (rs2 : Int), imm, 0) := by
  have := dec_run (k + 99 - op) op w rd rs1 rs2 imm hop hw hm has he op 0 (by omega)
  rw [show k + 99 - op + 101 + op = k + 200 from by omega] at this
  exact this
def uniqN (op : Nat) : Bool := (List.range op).all fun o => lowN o != lowN op || (fm o != .U && fm o != .J && fm o != .E && fm op != .U && fm op != .J && fm op != .E && kindN o != kindN op)
theorem miss_of_uniq (op rd rs1 rs2 u : Nat) (hop : op < 43) (h1 : rd < 32) (hz : (fm op = .S ∨ fm op = .B) → rd = 0) (hu : uniqN op = true) : ∀ o, o < op → Miss o (wordN op rd rs1 rs2 u % 4294967296) := by
  intro o ho
  have := List.all_eq_true.1 hu o (List.mem_range.2 ho)
  simp only [Bool.or_eq_true, Bool.and_eq_true, bne_iff_ne, ne_eq] at this
  rcases this with h | ⟨⟨⟨⟨⟨⟨a, b⟩, c⟩, d⟩, e⟩, f⟩, g⟩
  · exact Or.inl (by rw [word_low _ _ _ _ _ hop]; exact h)
  · exact Or.inr ⟨a, b, c, by rw [word_kind _ _ _ _ _ hop h1 d e f hz]; exact g⟩
theorem j0_ok (k : Nat) (f : ByteArray) (L : List UInt8) (hb : f.toList = L) (op rd rs1 rs2 imm : Int) (h1 : rd = 0 ∨ (L ≠ [83] ∧ L ≠ [66] ∧ L ≠ [69])) (h2 : rs1 = 0 ∨ (L ≠ [85] ∧ L ≠ [74] ∧ L ≠ [69])) (h3 : rs2 = 0 ∨ L = [82] ∨ L = [83] ∨ L = [66]) :
    caponierref02_May.j0 (k + 3) f false op rd rs1 rs2 imm = caponierref02_May.j1 (k + 2) f false op rd rs1 rs2 imm := by
  rw [caponierref02_May.j0, if_neg (by decide)]
  simp only [hb]
  generalize caponierref02_May.j1 (k + 2) f = z
  repeat' split
  all_goals first | rfl | (simp_all; done)
theorem zz : ((0 : Nat) : Int) = 0 := rfl
theorem may_f0 (k op rd rs1 rs2 : Nat) (imm : Int) (hop : op < 43) (b1 : rd < 32) (b2 : rs1 < 32) (b3 : rs2 < 32) : caponierref02_May.f (k + 3) op rd rs1 rs2 imm = caponierref02_May.j0 (k + 3) (fm op).bytes false op rd rs1 rs2 imm := by
  unfold caponierref02_May.f
  rw [form_f (k + 1) op hop, Option.bind_some, if_neg (by cases fm op <;> simp [Fm.bytes, l82, l73, l83, l66, l85, l74, l69]), if_neg (by omega), if_neg (by omega), if_neg (by omega), if_neg (by omega), if_neg (by omega), decide_eq_false (by omega)]
theorem may_I (k op rd rs1 : Nat) (imm : Int) (hop : op < 43) (hf : fm op = .I) (hs : shiftN op = false) (b1 : rd < 32) (b2 : rs1 < 32) (hi : -2048 ≤ imm ∧ imm ≤ 2047) : caponierref02_May.f (k + 3) op rd rs1 (0 : Nat) imm = some true := by
  have hb : Fm.I.bytes.toList = [73] := l73
  rw [may_f0 k op rd rs1 0 imm hop b1 b2 (by decide), hf, j0_ok k _ _ hb _ _ _ _ _ (Or.inr (by decide)) (Or.inr (by decide)) (Or.inl zz), caponierref02_May.j1, hb, if_neg (by decide), if_pos rfl, caponierref02_May.j2, if_pos (by decide), shift_f op hop, hs, Option.bind_some, if_neg (by decide), if_pos (by omega), decide_eq_true (by omega)]
theorem may_S (k op rs1 rs2 : Nat) (imm : Int) (hop : op < 43) (hf : fm op = .S) (hs : shiftN op = false) (b2 : rs1 < 32) (b3 : rs2 < 32) (hi : -2048 ≤ imm ∧ imm ≤ 2047) : caponierref02_May.f (k + 3) op (0 : Nat) rs1 rs2 imm = some true := by
  have hb : Fm.S.bytes.toList = [83] := l83
  rw [may_f0 k op 0 rs1 rs2 imm hop (by decide) b2 b3, hf, j0_ok k _ _ hb _ _ _ _ _ (Or.inl zz) (Or.inr (by decide)) (Or.inr (by decide)), caponierref02_May.j1, hb, if_neg (by decide), if_neg (by decide), caponierref02_May.j2, if_pos (by decide), shift_f op hop, hs, Option.bind_some, if_neg (by decide), if_pos (by omega), decide_eq_true (by omega)]
theorem may_B (k op rs1 rs2 : Nat) (imm : Int) (hop : op < 43) (hf : fm op = .B) (b2 : rs1 < 32) (b3 : rs2 < 32) (hi : -4096 ≤ imm ∧ imm ≤ 4094) (h2 : imm % 2 = 0) : caponierref02_May.f (k + 3) op (0 : Nat) rs1 rs2 imm = some true := by
  have hb : Fm.B.bytes.toList = [66] := l66
  rw [may_f0 k op 0 rs1 rs2 imm hop (by decide) b2 b3, hf, j0_ok k _ _ hb _ _ _ _ _ (Or.inl zz) (Or.inr (by decide)) (Or.inr (by decide)), caponierref02_May.j1, hb, if_neg (by decide), if_neg (by decide), caponierref02_May.j2, if_neg (by decide), hb, if_pos rfl, if_pos (by omega), if_pos (by omega)]
  refine congrArg some (beq_iff_eq.2 ?_)
  exact Int.tmod_eq_zero_of_dvd (Int.dvd_of_emod_eq_zero h2)
theorem may_U (k op rd : Nat) (imm : Int) (hop : op < 43) (hf : fm op = .U) (b1 : rd < 32) (hi : -2147483648 ≤ imm ∧ imm ≤ 2147483647) (h2 : imm % 4096 = 0) : caponierref02_May.f (k + 3) op rd (0 : Nat) (0 : Nat) imm = some true := by
  have hb : Fm.U.bytes.toList = [85] := l85
  rw [may_f0 k op rd 0 0 imm hop b1 (by decide) (by decide), hf, j0_ok k _ _ hb _ _ _ _ _ (Or.inr (by decide)) (Or.inl zz) (Or.inl zz), caponierref02_May.j1, hb, if_neg (by decide), if_neg (by decide), caponierref02_May.j2, if_neg (by decide), hb, if_neg (by decide), if_pos rfl, if_pos (by omega), if_pos (by omega)]
  refine congrArg some (beq_iff_eq.2 ?_)
  exact Int.tmod_eq_zero_of_dvd (Int.dvd_of_emod_eq_zero h2)
theorem may_J (k op rd : Nat) (imm : Int) (hop : op < 43) (hf : fm op = .J) (b1 : rd < 32) (hi : -1048576 ≤ imm ∧ imm ≤ 1048574) (h2 : imm % 2 = 0) : caponierref02_May.f (k + 3) op rd (0 : Nat) (0 : Nat) imm = some true := by
  have hb : Fm.J.bytes.toList = [74] := l74
  rw [may_f0 k op rd 0 0 imm hop b1 (by decide) (by decide), hf, j0_ok k _ _ hb _ _ _ _ _ (Or.inr (by decide)) (Or.inl zz) (Or.inl zz), caponierref02_May.j1, hb, if_neg (by decide), if_neg (by decide), caponierref02_May.j2, if_neg (by decide), hb, if_neg (by decide), if_neg (by decide), if_pos rfl, if_pos (by omega), if_pos (by omega)]
  refine congrArg some (beq_iff_eq.2 ?_)
  exact Int.tmod_eq_zero_of_dvd (Int.dvd_of_emod_eq_zero h2)
theorem may_E (k : Nat) : caponierref02_May.f (k + 3) (42 : Nat) (0 : Nat) (0 : Nat) (0 : Nat) 0 = some true := by
  have hb : Fm.E.bytes.toList = [69] := l69
  rw [may_f0 k 42 0 0 0 0 (by decide) (by decide) (by decide) (by decide), show fm 42 = .E from rfl, j0_ok k _ _ hb _ _ _ _ _ (Or.inl zz) (Or.inl zz) (Or.inl zz), caponierref02_May.j1, hb, if_neg (by decide), if_neg (by decide), caponierref02_May.j2, if_neg (by decide), hb, if_neg (by decide), if_neg (by decide), if_neg (by decide)]
  rfl
end Go.Proofs.YtaoajlaocphgdaaDoor.PA
end
section
namespace Go.Proofs.YtaoajlaocphgdaaDoor.PA
open Go.RowKit Go.MapKept
set_option linter.unusedVariables false
set_option linter.unusedSimpArgs false
def mapArr : List (Int × Int) → Nat → List MapEntry
  | [], _ => []
  | x :: r, i => { key := .int .i64 x.1, val := .int .i64 x.2, born := i } :: mapArr r (i + 1)
theorem mapArr_append (a b : List (Int × Int)) (i : Nat) : mapArr (a ++ b) i = mapArr a i ++ mapArr b (i + a.length) := by
  induction a generalizing i with
  | nil => rfl
  | cons x r ih =>
    simp only [List.cons_append, mapArr, ih (i + 1), List.length_cons]
    rw [show i + 1 + r.length = i + (r.length + 1) from by omega]
theorem mapArr_length (a : List (Int × Int)) (i : Nat) : (mapArr a i).length = a.length := by
  induction a generalizing i with
  | nil => rfl
  | cons x r ih => simp [mapArr, ih]
theorem mapArr_get (a : List (Int × Int)) (i j : Nat) : (mapArr a i)[j]? = (a[j]?).map fun x => { key := .int .i64 x.1, val := .int .i64 x.2, born := i + j } := by
  induction a generalizing i j with
  | nil => rfl
  | cons x r ih =>
    cases j with
    | zero => rfl
    | succ j => simp only [mapArr, List.getElem?_cons_succ, ih]; rw [show i + 1 + j = i + (j + 1) from by omega]
def MapIs (w : World) (r : Nat) (es : List (Int × Int)) : Prop := w.heap[r]? = some (.map (mapArr es 0).toArray es.length)
theorem MapIs.move {w w1 : World} {r : Nat} {es : List (Int × Int)} (h : MapIs w r es) (hm : w1.heap[r]? = w.heap[r]?) : MapIs w1 r es := hm.trans h
theorem MapIs.lt {w : World} {r : Nat} {es : List (Int × Int)} (h : MapIs w r es) : r < w.heap.size := (Array.getElem?_eq_some_iff.1 h).1
theorem findNow_none (k : Int) (es : List (Int × Int)) (h : ∀ x ∈ es, x.1 ≠ k) : ∀ i j, Instr.findNow (.int .i64) (.int .i64 k) (mapArr es i) j = some none := by
  induction es with
  | nil => intro i j; rfl
  | cons x r ih =>
    intro i j
    have hx : (k == x.1) = false := beq_eq_false_iff_ne.2 fun e => h x (List.mem_cons_self) e.symm
    simp only [mapArr, Instr.findNow, Instr.sameNow, if_true, hx]
    exact ih (fun y hy => h y (List.mem_cons_of_mem _ hy)) _ _
theorem findNow_some (k v : Int) (es : List (Int × Int)) (h : (es.map (·.1)).Nodup) (hm : (k, v) ∈ es) : ∀ i j, ∃ n, Instr.findNow (.int .i64) (.int .i64 k) (mapArr es i) j = some (some (n, .int .i64 v)) := by
  induction es with
  | nil => cases hm
  | cons x r ih =>
    intro i j
    simp only [List.map_cons, List.nodup_cons] at h
    rcases List.mem_cons.1 hm with rfl | hm
    · exact ⟨j, by simp [mapArr, Instr.findNow, Instr.sameNow]⟩
    · have hx : (k == x.1) = false := beq_eq_false_iff_ne.2 fun e => h.1 (List.mem_map.2 ⟨(k, v), hm, e⟩)
      simp only [mapArr, Instr.findNow, Instr.sameNow, if_true, hx]
      exact ih h.2 hm _ _
section
variable {P : Program} {T K E : TypeId} (hT : P.underlying T = some (.map K E)) (hK : P.underlying K = some (.int .i64))
include hT hK
def mapSet (w : World) (r : Nat) (es : List (Int × Int)) : World := { w with heap := w.heap.setIfInBounds r (.map (mapArr es 0).toArray es.length) }
theorem run_add (w : World) (r : Nat) (es : List (Int × Int)) (k v : Int) (h : MapIs w r es) (hk : ∀ x ∈ es, x.1 ≠ k) :
    (Instr.mapUpdate T (.map (some r)) (.int .i64 k) (.int .i64 v)).run P w = .ok () (mapSet w r (es ++ [(k, v)])) := by
  have hc := run_checkKey (P := P) (w := w) hK (k := .int .i64 k) (d := .int .i64) (by trivial) false 9999
  have h' : w.heap[r]? = some (.map (mapArr es 0).toArray es.length) := h
  have hf := findNow_none k es hk 0 0
  have hc' : (Instr.checkKey false 10000 K (.int .i64 k)).run P w = .ok () w := hc
  have hf' : (Instr.findKey K (.int .i64 k) (mapArr es 0)).run P w = .ok none w := run_findKey hK hf
  simp only [Instr.mapUpdate, Sem.run_bind, run_underlying hT, Result.andThen_ok]
  simp only [getObj, Sem.run, h', Sem.run_bind, Result.andThen_ok]
  rw [hc']
  simp only [Result.andThen_ok, hf']
  simp [setObj, Sem.run, h', mapSet, mapArr_append, mapArr]
theorem run_find (w : World) (r : Nat) (es : List (Int × Int)) (k v : Int) (h : MapIs w r es) (hn : (es.map (·.1)).Nodup) (hm : (k, v) ∈ es) :
    (Instr.lookup T (.map (some r)) (.int .i64 k) false).run P w = .ok (.int .i64 v) w := by
  have h' : w.heap[r]? = some (.map (mapArr es 0).toArray es.length) := h
  obtain ⟨n, hf⟩ := findNow_some k v es hn hm 0 0
  have hc' : ∀ b, (Instr.checkKey b 10000 K (.int .i64 k)).run P w = .ok () w := fun b => run_checkKey (P := P) (w := w) hK (k := .int .i64 k) (d := .int .i64) (by trivial) b 9999
  have hf' : (Instr.findKey K (.int .i64 k) (mapArr es 0)).run P w = .ok (some (n, .int .i64 v)) w := run_findKey hK hf
  simp only [Instr.lookup, Sem.run_bind, run_underlying hT, Result.andThen_ok]
  simp only [getObj, Sem.run, h', Sem.run_bind, Sem.run_pure, Result.andThen_ok]
  rw [hc']
  simp only [Result.andThen_ok, hf']
  rfl
end
theorem mapSet_is (w : World) (r : Nat) (es : List (Int × Int)) (h : r < w.heap.size) : MapIs (mapSet w r es) r es := by
  simp [MapIs, mapSet, h]
theorem mapSet_other (w : World) (r k : Nat) (es : List (Int × Int)) (h : k ≠ r) : (mapSet w r es).heap[k]? = w.heap[k]? := by
  simp [mapSet, Ne.symm h]
theorem mapSet_size (w : World) (r : Nat) (es : List (Int × Int)) : (mapSet w r es).heap.size = w.heap.size := by simp [mapSet]
theorem mapSet_below {B : Nat} {a w : World} (h : Below B a w) (r : Nat) (es : List (Int × Int)) (hr : B ≤ r) : Below B a (mapSet w r es) :=
  h.trans ⟨rfl, rfl, rfl, by rw [mapSet_size]; exact Nat.le_refl _, fun i hi => mapSet_other w r i es (by omega)⟩
theorem run_rangeI {P : Program} {T K E : TypeId} (hT : P.underlying T = some (.map K E)) (w : World) (r : Nat) (es : List (Int × Int)) (h : MapIs w r es) :
    (Instr.range T (.map (some r))).run P w = .ok (.pointer (some ⟨w.heap.size, 0, none⟩)) (w.alloc (.mapIter (some r) es.length #[] es.length)) := by
  have h' : w.heap[r]? = some (.map (mapArr es 0).toArray es.length) := h
  simp only [Instr.range, Sem.run_bind, run_underlying hT, Result.andThen_ok]
  simp [getObj, Sem.run, h']
def IterIs (w : World) (b r : Nat) (es : List (Int × Int)) (seen : List Nat) : Prop := w.heap[b]? = some (.mapIter (some r) es.length seen.toArray es.length)
structure IterStep (w w1 : World) (b r : Nat) (es : List (Int × Int)) (seen : List Nat) : Prop where
  at_ : IterIs w1 b r es seen
  other : ∀ k, k ≠ b → w1.heap[k]? = w.heap[k]?
  size : w1.heap.size = w.heap.size
  os : w1.os = w.os
  tape : w1.tape = w.tape
  output : w1.output = w.output
theorem IterStep.below {w w1 : World} {b r : Nat} {es : List (Int × Int)} {seen : List Nat} (h : IterStep w w1 b r es seen) {B : Nat} {a : World} (hB : Below B a w) (hb : B ≤ b) : Below B a w1 :=
  hB.trans ⟨h.os, h.tape, h.output, by rw [h.size]; exact Nat.le_refl _, fun i hi => h.other i (by omega)⟩
theorem mem_mapArr {es : List (Int × Int)} {e : MapEntry} (h : e ∈ mapArr es 0) : ∃ j x, es[j]? = some x ∧ e = { key := .int .i64 x.1, val := .int .i64 x.2, born := j } := by
  obtain ⟨j, hj, rfl⟩ := List.getElem_of_mem h
  have hj' : j < es.length := by rw [mapArr_length] at hj; exact hj
  have h1 := mapArr_get es 0 j
  rw [List.getElem?_eq_getElem hj, List.getElem?_eq_getElem hj'] at h1
  simp only [Option.map_some, Nat.zero_add, Option.some.injEq] at h1
  exact ⟨j, es[j], List.getElem?_eq_getElem hj', h1⟩
theorem mapArr_mem {es : List (Int × Int)} {j : Nat} {x : Int × Int} (h : es[j]? = some x) : ({ key := .int .i64 x.1, val := .int .i64 x.2, born := j } : MapEntry) ∈ mapArr es 0 := by
  have h1 := mapArr_get es 0 j
  rw [h] at h1
  simp only [Option.map_some, Nat.zero_add] at h1
  exact List.mem_of_getElem? h1
theorem run_chooseI {P : Program} (w : World) (n : Nat) (hn : 0 < n) : ∃ i w1, i < n ∧ (choose (.mapNext n)).run P w = .ok i w1 ∧ w1.heap = w.heap ∧ w1.os = w.os ∧ w1.tape = w.tape ∧ w1.output = w.output := by
  by_cases hf : n ≤ 1
  · exact ⟨0, w, hn, by simp [choose, Sem.run, Question.forced, hf], rfl, rfl, rfl, rfl⟩
  · exact ⟨_, w.drew, Nat.mod_lt (w.tape w.drawn (.mapNext n)) hn, by simp [choose, Sem.run, Question.forced, hf, Question.cut], rfl, rfl, rfl, rfl⟩
theorem run_nextI {P : Program} (w : World) (b r : Nat) (es : List (Int × Int)) (seen : List Nat) (hm : MapIs w r es) (hi : IterIs w b r es seen) (hs : ∀ n ∈ seen, n < es.length) :
    (∀ j, j < es.length → j ∈ seen) ∧ (∀ ty, (Instr.next (.pointer (some ⟨b, 0, none⟩)) false ty).run P w = .ok (.tuple #[.bool false]) w) ∨
    ∃ (j : Nat) (x : Int × Int) (w1 : World), es[j]? = some x ∧ j ∉ seen ∧ IterStep w w1 b r es (seen ++ [j]) ∧ ∀ ty, (Instr.next (.pointer (some ⟨b, 0, none⟩)) false ty).run P w = .ok (.tuple #[.bool true, .int .i64 x.1, .int .i64 x.2]) w1 := by
  have hm' : w.heap[r]? = some (.map (mapArr es 0).toArray es.length) := hm
  have hi' : w.heap[b]? = some (.mapIter (some r) es.length seen.toArray es.length) := hi
  have hborn : ∀ e ∈ mapArr es 0, e.born < es.length := fun e he => by
    obtain ⟨j, x, hj, rfl⟩ := mem_mapArr he
    exact (List.getElem?_eq_some_iff.1 hj).1
  have hall : (!seen.toArray.isEmpty && !(mapArr es 0).toArray.isEmpty && (mapArr es 0).toArray.all fun e => decide (e.born ≥ es.length)) = false := by
    cases hes : mapArr es 0 with
    | nil => simp
    | cons e l =>
      have := hborn e (by rw [hes]; exact List.mem_cons_self)
      have hd : decide (e.born ≥ es.length) = false := decide_eq_false (by omega)
      simp [hd]
  obtain ⟨left, hleft⟩ : ∃ left, left = (mapArr es 0).toArray.filter fun e => !seen.toArray.contains e.born := ⟨_, rfl⟩
  have hlm : ∀ e ∈ left, e ∈ mapArr es 0 ∧ e.born ∉ seen := by
    subst hleft
    intro e he
    simpa using he
  have hold : (left.filter fun e => decide (e.born < es.length)) = left := by
    rw [Array.filter_eq_self]
    intro e he
    exact decide_eq_true (hborn e (hlm e he).1)
  have hnew : (left.filter fun e => decide (e.born ≥ es.length)) = #[] := by
    rw [Array.filter_eq_empty_iff]
    intro e he
    have := hborn e (hlm e he).1
    simp
    omega
  have hrun : ∀ ty, (Instr.next (.pointer (some ⟨b, 0, none⟩)) false ty).run P w =
      ((choose (.mapNext ((if left.isEmpty then #[none] else #[]) ++ left.map some : Array (Option MapEntry)).size)).run P w).andThen fun i w' =>
        (match ((if left.isEmpty then #[none] else #[]) ++ left.map some : Array (Option MapEntry))[i]? with
          | some (some e) => do
            setObj b (.mapIter (some r) es.length (seen.toArray.push e.born) es.length)
            pure (Value.tuple #[.bool true, e.key, e.val])
          | some none => pure (Value.tuple #[.bool false])
          | none => stuck "Next: no such candidate").run P w' := by
    intro ty
    simp only [Instr.next, Sem.run_bind, getObj, Sem.run, hi', hm', Sem.run_pure, Result.andThen_ok, hall]
    simp only [← hleft, hold, hnew, Array.append_empty]
    rw [if_neg (by decide), Sem.run_bind]
    rfl
  by_cases he : left = #[]
  · refine .inl ⟨fun j hj => ?_, fun ty => ?_⟩
    · apply Classical.byContradiction
      intro hns
      have hmem := mapArr_mem (List.getElem?_eq_getElem hj)
      have : ({ key := .int .i64 (es[j]).1, val := .int .i64 (es[j]).2, born := j } : MapEntry) ∈ left := by
        rw [hleft]
        simp
        exact ⟨hmem, hns⟩
      rw [he] at this
      simp at this
    · rw [hrun ty, he]
      simp [choose, Sem.run, Question.forced, pure]
  · have hpos : 0 < left.size := Array.size_pos_iff.2 he
    have hne : left.isEmpty = false := by simpa using he
    have hc : ((if left.isEmpty then #[none] else #[]) ++ left.map some : Array (Option MapEntry)) = left.map some := by rw [hne]; simp
    rw [hc] at hrun
    obtain ⟨i, w1, hlt, hch, h1, h2, h3, h4⟩ := run_chooseI (P := P) w (left.map some).size (by simpa using hpos)
    have hlt' : i < left.size := by simpa using hlt
    obtain ⟨hmem, hns⟩ := hlm left[i] (Array.getElem_mem hlt')
    obtain ⟨j, x, hx, hex⟩ := mem_mapArr hmem
    rw [hex] at hns
    have hget : (left.map some)[i]? = some (some left[i]) := by simp [hlt']
    have hb : w1.heap[b]? = some (.mapIter (some r) es.length seen.toArray es.length) := by rw [h1]; exact hi'
    have hbl : b < w.heap.size := (Array.getElem?_eq_some_iff.1 hi').1
    refine .inr ⟨j, x, { w1 with heap := w1.heap.setIfInBounds b (.mapIter (some r) es.length (seen ++ [j]).toArray es.length) }, hx, hns, ⟨?_, ?_, ?_, h2, h3, h4⟩, fun ty => ?_⟩
    · simp [IterIs, h1, hbl]
    · intro k hk
      simp [h1, Ne.symm hk]
    · simp [h1]
    · rw [hrun ty, hch]
      simp only [Result.andThen_ok, hget, hex]
      simp [setObj, Sem.run, hb, pure]
theorem run_entryI {P : Program} (w : World) (b r : Nat) (es : List (Int × Int)) (seen : List Nat) (j : Nat) (x : Int × Int) (hm : MapIs w r es) (hi : IterIs w b r es (seen ++ [j])) (hx : es[j]? = some x) :
    (Instr.entry (.pointer (some ⟨b, 0, none⟩))).run P w = .ok (.tuple #[.int .i64 x.1, .int .i64 x.2]) w := by
  have hm' : w.heap[r]? = some (.map (mapArr es 0).toArray es.length) := hm
  have hi' : w.heap[b]? = some (.mapIter (some r) es.length (seen ++ [j]).toArray es.length) := hi
  have hf : (mapArr es 0).find? (fun e => e.born == j) = some { key := .int .i64 x.1, val := .int .i64 x.2, born := j } := by
    cases hc : (mapArr es 0).find? (fun e => e.born == j) with
    | none =>
      have := List.find?_eq_none.1 hc _ (mapArr_mem hx)
      simp at this
    | some e =>
      obtain ⟨j', x', hx', rfl⟩ := mem_mapArr (List.mem_of_find?_eq_some hc)
      have := List.find?_some hc
      simp at this
      subst this
      rw [hx] at hx'
      obtain rfl := Option.some.inj hx'
      rfl
  simp only [Instr.entry, Sem.run_bind, getObj, Sem.run, hi', hm', Sem.run_pure, Result.andThen_ok]
  simp [hm', getObj, Sem.run, hf]
end Go.Proofs.YtaoajlaocphgdaaDoor.PA
end
