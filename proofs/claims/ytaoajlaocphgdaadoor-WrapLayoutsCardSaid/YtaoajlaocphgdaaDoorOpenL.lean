/-
A layout that comes in, laid open: its twenty cells are whole numbers.
-/
import Derived.Test.YtaoajlaocphgdaaDoorHMaker
import Derived.ProofKit
import Derived.Lib.SmallJoins
namespace Go.Proofs.YtaoajlaocphgdaaDoor.PA
open Go.ChangeShapes Go.WideShapes Go.ChangeAt Go.RowKit Go.Joins
set_option linter.unusedVariables false
set_option linter.unusedSimpArgs false

theorem cRegion : Tryd.prog.cellsOf 25 = 4 := by kernel_rfl
theorem cLayout : Tryd.prog.cellsOf 27 = 20 := by kernel_rfl
theorem cInt : Tryd.prog.cellsOf 3 = 1 := by kernel_rfl
theorem cInt64 : Tryd.prog.cellsOf 2 = 1 := by kernel_rfl
theorem cUint64 : Tryd.prog.cellsOf 23 = 1 := by kernel_rfl
theorem split20 {α : Type} (l : List α) (h : l.length = 20) : l = (l.drop 0).take 4 ++ ((l.drop 4).take 4 ++ ((l.drop 8).take 4 ++ ((l.drop 12).take 4 ++ (l.drop 16).take 4))) := by
  have e1 := (List.take_append_drop 4 l).symm
  have e2 := (List.take_append_drop 4 (l.drop 4)).symm
  have e3 := (List.take_append_drop 4 (l.drop 8)).symm
  have e4 := (List.take_append_drop 4 (l.drop 12)).symm
  have e5 : (l.drop 16).take 4 = l.drop 16 := List.take_of_length_le (by simp; omega)
  simp only [List.drop_drop, Nat.reduceAdd] at e2 e3 e4
  rw [e5, ← e4, ← e3, ← e2, List.drop_zero]
  exact e1
section
variable {H : Type} {enc : TypeId × Value → H} {W : World} {bs : Nat} {sp : Nat → Bool} {held : Bool}
theorem four {α : Type} {l : List α} {a b c d : α} (h : l.length = 4) (h0 : (l.drop 0).take 1 = [a]) (h1 : (l.drop 1).take 1 = [b]) (h2 : (l.drop 2).take 1 = [c]) (h3 : (l.drop 3).take 1 = [d]) : l = [a, b, c, d] := by
  match l, h with
  | [x0, x1, x2, x3], _ => simp at h0 h1 h2 h3; simp [h0, h1, h2, h3]
set_option maxRecDepth 100000 in
theorem region_cells {n : Nat} {cs : List Value} {y : DataW H × List MemPlace} (h : DataW.trod enc Tryd.prog W bs sp held n 25 cs = some y) :
    ∃ a b c d, cs = [.int .u64 a, .int .u64 b, .int .i64 c, .int .i64 d] := by
  obtain ⟨xs, m, rfl, hx, hl, hxl, hall⟩ := DataW.trod_struct Tryd.underlying25 h
  rw [cRegion] at hl
  have hxl : xs.length = 4 := hxl
  match xs, hxl, hall with
  | [y0, y1, y2, y3], _, hall =>
    have h0 : DataW.trod enc Tryd.prog W bs sp held m 23 ((cs.drop 0).take (Tryd.prog.cellsOf 23)) = some y0 := hall 0 _ rfl
    have h1 : DataW.trod enc Tryd.prog W bs sp held m 23 ((cs.drop 1).take (Tryd.prog.cellsOf 23)) = some y1 := hall 1 _ rfl
    have h2 : DataW.trod enc Tryd.prog W bs sp held m 3 ((cs.drop 2).take (Tryd.prog.cellsOf 3)) = some y2 := hall 2 _ rfl
    have h3 : DataW.trod enc Tryd.prog W bs sp held m 3 ((cs.drop 3).take (Tryd.prog.cellsOf 3)) = some y3 := hall 3 _ rfl
    rw [cUint64] at h0 h1
    rw [cInt] at h2 h3
    obtain ⟨a, ea, _⟩ := DataW.trod_int Tryd.underlying23 h0
    obtain ⟨b, eb, _⟩ := DataW.trod_int Tryd.underlying23 h1
    obtain ⟨c, ec, _⟩ := DataW.trod_int Tryd.underlying3 h2
    obtain ⟨d, ed, _⟩ := DataW.trod_int Tryd.underlying3 h3
    exact ⟨a, b, c, d, four hl ea eb ec ed⟩
set_option maxRecDepth 100000 in
theorem open_layout {b0 : Nat} {v : Value} {d : DataW H} {p : List MemPlace} (hv : Value.okWide Tryd.prog W .any b0 27 v) (h : DataW.Trod enc Tryd.prog W bs sp held 27 v d p) : ∃ l : LayV, v = .agg #[.int .u64 l.a0, .int .u64 l.a1, .int .i64 l.a2, .int .i64 l.a3, .int .u64 l.a4, .int .u64 l.a5, .int .i64 l.a6, .int .i64 l.a7, .int .u64 l.a8, .int .u64 l.a9, .int .i64 l.a10, .int .i64 l.a11, .int .u64 l.a12, .int .u64 l.a13, .int .i64 l.a14, .int .i64 l.a15, .int .u64 l.a16, .int .u64 l.a17, .int .i64 l.a18, .int .i64 l.a19] := by
  obtain ⟨cs, rfl, hsz⟩ := okWide_struct Tryd.underlying27 hv
  rw [cLayout] at hsz
  obtain ⟨fuel, hf⟩ := h
  obtain ⟨xs, m, rfl, hx, hl, hxl, hall⟩ := DataW.trod_struct Tryd.underlying27 hf
  have hxl : xs.length = 5 := hxl
  have hcl : cs.toList.length = 20 := by simpa using hsz
  match xs, hxl, hall with
  | [y0, y1, y2, y3, y4], _, hall =>
    have h0 : DataW.trod enc Tryd.prog W bs sp held m 25 ((cs.toList.drop 0).take (Tryd.prog.cellsOf 25)) = some y0 := hall 0 _ rfl
    have h1 : DataW.trod enc Tryd.prog W bs sp held m 25 ((cs.toList.drop 4).take (Tryd.prog.cellsOf 25)) = some y1 := hall 1 _ rfl
    have h2 : DataW.trod enc Tryd.prog W bs sp held m 25 ((cs.toList.drop 8).take (Tryd.prog.cellsOf 25)) = some y2 := hall 2 _ rfl
    have h3 : DataW.trod enc Tryd.prog W bs sp held m 25 ((cs.toList.drop 12).take (Tryd.prog.cellsOf 25)) = some y3 := hall 3 _ rfl
    have h4 : DataW.trod enc Tryd.prog W bs sp held m 25 ((cs.toList.drop 16).take (Tryd.prog.cellsOf 25)) = some y4 := hall 4 _ rfl
    rw [cRegion] at h0 h1 h2 h3 h4
    obtain ⟨a0, a1, a2, a3, e0⟩ := region_cells h0
    obtain ⟨a4, a5, a6, a7, e1⟩ := region_cells h1
    obtain ⟨a8, a9, a10, a11, e2⟩ := region_cells h2
    obtain ⟨a12, a13, a14, a15, e3⟩ := region_cells h3
    obtain ⟨a16, a17, a18, a19, e4⟩ := region_cells h4
    have hs := split20 cs.toList hcl
    rw [e0, e1, e2, e3, e4] at hs
    refine ⟨⟨a0, a1, a2, a3, a4, a5, a6, a7, a8, a9, a10, a11, a12, a13, a14, a15, a16, a17, a18, a19⟩, ?_⟩
    have hc : cs = cs.toList.toArray := by simp
    rw [hc, hs]
    rfl
end
end Go.Proofs.YtaoajlaocphgdaaDoor.PA
