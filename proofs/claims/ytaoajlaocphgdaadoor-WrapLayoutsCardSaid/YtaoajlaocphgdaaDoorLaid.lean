/-
From what the listed package variables read as to what the walks ask of the world.
-/
import Derived.Test.YtaoajlaocphgdaaDoorGlob
import Derived.Test.YtaoajlaocphgdaaDoorRows
import Derived.ProofKit
import Derived.LaidMore
import Derived.OpenShut
import Derived.Stop.Joined
import Derived.Lib.LaidU8
namespace Go.Proofs.YtaoajlaocphgdaaDoor.PA
open Go.ChangeShapes Go.WideShapes Go.ChangeAt Go.RowKit Go.Lib
set_option linter.unusedVariables false

theorem nRows : Tryd.prog.globalNamed "caponier/ins.rows" = some 0 := by kernel_rfl
theorem nFirst : Tryd.prog.globalNamed "unicode/utf8.first" = some 2 := by kernel_rfl
theorem nAcc : Tryd.prog.globalNamed "unicode/utf8.acceptRanges" = some 3 := by kernel_rfl
theorem yRows : (Tryd.prog.globals[0]?).map (·.type) = some 98 := by kernel_rfl
theorem yFirst : (Tryd.prog.globals[2]?).map (·.type) = some 166 := by kernel_rfl
theorem yAcc : (Tryd.prog.globals[3]?).map (·.type) = some 169 := by kernel_rfl
theorem c8 : Tryd.prog.cellsOf 5 = 1 := by kernel_rfl
theorem c64 : Tryd.prog.cellsOf 23 = 1 := by kernel_rfl
theorem cString : Tryd.prog.cellsOf 9 = 1 := by kernel_rfl
theorem cFirst : Tryd.prog.cellsOf 166 = 256 := by kernel_rfl
theorem cAcc : Tryd.prog.cellsOf 168 = 2 := by kernel_rfl
theorem cRow : Tryd.prog.cellsOf 97 = 4 := by kernel_rfl
theorem cFields : Tryd.prog.cellsOf 95 = 3 := by kernel_rfl
theorem utf8_laid {w : World} (h3 : VarReads Tryd.prog w "unicode/utf8.first" firstData) (h4 : VarReads Tryd.prog w "unicode/utf8.acceptRanges" acceptData) : Lib.Utf8Tabs 2 3 w := by
  refine ⟨fun c hc => ?_, fun i hi => ?_⟩
  · obtain ⟨g, t, cs, fuel, p, hg, hty, hvar, hd⟩ := h3
    obtain rfl := Option.some.inj (nFirst.symm.trans hg)
    obtain rfl := Option.some.inj (yFirst.symm.trans hty)
    have hcs := cells_of_tab Tryd.underlying166 Tryd.underlying5 c8 cFirst hd
    have := World.var?_cell hg hvar c
    rw [this, ← Array.getElem?_toList, hcs]
    simp [firstTab, hc]
  · obtain ⟨g, t, cs, fuel, p, hg, hty, hvar, hd⟩ := h4
    obtain rfl := Option.some.inj (nAcc.symm.trans hg)
    obtain rfl := Option.some.inj (yAcc.symm.trans hty)
    obtain ⟨fuel', d, q, hdi, he⟩ := array_elem Tryd.underlying169 hd i hi
    simp only [List.getElem?_map, List.getElem?_range hi, Option.map_some, Option.some.injEq] at hdi
    subst hdi
    rw [cAcc] at he
    have hcs := ints_of_struct Tryd.underlying168 (fun j f hj => by
      match j, hj with
      | 0, hj => simp at hj; subst hj; exact ⟨Tryd.underlying5, rfl, c8⟩
      | 1, hj => simp at hj; subst hj; exact ⟨Tryd.underlying5, rfl, c8⟩
      | j + 2, hj => simp at hj) (by rw [cAcc]; rfl) he
    have e0 := congrArg (·[0]?) hcs
    have e1 := congrArg (·[1]?) hcs
    simp [List.getElem?_take, List.getElem?_drop] at e0 e1
    constructor
    · rw [World.var?_cell hg hvar (2 * i)]
      simpa [Nat.mul_comm] using e0
    · rw [World.var?_cell hg hvar (2 * i + 1)]
      simpa [Nat.mul_comm] using e1
def rowD (x : UInt8 × Int × Int × Int) : DataW Unit := .agg [.lit (.string [x.1]), .agg ([x.2.1, x.2.2.1, x.2.2.2].map fun z => .lit (.int .u64 z))]
theorem rowsD : (Rows.laid_caponier_ins_rows : DataW Unit) = .agg (rowTab.map rowD) := by rfl
theorem row_cells {w : World} {fuel : Nat} {cs : List Value} {x : UInt8 × Int × Int × Int} {q : List MemPlace} (h : DataW.trod (fun _ => ()) Tryd.prog w 0 (fun _ => true) false fuel 97 cs = some (rowD x, q)) :
    cs[0]? = some (.string ⟨#[x.1]⟩) ∧ cs[1]? = some (.int .u64 x.2.1) ∧ cs[2]? = some (.int .u64 x.2.2.1) ∧ cs[3]? = some (.int .u64 x.2.2.2) := by
  obtain ⟨xs, n, rfl, hx, hl, hxl, hall⟩ := DataW.trod_struct Tryd.underlying97 h
  have hxs : xs.map (·.1) = [.lit (.string [x.1]), .agg ([x.2.1, x.2.2.1, x.2.2.2].map fun z => .lit (.int .u64 z))] := by
    have := congrArg Prod.fst hx
    simpa [rowD] using this.symm
  match xs, hxl, hxs, hall with
  | [a, b], _, hxs, hall =>
    simp only [List.map_cons, List.map_nil, List.cons.injEq, and_true] at hxs
    have h0 : DataW.trod (fun _ => ()) Tryd.prog w 0 (fun _ => true) false n 9 ((cs.drop 0).take (Tryd.prog.cellsOf 9)) = some a := hall 0 _ rfl
    have h1 : DataW.trod (fun _ => ()) Tryd.prog w 0 (fun _ => true) false n 95 ((cs.drop 1).take (Tryd.prog.cellsOf 95)) = some b := hall 1 _ rfl
    rw [cString] at h0
    rw [cFields] at h1
    obtain ⟨s, e0, e1, _⟩ := DataW.trod_string Tryd.underlying9 h0
    have hs : s = ⟨#[x.1]⟩ := by
      rw [e1] at hxs
      have := hxs.1
      simp only [DataW.lit.injEq, Lit.string.injEq] at this
      exact bytes_inj this
    subst hs
    have hb : b = (.agg ([x.2.1, x.2.2.1, x.2.2.2].map fun z => .lit (.int .u64 z)), b.2) := Prod.ext (by rw [hxs.2]; rfl) rfl
    rw [hb] at h1
    have hcs := ints_of_struct Tryd.underlying95 (fun j f hj => by
      match j, hj with
      | 0, hj => simp at hj; subst hj; exact ⟨Tryd.underlying23, rfl, c64⟩
      | 1, hj => simp at hj; subst hj; exact ⟨Tryd.underlying23, rfl, c64⟩
      | 2, hj => simp at hj; subst hj; exact ⟨Tryd.underlying23, rfl, c64⟩
      | j + 3, hj => simp at hj) (by rw [cFields]; rfl) h1
    have f0 := congrArg (·[0]?) e0
    have f1 := congrArg (·[0]?) hcs
    have f2 := congrArg (·[1]?) hcs
    have f3 := congrArg (·[2]?) hcs
    simp [List.getElem?_take, List.getElem?_drop] at f0 f1 f2 f3
    exact ⟨f0, f1, f2, f3⟩
theorem globOk_of {w : World} (h0 : VarReads Tryd.prog w "caponier/ins.rows" Rows.laid_caponier_ins_rows) (h3 : VarReads Tryd.prog w "unicode/utf8.first" firstData) (h4 : VarReads Tryd.prog w "unicode/utf8.acceptRanges" acceptData) : GlobOk w := by
  have key : ∀ i : Nat, i < 43 → w.cell? ⟨0, i * 4, none⟩ = some (.string (rowForm i)) ∧ w.cell? ⟨0, i * 4 + 1, none⟩ = some (.int .u64 (rowAt i).2.1) ∧ w.cell? ⟨0, i * 4 + 2, none⟩ = some (.int .u64 (rowAt i).2.2.1) ∧ w.cell? ⟨0, i * 4 + 3, none⟩ = some (.int .u64 (rowAt i).2.2.2) := by
    intro i hi
    obtain ⟨g, t, cs, fuel, p, hg, hty, hvar, hd⟩ := h0
    obtain rfl := Option.some.inj (nRows.symm.trans hg)
    obtain rfl := Option.some.inj (yRows.symm.trans hty)
    rw [rowsD] at hd
    obtain ⟨fuel', d, q, hdi, he⟩ := array_elem Tryd.underlying98 hd i hi
    have hl : i < rowTab.length := hi
    have hra : rowTab[i] = rowAt i := by simp [rowAt, List.getD_eq_getElem?_getD, hl]
    rw [List.getElem?_map, List.getElem?_eq_getElem hl, hra] at hdi
    obtain rfl := Option.some.inj hdi
    rw [cRow] at he
    obtain ⟨f0, f1, f2, f3⟩ := row_cells he
    simp [List.getElem?_take, List.getElem?_drop] at f0 f1 f2 f3
    rw [World.var?_cell hg hvar, World.var?_cell hg hvar, World.var?_cell hg hvar, World.var?_cell hg hvar]
    exact ⟨by simpa [rowForm] using f0, by simpa using f1, by simpa using f2, by simpa using f3⟩
  exact ⟨fun i hi => (key i hi).1, fun i hi => (key i hi).2.1, fun i hi => (key i hi).2.2.1, fun i hi => (key i hi).2.2.2, utf8_laid h3 h4⟩
/-- The list that all these rows bear. -/
abbrev laidL : List (String × DataW Unit) := [("caponier/ins.rows", Rows.laid_caponier_ins_rows), ("unicode/utf8.acceptRanges", Rows.laid_unicode_utf8_acceptRanges), ("unicode/utf8.first", Rows.laid_unicode_utf8_first)]
theorem accD : (Rows.laid_unicode_utf8_acceptRanges : DataW Unit) = acceptData := by kernel_rfl
theorem firstD : Rows.laid_unicode_utf8_first = firstData := by kernel_rfl
theorem globOk_of_laid {W : World} (h : laidMetH Tryd.prog laidL W) : GlobOk W := by
  rw [MakeChecks.laidMetH_plain _ _ _ (by kernel_rfl)] at h
  exact globOk_of (Go.Lib.laidMet.reads h (by simp)) (firstD ▸ Go.Lib.laidMet.reads h (by simp)) (accD ▸ Go.Lib.laidMet.reads h (by simp))
end Go.Proofs.YtaoajlaocphgdaaDoor.PA
