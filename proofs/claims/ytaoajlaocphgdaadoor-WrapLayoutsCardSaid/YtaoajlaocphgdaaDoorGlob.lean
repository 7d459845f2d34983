/-
What the package variables hold that the program's functions read: the table of operations (package ins), and utf8's two tables.
-/
import Derived.Test.YtaoajlaocphgdaaDoorProg
import Derived.Below
import Derived.Deep.Draws
import Derived.WalkKit
import Derived.Shelf.Unicode.DecodeSlow
namespace Go.Proofs.YtaoajlaocphgdaaDoor.PA
open Go.RowKit

/-- The table of operations: the form's letter, and the three fields. -/
def rowTab : List (UInt8 × Int × Int × Int) :=
  [(82, 51, 0, 0), (82, 51, 0, 32), (82, 51, 1, 0), (82, 51, 2, 0), (82, 51, 3, 0), (82, 51, 4, 0), (82, 51, 5, 0), (82, 51, 5, 32), (82, 51, 6, 0), (82, 51, 7, 0), (82, 51, 0, 1), (82, 51, 3, 1), (82, 51, 4, 1), (82, 51, 5, 1), (82, 51, 6, 1), (82, 51, 7, 1), (73, 19, 0, 0), (73, 19, 2, 0), (73, 19, 3, 0), (73, 19, 4, 0), (73, 19, 6, 0), (73, 19, 7, 0), (73, 19, 1, 0), (73, 19, 5, 0), (73, 19, 5, 16), (73, 3, 0, 0), (73, 3, 4, 0), (73, 3, 2, 0), (73, 3, 3, 0), (83, 35, 0, 0), (83, 35, 2, 0), (83, 35, 3, 0), (66, 99, 0, 0), (66, 99, 1, 0), (66, 99, 4, 0), (66, 99, 5, 0), (66, 99, 6, 0), (66, 99, 7, 0), (85, 55, 0, 0), (85, 23, 0, 0), (74, 111, 0, 0), (73, 103, 0, 0), (69, 115, 0, 0)]
def rowAt (i : Nat) : UInt8 × Int × Int × Int := rowTab.getD i (0, 0, 0, 0)
/-- An operation's form, as a string. -/
def rowForm (i : Nat) : ByteArray := ⟨#[(rowAt i).1]⟩

structure GlobOk (w : World) : Prop where
  form : ∀ i : Nat, i < 43 → w.cell? ⟨0, i * 4, none⟩ = some (.string (rowForm i))
  op : ∀ i : Nat, i < 43 → w.cell? ⟨0, i * 4 + 1, none⟩ = some (.int .u64 (rowAt i).2.1)
  kind : ∀ i : Nat, i < 43 → w.cell? ⟨0, i * 4 + 2, none⟩ = some (.int .u64 (rowAt i).2.2.1)
  top : ∀ i : Nat, i < 43 → w.cell? ⟨0, i * 4 + 3, none⟩ = some (.int .u64 (rowAt i).2.2.2)
  utf8 : Lib.Utf8Tabs 2 3 w

theorem GlobOk.of_below {w w1 : World} (h : GlobOk w) (hb : Below w.heap.size w w1) : GlobOk w1 := by
  have hc : ∀ {a : Addr} {v : Value}, w.cell? a = some v → w1.cell? a = some v := fun {a v} hc => (hb.cell (World.block_lt_of_cell? w a hc)).trans hc
  exact ⟨fun i hi => hc (h.form i hi), fun i hi => hc (h.op i hi), fun i hi => hc (h.kind i hi), fun i hi => hc (h.top i hi), Utf8Tabs_below h.utf8 hb⟩
theorem GlobOk.drew {w : World} (h : GlobOk w) : GlobOk w.drew := h.of_below (Below.refl _ _).drew
theorem GlobOk.drewN {w : World} (h : GlobOk w) (n : Nat) : GlobOk (w.drewN n) := by
  induction n with
  | zero => exact h
  | succ n ih => rw [← World.drew_drewN]; exact ih.drew
end Go.Proofs.YtaoajlaocphgdaaDoor.PA
