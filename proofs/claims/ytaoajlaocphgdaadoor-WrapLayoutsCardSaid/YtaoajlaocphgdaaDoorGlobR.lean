/-
The table of operations as a row that is read.
-/
import Derived.Test.YtaoajlaocphgdaaDoorPAx0
namespace Go.Proofs.YtaoajlaocphgdaaDoor.PA
open Go.RowKit Go.Proofs.YtaoajlaocphgdaaDoorW.PrintWords

def rowsL : List S97 := rowTab.map fun x => ⟨⟨#[x.1]⟩, ⟨x.2.1, x.2.2.1, x.2.2.2⟩⟩
theorem rowsL_at (i : Nat) (h : i < 43) : rowsL[i]? = some ⟨rowForm i, ⟨(rowAt i).2.1, (rowAt i).2.2.1, (rowAt i).2.2.2⟩⟩ := by
  unfold rowsL rowForm rowAt
  have hl : i < rowTab.length := h
  simp [List.getD_eq_getElem?_getD, hl]
theorem GlobOk.rowsC {w : World} (h : GlobOk w) : Kd.C k97 w (some ⟨0, 0, none⟩) 43 rowsL := by
  refine ⟨by rfl, by decide, fun _ => ⟨_, rfl, fun i p hp => ?_⟩⟩
  have hl : rowsL.length = 43 := by rfl
  have hi : i < 43 := by
    rcases Nat.lt_or_ge i 43 with h' | h'
    · exact h'
    · rw [List.getElem?_eq_none (by omega)] at hp
      cases hp
  rw [rowsL_at i hi] at hp
  obtain rfl := Option.some.inj hp
  refine ⟨_, rfl, k97_mk w _, fun j u hu => ?_⟩
  have ha : ∀ n : Nat, (⟨0, 0, none⟩ : Addr).add n = ⟨0, n, none⟩ := add_plain _
  rw [ha]
  match j, hu with
  | 0, hu => obtain rfl := Option.some.inj hu; exact h.form i hi
  | 1, hu => obtain rfl := Option.some.inj hu; exact h.op i hi
  | 2, hu => obtain rfl := Option.some.inj hu; exact h.kind i hi
  | 3, hu => obtain rfl := Option.some.inj hu; exact h.top i hi
end Go.Proofs.YtaoajlaocphgdaaDoor.PA
