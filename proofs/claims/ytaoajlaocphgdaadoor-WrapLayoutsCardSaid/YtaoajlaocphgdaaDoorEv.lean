/-
Events of walks by hand: a struct's block stored into, and what is left alone.
-/
import Derived.Test.YtaoajlaocphgdaaDoorPAx0
namespace Go.Proofs.YtaoajlaocphgdaaDoor.PA
open Go.RowKit Go.Proofs.YtaoajlaocphgdaaDoorW.PrintWords Go.Proofs.YtaoajlaocphgdaaDoorW.PrintLast Go.Proofs.YtaoajlaocphgdaaDoorW.PrintMore
set_option linter.unusedVariables false

/-- One block's cells are set. -/
structure Sets (w w1 : World) (g : Nat) (t : TypeId) (cs : Array Value) : Prop where
  at_ : w1.heap[g]? = some (.cells cs t (0, 0))
  other : ∀ k, k ≠ g → w1.heap[k]? = w.heap[k]?
  size : w1.heap.size = w.heap.size
  os : w1.os = w.os
  tape : w1.tape = w.tape
  output : w1.output = w.output
theorem Sets.below {w w1 a : World} {g B : Nat} {t : TypeId} {cs : Array Value} (h : Sets w w1 g t cs) (hB : Below B a w) (hg : B ≤ g) : Below B a w1 :=
  hB.trans ⟨h.os, h.tape, h.output, by rw [h.size]; exact Nat.le_refl _, fun i hi => h.other i (by omega)⟩
theorem Sets.row {α : Type} {d : Kd α} {e base : Nat} {v : Value} {xs : List α} {w w1 : World} {g : Nat} {t : TypeId} {cs cs' : Array Value} (hs : Sets w w1 g t cs') (h : d.R e w base (fun _ => True) v xs) (hb : w.heap[g]? = some (.cells cs t (0, 0))) (ht : ∀ q, q ∈ e :: d.E → q ≠ t) : d.R e w1 base (fun _ => True) v xs :=
  Kd.R_mono (Kd.R_step (Kd.R_types h hb ht) (fun k ho _ => hs.other k ho.2)) (fun _ _ => trivial)
theorem Sets.blk {w w1 : World} {g g' : Nat} {t : TypeId} {cs : Array Value} {o : Obj} (hs : Sets w w1 g t cs) (h : w.heap[g']? = some o) (hne : g' ≠ g) : w1.heap[g']? = some o := (hs.other g' hne).trans h

section
variable {P : Program} {ops : Array Oper} {Q : Exit → Act → World → Prop} {rest : List Oper} {o : Oper} {a : Act} {W : World}
theorem run_store_row (g : Nat) (t ty : TypeId) (cs cs' : Array Value) (hb : W.heap[g]? = some (.cells cs t (0, 0))) (hi : (P.info? ty).map (·.size) = some cs'.size) (hsz : cs.size = cs'.size) (h1 : cs'.all (·.oneCell') = true) :
    (Instr.storeAt ty (.pointer (some ⟨g, 0, none⟩)) (.agg cs')).run P W = .ok () (W.setRow g cs') := by
  simp only [Instr.storeAt, Instr.sureAddr, Sem.run_bind, Sem.run_pure, Result.andThen_ok]
  exact run_storeVar_row W g t ty cs cs' hb hi hsz h1
theorem sets_row (g : Nat) (t : TypeId) (cs cs' : Array Value) (hb : W.heap[g]? = some (.cells cs t (0, 0))) : Sets W (W.setRow g cs') g t cs' := by
  refine ⟨?_, ?_, ?_, rfl, rfl, rfl⟩
  · simp [World.setRow, Array.getElem?_modify, hb]
  · intro k hk
    simp [World.setRow, Array.getElem?_modify, Ne.symm hk]
  · simp [World.setRow]
theorem store_event {ty : TypeId} {x y : Operand} (hgd : o.guard = none) (ho : o.op = .store ty x y) (g : Nat) (t : TypeId) (cs cs' : Array Value) (hx : a.eval x = .pointer (some ⟨g, 0, none⟩)) (hy : a.eval y = .agg cs')
    (hb : W.heap[g]? = some (.cells cs t (0, 0))) (hi : (P.info? ty).map (·.size) = some cs'.size) (hsz : cs.size = cs'.size) (h1 : cs'.all (·.oneCell') = true)
    (h : ∀ w1, Sets W w1 g t cs' → wpList P ops Q rest (a.put o.dst undef) w1) : wpList P ops Q (o :: rest) a W := by
  refine wpList_plain hgd fun K hK => ?_
  unfold Oper.wp execOp
  simp only [ho, hx, hy, Sem.run_bind, run_store_row g t ty cs cs' hb hi hsz h1, Result.andThen_ok, Sem.run_pure]
  exact hK _ _ (h _ (sets_row g t cs cs' hb))
end
end Go.Proofs.YtaoajlaocphgdaaDoor.PA
