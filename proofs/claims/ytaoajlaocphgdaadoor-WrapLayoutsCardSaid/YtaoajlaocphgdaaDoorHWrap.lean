/-
Contract of wrap.wrapper: an entry's wrapper, and where its call is.
-/
import Derived.Test.YtaoajlaocphgdaaDoorHMaker2
import Derived.Test.YtaoajlaocphgdaaDoorHLoop
import Derived.IntWalk
import Derived.StillTailTactics
namespace Go.Proofs.YtaoajlaocphgdaaDoor.PA
open Go.RowKit Go.Proofs.YtaoajlaocphgdaaDoorW.PrintWords Go.Proofs.YtaoajlaocphgdaaDoorW.PrintLast Go.Proofs.YtaoajlaocphgdaaDoorW.PrintMore
set_option linter.unusedVariables false
set_option linter.unusedSimpArgs false

theorem here_ms {w0 w : World} {g : Nat} {l : LayV} {st : List InsP} {place : List (Int × Int)} (k n : Int) (hn : (st.length : Int) = n) (hK : MS w0 w g l st place) (hB : Below w0.heap.size w0 w) (hk : ∀ x ∈ place, x.1 ≠ k) :
    Calls Tryd.prog 50 #[.pointer (some ⟨g, 0, none⟩), .int .i64 k] w fun e w' => e = .returned (.tuple #[]) ∧ MS w0 w' g l st (place ++ [(k, n)]) ∧ Below w0.heap.size w0 w' := by
  subst hn
  refine (here_calls w0 w g l _ _ place k hK hB hk).mono ?_
  rintro e w' ⟨rfl, hK, hB⟩
  rw [List.length_map] at hK
  exact ⟨rfl, hK, hB⟩
theorem MS.len {w0 w : World} {g : Nat} {l : LayV} {st : List InsP} {place : List (Int × Int)} (h : MS w0 w g l st place) : ∃ A c, w.cell? ⟨g, 20, none⟩ = some (.slice A st.length c) := by
  obtain ⟨v, rg, rp, hM⟩ := h
  obtain ⟨A, c, hv⟩ := Kd.R_slice hM.row
  refine ⟨A, c, ?_⟩
  rw [hM.cell 20 v (by simp [mkCells]), hv, List.length_map]

/-- The checks of the parameters from the i-th on. -/
def paramsP (l : LayV) : List Int → Int → List InsP
  | [], _ => []
  | n :: r, i => (if n > 0 then ptrP l (10 + i) n else []) ++ paramsP l r (i + 1)
theorem paramsP_snoc (l : LayV) (a : List Int) (n i : Int) : paramsP l (a ++ [n]) i = paramsP l a i ++ (if n > 0 then ptrP l (10 + (i + a.length)) n else []) := by
  induction a generalizing i with
  | nil => simp [paramsP]
  | cons x r ih =>
    simp only [List.cons_append, paramsP, ih, List.length_cons, Int.natCast_add, Int.natCast_one, List.append_assoc]
    rw [show i + 1 + (r.length : Int) = i + ((r.length : Int) + 1) from by omega]
theorem ptrP_length (l : LayV) (r n : Int) : (ptrP l r n).length ≤ 8 := by
  unfold ptrP
  split <;> simp [num, noneGo, numIns]
theorem paramsP_length (l : LayV) (a : List Int) (i : Int) : (paramsP l a i).length ≤ 8 * a.length := by
  induction a generalizing i with
  | nil => simp [paramsP]
  | cons x r ih =>
    have := ih (i + 1)
    have h8 := ptrP_length l (10 + i) x
    simp only [paramsP, List.length_append, List.length_cons]
    split <;> simp <;> omega

/-! ### the wrapper, piece by piece -/
def checksP (l : LayV) (ps : List Int) : List InsP := backP l ++ paramsP l ps 0
def preP (l : LayV) (ps : List Int) : List InsP := checksP l ps ++ num 5 (l.a5 - 16) ++ noneGo [⟨31, 0, 5, 1, 0⟩, ⟨31, 0, 5, 2, 8⟩] ++ num 2 l.a9
def midP (l : LayV) (ps : List Int) : List InsP := preP l ps ++ noneGo [⟨40, 1, 0, 0, 0⟩] ++ num 5 (l.a5 - 16) ++ noneGo [⟨28, 1, 5, 0, 0⟩, ⟨28, 2, 5, 0, 8⟩, ⟨16, 11, 0, 0, 0⟩]
def leftP (l : LayV) (ps : List Int) : List InsP := midP l ps ++ cleanP ++ noneGo [⟨41, 0, 1, 0, 0⟩]
def noP (l : LayV) (ps : List Int) : List InsP := leftP l ps ++ noneGo [⟨16, 10, 0, 0, 0⟩, ⟨16, 11, 0, 0, 1⟩] ++ [(⟨40, 0, 0, 0, 0⟩, 2)]
def allP (l : LayV) (ps : List Int) : List InsP := noP l ps ++ noneGo [⟨42, 0, 0, 0, 0⟩]
def places (l : LayV) (ps : List Int) : List (Int × Int) := [(2, ((midP l ps).length : Int)), (1, ((leftP l ps).length : Int)), (3, ((noP l ps).length : Int))]
theorem checks_length (l : LayV) (ps : List Int) (h : ps.length ≤ 6) : (checksP l ps).length ≤ 56 := by
  have := paramsP_length l ps 0
  have hb : (backP l).length = 8 := by simp [backP, num, noneGo, numIns]
  simp only [checksP, List.length_append]
  omega
theorem num_length (d v : Int) : (num d v).length = 2 := by simp [num, noneGo, numIns]
theorem clean_length : cleanP.length = 13 := by simp [cleanP, noneGo, cleanRegs]
theorem noneGo_length (xs : List S43) : (noneGo xs).length = xs.length := by simp [noneGo]

/-- What a layout must be, for the wrapper to be made of it as told. -/
structure LayOk (l : LayV) : Prop where
  h5 : 16 ≤ l.a5 ∧ l.a5 ≤ 1073741824
  h9 : 0 ≤ l.a9 ∧ l.a9 ≤ 1073741824
  h12 : 0 ≤ l.a12 ∧ l.a12 ≤ 1073741824
  h13 : 0 ≤ l.a13 ∧ l.a13 ≤ 1073741824
  h16 : 0 ≤ l.a16 ∧ l.a16 ≤ 1073741824
  h17 : 0 ≤ l.a17 ∧ l.a17 ≤ 1073741824

def placeOf (l : LayV) (ps : List Int) (k : Int) : Int := if k = 2 then (midP l ps).length else if k = 1 then (leftP l ps).length else if k = 3 then (noP l ps).length else 0
theorem small_tags (l : LayV) (ps : List Int) : ∀ x ∈ allP l ps, x.2 = 0 ∨ x.2 = 1 ∨ x.2 = 2 ∨ x.2 = 3 := by
  have hng : ∀ xs : List S43, ∀ x ∈ noneGo xs, x.2 = 0 ∨ x.2 = 1 ∨ x.2 = 2 ∨ x.2 = 3 := by
    intro xs x hx
    obtain ⟨y, _, rfl⟩ := List.mem_map.1 hx
    exact .inl rfl
  have hnum : ∀ d v, ∀ x ∈ num d v, x.2 = 0 ∨ x.2 = 1 ∨ x.2 = 2 ∨ x.2 = 3 := fun d v => hng _
  have happ : ∀ a b : List InsP, (∀ x ∈ a, x.2 = 0 ∨ x.2 = 1 ∨ x.2 = 2 ∨ x.2 = 3) → (∀ x ∈ b, x.2 = 0 ∨ x.2 = 1 ∨ x.2 = 2 ∨ x.2 = 3) → ∀ x ∈ a ++ b, x.2 = 0 ∨ x.2 = 1 ∨ x.2 = 2 ∨ x.2 = 3 := fun a b ha hb x hx => (List.mem_append.1 hx).elim (ha x) (hb x)
  have hone : ∀ (y : S43) (k : Int), (k = 1 ∨ k = 2 ∨ k = 3) → ∀ x ∈ [((y, k) : InsP)], x.2 = 0 ∨ x.2 = 1 ∨ x.2 = 2 ∨ x.2 = 3 := by
    intro y k hk x hx
    obtain rfl := List.mem_singleton.1 hx
    exact .inr hk
  have hback : ∀ x ∈ backP l, x.2 = 0 ∨ x.2 = 1 ∨ x.2 = 2 ∨ x.2 = 3 := by
    unfold backP
    exact happ _ _ (hnum _ _) (happ _ _ (hone _ _ (by decide)) (happ _ _ (hnum _ _) (happ _ _ (hone _ _ (by decide)) (happ _ _ (hng _) (hone _ _ (by decide))))))
  have hptr : ∀ r n, ∀ x ∈ ptrP l r n, x.2 = 0 ∨ x.2 = 1 ∨ x.2 = 2 ∨ x.2 = 3 := by
    intro r n
    unfold ptrP
    split
    · exact hone _ _ (by decide)
    · exact happ _ _ (hng _) (happ _ _ (hone _ _ (by decide)) (happ _ _ (hnum _ _) (happ _ _ (hone _ _ (by decide)) (happ _ _ (hnum _ _) (hone _ _ (by decide))))))
  have hpar : ∀ (ps : List Int) i, ∀ x ∈ paramsP l ps i, x.2 = 0 ∨ x.2 = 1 ∨ x.2 = 2 ∨ x.2 = 3 := by
    intro ps
    induction ps with
    | nil => intro i x hx; cases hx
    | cons n r ih =>
      intro i
      unfold paramsP
      refine happ _ _ ?_ (ih _)
      split
      · exact hptr _ _
      · intro x hx; cases hx
  unfold allP noP leftP midP preP checksP cleanP
  refine happ _ _ (happ _ _ (happ _ _ (happ _ _ (happ _ _ (happ _ _ (happ _ _ (happ _ _ (happ _ _ (happ _ _ (happ _ _ (happ _ _ hback (hpar _ _)) ?_) ?_) ?_) ?_) ?_) ?_) ?_) ?_) ?_) ?_) ?_ <;> first | exact hnum _ _ | exact hng _ | exact hone _ _ (by decide)
theorem placeOf_mem (l : LayV) (ps : List Int) : ∀ x ∈ allP l ps, x.2 ≠ 0 → (x.2, placeOf l ps x.2) ∈ places l ps := by
  intro x hx h0
  rcases small_tags l ps x hx with h | h | h | h <;> rw [h] at h0 ⊢ <;> simp [placeOf, places] at h0 ⊢
theorem all_length (l : LayV) (ps : List Int) (h : ps.length ≤ 6) : (allP l ps).length ≤ 100 := by
  have := checks_length l ps h
  simp only [allP, noP, leftP, midP, preP, List.length_append, num_length, noneGo_length, clean_length, List.length_cons, List.length_nil]
  omega
theorem places_bound (l : LayV) (ps : List Int) (h : ps.length ≤ 6) : ∀ x ∈ places l ps, 0 ≤ x.2 ∧ x.2 ≤ 1000 := by
  have := all_length l ps h
  have h1 : (noP l ps).length ≤ (allP l ps).length := by simp only [allP, List.length_append]; omega
  have h2 : (leftP l ps).length ≤ (noP l ps).length := by simp only [noP, List.length_append]; omega
  have h3 : (midP l ps).length ≤ (leftP l ps).length := by simp only [leftP, List.length_append]; omega
  intro x hx
  simp only [places, List.mem_cons, List.not_mem_nil, or_false] at hx
  rcases hx with rfl | rfl | rfl <;> simp only [] <;> omega

/-- Where the code of the loop that fills in how far each goes stands: what is known there. -/
structure Made (w0 w : World) (g : Nat) (l : LayV) (ps : List Int) : Prop where
  ms : MS w0 w g l (allP l ps) (places l ps)
  below : Below w0.heap.size w0 w

def layArr (l : LayV) : Array Value := #[.int .u64 l.a0, .int .u64 l.a1, .int .i64 l.a2, .int .i64 l.a3, .int .u64 l.a4, .int .u64 l.a5, .int .i64 l.a6, .int .i64 l.a7, .int .u64 l.a8, .int .u64 l.a9, .int .i64 l.a10, .int .i64 l.a11, .int .u64 l.a12, .int .u64 l.a13, .int .i64 l.a14, .int .i64 l.a15, .int .u64 l.a16, .int .u64 l.a17, .int .i64 l.a18, .int .i64 l.a19]
section
variable {P : Program} {a : Act} {o : Oper} {W W1 : World} {r : Value}
theorem exec_box {t : TypeId} {x : Operand} (ho : o.op = .box t x) {v : Value} (hx : a.eval x = v) (h : (Instr.box t v).run P W = .ok r W1) : (execOp a.eval o).run P W = .ok (.value r) W1 := by
  unfold execOp
  rw [ho]
  simp only [hx, Sem.run_bind, h, Result.andThen_ok, Sem.run_pure]
theorem exec_build {t : TypeId} {parts : Array (Nat × Operand)} (ho : o.op = .build t parts) {ps : Array (Nat × Value)} (hp : parts.map (fun p => (p.1, a.eval p.2)) = ps) (h : (Instr.build t ps).run P W = .ok r W1) : (execOp a.eval o).run P W = .ok (.value r) W1 := by
  subst hp
  unfold execOp
  rw [ho]
  show ((Instr.build t (parts.map fun p => (p.1, a.eval p.2))).bind fun s => pure (Next.value s)).run P W = _
  rw [show ((Instr.build t (parts.map fun p => (p.1, a.eval p.2))).bind fun s => (pure (Next.value s) : Sem Next)) = (Instr.build t (parts.map fun p => (p.1, a.eval p.2)) >>= fun s => pure (Next.value s)) from rfl]
  simp only [Sem.run_bind, h, Result.andThen_ok, Sem.run_pure]
theorem exec_load {t : TypeId} {x : Operand} (ho : o.op = .load t x) {v : Value} (hx : a.eval x = v) (h : (Instr.loadAt t v).run P W = .ok r W1) : (execOp a.eval o).run P W = .ok (.value r) W1 := by
  unfold execOp
  rw [ho]
  simp only [hx, Sem.run_bind, h, Result.andThen_ok, Sem.run_pure]
end
theorem run_boxL (l : LayV) (W : World) : (Instr.box 27 (.agg (layArr l))).run Tryd.prog W = .ok (.pointer (some ⟨W.heap.size, 0, none⟩)) (W.alloc (.cells (layArr l) 27)) := by kernel_rfl
theorem run_loadL (l : LayV) (W : World) (b : Nat) (h : W.heap[b]? = some (.cells (layArr l) 27)) : (Instr.loadAt 27 (.pointer (some ⟨b, 0, none⟩))).run Tryd.prog W = .ok (.agg (layArr l)) W :=
  run_loadVar_row W b _ _ (layArr l) _ _ h Tryd.underlying27 rfl (by kernel_rfl)
theorem run_buildM (l : LayV) (rg rp : Nat) (W : World) : (Instr.build 88 #[(0, .agg (layArr l)), (2, .map (some rg)), (3, .map (some rp))]).run Tryd.prog W = .ok (.agg (mkCells l (.slice none 0 0) rg rp)) W := by kernel_rfl
theorem run_boxM (l : LayV) (rg rp : Nat) (W : World) : (Instr.box 88 (.agg (mkCells l (.slice none 0 0) rg rp))).run Tryd.prog W = .ok (.pointer (some ⟨W.heap.size, 0, none⟩)) (W.alloc (.cells (mkCells l (.slice none 0 0) rg rp) 88)) := by kernel_rfl
theorem layArr_cell {l : LayV} {W : World} {b : Nat} (h : W.heap[b]? = some (.cells (layArr l) 27)) (j : Nat) (u : Value) (hu : (layArr l)[j]? = some u) : W.cell? ⟨b, j, none⟩ = some u := by
  simp [World.cell?, h, hu]
theorem start_ms (l : LayV) (W1 W4 : World) (g : Nat) (hblk : W4.heap[g]? = some (.cells (mkCells l (.slice none 0 0) W1.heap.size (W1.heap.size + 1)) 88)) (hb : Below (W1.heap.size + 2) ((W1.alloc (.map #[] 0)).alloc (.map #[] 0)) W4) (hg : g = W1.heap.size + 2) :
    MS W1 W4 g l [] [] ∧ Below W1.heap.size W1 W4 := by
  refine ⟨⟨_, _, _, hblk, Kd.R_nil _ _ _ _ _, ?_, ?_, by omega, Nat.le_refl _, by omega, by omega⟩, ?_⟩
  · show W4.heap[W1.heap.size]? = _
    rw [hb.block _ (by omega)]
    show ((W1.heap.push _).push _)[W1.heap.size]? = _
    rw [Array.getElem?_push, if_neg (by simp), Array.getElem?_push, if_pos rfl]
    rfl
  · show W4.heap[W1.heap.size + 1]? = _
    rw [hb.block _ (by omega)]
    show ((W1.heap.push _).push _)[W1.heap.size + 1]? = _
    rw [Array.getElem?_push, if_pos (by simp)]
    rfl
  · exact (((Below.refl _ _).alloc (Nat.le_refl _) _).alloc (by simp) _).trans (hb.mono (by omega))

set_option maxHeartbeats 16000000 in
set_option maxRecDepth 100000 in
theorem wrapper_calls (A0 : Option Addr) (c0 : Nat) (ps : List Int) (l : LayV) (w : World) (hr0 : Kd.C (Kd.int .i64) w A0 ps.length ps) (hO : LayOk l) (hps : ps.length ≤ 6) (hpn : ∀ n ∈ ps, 0 ≤ n ∧ n ≤ 64) :
    Calls Tryd.prog 24 #[.slice A0 ps.length c0, .agg (layArr l)] w fun e w' => ∃ v0_ : Value, e = .returned (.tuple #[v0_, .int .i64 ((preP l ps).length : Int)]) ∧ k43.R 43 w' w.heap.size (fun _ => True) v0_ (finalL (placeOf l ps) (allP l ps) 0) ∧ Below w.heap.size w w' := by
  have HRw := Aside0.mk hr0
  have HP := Aside0.mk hpn
  have HL := Aside0.mk (checks_length l ps hps)
  have HO := Aside0.mk hO
  have o1 := hO.h5.1
  have o2 := hO.h5.2
  clear hr0 hpn hO
  obtain ⟨b, hbe⟩ : ∃ b, b = w.heap.size := ⟨_, rfl⟩
  obtain ⟨W1, hW1⟩ : ∃ W1, W1 = w.alloc (.cells (layArr l) 27) := ⟨_, rfl⟩
  have hb : W1.heap[b]? = some (.cells (layArr l) 27) := by subst hW1 hbe; exact heap_alloc_new w _
  have hbW : Below w.heap.size w W1 := by subst hW1; exact (Below.refl _ _).alloc (Nat.le_refl _) _
  have e1 := run_boxL l w
  rw [← hW1, ← hbe] at e1
  obtain ⟨W2, hW2⟩ : ∃ W2, W2 = W1.alloc (.map #[] 0) := ⟨_, rfl⟩
  obtain ⟨W3, hW3⟩ : ∃ W3, W3 = W2.alloc (.map #[] 0) := ⟨_, rfl⟩
  obtain ⟨rg, hrg⟩ : ∃ r, r = W1.heap.size := ⟨_, rfl⟩
  obtain ⟨rp, hrp⟩ : ∃ r, r = W2.heap.size := ⟨_, rfl⟩
  obtain ⟨g, hg⟩ : ∃ r, r = W3.heap.size := ⟨_, rfl⟩
  obtain ⟨W4, hW4⟩ : ∃ W4, W4 = W3.alloc (.cells (mkCells l (.slice none 0 0) rg rp) 88) := ⟨_, rfl⟩
  have m1 := run_makeMap (P := Tryd.prog) 86 W1
  rw [← hW2, ← hrg] at m1
  have m2 := run_makeMap (P := Tryd.prog) 86 W2
  rw [← hW3, ← hrp] at m2
  have e5 := run_boxM l rg rp W3
  rw [← hW4, ← hg] at e5
  have hs := start_ms l W1 W4 g (by
      have h1 : rg = W1.heap.size := hrg
      have h2 : rp = W1.heap.size + 1 := by rw [hrp, hW2]; simp
      rw [← h2, ← h1, hW4, hg]
      exact heap_alloc_new W3 _) (by
      rw [hW4, hW3, hW2]
      exact (Below.refl _ _).alloc (by simp) _) (by rw [hg, hW3, hW2]; simp)
  have E1 := Aside0.mk e1
  have E2 := Aside0.mk (run_loadL l W1 b hb)
  have E4 := Aside0.mk (run_buildM l rg rp W3)
  have E5 := Aside0.mk e5
  have HK := Aside0.mk hs.1
  have HB := Aside0.mk hs.2
  have HBW := Aside0.mk hbW
  have HBK := Aside0.mk hb
  have l5 := layArr_cell ((hs.2.block b (Array.getElem?_eq_some_iff.1 hb).1).trans hb) 5 (.int .u64 l.a5) rfl
  clear hbe hW1 hb hbW e1 hW2 hW3 hrg hrp hg hW4 e5 hs
  go_enter Tryd.func24, Tryd.ntmps24
  go_wp2_with (first | ((with_reducible refine gate_dst (N := 3) rfl ?_); refine Kd.event_run (by rfl) (by refine exec_box (by rfl) (by rfl) E1.out) ?_) | ((with_reducible refine gate_dst (N := 13) rfl ?_); refine Kd.event_run (by rfl) (by refine exec_load (by rfl) (by rfl) E2.out) ?_) | ((with_reducible refine gate_dst (N := 16) rfl ?_); refine Kd.event_run (v := .agg (mkCells l (.slice none 0 0) rg rp)) (w1 := W3) (by rfl) ?hrun ?_; (case hrun => refine exec_build (parts := #[(0, .tmp 13), (2, .tmp 14), (3, .tmp 15)]) (by rfl) ?_ E4.out; simp [Act.eval])) | ((with_reducible refine gate_dst (N := 17) rfl ?_); refine Kd.event_run (by rfl) (by refine exec_box (by rfl) (by rfl) E5.out) ?_))
  have HBL := Aside0.mk (Array.getElem?_eq_some_iff.1 HBK.out).1
  have HBL : Aside0 (b < W1.heap.size) := ⟨HBL.out⟩
  refine (back_calls W1 W4 g l [] [] HK.out HB.out ⟨HO.out.h16.1, by have := HO.out.h16.2; omega⟩ ⟨HO.out.h17.1, by have := HO.out.h17.2; omega⟩ (by simp)).mono ?_
  rintro e w5 ⟨rfl, hK, hB⟩
  have HK := Aside0.mk hK
  have HB := Aside0.mk hB
  clear hK hB
  rw [List.nil_append] at HK
  go_wp2_with fail
  go_loopw [8, 9, 26] (fun _ _ i wr => ∃ k : Nat, k ≤ ps.length ∧ i = .int .i64 k ∧ Aside0 (MS W1 wr g l (backP l ++ paramsP l (ps.take k) 0) []) ∧ Aside0 (Below W1.heap.size W1 wr)) (fun _ _ i _ => ps.length - (intOf i).toNat)
  case atStart => exact ⟨0, Nat.zero_le _, rfl, ⟨by simpa [paramsP] using HK.out⟩, HB⟩
  case round =>
    obtain ⟨k, hk, rfl, HK, HB⟩ := hrel
    by_cases hlt : k < ps.length
    · obtain ⟨ad, rfl, hc⟩ := Kd.at_int (Kd.C_below (Kd.C_below HRw.out HBW.out) HB.out) (k : Int) (by omega) (by omega)
      rw [Int.toNat_natCast] at hc
      obtain ⟨n, hn⟩ : ∃ n, rd ps (k : Int) = n := ⟨_, rfl⟩
      have hget : ps[k]? = some n := by
        rw [List.getElem?_eq_getElem hlt, ← hn]
        simp [rd, List.getD_eq_getElem?_getD, List.getElem?_eq_getElem hlt]
      have hnb := HP.out n (List.mem_of_getElem? hget)
      have HT : Aside0 (paramsP l (ps.take (k + 1)) 0 = paramsP l (ps.take k) 0 ++ (if n > 0 then ptrP l (10 + (0 + (k : Int))) n else [])) := ⟨by
        obtain ⟨hk', rfl⟩ := List.getElem?_eq_some_iff.1 hget
        rw [List.take_succ_eq_append_getElem hk', paramsP_snoc, List.length_take, Nat.min_eq_left (by omega)]⟩
      have hlen : (backP l ++ paramsP l (ps.take k) 0).length ≤ 900 := by
        have h1 := paramsP_length l (ps.take k) 0
        have hb : (backP l).length = 8 := by simp [backP, num, noneGo, numIns]
        rw [List.length_append, hb]
        rw [List.length_take] at h1
        omega
      have HLEN := Aside0.mk hlen
      rw [hn] at hc
      obtain ⟨n0, n1⟩ := hnb
      clear hn hget hlen
      by_cases hp : n > 0
      · rw [if_pos hp] at HT
        go_wp2_with fail
        refine (pointer_calls W1 wr g l _ [] (10 + (k : Int)) n HK.out HB.out HO.out.h12 HO.out.h13 ⟨n0, n1⟩ ⟨by omega, by omega⟩ HLEN.out).mono ?_
        rintro e w6 ⟨rfl, hK, hB⟩
        have HK2 := Aside0.mk hK
        have HB2 := Aside0.mk hB
        clear hK hB hc
        go_wp2_with fail
        go_roundw
        case rel => exact ⟨k + 1, by omega, by go_num, ⟨by rw [HT.out, ← List.append_assoc, Int.zero_add]; exact HK2.out⟩, HB2⟩
        case measure => simp [intOf]; omega
      · rw [if_neg hp, List.append_nil] at HT
        go_wp2_with fail
        go_roundw
        case rel => exact ⟨k + 1, by omega, by go_num, ⟨by rw [HT.out]; exact HK.out⟩, HB⟩
        case measure => simp [intOf]; omega
    · obtain rfl : k = ps.length := by omega
      rw [List.take_length] at HK
      have HK : Aside0 (MS W1 wr g l (checksP l ps) []) := HK
      go_wp2_with fail
      refine (number_ms 5 (l.a5 - 16) HK.out HB.out (by omega) (by omega) (by have := HL.out; first | omega | (simp only [preP, midP, leftP, noP, List.length_append, num_length, noneGo_length, clean_length, List.length_cons, List.length_nil]; omega))).mono ?_
      rintro e x1 ⟨rfl, hK, hB⟩
      have HK := Aside0.mk hK
      have HB := Aside0.mk hB
      clear hK hB
      go_wp2_with fail
      refine (put_lit [⟨31, 0, 5, 1, 0⟩, ⟨31, 0, 5, 2, 8⟩] _ 2 rfl rfl HK.out HB.out (by have := HL.out; first | omega | (simp only [preP, midP, leftP, noP, List.length_append, num_length, noneGo_length, clean_length, List.length_cons, List.length_nil]; omega))).mono ?_
      rintro e x2 ⟨rfl, hK, hB⟩
      have l9 := layArr_cell ((hB.block b HBL.out).trans HBK.out) 9 (.int .u64 l.a9) rfl
      have HK := Aside0.mk hK
      have HB := Aside0.mk hB
      clear hK hB
      go_wp2_with fail
      refine (number_ms 2 l.a9 HK.out HB.out HO.out.h9.1 (by have := HO.out.h9.2; omega) (by have := HL.out; first | omega | (simp only [preP, midP, leftP, noP, List.length_append, num_length, noneGo_length, clean_length, List.length_cons, List.length_nil]; omega))).mono ?_
      rintro e x3 ⟨rfl, hK, hB⟩
      have hK : MS W1 x3 g l (preP l ps) [] := hK
      obtain ⟨LA, LC, hln⟩ := hK.len
      have HK := Aside0.mk hK
      have HB := Aside0.mk hB
      clear hK hB
      go_wp2_with fail
      refine (put_lit [⟨40, 1, 0, 0, 0⟩] _ 1 rfl rfl HK.out HB.out (by have := HL.out; first | omega | (simp only [preP, midP, leftP, noP, List.length_append, num_length, noneGo_length, clean_length, List.length_cons, List.length_nil]; omega))).mono ?_
      rintro e x4 ⟨rfl, hK, hB⟩
      have HK := Aside0.mk hK
      have HB := Aside0.mk hB
      clear hK hB
      go_wp2_with fail
      refine (number_ms 5 (l.a5 - 16) HK.out HB.out (by omega) (by omega) (by have := HL.out; first | omega | (simp only [preP, midP, leftP, noP, List.length_append, num_length, noneGo_length, clean_length, List.length_cons, List.length_nil]; omega))).mono ?_
      rintro e x5 ⟨rfl, hK, hB⟩
      have HK := Aside0.mk hK
      have HB := Aside0.mk hB
      clear hK hB
      go_wp2_with fail
      refine (put_lit [⟨28, 1, 5, 0, 0⟩, ⟨28, 2, 5, 0, 8⟩, ⟨16, 11, 0, 0, 0⟩] _ 3 rfl rfl HK.out HB.out (by have := HL.out; first | omega | (simp only [preP, midP, leftP, noP, List.length_append, num_length, noneGo_length, clean_length, List.length_cons, List.length_nil]; omega))).mono ?_
      rintro e x6 ⟨rfl, hK, hB⟩
      have hK : MS W1 x6 g l (midP l ps) [] := hK
      have HK := Aside0.mk hK
      have HB := Aside0.mk hB
      clear hK hB
      go_wp2_with fail
      refine (here_ms 2 _ rfl HK.out HB.out (by simp)).mono ?_
      rintro e x7 ⟨rfl, hK, hB⟩
      have HK := Aside0.mk hK
      have HB := Aside0.mk hB
      clear hK hB
      go_wp2_with fail
      refine (clean_calls W1 x7 g l _ _ HK.out HB.out (by have := HL.out; first | omega | (simp only [preP, midP, leftP, noP, List.length_append, num_length, noneGo_length, clean_length, List.length_cons, List.length_nil]; omega))).mono ?_
      rintro e x8 ⟨rfl, hK, hB⟩
      have HK := Aside0.mk hK
      have HB := Aside0.mk hB
      clear hK hB
      go_wp2_with fail
      refine (put_lit [⟨41, 0, 1, 0, 0⟩] _ 1 rfl rfl HK.out HB.out (by have := HL.out; first | omega | (simp only [preP, midP, leftP, noP, List.length_append, num_length, noneGo_length, clean_length, List.length_cons, List.length_nil]; omega))).mono ?_
      rintro e x9 ⟨rfl, hK, hB⟩
      have hK : MS W1 x9 g l (leftP l ps) [(2, ((midP l ps).length : Int))] := hK
      have HK := Aside0.mk hK
      have HB := Aside0.mk hB
      clear hK hB
      go_wp2_with fail
      refine (here_ms 1 _ rfl HK.out HB.out (by simp)).mono ?_
      rintro e x10 ⟨rfl, hK, hB⟩
      have HK := Aside0.mk hK
      have HB := Aside0.mk hB
      clear hK hB
      go_wp2_with fail
      refine (put_lit [⟨16, 10, 0, 0, 0⟩, ⟨16, 11, 0, 0, 1⟩] _ 2 rfl rfl HK.out HB.out (by have := HL.out; first | omega | (simp only [preP, midP, leftP, noP, List.length_append, num_length, noneGo_length, clean_length, List.length_cons, List.length_nil]; omega))).mono ?_
      rintro e x11 ⟨rfl, hK, hB⟩
      have HK := Aside0.mk hK
      have HB := Aside0.mk hB
      clear hK hB
      go_wp2_with fail
      refine (to_ms 2 ⟨40, 0, 0, 0, 0⟩ (by decide) HK.out HB.out (by have := HL.out; first | omega | (simp only [preP, midP, leftP, noP, List.length_append, num_length, noneGo_length, clean_length, List.length_cons, List.length_nil]; omega))).mono ?_
      rintro e x12 ⟨rfl, hK, hB⟩
      have hK : MS W1 x12 g l (noP l ps) [(2, ((midP l ps).length : Int)), (1, ((leftP l ps).length : Int))] := hK
      have HK := Aside0.mk hK
      have HB := Aside0.mk hB
      clear hK hB
      go_wp2_with fail
      refine (here_ms 3 _ rfl HK.out HB.out (by simp)).mono ?_
      rintro e x13 ⟨rfl, hK, hB⟩
      have HK := Aside0.mk hK
      have HB := Aside0.mk hB
      clear hK hB
      go_wp2_with fail
      refine (put_lit [⟨42, 0, 0, 0, 0⟩] _ 1 rfl rfl HK.out HB.out (by have := HL.out; first | omega | (simp only [preP, midP, leftP, noP, List.length_append, num_length, noneGo_length, clean_length, List.length_cons, List.length_nil]; omega))).mono ?_
      rintro e x14 ⟨rfl, hK, hB⟩
      have hK : MS W1 x14 g l (allP l ps) (places l ps) := hK
      obtain ⟨v, rg', rp', hM⟩ := hK
      have c21 := hM.cell 21 _ (by simp [mkCells]; rfl)
      have hrun := run_rangeI (P := Tryd.prog) Tryd.underlying86 x14 rg' _ hM.gm
      have hF := Fill.start (placeOf l ps) hM hB
      obtain ⟨y0, hy0⟩ : ∃ y, y = x14.alloc (.mapIter (some rg') (goesOf (allP l ps) 0).length #[] (goesOf (allP l ps) 0).length) := ⟨_, rfl⟩
      rw [← hy0] at hrun hF
      obtain ⟨it, hit⟩ : ∃ y, y = x14.heap.size := ⟨_, rfl⟩
      rw [← hit] at hrun hF
      obtain ⟨n0, hn0⟩ : ∃ y, y = (goesOf (allP l ps) 0).length := ⟨_, rfl⟩
      rw [← hn0] at hF
      have HF := Aside0.mk hF
      have HN := Aside0.mk (⟨placeOf_mem l ps, places_bound l ps hps, all_length l ps hps⟩ : (∀ x ∈ allP l ps, x.2 ≠ 0 → (x.2, placeOf l ps x.2) ∈ places l ps) ∧ (∀ x ∈ places l ps, 0 ≤ x.2 ∧ x.2 ≤ 1000) ∧ (allP l ps).length ≤ 100)
      clear hK hB hM hy0 hit hn0 hF
      go_wp2_with fail
      go_loopg [11] n0 (fun k _ wr => Aside0 (Fill W1 wr g l (allP l ps) (places l ps) (placeOf l ps) it rg' rp' k))
      case atStart => exact HF
      case round =>
        rcases hrel.out.round (by simp [places]) HN.out.1 HN.out.2.1 (by have := HN.out.2.2; omega) with ⟨v, hnext, hc20, hR, hB⟩ | ⟨i, q, w1, gv, n, cap, k', old, hnext, hent, h20, h22, hi, hn, hp0, hp1, hk, hlook, hcell, hfz, hF⟩
        · have HR := Aside0.mk hR
          have HB2 := Aside0.mk hB
          clear hR hB
          go_wp2_with fail
          go_ret2
          exact ⟨v, rfl, Kd.R_lower HR.out HBW.out.size, below_then HBW.out HBW.out.size HB2.out⟩
        · have hl1 : (Instr.lookup 86 (.map (some rp')) (.int .i64 q) false).run Tryd.prog w1.drew = .ok (.int .i64 (placeOf l ps q)) w1.drew := hlook 1
          have hF1 : Fill W1 (World.setCell w1.drew ⟨gv, i * 5 + 4, none⟩ (.int .i64 (4 * (placeOf l ps q - i)))) g l (allP l ps) (places l ps) (placeOf l ps) it rg' rp' k' := hF 1
          obtain ⟨pq, hpq⟩ : ∃ y, y = placeOf l ps q := ⟨_, rfl⟩
          rw [← hpq] at hl1 hF1 hp0 hp1
          have HF := Aside0.mk hF1
          have hw1 : IntKind.i64.wrap (pq - (i : Int)) = pq - i := IntWalk.i64_in _ (by omega)
          have hw2 : IntKind.i64.wrap (4 * (pq - (i : Int))) = 4 * (pq - i) := IntWalk.i64_in _ (by omega)
          clear hF hlook hF1 hpq
          go_wp2_with fail
          go_still_tail 16, rfl
          go_wp2_with fail
          go_roundg k'
          case measure => exact hk
          case rel => exact HF

/-- What wrap.wrapper gives: the code, and where its call is. -/
def wrap_wrapper.f (l0 : List Int) (a1_0 a1_1 a1_2 a1_3 a1_4 a1_5 a1_6 a1_7 a1_8 a1_9 a1_10 a1_11 a1_12 a1_13 a1_14 a1_15 a1_16 a1_17 a1_18 a1_19 : Int) : Option (List S43 × Int) :=
  if ((16 ≤ a1_5 ∧ a1_5 ≤ 1073741824) ∧ (0 ≤ a1_9 ∧ a1_9 ≤ 1073741824) ∧ (0 ≤ a1_12 ∧ a1_12 ≤ 1073741824) ∧ (0 ≤ a1_13 ∧ a1_13 ≤ 1073741824) ∧ (0 ≤ a1_16 ∧ a1_16 ≤ 1073741824) ∧ (0 ≤ a1_17 ∧ a1_17 ≤ 1073741824)) ∧ l0.length ≤ 6 ∧ ∀ n ∈ l0, 0 ≤ n ∧ n ≤ 64 then
    some (finalL (placeOf ⟨a1_0, a1_1, a1_2, a1_3, a1_4, a1_5, a1_6, a1_7, a1_8, a1_9, a1_10, a1_11, a1_12, a1_13, a1_14, a1_15, a1_16, a1_17, a1_18, a1_19⟩ l0) (allP ⟨a1_0, a1_1, a1_2, a1_3, a1_4, a1_5, a1_6, a1_7, a1_8, a1_9, a1_10, a1_11, a1_12, a1_13, a1_14, a1_15, a1_16, a1_17, a1_18, a1_19⟩ l0) 0, ((preP ⟨a1_0, a1_1, a1_2, a1_3, a1_4, a1_5, a1_6, a1_7, a1_8, a1_9, a1_10, a1_11, a1_12, a1_13, a1_14, a1_15, a1_16, a1_17, a1_18, a1_19⟩ l0).length : Int)) else none
theorem wrap_wrapper.calls (A0 : Option Addr) (c0 : Nat) (l0 : List Int) (a1_0 a1_1 a1_2 a1_3 a1_4 a1_5 a1_6 a1_7 a1_8 a1_9 a1_10 a1_11 a1_12 a1_13 a1_14 a1_15 a1_16 a1_17 a1_18 a1_19 : Int) (r1 : List S43) (r2 : Int) (w : World) (hr0 : Kd.C (Kd.int .i64) w A0 l0.length l0) (hc0 : l0.length ≤ c0) (h : wrap_wrapper.f l0 a1_0 a1_1 a1_2 a1_3 a1_4 a1_5 a1_6 a1_7 a1_8 a1_9 a1_10 a1_11 a1_12 a1_13 a1_14 a1_15 a1_16 a1_17 a1_18 a1_19 = some (r1, r2)) :
    Calls Tryd.prog 24 #[.slice A0 l0.length c0, .agg #[.int .u64 a1_0, .int .u64 a1_1, .int .i64 a1_2, .int .i64 a1_3, .int .u64 a1_4, .int .u64 a1_5, .int .i64 a1_6, .int .i64 a1_7, .int .u64 a1_8, .int .u64 a1_9, .int .i64 a1_10, .int .i64 a1_11, .int .u64 a1_12, .int .u64 a1_13, .int .i64 a1_14, .int .i64 a1_15, .int .u64 a1_16, .int .u64 a1_17, .int .i64 a1_18, .int .i64 a1_19]] w fun e w' => ∃ v0_ : Value, e = .returned (.tuple #[v0_, .int .i64 r2]) ∧ Kd.R k43 43 w' w.heap.size (fun _ => True) v0_ r1 ∧ Below w.heap.size w w' := by
  unfold wrap_wrapper.f at h
  split at h
  · rename_i hc
    obtain ⟨⟨h5, h9, h12, h13, h16, h17⟩, hl, hp⟩ := hc
    obtain ⟨rfl, rfl⟩ := Prod.mk.inj (Option.some.inj h)
    exact wrapper_calls A0 c0 l0 ⟨a1_0, a1_1, a1_2, a1_3, a1_4, a1_5, a1_6, a1_7, a1_8, a1_9, a1_10, a1_11, a1_12, a1_13, a1_14, a1_15, a1_16, a1_17, a1_18, a1_19⟩ w hr0 ⟨h5, h9, h12, h13, h16, h17⟩ hl hp
  · cases h
end Go.Proofs.YtaoajlaocphgdaaDoor.PA
