/-
Maps from int to int that the call itself made and to which it only added new keys: made, filled, looked up, gone through.
-/
import Derived.WalkKit
import Derived.MapKept
import Derived.Below
namespace Go.Proofs.YtaoajlaocphgdaaDoor.PA
open Go.RowKit Go.MapKept
set_option linter.unusedVariables false
set_option linter.unusedSimpArgs false

/-- The entries of a map to which these pairs were added, one by one. -/
def mapArr : List (Int × Int) → Nat → List MapEntry
  | [], _ => []
  | x :: r, i => { key := .int .i64 x.1, val := .int .i64 x.2, born := i } :: mapArr r (i + 1)
theorem mapArr_append (a b : List (Int × Int)) (i : Nat) : mapArr (a ++ b) i = mapArr a i ++ mapArr b (i + a.length) := by
  induction a generalizing i with
  | nil => rfl
  | cons x r ih =>
    simp only [List.cons_append, mapArr, ih (i + 1), List.length_cons]
    rw [show i + 1 + r.length = i + (r.length + 1) from by omega]
theorem mapArr_length (a : List (Int × Int)) (i : Nat) : (mapArr a i).length = a.length := by
  induction a generalizing i with
  | nil => rfl
  | cons x r ih => simp [mapArr, ih]
theorem mapArr_get (a : List (Int × Int)) (i j : Nat) : (mapArr a i)[j]? = (a[j]?).map fun x => { key := .int .i64 x.1, val := .int .i64 x.2, born := i + j } := by
  induction a generalizing i j with
  | nil => rfl
  | cons x r ih =>
    cases j with
    | zero => rfl
    | succ j => simp only [mapArr, List.getElem?_cons_succ, ih]; rw [show i + 1 + j = i + (j + 1) from by omega]

/-- Block r is a map to which just these pairs were added, in this order. -/
def MapIs (w : World) (r : Nat) (es : List (Int × Int)) : Prop := w.heap[r]? = some (.map (mapArr es 0).toArray es.length)
theorem MapIs.move {w w1 : World} {r : Nat} {es : List (Int × Int)} (h : MapIs w r es) (hm : w1.heap[r]? = w.heap[r]?) : MapIs w1 r es := hm.trans h
theorem MapIs.lt {w : World} {r : Nat} {es : List (Int × Int)} (h : MapIs w r es) : r < w.heap.size := (Array.getElem?_eq_some_iff.1 h).1

theorem findNow_none (k : Int) (es : List (Int × Int)) (h : ∀ x ∈ es, x.1 ≠ k) : ∀ i j, Instr.findNow (.int .i64) (.int .i64 k) (mapArr es i) j = some none := by
  induction es with
  | nil => intro i j; rfl
  | cons x r ih =>
    intro i j
    have hx : (k == x.1) = false := beq_eq_false_iff_ne.2 fun e => h x (List.mem_cons_self) e.symm
    simp only [mapArr, Instr.findNow, Instr.sameNow, if_true, hx]
    exact ih (fun y hy => h y (List.mem_cons_of_mem _ hy)) _ _
theorem findNow_some (k v : Int) (es : List (Int × Int)) (h : (es.map (·.1)).Nodup) (hm : (k, v) ∈ es) : ∀ i j, ∃ n, Instr.findNow (.int .i64) (.int .i64 k) (mapArr es i) j = some (some (n, .int .i64 v)) := by
  induction es with
  | nil => cases hm
  | cons x r ih =>
    intro i j
    simp only [List.map_cons, List.nodup_cons] at h
    rcases List.mem_cons.1 hm with rfl | hm
    · exact ⟨j, by simp [mapArr, Instr.findNow, Instr.sameNow]⟩
    · have hx : (k == x.1) = false := beq_eq_false_iff_ne.2 fun e => h.1 (List.mem_map.2 ⟨(k, v), hm, e⟩)
      simp only [mapArr, Instr.findNow, Instr.sameNow, if_true, hx]
      exact ih h.2 hm _ _

section
variable {P : Program} {T K E : TypeId} (hT : P.underlying T = some (.map K E)) (hK : P.underlying K = some (.int .i64))
include hT hK
/-- The world with a map's block set. -/
def mapSet (w : World) (r : Nat) (es : List (Int × Int)) : World := { w with heap := w.heap.setIfInBounds r (.map (mapArr es 0).toArray es.length) }
theorem run_add (w : World) (r : Nat) (es : List (Int × Int)) (k v : Int) (h : MapIs w r es) (hk : ∀ x ∈ es, x.1 ≠ k) :
    (Instr.mapUpdate T (.map (some r)) (.int .i64 k) (.int .i64 v)).run P w = .ok () (mapSet w r (es ++ [(k, v)])) := by
  have hc := run_checkKey (P := P) (w := w) hK (k := .int .i64 k) (d := .int .i64) (by trivial) false 9999
  have h' : w.heap[r]? = some (.map (mapArr es 0).toArray es.length) := h
  have hf := findNow_none k es hk 0 0
  have hc' : (Instr.checkKey false 10000 K (.int .i64 k)).run P w = .ok () w := hc
  have hf' : (Instr.findKey K (.int .i64 k) (mapArr es 0)).run P w = .ok none w := run_findKey hK hf
  simp only [Instr.mapUpdate, Sem.run_bind, run_underlying hT, Result.andThen_ok]
  simp only [getObj, Sem.run, h', Sem.run_bind, Result.andThen_ok]
  rw [hc']
  simp only [Result.andThen_ok, hf']
  simp [setObj, Sem.run, h', mapSet, mapArr_append, mapArr]
theorem run_find (w : World) (r : Nat) (es : List (Int × Int)) (k v : Int) (h : MapIs w r es) (hn : (es.map (·.1)).Nodup) (hm : (k, v) ∈ es) :
    (Instr.lookup T (.map (some r)) (.int .i64 k) false).run P w = .ok (.int .i64 v) w := by
  have h' : w.heap[r]? = some (.map (mapArr es 0).toArray es.length) := h
  obtain ⟨n, hf⟩ := findNow_some k v es hn hm 0 0
  have hc' : ∀ b, (Instr.checkKey b 10000 K (.int .i64 k)).run P w = .ok () w := fun b => run_checkKey (P := P) (w := w) hK (k := .int .i64 k) (d := .int .i64) (by trivial) b 9999
  have hf' : (Instr.findKey K (.int .i64 k) (mapArr es 0)).run P w = .ok (some (n, .int .i64 v)) w := run_findKey hK hf
  simp only [Instr.lookup, Sem.run_bind, run_underlying hT, Result.andThen_ok]
  simp only [getObj, Sem.run, h', Sem.run_bind, Sem.run_pure, Result.andThen_ok]
  rw [hc']
  simp only [Result.andThen_ok, hf']
  rfl
end
theorem mapSet_is (w : World) (r : Nat) (es : List (Int × Int)) (h : r < w.heap.size) : MapIs (mapSet w r es) r es := by
  simp [MapIs, mapSet, h]
theorem mapSet_other (w : World) (r k : Nat) (es : List (Int × Int)) (h : k ≠ r) : (mapSet w r es).heap[k]? = w.heap[k]? := by
  simp [mapSet, Ne.symm h]
theorem mapSet_size (w : World) (r : Nat) (es : List (Int × Int)) : (mapSet w r es).heap.size = w.heap.size := by simp [mapSet]
theorem mapSet_below {B : Nat} {a w : World} (h : Below B a w) (r : Nat) (es : List (Int × Int)) (hr : B ≤ r) : Below B a (mapSet w r es) :=
  h.trans ⟨rfl, rfl, rfl, by rw [mapSet_size]; exact Nat.le_refl _, fun i hi => mapSet_other w r i es (by omega)⟩

/-! ### going through it -/
theorem run_rangeI {P : Program} {T K E : TypeId} (hT : P.underlying T = some (.map K E)) (w : World) (r : Nat) (es : List (Int × Int)) (h : MapIs w r es) :
    (Instr.range T (.map (some r))).run P w = .ok (.pointer (some ⟨w.heap.size, 0, none⟩)) (w.alloc (.mapIter (some r) es.length #[] es.length)) := by
  have h' : w.heap[r]? = some (.map (mapArr es 0).toArray es.length) := h
  simp only [Instr.range, Sem.run_bind, run_underlying hT, Result.andThen_ok]
  simp [getObj, Sem.run, h']
/-- The iterator in block b has come to these entries (their places). -/
def IterIs (w : World) (b r : Nat) (es : List (Int × Int)) (seen : List Nat) : Prop := w.heap[b]? = some (.mapIter (some r) es.length seen.toArray es.length)
/-- What is changed is the iterator alone. -/
structure IterStep (w w1 : World) (b r : Nat) (es : List (Int × Int)) (seen : List Nat) : Prop where
  at_ : IterIs w1 b r es seen
  other : ∀ k, k ≠ b → w1.heap[k]? = w.heap[k]?
  size : w1.heap.size = w.heap.size
  os : w1.os = w.os
  tape : w1.tape = w.tape
  output : w1.output = w.output
theorem IterStep.below {w w1 : World} {b r : Nat} {es : List (Int × Int)} {seen : List Nat} (h : IterStep w w1 b r es seen) {B : Nat} {a : World} (hB : Below B a w) (hb : B ≤ b) : Below B a w1 :=
  hB.trans ⟨h.os, h.tape, h.output, by rw [h.size]; exact Nat.le_refl _, fun i hi => h.other i (by omega)⟩
theorem mem_mapArr {es : List (Int × Int)} {e : MapEntry} (h : e ∈ mapArr es 0) : ∃ j x, es[j]? = some x ∧ e = { key := .int .i64 x.1, val := .int .i64 x.2, born := j } := by
  obtain ⟨j, hj, rfl⟩ := List.getElem_of_mem h
  have hj' : j < es.length := by rw [mapArr_length] at hj; exact hj
  have h1 := mapArr_get es 0 j
  rw [List.getElem?_eq_getElem hj, List.getElem?_eq_getElem hj'] at h1
  simp only [Option.map_some, Nat.zero_add, Option.some.injEq] at h1
  exact ⟨j, es[j], List.getElem?_eq_getElem hj', h1⟩
theorem mapArr_mem {es : List (Int × Int)} {j : Nat} {x : Int × Int} (h : es[j]? = some x) : ({ key := .int .i64 x.1, val := .int .i64 x.2, born := j } : MapEntry) ∈ mapArr es 0 := by
  have h1 := mapArr_get es 0 j
  rw [h] at h1
  simp only [Option.map_some, Nat.zero_add] at h1
  exact List.mem_of_getElem? h1
theorem run_chooseI {P : Program} (w : World) (n : Nat) (hn : 0 < n) : ∃ i w1, i < n ∧ (choose (.mapNext n)).run P w = .ok i w1 ∧ w1.heap = w.heap ∧ w1.os = w.os ∧ w1.tape = w.tape ∧ w1.output = w.output := by
  by_cases hf : n ≤ 1
  · exact ⟨0, w, hn, by simp [choose, Sem.run, Question.forced, hf], rfl, rfl, rfl, rfl⟩
  · exact ⟨_, w.drew, Nat.mod_lt (w.tape w.drawn (.mapNext n)) hn, by simp [choose, Sem.run, Question.forced, hf, Question.cut], rfl, rfl, rfl, rfl⟩
theorem run_nextI {P : Program} (w : World) (b r : Nat) (es : List (Int × Int)) (seen : List Nat) (hm : MapIs w r es) (hi : IterIs w b r es seen) (hs : ∀ n ∈ seen, n < es.length) :
    (∀ j, j < es.length → j ∈ seen) ∧ (∀ ty, (Instr.next (.pointer (some ⟨b, 0, none⟩)) false ty).run P w = .ok (.tuple #[.bool false]) w) ∨
    ∃ (j : Nat) (x : Int × Int) (w1 : World), es[j]? = some x ∧ j ∉ seen ∧ IterStep w w1 b r es (seen ++ [j]) ∧ ∀ ty, (Instr.next (.pointer (some ⟨b, 0, none⟩)) false ty).run P w = .ok (.tuple #[.bool true, .int .i64 x.1, .int .i64 x.2]) w1 := by
  have hm' : w.heap[r]? = some (.map (mapArr es 0).toArray es.length) := hm
  have hi' : w.heap[b]? = some (.mapIter (some r) es.length seen.toArray es.length) := hi
  have hborn : ∀ e ∈ mapArr es 0, e.born < es.length := fun e he => by
    obtain ⟨j, x, hj, rfl⟩ := mem_mapArr he
    exact (List.getElem?_eq_some_iff.1 hj).1
  have hall : (!seen.toArray.isEmpty && !(mapArr es 0).toArray.isEmpty && (mapArr es 0).toArray.all fun e => decide (e.born ≥ es.length)) = false := by
    cases hes : mapArr es 0 with
    | nil => simp
    | cons e l =>
      have := hborn e (by rw [hes]; exact List.mem_cons_self)
      have hd : decide (e.born ≥ es.length) = false := decide_eq_false (by omega)
      simp [hd]
  obtain ⟨left, hleft⟩ : ∃ left, left = (mapArr es 0).toArray.filter fun e => !seen.toArray.contains e.born := ⟨_, rfl⟩
  have hlm : ∀ e ∈ left, e ∈ mapArr es 0 ∧ e.born ∉ seen := by
    subst hleft
    intro e he
    simpa using he
  have hold : (left.filter fun e => decide (e.born < es.length)) = left := by
    rw [Array.filter_eq_self]
    intro e he
    exact decide_eq_true (hborn e (hlm e he).1)
  have hnew : (left.filter fun e => decide (e.born ≥ es.length)) = #[] := by
    rw [Array.filter_eq_empty_iff]
    intro e he
    have := hborn e (hlm e he).1
    simp
    omega
  have hrun : ∀ ty, (Instr.next (.pointer (some ⟨b, 0, none⟩)) false ty).run P w =
      ((choose (.mapNext ((if left.isEmpty then #[none] else #[]) ++ left.map some : Array (Option MapEntry)).size)).run P w).andThen fun i w' =>
        (match ((if left.isEmpty then #[none] else #[]) ++ left.map some : Array (Option MapEntry))[i]? with
          | some (some e) => do
            setObj b (.mapIter (some r) es.length (seen.toArray.push e.born) es.length)
            pure (Value.tuple #[.bool true, e.key, e.val])
          | some none => pure (Value.tuple #[.bool false])
          | none => stuck "Next: no such candidate").run P w' := by
    intro ty
    simp only [Instr.next, Sem.run_bind, getObj, Sem.run, hi', hm', Sem.run_pure, Result.andThen_ok, hall]
    simp only [← hleft, hold, hnew, Array.append_empty]
    rw [if_neg (by decide), Sem.run_bind]
    rfl
  by_cases he : left = #[]
  · refine .inl ⟨fun j hj => ?_, fun ty => ?_⟩
    · apply Classical.byContradiction
      intro hns
      have hmem := mapArr_mem (List.getElem?_eq_getElem hj)
      have : ({ key := .int .i64 (es[j]).1, val := .int .i64 (es[j]).2, born := j } : MapEntry) ∈ left := by
        rw [hleft]
        simp
        exact ⟨hmem, hns⟩
      rw [he] at this
      simp at this
    · rw [hrun ty, he]
      simp [choose, Sem.run, Question.forced, pure]
  · have hpos : 0 < left.size := Array.size_pos_iff.2 he
    have hne : left.isEmpty = false := by simpa using he
    have hc : ((if left.isEmpty then #[none] else #[]) ++ left.map some : Array (Option MapEntry)) = left.map some := by rw [hne]; simp
    rw [hc] at hrun
    obtain ⟨i, w1, hlt, hch, h1, h2, h3, h4⟩ := run_chooseI (P := P) w (left.map some).size (by simpa using hpos)
    have hlt' : i < left.size := by simpa using hlt
    obtain ⟨hmem, hns⟩ := hlm left[i] (Array.getElem_mem hlt')
    obtain ⟨j, x, hx, hex⟩ := mem_mapArr hmem
    rw [hex] at hns
    have hget : (left.map some)[i]? = some (some left[i]) := by simp [hlt']
    have hb : w1.heap[b]? = some (.mapIter (some r) es.length seen.toArray es.length) := by rw [h1]; exact hi'
    have hbl : b < w.heap.size := (Array.getElem?_eq_some_iff.1 hi').1
    refine .inr ⟨j, x, { w1 with heap := w1.heap.setIfInBounds b (.mapIter (some r) es.length (seen ++ [j]).toArray es.length) }, hx, hns, ⟨?_, ?_, ?_, h2, h3, h4⟩, fun ty => ?_⟩
    · simp [IterIs, h1, hbl]
    · intro k hk
      simp [h1, Ne.symm hk]
    · simp [h1]
    · rw [hrun ty, hch]
      simp only [Result.andThen_ok, hget, hex]
      simp [setObj, Sem.run, hb, pure]
theorem run_entryI {P : Program} (w : World) (b r : Nat) (es : List (Int × Int)) (seen : List Nat) (j : Nat) (x : Int × Int) (hm : MapIs w r es) (hi : IterIs w b r es (seen ++ [j])) (hx : es[j]? = some x) :
    (Instr.entry (.pointer (some ⟨b, 0, none⟩))).run P w = .ok (.tuple #[.int .i64 x.1, .int .i64 x.2]) w := by
  have hm' : w.heap[r]? = some (.map (mapArr es 0).toArray es.length) := hm
  have hi' : w.heap[b]? = some (.mapIter (some r) es.length (seen ++ [j]).toArray es.length) := hi
  have hf : (mapArr es 0).find? (fun e => e.born == j) = some { key := .int .i64 x.1, val := .int .i64 x.2, born := j } := by
    cases hc : (mapArr es 0).find? (fun e => e.born == j) with
    | none =>
      have := List.find?_eq_none.1 hc _ (mapArr_mem hx)
      simp at this
    | some e =>
      obtain ⟨j', x', hx', rfl⟩ := mem_mapArr (List.mem_of_find?_eq_some hc)
      have := List.find?_some hc
      simp at this
      subst this
      rw [hx] at hx'
      obtain rfl := Option.some.inj hx'
      rfl
  simp only [Instr.entry, Sem.run_bind, getObj, Sem.run, hi', hm', Sem.run_pure, Result.andThen_ok]
  simp [hm', getObj, Sem.run, hf]
end Go.Proofs.YtaoajlaocphgdaaDoor.PA
