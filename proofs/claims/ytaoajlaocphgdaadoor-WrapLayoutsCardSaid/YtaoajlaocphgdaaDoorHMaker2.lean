/-
The maker's state as one list: each instruction with the place to which it goes (0: to none); the methods back, pointer and clean.
-/
import Derived.Test.YtaoajlaocphgdaaDoorHMaker
namespace Go.Proofs.YtaoajlaocphgdaaDoor.PA
open Go.RowKit Go.Proofs.YtaoajlaocphgdaaDoorW.PrintWords Go.Proofs.YtaoajlaocphgdaaDoorW.PrintLast Go.Proofs.YtaoajlaocphgdaaDoorW.PrintMore
set_option linter.unusedVariables false
set_option linter.unusedSimpArgs false

abbrev InsP := S43 × Int
/-- Which instructions go somewhere. -/
def goesOf : List InsP → Int → List (Int × Int)
  | [], _ => []
  | x :: r, i => if x.2 = 0 then goesOf r (i + 1) else (i, x.2) :: goesOf r (i + 1)
theorem goesOf_append (a b : List InsP) (i : Int) : goesOf (a ++ b) i = goesOf a i ++ goesOf b (i + a.length) := by
  induction a generalizing i with
  | nil => simp [goesOf]
  | cons x r ih =>
    simp only [List.cons_append, goesOf, ih, List.length_cons, Int.natCast_add, Int.natCast_one]
    rw [show i + 1 + (r.length : Int) = i + ((r.length : Int) + 1) from by omega]
    split <;> simp
theorem goesOf_none (a : List InsP) (h : ∀ x ∈ a, x.2 = 0) (i : Int) : goesOf a i = [] := by
  induction a generalizing i with
  | nil => rfl
  | cons x r ih => simp only [goesOf, h x List.mem_cons_self, if_true]; exact ih (fun y hy => h y (List.mem_cons_of_mem _ hy)) _
theorem goesOf_lt (a : List InsP) (i : Int) : ∀ y ∈ goesOf a i, i ≤ y.1 ∧ y.1 < i + a.length := by
  induction a generalizing i with
  | nil => intro y hy; cases hy
  | cons x r ih =>
    intro y hy
    simp only [goesOf] at hy
    rw [List.length_cons]
    split at hy
    · have := ih _ y hy; omega
    · rcases List.mem_cons.1 hy with rfl | hy
      · simp only; omega
      · have := ih _ y hy; omega
def noneGo (xs : List S43) : List InsP := xs.map fun x => (x, 0)
/-- The maker has these. -/
def MS (w0 w : World) (g : Nat) (l : LayV) (st : List InsP) (place : List (Int × Int)) : Prop := MK w0 w g l (st.map (·.1)) (goesOf st 0) place
theorem MS.cellL {w0 w : World} {g : Nat} {l : LayV} {st : List InsP} {place : List (Int × Int)} (h : MS w0 w g l st place) (j : Nat) (u : Value) (hu : ∀ v rg rp, (mkCells l v rg rp)[j]? = some u) : w.cell? ⟨g, j, none⟩ = some u := by
  obtain ⟨v, rg, rp, hM⟩ := h
  exact hM.cell j u (hu _ _ _)
theorem MS.below {w0 w w1 : World} {g : Nat} {l : LayV} {st : List InsP} {place : List (Int × Int)} (h : MS w0 w g l st place) (hb : Below w.heap.size w w1) : MS w0 w1 g l st place := by
  obtain ⟨v, rg, rp, hM⟩ := h
  exact ⟨v, rg, rp, hM.below hb⟩

/-- A number's lowest twelve bits, signed. -/
def sg (v : Int) : Int := shr .i64 (wrap64 (shl .u64 v 52)) 52
theorem sign_some (v : Int) : bits_Sign.f v 12 = some (sg v) := by
  unfold bits_Sign.f sg
  rw [if_neg (by decide), if_neg (by decide)]
  have : wrap64 (64 - 12) = 52 := by unfold wrap64; omega
  rw [this, if_pos (by decide)]
def num (d v : Int) : List InsP := noneGo (numIns d v (sg v))

section
variable {w0 w : World} {g : Nat} {l : LayV} {st : List InsP} {place : List (Int × Int)}
theorem put_ms (xs : List S43) (A : Option Addr) (c : Nat) (hK : MS w0 w g l st place) (hB : Below w0.heap.size w0 w) (hX : Kd.C k43 w A xs.length xs) (hlen : st.length + xs.length ≤ 1000) :
    Calls Tryd.prog 49 #[.pointer (some ⟨g, 0, none⟩), .slice A xs.length c] w fun e w' => e = .returned (.tuple #[]) ∧ MS w0 w' g l (st ++ noneGo xs) place ∧ Below w0.heap.size w0 w' := by
  refine (put_calls w0 w g l _ xs _ place A c hK hB hX (by rw [List.length_map]; exact hlen)).mono ?_
  rintro e w' ⟨rfl, hK, hB⟩
  refine ⟨rfl, ?_, hB⟩
  unfold MS
  rw [goesOf_append, goesOf_none (noneGo xs) (by simp [noneGo]), List.append_nil, List.map_append]
  have : (noneGo xs).map (·.1) = xs := by simp [noneGo, Function.comp_def]
  rw [this]
  exact hK
/-- Where a slice of instructions has just been laid. -/
theorem put_lit (xs : List S43) (cs : Array Value) (n : Nat) (hn : xs.length = n) (hcs : cs.toList = xs.flatMap insCells) (hK : MS w0 w g l st place) (hB : Below w0.heap.size w0 w) (hlen : st.length + xs.length ≤ 1000) :
    Calls Tryd.prog 49 #[.pointer (some ⟨g, 0, none⟩), .slice (some ⟨w.heap.size, 0, none⟩) n n] (w.alloc (.cells cs 43)) fun e w' => e = .returned (.tuple #[]) ∧ MS w0 w' g l (st ++ noneGo xs) place ∧ Below w0.heap.size w0 w' := by
  subst hn
  have hb : Below w.heap.size w (w.alloc (.cells cs 43)) := (Below.refl _ _).alloc (Nat.le_refl _) _
  exact put_ms xs _ _ (hK.below hb) (below_then hB hB.size hb) (lit_C w xs cs hcs (by omega)) hlen
theorem to_ms (k : Int) (x : S43) (hk : k ≠ 0) (hK : MS w0 w g l st place) (hB : Below w0.heap.size w0 w) (hlen : st.length ≤ 990) :
    Calls Tryd.prog 52 #[.pointer (some ⟨g, 0, none⟩), .int .i64 k, .agg #[.int .i64 x.f0, .int .i64 x.f1, .int .i64 x.f2, .int .i64 x.f3, .int .i64 x.f4]] w fun e w' => e = .returned (.tuple #[]) ∧ MS w0 w' g l (st ++ [(x, k)]) place ∧ Below w0.heap.size w0 w' := by
  refine (to_calls w0 w g l _ _ place k x hK hB (fun y hy => ?_) (by rw [List.length_map]; exact hlen)).mono ?_
  · have := goesOf_lt st 0 y hy
    rw [List.length_map]
    omega
  · rintro e w' ⟨rfl, hK, hB⟩
    refine ⟨rfl, ?_, hB⟩
    unfold MS
    rw [goesOf_append, List.map_append]
    simp only [goesOf, hk, if_false]
    rw [List.length_map] at hK
    simpa using hK
theorem number_ms (d v : Int) (hK : MS w0 w g l st place) (hB : Below w0.heap.size w0 w) (h0 : 0 ≤ v) (h1 : v ≤ 4294967296) (hlen : st.length ≤ 990) :
    Calls Tryd.prog 48 #[.pointer (some ⟨g, 0, none⟩), .int .i64 d, .int .u64 v] w fun e w' => e = .returned (.tuple #[]) ∧ MS w0 w' g l (st ++ num d v) place ∧ Below w0.heap.size w0 w' := by
  refine (number_calls w0 w g l _ _ place d v (sg v) hK hB h0 h1 (sign_some v) (by rw [List.length_map]; exact hlen)).mono ?_
  rintro e w' ⟨rfl, hK, hB⟩
  refine ⟨rfl, ?_, hB⟩
  unfold MS num
  rw [goesOf_append, goesOf_none (noneGo _) (by simp [noneGo]), List.append_nil, List.map_append]
  have : (noneGo (numIns d v (sg v))).map (·.1) = numIns d v (sg v) := by simp [noneGo, Function.comp_def]
  rw [this]
  exact hK
end

/-- The checks of where it goes back. -/
def backP (l : LayV) : List InsP := num 5 l.a16 ++ ([(⟨36, 0, 1, 5, 0⟩, 3)] ++ (num 5 l.a17 ++ ([(⟨37, 0, 1, 5, 0⟩, 3)] ++ (noneGo [⟨21, 5, 1, 0, 3⟩] ++ [(⟨33, 0, 5, 0, 0⟩, 3)]))))
set_option maxHeartbeats 4000000 in
set_option maxRecDepth 100000 in
theorem back_calls (w0 w : World) (g : Nat) (l : LayV) (st : List InsP) (place : List (Int × Int)) (hK : MS w0 w g l st place) (hB : Below w0.heap.size w0 w)
    (h16 : 0 ≤ l.a16 ∧ l.a16 ≤ 4294967296) (h17 : 0 ≤ l.a17 ∧ l.a17 ≤ 4294967296) (hlen : st.length ≤ 900) :
    Calls Tryd.prog 46 #[.pointer (some ⟨g, 0, none⟩)] w fun e w' => e = .returned (.tuple #[]) ∧ MS w0 w' g l (st ++ backP l) place ∧ Below w0.heap.size w0 w' := by
  have c16 := hK.cellL 16 _ (fun _ _ _ => by simp [mkCells]; rfl)
  have HK := Aside0.mk hK
  have HB := Aside0.mk hB
  clear hK hB
  go_enter Tryd.func46, Tryd.ntmps46
  go_wp2_with fail
  refine (number_ms 5 l.a16 HK.out HB.out h16.1 h16.2 (by omega)).mono ?_
  rintro e w1 ⟨rfl, hK, hB⟩
  have HK := Aside0.mk hK
  have HB := Aside0.mk hB
  clear hK hB c16
  go_wp2_with fail
  refine (to_ms 3 ⟨36, 0, 1, 5, 0⟩ (by decide) HK.out HB.out (by simp [num, noneGo, numIns]; omega)).mono ?_
  rintro e w2 ⟨rfl, hK, hB⟩
  have c17 := hK.cellL 17 _ (fun _ _ _ => by simp [mkCells]; rfl)
  have HK := Aside0.mk hK
  have HB := Aside0.mk hB
  clear hK hB
  go_wp2_with fail
  refine (number_ms 5 l.a17 HK.out HB.out h17.1 h17.2 (by simp [num, noneGo, numIns]; omega)).mono ?_
  rintro e w3 ⟨rfl, hK, hB⟩
  have HK := Aside0.mk hK
  have HB := Aside0.mk hB
  clear hK hB c17
  go_wp2_with fail
  refine (to_ms 3 ⟨37, 0, 1, 5, 0⟩ (by decide) HK.out HB.out (by simp [num, noneGo, numIns]; omega)).mono ?_
  rintro e w4 ⟨rfl, hK, hB⟩
  have HK := Aside0.mk hK
  have HB := Aside0.mk hB
  clear hK hB
  go_wp2_with fail
  refine (put_lit [⟨21, 5, 1, 0, 3⟩] _ 1 rfl rfl HK.out HB.out (by simp [num, noneGo, numIns]; omega)).mono ?_
  rintro e w5 ⟨rfl, hK, hB⟩
  have HK := Aside0.mk hK
  have HB := Aside0.mk hB
  clear hK hB
  go_wp2_with fail
  refine (to_ms 3 ⟨33, 0, 5, 0, 0⟩ (by decide) HK.out HB.out (by simp [num, noneGo, numIns]; omega)).mono ?_
  rintro e w6 ⟨rfl, hK, hB⟩
  have HK := Aside0.mk hK
  have HB := Aside0.mk hB
  clear hK hB
  go_wp2_with fail
  go_end0
  refine ⟨rfl, ?_, HB.out⟩
  have := HK.out
  simpa only [backP, List.append_assoc] using this

/-- The checks of a parameter that points. -/
def lastOf (l : LayV) (n : Int) : Int := IntKind.u64.wrap (l.a13 - 8 * n)
def ptrP (l : LayV) (r n : Int) : List InsP :=
  if l.a13 - 8 * n < l.a12 then [(⟨40, 0, 0, 0, 0⟩, 1)] else
    noneGo [⟨21, 5, r, 0, 7⟩] ++ ([(⟨33, 0, 5, 0, 0⟩, 1)] ++ (num 5 l.a12 ++ ([(⟨36, 0, r, 5, 0⟩, 1)] ++ (num 5 (l.a13 - 8 * n) ++ [(⟨36, 0, 5, r, 0⟩, 1)]))))
theorem ptr_never (w0 w : World) (g : Nat) (l : LayV) (st : List InsP) (place : List (Int × Int)) (r n : Int) (hK : MS w0 w g l st place) (hB : Below w0.heap.size w0 w)
    (h12 : 0 ≤ l.a12 ∧ l.a12 ≤ 1073741824) (h13 : 0 ≤ l.a13 ∧ l.a13 ≤ 1073741824) (hn : 0 ≤ n ∧ n ≤ 64) (hr : 0 ≤ r ∧ r ≤ 31) (hlen : st.length ≤ 900) (hno : l.a13 - 8 * n < l.a12) :
    Calls Tryd.prog 47 #[.pointer (some ⟨g, 0, none⟩), .int .i64 r, .int .i64 n] w fun e w' => e = .returned (.tuple #[]) ∧ MS w0 w' g l (st ++ [(⟨40, 0, 0, 0, 0⟩, 1)]) place ∧ Below w0.heap.size w0 w' := by
  have c12 := hK.cellL 12 _ (fun _ _ _ => by simp [mkCells]; rfl)
  have c13 := hK.cellL 13 _ (fun _ _ _ => by simp [mkCells]; rfl)
  have HK := Aside0.mk hK
  have HB := Aside0.mk hB
  obtain ⟨n0, n1⟩ := hn
  obtain ⟨x0, x1⟩ := h12
  obtain ⟨y0, y1⟩ := h13
  clear hK hB
  by_cases hw : 0 ≤ l.a13 - 8 * n
  · have hd : decide (l.a13 - 8 * n < l.a12) = true := decide_eq_true hno
    go_enter Tryd.func47, Tryd.ntmps47
    go_wp2_with fail
    refine (to_ms 1 ⟨40, 0, 0, 0, 0⟩ (by decide) HK.out HB.out (by omega)).mono ?_
    rintro e w1 ⟨rfl, hK, hB⟩
    have HK := Aside0.mk hK
    have HB := Aside0.mk hB
    clear hK hB
    go_wp2_with fail
    refine bodyPost_ret (results_none rfl _ _ _) rfl ?_
    exact ⟨rfl, HK.out, HB.out⟩
  · have hd : decide (IntKind.u64.wrap (l.a13 - 8 * n) < l.a12) = false := decide_eq_false (by rw [IntKind.wrap_u64]; omega)
    have hd2 : decide (l.a13 < 8 * n) = true := decide_eq_true (by omega)
    go_enter Tryd.func47, Tryd.ntmps47
    go_wp2_with fail
    refine (to_ms 1 ⟨40, 0, 0, 0, 0⟩ (by decide) HK.out HB.out (by omega)).mono ?_
    rintro e w1 ⟨rfl, hK, hB⟩
    have HK := Aside0.mk hK
    have HB := Aside0.mk hB
    clear hK hB
    go_wp2_with fail
    refine bodyPost_ret (results_none rfl _ _ _) rfl ?_
    exact ⟨rfl, HK.out, HB.out⟩

set_option maxHeartbeats 4000000 in
set_option maxRecDepth 100000 in
theorem ptr_yes (w0 w : World) (g : Nat) (l : LayV) (st : List InsP) (place : List (Int × Int)) (r n : Int) (hK : MS w0 w g l st place) (hB : Below w0.heap.size w0 w)
    (h12 : 0 ≤ l.a12 ∧ l.a12 ≤ 1073741824) (h13 : 0 ≤ l.a13 ∧ l.a13 ≤ 1073741824) (hn : 0 ≤ n ∧ n ≤ 64) (hr : 0 ≤ r ∧ r ≤ 31) (hlen : st.length ≤ 900) (hyes : ¬ l.a13 - 8 * n < l.a12) :
    Calls Tryd.prog 47 #[.pointer (some ⟨g, 0, none⟩), .int .i64 r, .int .i64 n] w fun e w' => e = .returned (.tuple #[]) ∧ MS w0 w' g l (st ++ (noneGo [⟨21, 5, r, 0, 7⟩] ++ ([(⟨33, 0, 5, 0, 0⟩, 1)] ++ (num 5 l.a12 ++ ([(⟨36, 0, r, 5, 0⟩, 1)] ++ (num 5 (l.a13 - 8 * n) ++ [(⟨36, 0, 5, r, 0⟩, 1)])))))) place ∧ Below w0.heap.size w0 w' := by
  have c12 := hK.cellL 12 _ (fun _ _ _ => by simp [mkCells]; rfl)
  have c13 := hK.cellL 13 _ (fun _ _ _ => by simp [mkCells]; rfl)
  have HK := Aside0.mk hK
  have HB := Aside0.mk hB
  obtain ⟨n0, n1⟩ := hn
  obtain ⟨x0, x1⟩ := h12
  obtain ⟨y0, y1⟩ := h13
  clear hK hB
  have hd : decide (l.a13 - 8 * n < l.a12) = false := decide_eq_false hyes
  have hd2 : decide (l.a13 < 8 * n) = false := decide_eq_false (by omega)
  go_enter Tryd.func47, Tryd.ntmps47
  go_wp2_with fail
  refine (put_lit [⟨21, 5, r, 0, 7⟩] _ 1 rfl rfl HK.out HB.out (by simp [num, noneGo, numIns]; omega)).mono ?_
  rintro e w1 ⟨rfl, hK, hB⟩
  have HK := Aside0.mk hK
  have HB := Aside0.mk hB
  clear hK hB
  go_wp2_with fail
  refine (to_ms 1 ⟨33, 0, 5, 0, 0⟩ (by decide) HK.out HB.out (by simp [num, noneGo, numIns]; omega)).mono ?_
  rintro e w1 ⟨rfl, hK, hB⟩
  have c12 := hK.cellL 12 _ (fun _ _ _ => by simp [mkCells]; rfl)
  have HK := Aside0.mk hK
  have HB := Aside0.mk hB
  clear hK hB
  go_wp2_with fail
  refine (number_ms 5 l.a12 HK.out HB.out x0 (by omega) (by simp [num, noneGo, numIns]; omega)).mono ?_
  rintro e w1 ⟨rfl, hK, hB⟩
  have HK := Aside0.mk hK
  have HB := Aside0.mk hB
  clear hK hB
  go_wp2_with fail
  refine (to_ms 1 ⟨36, 0, r, 5, 0⟩ (by decide) HK.out HB.out (by simp [num, noneGo, numIns]; omega)).mono ?_
  rintro e w1 ⟨rfl, hK, hB⟩
  have HK := Aside0.mk hK
  have HB := Aside0.mk hB
  clear hK hB
  go_wp2_with fail
  refine (number_ms 5 (l.a13 - 8 * n) HK.out HB.out (by omega) (by omega) (by simp [num, noneGo, numIns]; omega)).mono ?_
  rintro e w1 ⟨rfl, hK, hB⟩
  have HK := Aside0.mk hK
  have HB := Aside0.mk hB
  clear hK hB
  go_wp2_with fail
  refine (to_ms 1 ⟨36, 0, 5, r, 0⟩ (by decide) HK.out HB.out (by simp [num, noneGo, numIns]; omega)).mono ?_
  rintro e w1 ⟨rfl, hK, hB⟩
  have HK := Aside0.mk hK
  have HB := Aside0.mk hB
  clear hK hB
  go_wp2_with fail
  go_end0
  refine ⟨rfl, ?_, HB.out⟩
  have := HK.out
  simpa using this
theorem pointer_calls (w0 w : World) (g : Nat) (l : LayV) (st : List InsP) (place : List (Int × Int)) (r n : Int) (hK : MS w0 w g l st place) (hB : Below w0.heap.size w0 w)
    (h12 : 0 ≤ l.a12 ∧ l.a12 ≤ 1073741824) (h13 : 0 ≤ l.a13 ∧ l.a13 ≤ 1073741824) (hn : 0 ≤ n ∧ n ≤ 64) (hr : 0 ≤ r ∧ r ≤ 31) (hlen : st.length ≤ 900) :
    Calls Tryd.prog 47 #[.pointer (some ⟨g, 0, none⟩), .int .i64 r, .int .i64 n] w fun e w' => e = .returned (.tuple #[]) ∧ MS w0 w' g l (st ++ ptrP l r n) place ∧ Below w0.heap.size w0 w' := by
  unfold ptrP
  by_cases h : l.a13 - 8 * n < l.a12
  · rw [if_pos h]
    exact ptr_never w0 w g l st place r n hK hB h12 h13 hn hr hlen h
  · rw [if_neg h]
    exact ptr_yes w0 w g l st place r n hK hB h12 h13 hn hr hlen h

/-- Registers that are 0 when it is left. -/
def cleanRegs : List Int := [5, 6, 7, 12, 13, 14, 15, 16, 17, 28, 29, 30, 31]
def cleanP : List InsP := noneGo (cleanRegs.map fun r => ⟨16, r, 0, 0, 0⟩)
theorem take_map_succ {α β : Type} (l : List α) (f : α → β) (k : Nat) (x : α) (h : l[k]? = some x) : (l.take (k + 1)).map f = (l.take k).map f ++ [f x] := by
  obtain ⟨hk, rfl⟩ := List.getElem?_eq_some_iff.1 h
  rw [List.take_succ_eq_append_getElem hk, List.map_append]
  rfl
/-- The maker's state, a block b that is another's left alone. -/
def MSx (w0 w : World) (g : Nat) (l : LayV) (st : List InsP) (place : List (Int × Int)) (b : Nat) : Prop := ∃ v rg rp, MKat w0 w g l (st.map (·.1)) (goesOf st 0) place v rg rp ∧ some b ≠ v.ownBlock ∧ b ≠ g ∧ b < w.heap.size
theorem MSx.ms {w0 w : World} {g : Nat} {l : LayV} {st : List InsP} {place : List (Int × Int)} {b : Nat} (h : MSx w0 w g l st place b) : MS w0 w g l st place := by
  obtain ⟨v, rg, rp, hM, _⟩ := h
  exact ⟨v, rg, rp, hM⟩
theorem MS.msx {w0 w : World} {g : Nat} {l : LayV} {st : List InsP} {place : List (Int × Int)} (h : MS w0 w g l st place) (o : Obj) : MSx w0 (w.alloc o) g l st place w.heap.size := by
  obtain ⟨v, rg, rp, hM⟩ := h
  refine ⟨v, rg, rp, hM.below ((Below.refl _ _).alloc (Nat.le_refl _) _), fun e => ?_, ?_, by simp⟩
  · obtain ⟨inner, ho⟩ := Kd.R_own hM.row
    have := own_lt ho _ e.symm
    omega
  · have := hM.lt
    omega
theorem put_x {w0 w : World} {g : Nat} {l : LayV} {st : List InsP} {place : List (Int × Int)} {b : Nat} (xs : List S43) (cs : Array Value) (n : Nat) (hn : xs.length = n) (hcs : cs.toList = xs.flatMap insCells) (hK : MSx w0 w g l st place b) (hB : Below w0.heap.size w0 w) (hlen : st.length + xs.length ≤ 1000) :
    Calls Tryd.prog 49 #[.pointer (some ⟨g, 0, none⟩), .slice (some ⟨w.heap.size, 0, none⟩) n n] (w.alloc (.cells cs 43)) fun e w' => e = .returned (.tuple #[]) ∧ MSx w0 w' g l (st ++ noneGo xs) place b ∧ w'.heap[b]? = w.heap[b]? ∧ Below w0.heap.size w0 w' := by
  subst hn
  obtain ⟨v, rg, rp, hM, h1, h2, h3⟩ := hK
  have hb : Below w.heap.size w (w.alloc (.cells cs 43)) := (Below.refl _ _).alloc (Nat.le_refl _) _
  refine (put_strong w0 _ g l _ xs _ place _ _ v rg rp (hM.below hb) (below_then hB hB.size hb) (lit_C w xs cs hcs (by omega)) (by rw [List.length_map]; exact hlen)).mono ?_
  rintro e w' ⟨rfl, ⟨v1, hM1, ha⟩, hk, hz, hB1⟩
  have hzz : w.heap.size ≤ w'.heap.size := Nat.le_trans hb.size hz
  refine ⟨rfl, ⟨v1, rg, rp, ?_, ?_, h2, by omega⟩, (hk b (Nat.lt_of_lt_of_le h3 hb.size) h2 h1).trans (hb.block b h3), hB1⟩
  · rw [goesOf_append, goesOf_none (noneGo xs) (by simp [noneGo]), List.append_nil, List.map_append]
    have : (noneGo xs).map (·.1) = xs := by simp [noneGo, Function.comp_def]
    rw [this]
    exact hM1
  · rcases ha with ha | ⟨b', ha, hlt⟩
    · rw [ha]; exact h1
    · rw [ha]
      intro e
      obtain rfl := Option.some.inj e
      have := hb.size
      omega
def regCells : Array Value := #[.int .i64 5, .int .i64 6, .int .i64 7, .int .i64 12, .int .i64 13, .int .i64 14, .int .i64 15, .int .i64 16, .int .i64 17, .int .i64 28, .int .i64 29, .int .i64 30, .int .i64 31]
theorem reg_cell (k : Nat) (hk : k < 13) : regCells[k]? = some (.int .i64 (cleanRegs.getD k 0)) := by
  unfold regCells cleanRegs
  match k, hk with
  | 0, _ => rfl
  | 1, _ => rfl
  | 2, _ => rfl
  | 3, _ => rfl
  | 4, _ => rfl
  | 5, _ => rfl
  | 6, _ => rfl
  | 7, _ => rfl
  | 8, _ => rfl
  | 9, _ => rfl
  | 10, _ => rfl
  | 11, _ => rfl
  | 12, _ => rfl
theorem clean_succ (k : Nat) (hk : k < 13) : noneGo ((cleanRegs.take (k + 1)).map fun r => ⟨16, r, 0, 0, 0⟩) = noneGo ((cleanRegs.take k).map fun r => ⟨16, r, 0, 0, 0⟩) ++ noneGo [⟨16, cleanRegs.getD k 0, 0, 0, 0⟩] := by
  unfold noneGo
  rw [take_map_succ cleanRegs (fun r => (⟨16, r, 0, 0, 0⟩ : S43)) k (cleanRegs.getD k 0) (by
    have : k < cleanRegs.length := hk
    rw [List.getD_eq_getElem?_getD, List.getElem?_eq_getElem this]; rfl), List.map_append]
set_option maxHeartbeats 4000000 in
set_option maxRecDepth 100000 in
theorem clean_calls (w0 w : World) (g : Nat) (l : LayV) (st : List InsP) (place : List (Int × Int)) (hK : MS w0 w g l st place) (hB : Below w0.heap.size w0 w) (hlen : st.length ≤ 900) :
    Calls Tryd.prog 51 #[.pointer (some ⟨g, 0, none⟩)] w fun e w' => e = .returned (.tuple #[]) ∧ MS w0 w' g l (st ++ cleanP) place ∧ Below w0.heap.size w0 w' := by
  have HK := Aside0.mk (hK.msx (.cells regCells 3))
  have HB := Aside0.mk (below_then hB hB.size ((Below.refl _ _).alloc (Nat.le_refl _) (.cells regCells 3)))
  have hr : (w.alloc (.cells regCells 3)).heap[w.heap.size]? = some (.cells regCells 3) := heap_alloc_new w _
  have HR := Aside0.mk hr
  unfold regCells at HK HB
  clear hK hB hr
  go_enter Tryd.func51, Tryd.ntmps51
  go_wp2_with fail
  go_loopw [3, 6] (fun _ i wr => ∃ k : Nat, k ≤ 13 ∧ i = .int .i64 k ∧ Aside0 (MSx w0 wr g l (st ++ noneGo ((cleanRegs.take k).map fun r => ⟨16, r, 0, 0, 0⟩)) place w.heap.size) ∧ Aside0 (wr.heap[w.heap.size]? = some (.cells regCells 3)) ∧ Aside0 (Below w0.heap.size w0 wr)) (fun _ i _ => 13 - (intOf i).toNat)
  case atStart => exact ⟨0, by omega, rfl, ⟨by simpa [noneGo] using HK.out⟩, HR, HB⟩
  case round =>
    obtain ⟨k, hk, rfl, HK, HR, HB⟩ := hrel
    by_cases hlt : k < 13
    · have hc : wr.cell? ⟨w.heap.size, k, none⟩ = some (.int .i64 (cleanRegs.getD k 0)) := by
        simp only [World.cell?, HR.out]
        exact reg_cell k hlt
      obtain ⟨r, hr⟩ : ∃ r, cleanRegs.getD k 0 = r := ⟨_, rfl⟩
      have HE := Aside0.mk (clean_succ k hlt)
      rw [hr] at hc HE
      have hlt2 : (k : Int) < 13 := by omega
      clear hr
      go_wp2_with fail
      refine (put_x [⟨16, r, 0, 0, 0⟩] _ 1 rfl rfl HK.out HB.out (by simp [noneGo]; omega)).mono ?_
      rintro e w1 ⟨rfl, hK1, hh1, hB1⟩
      have HK1 := Aside0.mk hK1
      have HR1 := Aside0.mk (hh1.trans HR.out)
      have HB1 := Aside0.mk hB1
      clear hK1 hh1 hB1 hc
      go_wp2_with fail
      go_roundw
      case rel => exact ⟨k + 1, by omega, by go_num, ⟨by rw [HE.out, ← List.append_assoc]; exact HK1.out⟩, HR1, HB1⟩
      case measure => simp [intOf]; omega
    · obtain rfl : k = 13 := by omega
      go_wp2_with fail
      go_end0
      exact ⟨rfl, HK.out.ms, HB.out⟩
end Go.Proofs.YtaoajlaocphgdaaDoor.PA
