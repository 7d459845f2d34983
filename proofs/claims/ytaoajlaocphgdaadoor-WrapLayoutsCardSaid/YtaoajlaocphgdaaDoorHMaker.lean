/-
Contracts of the methods of wrap's maker: the instructions that it has put together, where they go, and where that is.
-/
import Derived.Test.YtaoajlaocphgdaaDoorMapI
import Derived.Test.YtaoajlaocphgdaaDoorPAxwrapMay
import Derived.StillTailTactics
import Derived.RegionTactic
import Derived.BigRegion
import Derived.Outline
namespace Go.Proofs.YtaoajlaocphgdaaDoor.PA
open Go.RowKit Go.Proofs.YtaoajlaocphgdaaDoorW.PrintWords Go.Proofs.YtaoajlaocphgdaaDoorW.PrintLast Go.Proofs.YtaoajlaocphgdaaDoorW.PrintMore
set_option linter.unusedVariables false
set_option linter.unusedSimpArgs false

/-- A layout's numbers. -/
structure LayV where
  a0 : Int
  a1 : Int
  a2 : Int
  a3 : Int
  a4 : Int
  a5 : Int
  a6 : Int
  a7 : Int
  a8 : Int
  a9 : Int
  a10 : Int
  a11 : Int
  a12 : Int
  a13 : Int
  a14 : Int
  a15 : Int
  a16 : Int
  a17 : Int
  a18 : Int
  a19 : Int

/-- The maker's block. -/
def mkCells (l : LayV) (v : Value) (rg rp : Nat) : Array Value := #[.int .u64 l.a0, .int .u64 l.a1, .int .i64 l.a2, .int .i64 l.a3, .int .u64 l.a4, .int .u64 l.a5, .int .i64 l.a6, .int .i64 l.a7, .int .u64 l.a8, .int .u64 l.a9, .int .i64 l.a10, .int .i64 l.a11, .int .u64 l.a12, .int .u64 l.a13, .int .i64 l.a14, .int .i64 l.a15, .int .u64 l.a16, .int .u64 l.a17, .int .i64 l.a18, .int .i64 l.a19, v, .map (some rg), .map (some rp)]
structure MKat (w0 w : World) (g : Nat) (l : LayV) (code : List S43) (goes place : List (Int × Int)) (v : Value) (rg rp : Nat) : Prop where
  blk : w.heap[g]? = some (.cells (mkCells l v rg rp) 88 (0, 0))
  row : k43.R 43 w w0.heap.size (fun _ => True) v code
  gm : MapIs w rg goes
  pm : MapIs w rp place
  hg : w0.heap.size ≤ g
  hrg : w0.heap.size ≤ rg
  hrp : w0.heap.size ≤ rp
  hne : rg ≠ rp
def MK (w0 w : World) (g : Nat) (l : LayV) (code : List S43) (goes place : List (Int × Int)) : Prop := ∃ v rg rp, MKat w0 w g l code goes place v rg rp

section
variable {w0 w : World} {g : Nat} {l : LayV} {code : List S43} {goes place : List (Int × Int)} {v : Value} {rg rp : Nat}
theorem MKat.cell (h : MKat w0 w g l code goes place v rg rp) (j : Nat) (u : Value) (hu : (mkCells l v rg rp)[j]? = some u) : w.cell? ⟨g, j, none⟩ = some u := by
  simp [World.cell?, h.blk, hu]
theorem MKat.free (h : MKat w0 w g l code goes place v rg rp) (j : Nat) : w.frozen? ⟨g, j, none⟩ = false := by
  simp [World.frozen?, h.blk]
theorem MKat.g_ne_rg (h : MKat w0 w g l code goes place v rg rp) : g ≠ rg := by
  rintro rfl
  have h1 := h.blk
  rw [show w.heap[g]? = _ from h.gm] at h1
  cases h1
theorem MKat.g_ne_rp (h : MKat w0 w g l code goes place v rg rp) : g ≠ rp := by
  rintro rfl
  have h1 := h.blk
  rw [show w.heap[g]? = _ from h.pm] at h1
  cases h1
theorem MKat.lt (h : MKat w0 w g l code goes place v rg rp) : g < w.heap.size := (Array.getElem?_eq_some_iff.1 h.blk).1
theorem MKat.v_ne (h : MKat w0 w g l code goes place v rg rp) : some g ≠ v.ownBlock := Kd.R_ne h.row h.blk (by decide)
theorem MKat.v_ne_map (h : MKat w0 w g l code goes place v rg rp) {r : Nat} {es : List (Int × Int)} (hm : MapIs w r es) : some r ≠ v.ownBlock := by
  intro e
  obtain ⟨inner, ho⟩ := Kd.R_own h.row
  obtain ⟨cells, hc⟩ := own_typed ho r e.symm
  rw [show w.heap[r]? = _ from hm] at hc
  cases hc
/-- Whatever is new, or lies elsewhere. -/
theorem MKat.below {w1 : World} (h : MKat w0 w g l code goes place v rg rp) (hb : Below w.heap.size w w1) : MKat w0 w1 g l code goes place v rg rp :=
  ⟨(hb.block _ h.lt).trans h.blk, Kd.R_below h.row hb, h.gm.move (hb.block _ h.gm.lt), h.pm.move (hb.block _ h.pm.lt), h.hg, h.hrg, h.hrp, h.hne⟩
/-- The row has grown, and its value is stored. -/
theorem MKat.store {w1 : World} {v1 : Value} {code1 : List S43} (h : MKat w0 w g l code goes place v rg rp) (hg : w.grownBy w1 v.ownBlock) (hr : k43.R 43 w1 w0.heap.size (fun _ => True) v1 code1) :
    MKat w0 (w1.setCell ⟨g, 20, none⟩ v1) g l code1 goes place v1 rg rp := by
  have hb1 : w1.heap[g]? = some (.cells (mkCells l v rg rp) 88 (0, 0)) := (hg.block g h.lt h.v_ne).trans h.blk
  refine ⟨?_, Kd.R_set hr hb1 (by decide) 20 v1, ?_, ?_, h.hg, h.hrg, h.hrp, h.hne⟩
  · show (w1.heap.modify g _)[g]? = _
    rw [Array.getElem?_modify, if_pos rfl, hb1]
    rfl
  · exact (h.gm.move (hg.block rg h.gm.lt (h.v_ne_map h.gm))).move (Below.heap_setCell _ _ _ _ (by exact h.g_ne_rg.symm))
  · exact (h.pm.move (hg.block rp h.pm.lt (h.v_ne_map h.pm))).move (Below.heap_setCell _ _ _ _ (by exact h.g_ne_rp.symm))
/-- A place more. -/
theorem MKat.addPlace (h : MKat w0 w g l code goes place v rg rp) (x : Int × Int) : MKat w0 (mapSet w.drew rp (place ++ [x])) g l code goes (place ++ [x]) v rg rp := by
  have hd : MKat w0 w.drew g l code goes place v rg rp := ⟨h.blk, Kd.R_move h.row (fun _ _ => rfl), h.gm, h.pm, h.hg, h.hrg, h.hrp, h.hne⟩
  have ho : ∀ k, k ≠ rp → (mapSet w.drew rp (place ++ [x])).heap[k]? = w.drew.heap[k]? := fun k hk => mapSet_other _ _ _ _ hk
  refine ⟨(ho g hd.g_ne_rp).trans hd.blk, ?_, hd.gm.move (ho rg hd.hne), mapSet_is _ _ _ hd.pm.lt, hd.hg, hd.hrg, hd.hrp, hd.hne⟩
  refine Kd.R_mono (ok := fun k => ∃ cells q, w.drew.heap[k]? = some (.cells cells q (0, 0))) (Kd.R_move (Kd.R_mono (Kd.R_bound hd.row) fun k hk => ?_) fun k hk => ?_) fun _ _ => trivial
  · obtain ⟨_, _, _, q, _, cells, hc⟩ := hk
    exact ⟨cells, q, hc⟩
  · obtain ⟨cells, q, hc⟩ := hk
    refine ho k ?_
    rintro rfl
    rw [show w.drew.heap[k]? = _ from hd.pm] at hc
    cases hc
/-- An instruction more goes somewhere. -/
theorem MKat.addGoes (h : MKat w0 w g l code goes place v rg rp) (x : Int × Int) : MKat w0 (mapSet w.drew rg (goes ++ [x])) g l code (goes ++ [x]) place v rg rp := by
  have hd : MKat w0 w.drew g l code goes place v rg rp := ⟨h.blk, Kd.R_move h.row (fun _ _ => rfl), h.gm, h.pm, h.hg, h.hrg, h.hrp, h.hne⟩
  have ho : ∀ k, k ≠ rg → (mapSet w.drew rg (goes ++ [x])).heap[k]? = w.drew.heap[k]? := fun k hk => mapSet_other _ _ _ _ hk
  refine ⟨(ho g hd.g_ne_rg).trans hd.blk, ?_, mapSet_is _ _ _ hd.gm.lt, hd.pm.move (ho rp hd.hne.symm), hd.hg, hd.hrg, hd.hrp, hd.hne⟩
  refine Kd.R_mono (ok := fun k => ∃ cells q, w.drew.heap[k]? = some (.cells cells q (0, 0))) (Kd.R_move (Kd.R_mono (Kd.R_bound hd.row) fun k hk => ?_) fun k hk => ?_) fun _ _ => trivial
  · obtain ⟨_, _, _, q, _, cells, hc⟩ := hk
    exact ⟨cells, q, hc⟩
  · obtain ⟨cells, q, hc⟩ := hk
    refine ho k ?_
    rintro rfl
    rw [show w.drew.heap[k]? = _ from hd.gm] at hc
    cases hc
end

set_option maxHeartbeats 2000000 in
theorem put_strong (w0 w : World) (g : Nat) (l : LayV) (code xs : List S43) (goes place : List (Int × Int)) (A : Option Addr) (c : Nat) (v : Value) (rg rp : Nat) (hM : MKat w0 w g l code goes place v rg rp) (hB : Below w0.heap.size w0 w)
    (hX : Kd.C k43 w A xs.length xs) (hlen : code.length + xs.length ≤ 1000) :
    Calls Tryd.prog 49 #[.pointer (some ⟨g, 0, none⟩), .slice A xs.length c] w fun e w' => e = .returned (.tuple #[]) ∧ (∃ v1, MKat w0 w' g l (code ++ xs) goes place v1 rg rp ∧
      (v1.ownBlock = v.ownBlock ∨ ∃ b, v1.ownBlock = some b ∧ w.heap.size ≤ b)) ∧ (∀ k, k < w.heap.size → k ≠ g → some k ≠ v.ownBlock → w'.heap[k]? = w.heap[k]?) ∧ w.heap.size ≤ w'.heap.size ∧ Below w0.heap.size w0 w' := by
  have c20 := hM.cell 20 v (by simp [mkCells])
  have HM := Aside0.mk hM
  have HB := Aside0.mk hB
  have HX := Aside0.mk hX
  clear hM hB hX
  go_enter Tryd.func49, Tryd.ntmps49
  go_wp2_with (at_builtin; refine Kd.R_append_rows k43 (w0 := w0) w0.heap.size rfl (.tmp 8) (.tmp 9) 56 43 (.agg #[(.int .i64 0), (.int .i64 0), (.int .i64 0), (.int .i64 0), (.int .i64 0)]) 40 rfl Tryd.underlying56 info43 rfl (by decide) (by omega) v code xs _ _ _ (fun _ => True) (fun _ => False) rfl rfl HM.out.row HX.out (fun _ _ h => h) (fun _ h => h.elim) (fun _ _ => trivial) HB.out HB.out.size (by omega) ?_)
  intro v1 w1 hr hb hg hat
  have hM1 := MKat.store HM.out hg hr
  have c20' : w1.cell? ⟨g, 20, none⟩ = some v := by
    have hb1 := (hg.block g HM.out.lt HM.out.v_ne).trans HM.out.blk
    simp [World.cell?, hb1, mkCells]
  have f20 : w1.frozen? ⟨g, 20, none⟩ = false := by
    have hb1 := (hg.block g HM.out.lt HM.out.v_ne).trans HM.out.blk
    simp [World.frozen?, hb1]
  have hsl := Kd.R_slice hr
  have HK : Aside0 (∀ k, k < w.heap.size → k ≠ g → some k ≠ v.ownBlock → (w1.setCell ⟨g, 20, none⟩ v1).heap[k]? = w.heap[k]?) := ⟨fun k h1 h2 h3 => (Below.heap_setCell _ _ _ _ (by exact h2)).trans (hg.block k h1 h3)⟩
  have HZ : Aside0 (w.heap.size ≤ (w1.setCell ⟨g, 20, none⟩ v1).heap.size) := ⟨by have := hg.size; simpa [World.setCell] using this⟩
  have HA := Aside0.mk hat
  have HM1 := Aside0.mk hM1
  have HB1 := Aside0.mk (below_set hb (j := 20) (v := v1) HM.out.hg)
  clear hM1 hg hr hb hat c20
  obtain ⟨A1, c1, rfl⟩ := hsl
  rw [List.length_append] at HM1 HB1 HK HA HZ
  go_wp2
  go_end0
  exact ⟨rfl, ⟨_, HM1.out, HA.out⟩, HK.out, HZ.out, HB1.out⟩
theorem put_calls (w0 w : World) (g : Nat) (l : LayV) (code xs : List S43) (goes place : List (Int × Int)) (A : Option Addr) (c : Nat) (hK : MK w0 w g l code goes place) (hB : Below w0.heap.size w0 w)
    (hX : Kd.C k43 w A xs.length xs) (hlen : code.length + xs.length ≤ 1000) :
    Calls Tryd.prog 49 #[.pointer (some ⟨g, 0, none⟩), .slice A xs.length c] w fun e w' => e = .returned (.tuple #[]) ∧ MK w0 w' g l (code ++ xs) goes place ∧ Below w0.heap.size w0 w' := by
  obtain ⟨v, rg, rp, hM⟩ := hK
  refine (put_strong w0 w g l code xs goes place A c v rg rp hM hB hX hlen).mono ?_
  rintro e w' ⟨rfl, ⟨v1, hM1, _⟩, _, _, hB1⟩
  exact ⟨rfl, ⟨v1, rg, rp, hM1⟩, hB1⟩

/-- An instruction's cells. -/
def insCells (x : S43) : List Value := [.int .i64 x.f0, .int .i64 x.f1, .int .i64 x.f2, .int .i64 x.f3, .int .i64 x.f4]
theorem flat_at (xs : List S43) (j i : Nat) (p : S43) (u : Value) (hp : xs[j]? = some p) (hu : (insCells p)[i]? = some u) : (xs.flatMap insCells)[j * 5 + i]? = some u := by
  induction xs generalizing j with
  | nil => cases hp
  | cons x r ih =>
    have hi : i < 5 := by
      rcases Nat.lt_or_ge i 5 with h | h
      · exact h
      · rw [List.getElem?_eq_none (by simpa [insCells] using h)] at hu
        cases hu
    rw [List.flatMap_cons]
    cases j with
    | zero =>
      obtain rfl := Option.some.inj hp
      rw [List.getElem?_append_left (by simp [insCells]; omega), Nat.zero_mul, Nat.zero_add]
      exact hu
    | succ j =>
      have hl : (insCells x).length = 5 := rfl
      rw [List.getElem?_append_right (by rw [hl]; omega), hl, show (j + 1) * 5 + i - 5 = j * 5 + i from by omega]
      exact ih j hp
/-- A slice literal of instructions. -/
theorem lit_C (W : World) (xs : List S43) (cs : Array Value) (h : cs.toList = xs.flatMap insCells) (hl : xs.length ≤ 9223372036854775807) :
    Kd.C k43 (W.alloc (.cells cs 43)) (some ⟨W.heap.size, 0, none⟩) xs.length xs := by
  refine ⟨rfl, hl, fun _ => ⟨_, rfl, fun j p hp => ⟨insCells p, rfl, k43_mk _ p, fun i u hu => ?_⟩⟩⟩
  rw [add_plain]
  have := flat_at xs j i p u hp hu
  rw [← h] at this
  have hsz : k43.sz = 5 := rfl
  simp only [World.cell?, heap_alloc_new]
  simpa [hsz] using this

/-- A number put into a register. -/
def numIns (d v s : Int) : List S43 := [⟨38, d, 0, 0, (v + 2048) / 4096 * 4096⟩, ⟨16, d, d, 0, s⟩]
set_option maxHeartbeats 2000000 in
theorem number_calls (w0 w : World) (g : Nat) (l : LayV) (code : List S43) (goes place : List (Int × Int)) (d v s : Int) (hK : MK w0 w g l code goes place) (hB : Below w0.heap.size w0 w)
    (h0 : 0 ≤ v) (h1 : v ≤ 4294967296) (hs : bits_Sign.f v 12 = some s) (hlen : code.length ≤ 990) :
    Calls Tryd.prog 48 #[.pointer (some ⟨g, 0, none⟩), .int .i64 d, .int .u64 v] w fun e w' => e = .returned (.tuple #[]) ∧ MK w0 w' g l (code ++ numIns d v s) goes place ∧ Below w0.heap.size w0 w' := by
  have HS := Aside0.mk hs
  obtain ⟨v', rg, rp, hM⟩ := hK
  have HM := Aside0.mk hM
  have HB := Aside0.mk hB
  clear hs hM hB
  go_enter Tryd.func48, Tryd.ntmps48
  go_wp2_with (go_at_call 76; refine (bits_Sign.calls v 12 s _ HS.out).mono ?_; rintro e w1 ⟨rfl, ⟨nd, rfl⟩⟩)
  have hb : Below w.heap.size w ((w.drewN nd).alloc (.cells #[.int .i64 38, .int .i64 d, .int .i64 0, .int .i64 0, .int .i64 ((v + 2048) / 4096 * 4096), .int .i64 16, .int .i64 d, .int .i64 d, .int .i64 0, .int .i64 s] 43)) := (pw_below_drewN (Below.refl _ _) nd).alloc (by simp) _
  refine (put_calls w0 _ g l code (numIns d v s) goes place _ 2 ⟨_, _, _, HM.out.below hb⟩ (below_then HB.out HB.out.size hb) (lit_C (w.drewN nd) _ _ rfl (by show 2 ≤ _; decide)) (by show code.length + 2 ≤ 1000; omega)).mono ?_
  rintro e w2 ⟨rfl, hK, hB⟩
  have HK := Aside0.mk hK
  have HB2 := Aside0.mk hB
  clear hb hK hB
  go_wp2
  go_end0
  exact ⟨rfl, HK.out, HB2.out⟩

set_option maxHeartbeats 2000000 in
theorem here_calls (w0 w : World) (g : Nat) (l : LayV) (code : List S43) (goes place : List (Int × Int)) (k : Int) (hK : MK w0 w g l code goes place) (hB : Below w0.heap.size w0 w) (hk : ∀ x ∈ place, x.1 ≠ k) :
    Calls Tryd.prog 50 #[.pointer (some ⟨g, 0, none⟩), .int .i64 k] w fun e w' => e = .returned (.tuple #[]) ∧ MK w0 w' g l code goes (place ++ [(k, (code.length : Int))]) ∧ Below w0.heap.size w0 w' := by
  obtain ⟨v, rg, rp, hM⟩ := hK
  obtain ⟨A1, c1, rfl⟩ := Kd.R_slice hM.row
  have c20 := hM.cell 20 _ (by simp [mkCells]; rfl)
  have c22 := hM.cell 22 _ (by simp [mkCells]; rfl)
  have hu := run_add (P := Tryd.prog) Tryd.underlying86 Tryd.underlying3 w.drew rp place k (code.length : Int) (hM.pm) hk
  have HM := Aside0.mk hM
  have HB := Aside0.mk hB
  clear hM hB hk
  go_enter Tryd.func50, Tryd.ntmps50
  go_wp2
  go_region
  go_end0
  exact ⟨rfl, ⟨_, _, _, HM.out.addPlace _⟩, mapSet_below HB.out.drew _ _ HM.out.hrp⟩

set_option maxHeartbeats 2000000 in
set_option maxRecDepth 100000 in
theorem to_calls (w0 w : World) (g : Nat) (l : LayV) (code : List S43) (goes place : List (Int × Int)) (k : Int) (x : S43) (hK : MK w0 w g l code goes place) (hB : Below w0.heap.size w0 w) (hk : ∀ y ∈ goes, y.1 ≠ (code.length : Int)) (hlen : code.length ≤ 990) :
    Calls Tryd.prog 52 #[.pointer (some ⟨g, 0, none⟩), .int .i64 k, .agg #[.int .i64 x.f0, .int .i64 x.f1, .int .i64 x.f2, .int .i64 x.f3, .int .i64 x.f4]] w fun e w' => e = .returned (.tuple #[]) ∧ MK w0 w' g l (code ++ [x]) (goes ++ [((code.length : Int), k)]) place ∧ Below w0.heap.size w0 w' := by
  obtain ⟨v, rg, rp, hM0⟩ := hK
  obtain ⟨A1, c1, rfl⟩ := Kd.R_slice hM0.row
  obtain ⟨W, hW⟩ : ∃ W, W = w.alloc (.cells #[.int .i64 x.f0, .int .i64 x.f1, .int .i64 x.f2, .int .i64 x.f3, .int .i64 x.f4] 43) := ⟨_, rfl⟩
  have hbW : Below w.heap.size w W := by rw [hW]; exact (Below.refl _ _).alloc (Nat.le_refl _) _
  have hM := hM0.below hbW
  have c20 := hM.cell 20 _ (by simp [mkCells]; rfl)
  have c21 := hM.cell 21 _ (by simp [mkCells]; rfl)
  have hM2 := hM.addGoes ((code.length : Int), k)
  have hb2 := mapSet_below (below_then hB hB.size hbW).drew rg (goes ++ [((code.length : Int), k)]) hM.hrg
  have hu := run_add (P := Tryd.prog) Tryd.underlying86 Tryd.underlying3 W.drew rg goes (code.length : Int) k (hM.gm) hk
  have hcell : ∀ j u, (#[Value.int .i64 x.f0, Value.int .i64 x.f1, Value.int .i64 x.f2, Value.int .i64 x.f3, Value.int .i64 x.f4] : Array Value)[j]? = some u → (mapSet W.drew rg (goes ++ [((code.length : Int), k)])).cell? ⟨w.heap.size, j, none⟩ = some u := by
    intro j u hj
    have hne : w.heap.size ≠ rg := by have := hM0.gm.lt; omega
    have h1 : (mapSet W.drew rg (goes ++ [((code.length : Int), k)])).heap[w.heap.size]? = some (.cells #[.int .i64 x.f0, .int .i64 x.f1, .int .i64 x.f2, .int .i64 x.f3, .int .i64 x.f4] 43) := by
      rw [mapSet_other _ _ _ _ hne]
      subst hW
      exact heap_alloc_new w _
    simp only [World.cell?, h1]
    exact hj
  obtain ⟨W2, hW2⟩ : ∃ W2, W2 = mapSet W.drew rg (goes ++ [((code.length : Int), k)]) := ⟨_, rfl⟩
  rw [← hW2] at hM2 hb2 hu hcell
  have k0 := hcell 0 _ rfl
  have k1 := hcell 1 _ rfl
  have k2 := hcell 2 _ rfl
  have k3 := hcell 3 _ rfl
  have k4 := hcell 4 _ rfl
  have HM := Aside0.mk hM2
  have HB := Aside0.mk hb2
  subst hW
  clear hM hB hk hM0 hbW hM2 hb2 hcell hW2
  go_enter Tryd.func52, Tryd.ntmps52
  go_wp2
  go_region
  go_wp2_with fail
  have hb : Below W2.heap.size W2 (W2.alloc (.cells #[.int .i64 x.f0, .int .i64 x.f1, .int .i64 x.f2, .int .i64 x.f3, .int .i64 x.f4] 43)) := (Below.refl _ _).alloc (Nat.le_refl _) _
  refine (put_calls w0 _ g l code [x] _ place _ 1 ⟨_, _, _, HM.out.below hb⟩ (below_then HB.out HB.out.size hb) (lit_C W2 [x] _ rfl (by show 1 ≤ _; decide)) (by show code.length + 1 ≤ 1000; omega)).mono ?_
  rintro e w2 ⟨rfl, hK, hB⟩
  have HK := Aside0.mk hK
  have HB2 := Aside0.mk hB
  clear hb hK hB
  go_wp2
  go_end0
  exact ⟨rfl, HK.out, HB2.out⟩
end Go.Proofs.YtaoajlaocphgdaaDoor.PA
