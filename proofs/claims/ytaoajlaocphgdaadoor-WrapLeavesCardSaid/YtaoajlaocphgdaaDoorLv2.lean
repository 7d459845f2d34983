/-
Texts of this proof, put together: part 2.
-/
import Derived.Test.YtaoajlaocphgdaaDoorLv1
import Derived.StillTailTactics
import Derived.RegionTactic
import Derived.BigRegion
import Derived.Outline
import Derived.IntWalk

section
namespace Go.Proofs.YtaoajlaocphgdaaDoor.PA
open Go.RowKit Go.Proofs.YtaoajlaocphgdaaDoorW.PrintWords Go.Proofs.YtaoajlaocphgdaaDoorW.PrintLast Go.Proofs.YtaoajlaocphgdaaDoorW.PrintMore
set_option linter.unusedVariables false
set_option linter.unusedSimpArgs false
structure LayV where
  a0 : Int
  a1 : Int
  a2 : Int
  a3 : Int
  a4 : Int
  a5 : Int
  a6 : Int
  a7 : Int
  a8 : Int
  a9 : Int
  a10 : Int
  a11 : Int
  a12 : Int
  a13 : Int
  a14 : Int
  a15 : Int
  a16 : Int
  a17 : Int
  a18 : Int
  a19 : Int
def mkCells (l : LayV) (v : Value) (rg rp : Nat) : Array Value := #[.int .u64 l.a0, .int .u64 l.a1, .int .i64 l.a2, .int .i64 l.a3, .int .u64 l.a4, .int .u64 l.a5, .int .i64 l.a6, .int .i64 l.a7, .int .u64 l.a8, .int .u64 l.a9, .int .i64 l.a10, .int .i64 l.a11, .int .u64 l.a12, .int .u64 l.a13, .int .i64 l.a14, .int .i64 l.a15, .int .u64 l.a16, .int .u64 l.a17, .int .i64 l.a18, .int .i64 l.a19, v, .map (some rg), .map (some rp)]
structure MKat (w0 w : World) (g : Nat) (l : LayV) (code : List S43) (goes place : List (Int × Int)) (v : Value) (rg rp : Nat) : Prop where
  blk : w.heap[g]? = some (.cells (mkCells l v rg rp) 88 (0, 0))
  row : k43.R 43 w w0.heap.size (fun _ => True) v code
  gm : MapIs w rg goes
  pm : MapIs w rp place
  hg : w0.heap.size ≤ g
  hrg : w0.heap.size ≤ rg
  hrp : w0.heap.size ≤ rp
  hne : rg ≠ rp
def MK (w0 w : World) (g : Nat) (l : LayV) (code : List S43) (goes place : List (Int × Int)) : Prop := ∃ v rg rp, MKat w0 w g l code goes place v rg rp
section
variable {w0 w : World} {g : Nat} {l : LayV} {code : List S43} {goes place : List (Int × Int)} {v : Value} {rg rp : Nat}
theorem MKat.cell (h : MKat w0 w g l code goes place v rg rp) (j : Nat) (u : Value) (hu : (mkCells l v rg rp)[j]? = some u) : w.cell? ⟨g, j, none⟩ = some u := by
  simp [World.cell?, h.blk, hu]
theorem MKat.free (h : MKat w0 w g l code goes place v rg rp) (j : Nat) : w.frozen? ⟨g, j, none⟩ = false := by
  simp [World.frozen?, h.blk]
theorem MKat.g_ne_rg (h : MKat w0 w g l code goes place v rg rp) : g ≠ rg := by
  rintro rfl
  have h1 := h.blk
  rw [show w.heap[g]? = _ from h.gm] at h1
  cases h1
theorem MKat.g_ne_rp (h : MKat w0 w g l code goes place v rg rp) : g ≠ rp := by
  rintro rfl
  have h1 := h.blk
  rw [show w.heap[g]? = _ from h.pm] at h1
  cases h1
theorem MKat.lt (h : MKat w0 w g l code goes place v rg rp) : g < w.heap.size := (Array.getElem?_eq_some_iff.1 h.blk).1
theorem MKat.v_ne (h : MKat w0 w g l code goes place v rg rp) : some g ≠ v.ownBlock := Kd.R_ne h.row h.blk (by decide)
theorem MKat.v_ne_map (h : MKat w0 w g l code goes place v rg rp) {r : Nat} {es : List (Int × Int)} (hm : MapIs w r es) : some r ≠ v.ownBlock := by
  intro e
  obtain ⟨inner, ho⟩ := Kd.R_own h.row
  obtain ⟨cells, hc⟩ := own_typed ho r e.symm
  rw [show w.heap[r]? = _ from hm] at hc
  cases hc
theorem MKat.below {w1 : World} (h : MKat w0 w g l code goes place v rg rp) (hb : Below w.heap.size w w1) : MKat w0 w1 g l code goes place v rg rp :=
  ⟨(hb.block _ h.lt).trans h.blk, Kd.R_below h.row hb, h.gm.move (hb.block _ h.gm.lt), h.pm.move (hb.block _ h.pm.lt), h.hg, h.hrg, h.hrp, h.hne⟩
theorem MKat.store {w1 : World} {v1 : Value} {code1 : List S43} (h : MKat w0 w g l code goes place v rg rp) (hg : w.grownBy w1 v.ownBlock) (hr : k43.R 43 w1 w0.heap.size (fun _ => True) v1 code1) :
    MKat w0 (w1.setCell ⟨g, 20, none⟩ v1) g l code1 goes place v1 rg rp := by
  have hb1 : w1.heap[g]? = some (.cells (mkCells l v rg rp) 88 (0, 0)) := (hg.block g h.lt h.v_ne).trans h.blk
  refine ⟨?_, Kd.R_set hr hb1 (by decide) 20 v1, ?_, ?_, h.hg, h.hrg, h.hrp, h.hne⟩
  · show (w1.heap.modify g _)[g]? = _
    rw [Array.getElem?_modify, if_pos rfl, hb1]
    rfl
  · exact (h.gm.move (hg.block rg h.gm.lt (h.v_ne_map h.gm))).move (Below.heap_setCell _ _ _ _ (by exact h.g_ne_rg.symm))
  · exact (h.pm.move (hg.block rp h.pm.lt (h.v_ne_map h.pm))).move (Below.heap_setCell _ _ _ _ (by exact h.g_ne_rp.symm))
theorem MKat.addPlace (h : MKat w0 w g l code goes place v rg rp) (x : Int × Int) : MKat w0 (mapSet w.drew rp (place ++ [x])) g l code goes (place ++ [x]) v rg rp := by
  have hd : MKat w0 w.drew g l code goes place v rg rp := ⟨h.blk, Kd.R_move h.row (fun _ _ => rfl), h.gm, h.pm, h.hg, h.hrg, h.hrp, h.hne⟩
  have ho : ∀ k, k ≠ rp → (mapSet w.drew rp (place ++ [x])).heap[k]? = w.drew.heap[k]? := fun k hk => mapSet_other _ _ _ _ hk
  refine ⟨(ho g hd.g_ne_rp).trans hd.blk, ?_, hd.gm.move (ho rg hd.hne), mapSet_is _ _ _ hd.pm.lt, hd.hg, hd.hrg, hd.hrp, hd.hne⟩
  refine Kd.R_mono (ok := fun k => ∃ cells q, w.drew.heap[k]? = some (.cells cells q (0, 0))) (Kd.R_move (Kd.R_mono (Kd.R_bound hd.row) fun k hk => ?_) fun k hk => ?_) fun _ _ => trivial
  · obtain ⟨_, _, _, q, _, cells, hc⟩ := hk
    exact ⟨cells, q, hc⟩
  · obtain ⟨cells, q, hc⟩ := hk
    refine ho k ?_
    rintro rfl
    rw [show w.drew.heap[k]? = _ from hd.pm] at hc
    cases hc
theorem MKat.addGoes (h : MKat w0 w g l code goes place v rg rp) (x : Int × Int) : MKat w0 (mapSet w.drew rg (goes ++ [x])) g l code (goes ++ [x]) place v rg rp := by
  have hd : MKat w0 w.drew g l code goes place v rg rp := ⟨h.blk, Kd.R_move h.row (fun _ _ => rfl), h.gm, h.pm, h.hg, h.hrg, h.hrp, h.hne⟩
  have ho : ∀ k, k ≠ rg → (mapSet w.drew rg (goes ++ [x])).heap[k]? = w.drew.heap[k]? := fun k hk => mapSet_other _ _ _ _ hk
  refine ⟨(ho g hd.g_ne_rg).trans hd.blk, ?_, mapSet_is _ _ _ hd.gm.lt, hd.pm.move (ho rp hd.hne.symm), hd.hg, hd.hrg, hd.hrp, hd.hne⟩
  refine Kd.R_mono (ok := fun k => ∃ cells q, w.drew.heap[k]? = some (.cells cells q (0, 0))) (Kd.R_move (Kd.R_mono (Kd.R_bound hd.row) fun k hk => ?_) fun k hk => ?_) fun _ _ => trivial
  · obtain ⟨_, _, _, q, _, cells, hc⟩ := hk
    exact ⟨cells, q, hc⟩
  · obtain ⟨cells, q, hc⟩ := hk
    refine ho k ?_
    rintro rfl
    rw [show w.drew.heap[k]? = _ from hd.gm] at hc
    cases hc
end
set_option maxHeartbeats 2000000 in
theorem put_strong (w0 w : World) (g : Nat) (l : LayV) (code xs : List S43) (goes place : List (Int × Int)) (A : Option Addr) (c : Nat) (v : Value) (rg rp : Nat) (hM : MKat w0 w g l code goes place v rg rp) (hB : Below w0.heap.size w0 w)
    (hX : Kd.C k43 w A xs.length xs) (hlen : code.length + xs.length ≤ 1000) :
    Calls Tryd.prog 49 #[.pointer (some ⟨g, 0, none⟩), .slice A xs.length c] w fun e w' => e = .returned (.tuple #[]) ∧ (∃ v1, MKat w0 w' g l (code ++ xs) goes place v1 rg rp ∧
      (v1.ownBlock = v.ownBlock ∨ ∃ b, v1.ownBlock = some b ∧ w.heap.size ≤ b)) ∧ (∀ k, k < w.heap.size → k ≠ g → some k ≠ v.ownBlock → w'.heap[k]? = w.heap[k]?) ∧ w.heap.size ≤ w'.heap.size ∧ Below w0.heap.size w0 w' := by
  have c20 := hM.cell 20 v (by simp [mkCells])
  have HM := Aside0.mk hM
  have HB := Aside0.mk hB
  have HX := Aside0.mk hX
  clear hM hB hX
  go_enter Tryd.func49, Tryd.ntmps49
  go_wp2_with (at_builtin; refine Kd.R_append_rows k43 (w0 := w0) w0.heap.size rfl (.tmp 8) (.tmp 9) 56 43 (.agg #[(.int .i64 0), (.int .i64 0), (.int .i64 0), (.int .i64 0), (.int .i64 0)]) 40 rfl Tryd.underlying56 info43 rfl (by decide) (by omega) v code xs _ _ _ (fun _ => True) (fun _ => False) rfl rfl HM.out.row HX.out (fun _ _ h => h) (fun _ h => h.elim) (fun _ _ => trivial) HB.out HB.out.size (by omega) ?_)
  intro v1 w1 hr hb hg hat
  have hM1 := MKat.store HM.out hg hr
  have c20' : w1.cell? ⟨g, 20, none⟩ = some v := by
    have hb1 := (hg.block g HM.out.lt HM.out.v_ne).trans HM.out.blk
    simp [World.cell?, hb1, mkCells]
  have f20 : w1.frozen? ⟨g, 20, none⟩ = false := by
    have hb1 := (hg.block g HM.out.lt HM.out.v_ne).trans HM.out.blk
    simp [World.frozen?, hb1]
  have hsl := Kd.R_slice hr
  have HK : Aside0 (∀ k, k < w.heap.size → k ≠ g → some k ≠ v.ownBlock → (w1.setCell ⟨g, 20, none⟩ v1).heap[k]? = w.heap[k]?) := ⟨fun k h1 h2 h3 => (Below.heap_setCell _ _ _ _ (by exact h2)).trans (hg.block k h1 h3)⟩
  have HZ : Aside0 (w.heap.size ≤ (w1.setCell ⟨g, 20, none⟩ v1).heap.size) := ⟨by have := hg.size; simpa [World.setCell] using this⟩
  have HA := Aside0.mk hat
  have HM1 := Aside0.mk hM1
  have HB1 := Aside0.mk (below_set hb (j := 20) (v := v1) HM.out.hg)
  clear hM1 hg hr hb hat c20
  obtain ⟨A1, c1, rfl⟩ := hsl
  rw [List.length_append] at HM1 HB1 HK HA HZ
  go_wp2
  go_end0
  exact ⟨rfl, ⟨_, HM1.out, HA.out⟩, HK.out, HZ.out, HB1.out⟩
theorem put_calls (w0 w : World) (g : Nat) (l : LayV) (code xs : List S43) (goes place : List (Int × Int)) (A : Option Addr) (c : Nat) (hK : MK w0 w g l code goes place) (hB : Below w0.heap.size w0 w)
    (hX : Kd.C k43 w A xs.length xs) (hlen : code.length + xs.length ≤ 1000) :
    Calls Tryd.prog 49 #[.pointer (some ⟨g, 0, none⟩), .slice A xs.length c] w fun e w' => e = .returned (.tuple #[]) ∧ MK w0 w' g l (code ++ xs) goes place ∧ Below w0.heap.size w0 w' := by
  obtain ⟨v, rg, rp, hM⟩ := hK
  refine (put_strong w0 w g l code xs goes place A c v rg rp hM hB hX hlen).mono ?_
  rintro e w' ⟨rfl, ⟨v1, hM1, _⟩, _, _, hB1⟩
  exact ⟨rfl, ⟨v1, rg, rp, hM1⟩, hB1⟩
def insCells (x : S43) : List Value := [.int .i64 x.f0, .int .i64 x.f1, .int .i64 x.f2, .int .i64 x.f3, .int .i64 x.f4]
theorem flat_at (xs : List S43) (j i : Nat) (p : S43) (u : Value) (hp : xs[j]? = some p) (hu : (insCells p)[i]? = some u) : (xs.flatMap insCells)[j * 5 + i]? = some u := by
  induction xs generalizing j with
  | nil => cases hp
  | cons x r ih =>
    have hi : i < 5 := by
      rcases Nat.lt_or_ge i 5 with h | h
      · exact h
      · rw [List.getElem?_eq_none (by simpa [insCells] using h)] at hu
        cases hu
    rw [List.flatMap_cons]
    cases j with
    | zero =>
      obtain rfl := Option.some.inj hp
      rw [List.getElem?_append_left (by simp [insCells]; omega), Nat.zero_mul, Nat.zero_add]
      exact hu
    | succ j =>
      have hl : (insCells x).length = 5 := rfl
      rw [List.getElem?_append_right (by rw [hl]; omega), hl, show (j + 1) * 5 + i - 5 = j * 5 + i from by omega]
      exact ih j hp
theorem lit_C (W : World) (xs : List S43) (cs : Array Value) (h : cs.toList = xs.flatMap insCells) (hl : xs.length ≤ 9223372036854775807) :
    Kd.C k43 (W.alloc (.cells cs 43)) (some ⟨W.heap.size, 0, none⟩) xs.length xs := by
  refine ⟨rfl, hl, fun _ => ⟨_, rfl, fun j p hp => ⟨insCells p, rfl, k43_mk _ p, fun i u hu => ?_⟩⟩⟩
  rw [add_plain]
  have := flat_at xs j i p u hp hu
  rw [← h] at this
  have hsz : k43.sz = 5 := rfl
  simp only [World.cell?, heap_alloc_new]
  simpa [hsz] using this
def numIns (d v s : Int) : List S43 := [⟨38, d, 0, 0, (v + 2048) / 4096 * 4096⟩, ⟨16, d, d, 0, s⟩]
set_option maxHeartbeats 2000000 in
theorem number_calls (w0 w : World) (g : Nat) (l : LayV) (code : List S43) (goes place : List (Int × Int)) (d v s : Int) (hK : MK w0 w g l code goes place) (hB : Below w0.heap.size w0 w)
    (h0 : 0 ≤ v) (h1 : v ≤ 4294967296) (hs : bits_Sign.f v 12 = some s) (hlen : code.length ≤ 990) :
    Calls Tryd.prog 48 #[.pointer (some ⟨g, 0, none⟩), .int .i64 d, .int .u64 v] w fun e w' => e = .returned (.tuple #[]) ∧ MK w0 w' g l (code ++ numIns d v s) goes place ∧ Below w0.heap.size w0 w' := by
  have HS := Aside0.mk hs
  obtain ⟨v', rg, rp, hM⟩ := hK
  have HM := Aside0.mk hM
  have HB := Aside0.mk hB
  clear hs hM hB
  go_enter Tryd.func48, Tryd.ntmps48
  go_wp2_with (go_at_call 76; refine (bits_Sign.calls v 12 s _ HS.out).mono ?_; rintro e w1 ⟨rfl, ⟨nd, rfl⟩⟩)
  have hb : Below w.heap.size w ((w.drewN nd).alloc (.cells #[.int .i64 38, .int .i64 d, .int .i64 0, .int .i64 0, .int .i64 ((v + 2048) / 4096 * 4096), .int .i64 16, .int .i64 d, .int .i64 d, .int .i64 0, .int .i64 s] 43)) := (pw_below_drewN (Below.refl _ _) nd).alloc (by simp) _
  refine (put_calls w0 _ g l code (numIns d v s) goes place _ 2 ⟨_, _, _, HM.out.below hb⟩ (below_then HB.out HB.out.size hb) (lit_C (w.drewN nd) _ _ rfl (by show 2 ≤ _; decide)) (by show code.length + 2 ≤ 1000; omega)).mono ?_
  rintro e w2 ⟨rfl, hK, hB⟩
  have HK := Aside0.mk hK
  have HB2 := Aside0.mk hB
  clear hb hK hB
  go_wp2
  go_end0
  exact ⟨rfl, HK.out, HB2.out⟩
set_option maxHeartbeats 2000000 in
theorem here_calls (w0 w : World) (g : Nat) (l : LayV) (code : List S43) (goes place : List (Int × Int)) (k : Int) (hK : MK w0 w g l code goes place) (hB : Below w0.heap.size w0 w) (hk : ∀ x ∈ place, x.1 ≠ k) :
    Calls Tryd.prog 50 #[.pointer (some ⟨g, 0, none⟩), .int .i64 k] w fun e w' => e = .returned (.tuple #[]) ∧ MK w0 w' g l code goes (place ++ [(k, (code.length : Int))]) ∧ Below w0.heap.size w0 w' := by
  obtain ⟨v, rg, rp, hM⟩ := hK
  obtain ⟨A1, c1, rfl⟩ := Kd.R_slice hM.row
  have c20 := hM.cell 20 _ (by simp [mkCells]; rfl)
  have c22 := hM.cell 22 _ (by simp [mkCells]; rfl)
  have hu := run_add (P := Tryd.prog) Tryd.underlying86 Tryd.underlying3 w.drew rp place k (code.length : Int) (hM.pm) hk
  have HM := Aside0.mk hM
  have HB := Aside0.mk hB
  clear hM hB hk
  go_enter Tryd.func50, Tryd.ntmps50
  go_wp2
  go_region
  go_end0
  exact ⟨rfl, ⟨_, _, _, HM.out.addPlace _⟩, mapSet_below HB.out.drew _ _ HM.out.hrp⟩
set_option maxHeartbeats 2000000 in
set_option maxRecDepth 100000 in
theorem to_calls (w0 w : World) (g : Nat) (l : LayV) (code : List S43) (goes place : List (Int × Int)) (k : Int) (x : S43) (hK : MK w0 w g l code goes place) (hB : Below w0.heap.size w0 w) (hk : ∀ y ∈ goes, y.1 ≠ (code.length : Int)) (hlen : code.length ≤ 990) :
    Calls Tryd.prog 52 #[.pointer (some ⟨g, 0, none⟩), .int .i64 k, .agg #[.int .i64 x.f0, .int .i64 x.f1, .int .i64 x.f2, .int .i64 x.f3, .int .i64 x.f4]] w fun e w' => e = .returned (.tuple #[]) ∧ MK w0 w' g l (code ++ [x]) (goes ++ [((code.length : Int), k)]) place ∧ Below w0.heap.size w0 w' := by
  obtain ⟨v, rg, rp, hM0⟩ := hK
  obtain ⟨A1, c1, rfl⟩ := Kd.R_slice hM0.row
  obtain ⟨W, hW⟩ : ∃ W, W = w.alloc (.cells #[.int .i64 x.f0, .int .i64 x.f1, .int .i64 x.f2, .int .i64 x.f3, .int .i64 x.f4] 43) := ⟨_, rfl⟩
  have hbW : Below w.heap.size w W := by rw [hW]; exact (Below.refl _ _).alloc (Nat.le_refl _) _
  have hM := hM0.below hbW
  have c20 := hM.cell 20 _ (by simp [mkCells]; rfl)
  have c21 := hM.cell 21 _ (by simp [mkCells]; rfl)
  have hM2 := hM.addGoes ((code.length : Int), k)
  have hb2 := mapSet_below (below_then hB hB.size hbW).drew rg (goes ++ [((code.length : Int), k)]) hM.hrg
  have hu := run_add (P := Tryd.prog) Tryd.underlying86 Tryd.underlying3 W.drew rg goes (code.length : Int) k (hM.gm) hk
  have hcell : ∀ j u, (#[Value.int .i64 x.f0, Value.int .i64 x.f1, Value.int .i64 x.f2, Value.int .i64 x.f3, Value.int .i64 x.f4] : Array Value)[j]? = some u → (mapSet W.drew rg (goes ++ [((code.length : Int), k)])).cell? ⟨w.heap.size, j, none⟩ = some u := by
    intro j u hj
    have hne : w.heap.size ≠ rg := by have := hM0.gm.lt; omega
    have h1 : (mapSet W.drew rg (goes ++ [((code.length : Int), k)])).heap[w.heap.size]? = some (.cells #[.int .i64 x.f0, .int .i64 x.f1, .int .i64 x.f2, .int .i64 x.f3, .int .i64 x.f4] 43) := by
      rw [mapSet_other _ _ _ _ hne]
      subst hW
      exact heap_alloc_new w _
    simp only [World.cell?, h1]
    exact hj
  obtain ⟨W2, hW2⟩ : ∃ W2, W2 = mapSet W.drew rg (goes ++ [((code.length : Int), k)]) := ⟨_, rfl⟩
  rw [← hW2] at hM2 hb2 hu hcell
  have k0 := hcell 0 _ rfl
  have k1 := hcell 1 _ rfl
  have k2 := hcell 2 _ rfl
  have k3 := hcell 3 _ rfl
  have k4 := hcell 4 _ rfl
  have HM := Aside0.mk hM2
  have HB := Aside0.mk hb2
  subst hW
  clear hM hB hk hM0 hbW hM2 hb2 hcell hW2
  go_enter Tryd.func52, Tryd.ntmps52
  go_wp2
  go_region
  go_wp2_with fail
  have hb : Below W2.heap.size W2 (W2.alloc (.cells #[.int .i64 x.f0, .int .i64 x.f1, .int .i64 x.f2, .int .i64 x.f3, .int .i64 x.f4] 43)) := (Below.refl _ _).alloc (Nat.le_refl _) _
  refine (put_calls w0 _ g l code [x] _ place _ 1 ⟨_, _, _, HM.out.below hb⟩ (below_then HB.out HB.out.size hb) (lit_C W2 [x] _ rfl (by show 1 ≤ _; decide)) (by show code.length + 1 ≤ 1000; omega)).mono ?_
  rintro e w2 ⟨rfl, hK, hB⟩
  have HK := Aside0.mk hK
  have HB2 := Aside0.mk hB
  clear hb hK hB
  go_wp2
  go_end0
  exact ⟨rfl, HK.out, HB2.out⟩
end Go.Proofs.YtaoajlaocphgdaaDoor.PA
end
section
namespace Go.Proofs.YtaoajlaocphgdaaDoor.PA
open Go.RowKit Go.Proofs.YtaoajlaocphgdaaDoorW.PrintWords Go.Proofs.YtaoajlaocphgdaaDoorW.PrintLast Go.Proofs.YtaoajlaocphgdaaDoorW.PrintMore
set_option linter.unusedVariables false
set_option linter.unusedSimpArgs false
abbrev InsP := S43 × Int
def goesOf : List InsP → Int → List (Int × Int)
  | [], _ => []
  | x :: r, i => if x.2 = 0 then goesOf r (i + 1) else (i, x.2) :: goesOf r (i + 1)
theorem goesOf_append (a b : List InsP) (i : Int) : goesOf (a ++ b) i = goesOf a i ++ goesOf b (i + a.length) := by
  induction a generalizing i with
  | nil => simp [goesOf]
  | cons x r ih =>
    simp only [List.cons_append, goesOf, ih, List.length_cons, Int.natCast_add, Int.natCast_one]
    rw [show i + 1 + (r.length : Int) = i + ((r.length : Int) + 1) from by omega]
    split <;> simp
theorem goesOf_none (a : List InsP) (h : ∀ x ∈ a, x.2 = 0) (i : Int) : goesOf a i = [] := by
  induction a generalizing i with
  | nil => rfl
  | cons x r ih => simp only [goesOf, h x List.mem_cons_self, if_true]; exact ih (fun y hy => h y (List.mem_cons_of_mem _ hy)) _
theorem goesOf_lt (a : List InsP) (i : Int) : ∀ y ∈ goesOf a i, i ≤ y.1 ∧ y.1 < i + a.length := by
  induction a generalizing i with
  | nil => intro y hy; cases hy
  | cons x r ih =>
    intro y hy
    simp only [goesOf] at hy
    rw [List.length_cons]
    split at hy
    · have := ih _ y hy; omega
    · rcases List.mem_cons.1 hy with rfl | hy
      · simp only; omega
      · have := ih _ y hy; omega
def noneGo (xs : List S43) : List InsP := xs.map fun x => (x, 0)
def MS (w0 w : World) (g : Nat) (l : LayV) (st : List InsP) (place : List (Int × Int)) : Prop := MK w0 w g l (st.map (·.1)) (goesOf st 0) place
theorem MS.cellL {w0 w : World} {g : Nat} {l : LayV} {st : List InsP} {place : List (Int × Int)} (h : MS w0 w g l st place) (j : Nat) (u : Value) (hu : ∀ v rg rp, (mkCells l v rg rp)[j]? = some u) : w.cell? ⟨g, j, none⟩ = some u := by
  obtain ⟨v, rg, rp, hM⟩ := h
  exact hM.cell j u (hu _ _ _)
theorem MS.below {w0 w w1 : World} {g : Nat} {l : LayV} {st : List InsP} {place : List (Int × Int)} (h : MS w0 w g l st place) (hb : Below w.heap.size w w1) : MS w0 w1 g l st place := by
  obtain ⟨v, rg, rp, hM⟩ := h
  exact ⟨v, rg, rp, hM.below hb⟩
def sg (v : Int) : Int := shr .i64 (wrap64 (shl .u64 v 52)) 52
theorem sign_some (v : Int) : bits_Sign.f v 12 = some (sg v) := by
  unfold bits_Sign.f sg
  rw [if_neg (by decide), if_neg (by decide)]
  have : wrap64 (64 - 12) = 52 := by unfold wrap64; omega
  rw [this, if_pos (by decide)]
def num (d v : Int) : List InsP := noneGo (numIns d v (sg v))
section
variable {w0 w : World} {g : Nat} {l : LayV} {st : List InsP} {place : List (Int × Int)}
theorem put_ms (xs : List S43) (A : Option Addr) (c : Nat) (hK : MS w0 w g l st place) (hB : Below w0.heap.size w0 w) (hX : Kd.C k43 w A xs.length xs) (hlen : st.length + xs.length ≤ 1000) :
    Calls Tryd.prog 49 #[.pointer (some ⟨g, 0, none⟩), .slice A xs.length c] w fun e w' => e = .returned (.tuple #[]) ∧ MS w0 w' g l (st ++ noneGo xs) place ∧ Below w0.heap.size w0 w' := by
  refine (put_calls w0 w g l _ xs _ place A c hK hB hX (by rw [List.length_map]; exact hlen)).mono ?_
  rintro e w' ⟨rfl, hK, hB⟩
  refine ⟨rfl, ?_, hB⟩
  unfold MS
  rw [goesOf_append, goesOf_none (noneGo xs) (by simp [noneGo]), List.append_nil, List.map_append]
  have : (noneGo xs).map (·.1) = xs := by simp [noneGo, Function.comp_def]
  rw [this]
  exact hK
theorem put_lit (xs : List S43) (cs : Array Value) (n : Nat) (hn : xs.length = n) (hcs : cs.toList = xs.flatMap insCells) (hK : MS w0 w g l st place) (hB : Below w0.heap.size w0 w) (hlen : st.length + xs.length ≤ 1000) :
    Calls Tryd.prog 49 #[.pointer (some ⟨g, 0, none⟩), .slice (some ⟨w.heap.size, 0, none⟩) n n] (w.alloc (.cells cs 43)) fun e w' => e = .returned (.tuple #[]) ∧ MS w0 w' g l (st ++ noneGo xs) place ∧ Below w0.heap.size w0 w' := by
  subst hn
  have hb : Below w.heap.size w (w.alloc (.cells cs 43)) := (Below.refl _ _).alloc (Nat.le_refl _) _
  exact put_ms xs _ _ (hK.below hb) (below_then hB hB.size hb) (lit_C w xs cs hcs (by omega)) hlen
theorem to_ms (k : Int) (x : S43) (hk : k ≠ 0) (hK : MS w0 w g l st place) (hB : Below w0.heap.size w0 w) (hlen : st.length ≤ 990) :
    Calls Tryd.prog 52 #[.pointer (some ⟨g, 0, none⟩), .int .i64 k, .agg #[.int .i64 x.f0, .int .i64 x.f1, .int .i64 x.f2, .int .i64 x.f3, .int .i64 x.f4]] w fun e w' => e = .returned (.tuple #[]) ∧ MS w0 w' g l (st ++ [(x, k)]) place ∧ Below w0.heap.size w0 w' := by
  refine (to_calls w0 w g l _ _ place k x hK hB (fun y hy => ?_) (by rw [List.length_map]; exact hlen)).mono ?_
  · have := goesOf_lt st 0 y hy
    rw [List.length_map]
    omega
  · rintro e w' ⟨rfl, hK, hB⟩
    refine ⟨rfl, ?_, hB⟩
    unfold MS
    rw [goesOf_append, List.map_append]
    simp only [goesOf, hk, if_false]
    rw [List.length_map] at hK
    simpa using hK
theorem number_ms (d v : Int) (hK : MS w0 w g l st place) (hB : Below w0.heap.size w0 w) (h0 : 0 ≤ v) (h1 : v ≤ 4294967296) (hlen : st.length ≤ 990) :
    Calls Tryd.prog 48 #[.pointer (some ⟨g, 0, none⟩), .int .i64 d, .int .u64 v] w fun e w' => e = .returned (.tuple #[]) ∧ MS w0 w' g l (st ++ num d v) place ∧ Below w0.heap.size w0 w' := by
  refine (number_calls w0 w g l _ _ place d v (sg v) hK hB h0 h1 (sign_some v) (by rw [List.length_map]; exact hlen)).mono ?_
  rintro e w' ⟨rfl, hK, hB⟩
  refine ⟨rfl, ?_, hB⟩
  unfold MS num
  rw [goesOf_append, goesOf_none (noneGo _) (by simp [noneGo]), List.append_nil, List.map_append]
  have : (noneGo (numIns d v (sg v))).map (·.1) = numIns d v (sg v) := by simp [noneGo, Function.comp_def]
  rw [this]
  exact hK
end
def backP (l : LayV) : List InsP := num 5 l.a16 ++ ([(⟨36, 0, 1, 5, 0⟩, 3)] ++ (num 5 l.a17 ++ ([(⟨37, 0, 1, 5, 0⟩, 3)] ++ (noneGo [⟨21, 5, 1, 0, 3⟩] ++ [(⟨33, 0, 5, 0, 0⟩, 3)]))))
set_option maxHeartbeats 4000000 in
set_option maxRecDepth 100000 in
theorem back_calls (w0 w : World) (g : Nat) (l : LayV) (st : List InsP) (place : List (Int × Int)) (hK : MS w0 w g l st place) (hB : Below w0.heap.size w0 w)
    (h16 : 0 ≤ l.a16 ∧ l.a16 ≤ 4294967296) (h17 : 0 ≤ l.a17 ∧ l.a17 ≤ 4294967296) (hlen : st.length ≤ 900) :
    Calls Tryd.prog 46 #[.pointer (some ⟨g, 0, none⟩)] w fun e w' => e = .returned (.tuple #[]) ∧ MS w0 w' g l (st ++ backP l) place ∧ Below w0.heap.size w0 w' := by
  have c16 := hK.cellL 16 _ (fun _ _ _ => by simp [mkCells]; rfl)
  have HK := Aside0.mk hK
  have HB := Aside0.mk hB
  clear hK hB
  go_enter Tryd.func46, Tryd.ntmps46
  go_wp2_with fail
  refine (number_ms 5 l.a16 HK.out HB.out h16.1 h16.2 (by omega)).mono ?_
  rintro e w1 ⟨rfl, hK, hB⟩
  have HK := Aside0.mk hK
  have HB := Aside0.mk hB
  clear hK hB c16
  go_wp2_with fail
  refine (to_ms 3 ⟨36, 0, 1, 5, 0⟩ (by decide) HK.out HB.out (by simp [num, noneGo, numIns]; omega)).mono ?_
  rintro e w2 ⟨rfl, hK, hB⟩
  have c17 := hK.cellL 17 _ (fun _ _ _ => by simp [mkCells]; rfl)
  have HK := Aside0.mk hK
  have HB := Aside0.mk hB
  clear hK hB
  go_wp2_with fail
  refine (number_ms 5 l.a17 HK.out HB.out h17.1 h17.2 (by simp [num, noneGo, numIns]; omega)).mono ?_
  rintro e w3 ⟨rfl, hK, hB⟩
  have HK := Aside0.mk hK
  have HB := Aside0.mk hB
  clear hK hB c17
  go_wp2_with fail
  refine (to_ms 3 ⟨37, 0, 1, 5, 0⟩ (by decide) HK.out HB.out (by simp [num, noneGo, numIns]; omega)).mono ?_
  rintro e w4 ⟨rfl, hK, hB⟩
  have HK := Aside0.mk hK
  have HB := Aside0.mk hB
  clear hK hB
  go_wp2_with fail
  refine (put_lit [⟨21, 5, 1, 0, 3⟩] _ 1 rfl rfl HK.out HB.out (by simp [num, noneGo, numIns]; omega)).mono ?_
  rintro e w5 ⟨rfl, hK, hB⟩
  have HK := Aside0.mk hK
  have HB := Aside0.mk hB
  clear hK hB
  go_wp2_with fail
  refine (to_ms 3 ⟨33, 0, 5, 0, 0⟩ (by decide) HK.out HB.out (by simp [num, noneGo, numIns]; omega)).mono ?_
  rintro e w6 ⟨rfl, hK, hB⟩
  have HK := Aside0.mk hK
  have HB := Aside0.mk hB
  clear hK hB
  go_wp2_with fail
  go_end0
  refine ⟨rfl, ?_, HB.out⟩
  have := HK.out
  simpa only [backP, List.append_assoc] using this
def ptrP (l : LayV) (r n : Int) : List InsP :=
  if l.a13 - 8 * n < l.a12 then [(⟨40, 0, 0, 0, 0⟩, 1)] else
    noneGo [⟨21, 5, r, 0, 7⟩] ++ ([(⟨33, 0, 5, 0, 0⟩, 1)] ++ (num 5 l.a12 ++ ([(⟨36, 0, r, 5, 0⟩, 1)] ++ (num 5 (l.a13 - 8 * n) ++ [(⟨36, 0, 5, r, 0⟩, 1)]))))
theorem ptr_never (w0 w : World) (g : Nat) (l : LayV) (st : List InsP) (place : List (Int × Int)) (r n : Int) (hK : MS w0 w g l st place) (hB : Below w0.heap.size w0 w)
    (h12 : 0 ≤ l.a12 ∧ l.a12 ≤ 1073741824) (h13 : 0 ≤ l.a13 ∧ l.a13 ≤ 1073741824) (hn : 0 ≤ n ∧ n ≤ 64) (hr : 0 ≤ r ∧ r ≤ 31) (hlen : st.length ≤ 900) (hno : l.a13 - 8 * n < l.a12) :
    Calls Tryd.prog 47 #[.pointer (some ⟨g, 0, none⟩), .int .i64 r, .int .i64 n] w fun e w' => e = .returned (.tuple #[]) ∧ MS w0 w' g l (st ++ [(⟨40, 0, 0, 0, 0⟩, 1)]) place ∧ Below w0.heap.size w0 w' := by
  have c12 := hK.cellL 12 _ (fun _ _ _ => by simp [mkCells]; rfl)
  have c13 := hK.cellL 13 _ (fun _ _ _ => by simp [mkCells]; rfl)
  have HK := Aside0.mk hK
  have HB := Aside0.mk hB
  obtain ⟨n0, n1⟩ := hn
  obtain ⟨x0, x1⟩ := h12
  obtain ⟨y0, y1⟩ := h13
  clear hK hB
  by_cases hw : 0 ≤ l.a13 - 8 * n
  · have hd : decide (l.a13 - 8 * n < l.a12) = true := decide_eq_true hno
    go_enter Tryd.func47, Tryd.ntmps47
    go_wp2_with fail
    refine (to_ms 1 ⟨40, 0, 0, 0, 0⟩ (by decide) HK.out HB.out (by omega)).mono ?_
    rintro e w1 ⟨rfl, hK, hB⟩
    have HK := Aside0.mk hK
    have HB := Aside0.mk hB
    clear hK hB
    go_wp2_with fail
    refine bodyPost_ret (results_none rfl _ _ _) rfl ?_
    exact ⟨rfl, HK.out, HB.out⟩
  · have hd : decide (IntKind.u64.wrap (l.a13 - 8 * n) < l.a12) = false := decide_eq_false (by rw [IntKind.wrap_u64]; omega)
    have hd2 : decide (l.a13 < 8 * n) = true := decide_eq_true (by omega)
    go_enter Tryd.func47, Tryd.ntmps47
    go_wp2_with fail
    refine (to_ms 1 ⟨40, 0, 0, 0, 0⟩ (by decide) HK.out HB.out (by omega)).mono ?_
    rintro e w1 ⟨rfl, hK, hB⟩
    have HK := Aside0.mk hK
    have HB := Aside0.mk hB
    clear hK hB
    go_wp2_with fail
    refine bodyPost_ret (results_none rfl _ _ _) rfl ?_
    exact ⟨rfl, HK.out, HB.out⟩
set_option maxHeartbeats 4000000 in
set_option maxRecDepth 100000 in
theorem ptr_yes (w0 w : World) (g : Nat) (l : LayV) (st : List InsP) (place : List (Int × Int)) (r n : Int) (hK : MS w0 w g l st place) (hB : Below w0.heap.size w0 w)
    (h12 : 0 ≤ l.a12 ∧ l.a12 ≤ 1073741824) (h13 : 0 ≤ l.a13 ∧ l.a13 ≤ 1073741824) (hn : 0 ≤ n ∧ n ≤ 64) (hr : 0 ≤ r ∧ r ≤ 31) (hlen : st.length ≤ 900) (hyes : ¬ l.a13 - 8 * n < l.a12) :
    Calls Tryd.prog 47 #[.pointer (some ⟨g, 0, none⟩), .int .i64 r, .int .i64 n] w fun e w' => e = .returned (.tuple #[]) ∧ MS w0 w' g l (st ++ (noneGo [⟨21, 5, r, 0, 7⟩] ++ ([(⟨33, 0, 5, 0, 0⟩, 1)] ++ (num 5 l.a12 ++ ([(⟨36, 0, r, 5, 0⟩, 1)] ++ (num 5 (l.a13 - 8 * n) ++ [(⟨36, 0, 5, r, 0⟩, 1)])))))) place ∧ Below w0.heap.size w0 w' := by
  have c12 := hK.cellL 12 _ (fun _ _ _ => by simp [mkCells]; rfl)
  have c13 := hK.cellL 13 _ (fun _ _ _ => by simp [mkCells]; rfl)
  have HK := Aside0.mk hK
  have HB := Aside0.mk hB
  obtain ⟨n0, n1⟩ := hn
  obtain ⟨x0, x1⟩ := h12
  obtain ⟨y0, y1⟩ := h13
  clear hK hB
  have hd : decide (l.a13 - 8 * n < l.a12) = false := decide_eq_false hyes
  have hd2 : decide (l.a13 < 8 * n) = false := decide_eq_false (by omega)
  go_enter Tryd.func47, Tryd.ntmps47
  go_wp2_with fail
  refine (put_lit [⟨21, 5, r, 0, 7⟩] _ 1 rfl rfl HK.out HB.out (by simp [num, noneGo, numIns]; omega)).mono ?_
  rintro e w1 ⟨rfl, hK, hB⟩
  have HK := Aside0.mk hK
  have HB := Aside0.mk hB
  clear hK hB
  go_wp2_with fail
  refine (to_ms 1 ⟨33, 0, 5, 0, 0⟩ (by decide) HK.out HB.out (by simp [num, noneGo, numIns]; omega)).mono ?_
  rintro e w1 ⟨rfl, hK, hB⟩
  have c12 := hK.cellL 12 _ (fun _ _ _ => by simp [mkCells]; rfl)
  have HK := Aside0.mk hK
  have HB := Aside0.mk hB
  clear hK hB
  go_wp2_with fail
  refine (number_ms 5 l.a12 HK.out HB.out x0 (by omega) (by simp [num, noneGo, numIns]; omega)).mono ?_
  rintro e w1 ⟨rfl, hK, hB⟩
  have HK := Aside0.mk hK
  have HB := Aside0.mk hB
  clear hK hB
  go_wp2_with fail
  refine (to_ms 1 ⟨36, 0, r, 5, 0⟩ (by decide) HK.out HB.out (by simp [num, noneGo, numIns]; omega)).mono ?_
  rintro e w1 ⟨rfl, hK, hB⟩
  have HK := Aside0.mk hK
  have HB := Aside0.mk hB
  clear hK hB
  go_wp2_with fail
  refine (number_ms 5 (l.a13 - 8 * n) HK.out HB.out (by omega) (by omega) (by simp [num, noneGo, numIns]; omega)).mono ?_
  rintro e w1 ⟨rfl, hK, hB⟩
  have HK := Aside0.mk hK
  have HB := Aside0.mk hB
  clear hK hB
  go_wp2_with fail
  refine (to_ms 1 ⟨36, 0, 5, r, 0⟩ (by decide) HK.out HB.out (by simp [num, noneGo, numIns]; omega)).mono ?_
  rintro e w1 ⟨rfl, hK, hB⟩
  have HK := Aside0.mk hK
  have HB := Aside0.mk hB
  clear hK hB
  go_wp2_with fail
  go_end0
  refine ⟨rfl, ?_, HB.out⟩
  have := HK.out
  simpa using this
theorem pointer_calls (w0 w : World) (g : Nat) (l : LayV) (st : List InsP) (place : List (Int × Int)) (r n : Int) (hK : MS w0 w g l st place) (hB : Below w0.heap.size w0 w)
    (h12 : 0 ≤ l.a12 ∧ l.a12 ≤ 1073741824) (h13 : 0 ≤ l.a13 ∧ l.a13 ≤ 1073741824) (hn : 0 ≤ n ∧ n ≤ 64) (hr : 0 ≤ r ∧ r ≤ 31) (hlen : st.length ≤ 900) :
    Calls Tryd.prog 47 #[.pointer (some ⟨g, 0, none⟩), .int .i64 r, .int .i64 n] w fun e w' => e = .returned (.tuple #[]) ∧ MS w0 w' g l (st ++ ptrP l r n) place ∧ Below w0.heap.size w0 w' := by
  unfold ptrP
  by_cases h : l.a13 - 8 * n < l.a12
  · rw [if_pos h]
    exact ptr_never w0 w g l st place r n hK hB h12 h13 hn hr hlen h
  · rw [if_neg h]
    exact ptr_yes w0 w g l st place r n hK hB h12 h13 hn hr hlen h
def cleanRegs : List Int := [5, 6, 7, 12, 13, 14, 15, 16, 17, 28, 29, 30, 31]
def cleanP : List InsP := noneGo (cleanRegs.map fun r => ⟨16, r, 0, 0, 0⟩)
theorem take_map_succ {α β : Type} (l : List α) (f : α → β) (k : Nat) (x : α) (h : l[k]? = some x) : (l.take (k + 1)).map f = (l.take k).map f ++ [f x] := by
  obtain ⟨hk, rfl⟩ := List.getElem?_eq_some_iff.1 h
  rw [List.take_succ_eq_append_getElem hk, List.map_append]
  rfl
def MSx (w0 w : World) (g : Nat) (l : LayV) (st : List InsP) (place : List (Int × Int)) (b : Nat) : Prop := ∃ v rg rp, MKat w0 w g l (st.map (·.1)) (goesOf st 0) place v rg rp ∧ some b ≠ v.ownBlock ∧ b ≠ g ∧ b < w.heap.size
theorem MSx.ms {w0 w : World} {g : Nat} {l : LayV} {st : List InsP} {place : List (Int × Int)} {b : Nat} (h : MSx w0 w g l st place b) : MS w0 w g l st place := by
  obtain ⟨v, rg, rp, hM, _⟩ := h
  exact ⟨v, rg, rp, hM⟩
theorem MS.msx {w0 w : World} {g : Nat} {l : LayV} {st : List InsP} {place : List (Int × Int)} (h : MS w0 w g l st place) (o : Obj) : MSx w0 (w.alloc o) g l st place w.heap.size := by
  obtain ⟨v, rg, rp, hM⟩ := h
  refine ⟨v, rg, rp, hM.below ((Below.refl _ _).alloc (Nat.le_refl _) _), fun e => ?_, ?_, by simp⟩
  · obtain ⟨inner, ho⟩ := Kd.R_own hM.row
    have := own_lt ho _ e.symm
    omega
  · have := hM.lt
    omega
theorem put_x {w0 w : World} {g : Nat} {l : LayV} {st : List InsP} {place : List (Int × Int)} {b : Nat} (xs : List S43) (cs : Array Value) (n : Nat) (hn : xs.length = n) (hcs : cs.toList = xs.flatMap insCells) (hK : MSx w0 w g l st place b) (hB : Below w0.heap.size w0 w) (hlen : st.length + xs.length ≤ 1000) :
    Calls Tryd.prog 49 #[.pointer (some ⟨g, 0, none⟩), .slice (some ⟨w.heap.size, 0, none⟩) n n] (w.alloc (.cells cs 43)) fun e w' => e = .returned (.tuple #[]) ∧ MSx w0 w' g l (st ++ noneGo xs) place b ∧ w'.heap[b]? = w.heap[b]? ∧ Below w0.heap.size w0 w' := by
  subst hn
  obtain ⟨v, rg, rp, hM, h1, h2, h3⟩ := hK
  have hb : Below w.heap.size w (w.alloc (.cells cs 43)) := (Below.refl _ _).alloc (Nat.le_refl _) _
  refine (put_strong w0 _ g l _ xs _ place _ _ v rg rp (hM.below hb) (below_then hB hB.size hb) (lit_C w xs cs hcs (by omega)) (by rw [List.length_map]; exact hlen)).mono ?_
  rintro e w' ⟨rfl, ⟨v1, hM1, ha⟩, hk, hz, hB1⟩
  have hzz : w.heap.size ≤ w'.heap.size := Nat.le_trans hb.size hz
  refine ⟨rfl, ⟨v1, rg, rp, ?_, ?_, h2, by omega⟩, (hk b (Nat.lt_of_lt_of_le h3 hb.size) h2 h1).trans (hb.block b h3), hB1⟩
  · rw [goesOf_append, goesOf_none (noneGo xs) (by simp [noneGo]), List.append_nil, List.map_append]
    have : (noneGo xs).map (·.1) = xs := by simp [noneGo, Function.comp_def]
    rw [this]
    exact hM1
  · rcases ha with ha | ⟨b', ha, hlt⟩
    · rw [ha]; exact h1
    · rw [ha]
      intro e
      obtain rfl := Option.some.inj e
      have := hb.size
      omega
def regCells : Array Value := #[.int .i64 5, .int .i64 6, .int .i64 7, .int .i64 12, .int .i64 13, .int .i64 14, .int .i64 15, .int .i64 16, .int .i64 17, .int .i64 28, .int .i64 29, .int .i64 30, .int .i64 31]
theorem reg_cell (k : Nat) (hk : k < 13) : regCells[k]? = some (.int .i64 (cleanRegs.getD k 0)) := by
  unfold regCells cleanRegs
  match k, hk with
  | 0, _ => rfl
  | 1, _ => rfl
  | 2, _ => rfl
  | 3, _ => rfl
  | 4, _ => rfl
  | 5, _ => rfl
  | 6, _ => rfl
  | 7, _ => rfl
  | 8, _ => rfl
  | 9, _ => rfl
  | 10, _ => rfl
  | 11, _ => rfl
  | 12, _ => rfl
theorem clean_succ (k : Nat) (hk : k < 13) : noneGo ((cleanRegs.take (k + 1)).map fun r => ⟨16, r, 0, 0, 0⟩) = noneGo ((cleanRegs.take k).map fun r => ⟨16, r, 0, 0, 0⟩) ++ noneGo [⟨16, cleanRegs.getD k 0, 0, 0, 0⟩] := by
  unfold noneGo
  rw [take_map_succ cleanRegs (fun r => (⟨16, r, 0, 0, 0⟩ : S43)) k (cleanRegs.getD k 0) (by
    have : k < cleanRegs.length := hk
    rw [List.getD_eq_getElem?_getD, List.getElem?_eq_getElem this]; rfl), List.map_append]
set_option maxHeartbeats 4000000 in
set_option maxRecDepth 100000 in
theorem clean_calls (w0 w : World) (g : Nat) (l : LayV) (st : List InsP) (place : List (Int × Int)) (hK : MS w0 w g l st place) (hB : Below w0.heap.size w0 w) (hlen : st.length ≤ 900) :
    Calls Tryd.prog 51 #[.pointer (some ⟨g, 0, none⟩)] w fun e w' => e = .returned (.tuple #[]) ∧ MS w0 w' g l (st ++ cleanP) place ∧ Below w0.heap.size w0 w' := by
  have HK := Aside0.mk (hK.msx (.cells regCells 3))
  have HB := Aside0.mk (below_then hB hB.size ((Below.refl _ _).alloc (Nat.le_refl _) (.cells regCells 3)))
  have hr : (w.alloc (.cells regCells 3)).heap[w.heap.size]? = some (.cells regCells 3) := heap_alloc_new w _
  have HR := Aside0.mk hr
  unfold regCells at HK HB
  clear hK hB hr
  go_enter Tryd.func51, Tryd.ntmps51
  go_wp2_with fail
  go_loopw [3, 6] (fun _ i wr => ∃ k : Nat, k ≤ 13 ∧ i = .int .i64 k ∧ Aside0 (MSx w0 wr g l (st ++ noneGo ((cleanRegs.take k).map fun r => ⟨16, r, 0, 0, 0⟩)) place w.heap.size) ∧ Aside0 (wr.heap[w.heap.size]? = some (.cells regCells 3)) ∧ Aside0 (Below w0.heap.size w0 wr)) (fun _ i _ => 13 - (intOf i).toNat)
  case atStart => exact ⟨0, by omega, rfl, ⟨by simpa [noneGo] using HK.out⟩, HR, HB⟩
  case round =>
    obtain ⟨k, hk, rfl, HK, HR, HB⟩ := hrel
    by_cases hlt : k < 13
    · have hc : wr.cell? ⟨w.heap.size, k, none⟩ = some (.int .i64 (cleanRegs.getD k 0)) := by
        simp only [World.cell?, HR.out]
        exact reg_cell k hlt
      obtain ⟨r, hr⟩ : ∃ r, cleanRegs.getD k 0 = r := ⟨_, rfl⟩
      have HE := Aside0.mk (clean_succ k hlt)
      rw [hr] at hc HE
      have hlt2 : (k : Int) < 13 := by omega
      clear hr
      go_wp2_with fail
      refine (put_x [⟨16, r, 0, 0, 0⟩] _ 1 rfl rfl HK.out HB.out (by simp [noneGo]; omega)).mono ?_
      rintro e w1 ⟨rfl, hK1, hh1, hB1⟩
      have HK1 := Aside0.mk hK1
      have HR1 := Aside0.mk (hh1.trans HR.out)
      have HB1 := Aside0.mk hB1
      clear hK1 hh1 hB1 hc
      go_wp2_with fail
      go_roundw
      case rel => exact ⟨k + 1, by omega, by go_num, ⟨by rw [HE.out, ← List.append_assoc]; exact HK1.out⟩, HR1, HB1⟩
      case measure => simp [intOf]; omega
    · obtain rfl : k = 13 := by omega
      go_wp2_with fail
      go_end0
      exact ⟨rfl, HK.out.ms, HB.out⟩
end Go.Proofs.YtaoajlaocphgdaaDoor.PA
end
section
namespace Go.Proofs.YtaoajlaocphgdaaDoor.PA
open Go.RowKit Go.Proofs.YtaoajlaocphgdaaDoorW.PrintWords
set_option linter.unusedVariables false
def patchI (P : Int → Int) (i : Int) (x : InsP) : S43 := if x.2 = 0 then x.1 else { x.1 with f4 := 4 * (P x.2 - i) }
def finalL (P : Int → Int) : List InsP → Int → List S43
  | [], _ => []
  | x :: r, i => patchI P i x :: finalL P r (i + 1)
theorem finalL_get (P : Int → Int) (st : List InsP) (i : Int) (n : Nat) : (finalL P st i)[n]? = (st[n]?).map fun x => patchI P (i + n) x := by
  induction st generalizing i n with
  | nil => rfl
  | cons x r ih =>
    cases n with
    | zero => simp [finalL]
    | succ n => simp only [finalL, List.getElem?_cons_succ, ih]; rw [show i + 1 + (n : Int) = i + ((n + 1 : Nat) : Int) from by omega]
theorem finalL_length (P : Int → Int) (st : List InsP) (i : Int) : (finalL P st i).length = st.length := by
  induction st generalizing i with
  | nil => rfl
  | cons x r ih => simp [finalL, ih]
theorem goesOf_mem {st : List InsP} {i : Int} {y : Int × Int} (h : y ∈ goesOf st i) : ∃ (n : Nat) (x : S43), y.1 = i + n ∧ st[n]? = some (x, y.2) ∧ y.2 ≠ 0 := by
  induction st generalizing i with
  | nil => cases h
  | cons x r ih =>
    simp only [goesOf] at h
    split at h
    · obtain ⟨n, z, h1, h2, h3⟩ := ih h
      exact ⟨n + 1, z, by omega, by simpa using h2, h3⟩
    · rename_i hx
      rcases List.mem_cons.1 h with rfl | h
      · exact ⟨0, x.1, by simp, by simp, hx⟩
      · obtain ⟨n, z, h1, h2, h3⟩ := ih h
        exact ⟨n + 1, z, by omega, by simpa using h2, h3⟩
theorem mem_goesOf {st : List InsP} {i : Int} {n : Nat} {x : InsP} (h : st[n]? = some x) (hx : x.2 ≠ 0) : (i + (n : Int), x.2) ∈ goesOf st i := by
  induction st generalizing i n with
  | nil => cases h
  | cons y r ih =>
    simp only [goesOf]
    cases n with
    | zero =>
      obtain rfl := Option.some.inj h
      rw [if_neg hx]
      simp
    | succ n =>
      have := ih (i := i + 1) (n := n) (by simpa using h)
      rw [show i + 1 + (n : Int) = i + ((n + 1 : Nat) : Int) from by omega] at this
      split
      · exact this
      · exact List.mem_cons_of_mem _ this
open Classical in
noncomputable def Patched (st : List InsP) (P : Int → Int) (seen : List Nat) (code : List S43) : Prop :=
  code.length = st.length ∧ ∀ (i : Nat) (x : InsP), st[i]? = some x → code[i]? = some (if ∃ j ∈ seen, (goesOf st 0)[j]? = some ((i : Int), x.2) then patchI P i x else x.1)
theorem Patched.start (st : List InsP) (P : Int → Int) : Patched st P [] (st.map (·.1)) := by
  refine ⟨List.length_map _, fun i x hx => ?_⟩
  rw [if_neg (by rintro ⟨j, hj, _⟩; cases hj), List.getElem?_map, hx]
  rfl
theorem Patched.at_ {st : List InsP} {P : Int → Int} {seen : List Nat} {code : List S43} (h : Patched st P seen code) {j : Nat} {y : Int × Int} (hy : (goesOf st 0)[j]? = some y) :
    0 ≤ y.1 ∧ y.1 < code.length ∧ y.2 ≠ 0 ∧ ∃ x, st[y.1.toNat]? = some (x, y.2) := by
  obtain ⟨n, x, h1, h2, h3⟩ := goesOf_mem (List.mem_of_getElem? hy)
  have hn : n < st.length := (List.getElem?_eq_some_iff.1 h2).1
  rw [h.1]
  exact ⟨by omega, by omega, h3, x, by rw [h1, Int.zero_add, Int.toNat_natCast]; exact h2⟩
theorem Patched.step {st : List InsP} {P : Int → Int} {seen : List Nat} {code : List S43} (h : Patched st P seen code) {j : Nat} {y : Int × Int} (hy : (goesOf st 0)[j]? = some y) (hj : j ∉ seen) (c : S43) (hc : code[y.1.toNat]? = some c) :
    Patched st P (seen ++ [j]) (code.set y.1.toNat { c with f4 := 4 * (P y.2 - y.1) }) := by
  obtain ⟨h0, h1, h2, x, hx⟩ := h.at_ hy
  refine ⟨by rw [List.length_set]; exact h.1, fun i z hz => ?_⟩
  rw [List.getElem?_set]
  by_cases hi : y.1.toNat = i
  · subst hi
    rw [hz] at hx
    obtain rfl := Option.some.inj hx
    have hyi : ((y.1.toNat : Nat) : Int) = y.1 := by omega
    rw [if_pos rfl, if_pos (by omega), if_pos ⟨j, by simp, by rw [hy, hyi]⟩]
    have hcx := h.2 _ _ hz
    rw [hc] at hcx
    have hcx := Option.some.inj hcx
    simp only [patchI, h2, if_false, hyi]
    split at hcx
    · rw [hcx]; simp only [patchI, h2, if_false]
    · rw [hcx]
  · rw [if_neg hi, h.2 i z hz]
    congr 1
    have he : (∃ j' ∈ seen ++ [j], (goesOf st 0)[j']? = some ((i : Int), z.2)) ↔ ∃ j' ∈ seen, (goesOf st 0)[j']? = some ((i : Int), z.2) := by
      constructor
      · rintro ⟨j', hj', he⟩
        rcases List.mem_append.1 hj' with hj' | hj'
        · exact ⟨j', hj', he⟩
        · obtain rfl := List.mem_singleton.1 hj'
          rw [hy] at he
          have := congrArg Prod.fst (Option.some.inj he)
          simp only at this
          omega
      · rintro ⟨j', hj', he⟩
        exact ⟨j', List.mem_append_left _ hj', he⟩
    simp only [he]
theorem Patched.done {st : List InsP} {P : Int → Int} {seen : List Nat} {code : List S43} (h : Patched st P seen code) (hall : ∀ j, j < (goesOf st 0).length → j ∈ seen) : code = finalL P st 0 := by
  apply List.ext_getElem?
  intro i
  rw [finalL_get]
  cases hx : st[i]? with
  | none =>
    have : st.length ≤ i := List.getElem?_eq_none_iff.1 hx
    rw [List.getElem?_eq_none (by rw [h.1]; exact this)]
    rfl
  | some x =>
    rw [h.2 i x hx]
    simp only [Option.map_some, Int.zero_add]
    by_cases h2 : x.2 = 0
    · simp only [patchI, h2, if_true]
      split <;> rfl
    · have hm := mem_goesOf (i := 0) hx h2
      obtain ⟨j, hj, hje⟩ := List.getElem_of_mem hm
      rw [if_pos ⟨j, hall j hj, by rw [List.getElem?_eq_getElem hj, hje, Int.zero_add]⟩]
end Go.Proofs.YtaoajlaocphgdaaDoor.PA
end
section
namespace Go.Proofs.YtaoajlaocphgdaaDoor.PA
open Go.RowKit Go.Proofs.YtaoajlaocphgdaaDoorW.PrintWords Go.Proofs.YtaoajlaocphgdaaDoorW.PrintLast Go.Proofs.YtaoajlaocphgdaaDoorW.PrintMore
set_option linter.unusedVariables false
set_option linter.unusedSimpArgs false
theorem MKat.setIns {w0 w : World} {g : Nat} {l : LayV} {code : List S43} {es place : List (Int × Int)} {v : Value} {rg rp : Nat} (h : MKat w0 w g l code es place v rg rp) (at_ : Nat) (c : S43) (hc : code[at_]? = some c) (n : Int) :
    ∃ gv cap cells, v = .slice (some ⟨gv, 0, none⟩) code.length cap ∧ w.cell? ⟨gv, at_ * 5 + 4, none⟩ = some (.int .i64 c.f4) ∧ w.frozen? ⟨gv, at_ * 5 + 4, none⟩ = false ∧ w.heap[gv]? = some (.cells cells 43 (0, 0)) ∧ w0.heap.size ≤ gv ∧
      MKat w0 (w.setCell ⟨gv, at_ * 5 + 4, none⟩ (.int .i64 n)) g l (code.set at_ { c with f4 := n }) es place v rg rp := by
  have hlt : at_ < code.length := (List.getElem?_eq_some_iff.1 hc).1
  obtain ⟨gv, cap, hv, hb, hl, cells, hcells⟩ := Kd.R_form h.row (by omega)
  subst hv
  obtain ⟨ad, cc, he, hcl, hK, hcc⟩ := Kd.C_get (Kd.R_reads' h.row).2.2 (⟨0, 0, 0, 0, 0⟩ : S43) (at_ : Int) (by omega) (by omega)
  obtain rfl := Option.some.inj he
  have hg : code.getD (at_ : Int).toNat ⟨0, 0, 0, 0, 0⟩ = c := by rw [Int.toNat_natCast, List.getD_eq_getElem?_getD, hc]; rfl
  rw [hg] at hK
  have hcc2 : ∀ j u, cc[j]? = some u → w.cell? ⟨gv, (at_ : Int).toNat * k43.sz + j, none⟩ = some u := fun j u hu => by
    have := hcc j u hu
    rwa [add_plain] at this
  have hcs := k43_open hK
  subst hcs
  have h4 := hcc2 4 _ rfl
  have hsz : k43.sz = 5 := rfl
  rw [Int.toNat_natCast, hsz] at h4
  have hrow := (Kd.R_seg (okp := fun _ => False) h.row (at_ : Int) (by omega) (by omega) (c := _) (seg := [.int .i64 n]) (j := 4) hcl hcc2 (by rw [hsz]; exact Nat.le_refl 5) (x' := { c with f4 := n }) (k43_mkM w w0.heap.size (fun _ => False) { c with f4 := n }) (fun _ hk => hk.elim)).1
  rw [Int.toNat_natCast, hsz] at hrow
  have hne : gv ≠ g := by
    rintro rfl
    exact h.v_ne rfl
  refine ⟨gv, cap, cells, rfl, h4, by simp [World.frozen?, hcells], hcells, hb, ⟨?_, hrow, ?_, ?_, h.hg, h.hrg, h.hrp, h.hne⟩⟩
  · exact (Below.heap_setCell _ _ _ _ (by exact hne.symm)).trans h.blk
  · exact h.gm.move (Below.heap_setCell _ _ _ _ (by intro e; exact h.v_ne_map h.gm (by rw [e]; rfl)))
  · exact h.pm.move (Below.heap_setCell _ _ _ _ (by intro e; exact h.v_ne_map h.pm (by rw [e]; rfl)))
theorem MKat.drewN {w0 w : World} {g : Nat} {l : LayV} {code : List S43} {es place : List (Int × Int)} {v : Value} {rg rp : Nat} (h : MKat w0 w g l code es place v rg rp) (m : Nat) : MKat w0 (w.drewN m) g l code es place v rg rp := h.below (pw_below_drewN (Below.refl _ _) m)
theorem MKat.iter {w0 w w1 : World} {g : Nat} {l : LayV} {code : List S43} {es place fs : List (Int × Int)} {v : Value} {rg rp b r : Nat} {seen seen' : List Nat} (h : MKat w0 w g l code es place v rg rp) (hi : IterIs w b r fs seen') (hs : IterStep w w1 b r fs seen) (h1 : b ≠ g) (h2 : b ≠ rg) (h3 : b ≠ rp) : MKat w0 w1 g l code es place v rg rp := by
  refine ⟨(hs.other g (Ne.symm h1)).trans h.blk, ?_, h.gm.move (hs.other rg (Ne.symm h2)), h.pm.move (hs.other rp (Ne.symm h3)), h.hg, h.hrg, h.hrp, h.hne⟩
  refine Kd.R_mono (ok := fun k => ∃ cells q, w.heap[k]? = some (.cells cells q (0, 0))) (Kd.R_move (Kd.R_mono (Kd.R_bound h.row) fun k hk => ?_) fun k hk => ?_) fun _ _ => trivial
  · obtain ⟨_, _, _, q, _, cells, hc⟩ := hk
    exact ⟨cells, q, hc⟩
  · obtain ⟨cells, q, hc⟩ := hk
    refine hs.other k ?_
    rintro rfl
    rw [show w.heap[k]? = _ from hi] at hc
    cases hc
def Fill (w0 w : World) (g : Nat) (l : LayV) (st : List InsP) (pl : List (Int × Int)) (P : Int → Int) (b rg rp k : Nat) : Prop :=
  ∃ (seen : List Nat) (code : List S43) (v : Value), MKat w0 w g l code (goesOf st 0) pl v rg rp ∧ IterIs w b rg (goesOf st 0) seen ∧ seen.Nodup ∧ (∀ n ∈ seen, n < (goesOf st 0).length) ∧ Patched st P seen code ∧ Below w0.heap.size w0 w ∧ (b ≠ g ∧ b ≠ rg ∧ b ≠ rp ∧ w0.heap.size ≤ b) ∧ k = (goesOf st 0).length - seen.length
theorem nodup_length {seen : List Nat} {n : Nat} (h : seen.Nodup) (hb : ∀ x ∈ seen, x < n) : seen.length ≤ n := by
  have := List.Nodup.length_le_of_subset h (l₂ := List.range n) (fun x hx => List.mem_range.2 (hb x hx))
  rwa [List.length_range] at this
theorem Fill.start {w0 w : World} {g : Nat} {l : LayV} {st : List InsP} {pl : List (Int × Int)} (P : Int → Int) {v : Value} {rg rp : Nat} (h : MKat w0 w g l (st.map (·.1)) (goesOf st 0) pl v rg rp) (hB : Below w0.heap.size w0 w) :
    Fill w0 (w.alloc (.mapIter (some rg) (goesOf st 0).length #[] (goesOf st 0).length)) g l st pl P w.heap.size rg rp (goesOf st 0).length := by
  have hb : Below w.heap.size w (w.alloc (.mapIter (some rg) (goesOf st 0).length #[] (goesOf st 0).length)) := (Below.refl _ _).alloc (Nat.le_refl _) _
  refine ⟨[], _, v, h.below hb, heap_alloc_new w _, List.nodup_nil, by simp, Patched.start st P, below_then hB hB.size hb, ⟨?_, ?_, ?_, hB.size⟩, by simp⟩
  · have := h.lt; omega
  · have := h.gm.lt; omega
  · have := h.pm.lt; omega
theorem Fill.round {w0 w : World} {g : Nat} {l : LayV} {st : List InsP} {pl : List (Int × Int)} {P : Int → Int} {b rg rp k : Nat} (h : Fill w0 w g l st pl P b rg rp k) (hpl : (pl.map (·.1)).Nodup) (hP : ∀ x ∈ st, x.2 ≠ 0 → (x.2, P x.2) ∈ pl) (hPb : ∀ x ∈ pl, 0 ≤ x.2 ∧ x.2 ≤ 1000) (hlen : st.length ≤ 1000) :
    (∃ v, (∀ ty, (Instr.next (.pointer (some ⟨b, 0, none⟩)) false ty).run Tryd.prog w = .ok (.tuple #[.bool false]) w) ∧ w.cell? ⟨g, 20, none⟩ = some v ∧ k43.R 43 w w0.heap.size (fun _ => True) v (finalL P st 0) ∧ Below w0.heap.size w0 w) ∨
    (∃ (i : Nat) (q : Int) (w1 : World) (gv n cap : Nat) (k' : Nat) (old : Int), (∀ ty, (Instr.next (.pointer (some ⟨b, 0, none⟩)) false ty).run Tryd.prog w = .ok (.tuple #[.bool true, .int .i64 i, .int .i64 q]) w1) ∧
      (Instr.entry (.pointer (some ⟨b, 0, none⟩))).run Tryd.prog w1 = .ok (.tuple #[.int .i64 i, .int .i64 q]) w1 ∧
      w1.cell? ⟨g, 20, none⟩ = some (.slice (some ⟨gv, 0, none⟩) n cap) ∧ w1.cell? ⟨g, 22, none⟩ = some (.map (some rp)) ∧ i < n ∧ n ≤ 1000 ∧ 0 ≤ P q ∧ P q ≤ 1000 ∧ k' < k ∧
      (∀ m, (Instr.lookup 86 (.map (some rp)) (.int .i64 q) false).run Tryd.prog (w1.drewN m) = .ok (.int .i64 (P q)) (w1.drewN m)) ∧
      w1.cell? ⟨gv, i * 5 + 4, none⟩ = some (.int .i64 old) ∧ w1.frozen? ⟨gv, i * 5 + 4, none⟩ = false ∧
      ∀ m, Fill w0 ((w1.drewN m).setCell ⟨gv, i * 5 + 4, none⟩ (.int .i64 (4 * (P q - i)))) g l st pl P b rg rp k') := by
  obtain ⟨seen, code, v, hM, hI, hnd, hsb, hpt, hB, ⟨b1, b2, b3, b4⟩, hk⟩ := h
  rcases run_nextI (P := Tryd.prog) w b rg (goesOf st 0) seen hM.gm hI hsb with ⟨hall, hnext⟩ | ⟨j, x, w1, hx, hns, hst, hnext⟩
  · left
    refine ⟨v, hnext, hM.cell 20 v (by simp [mkCells]), ?_, hB⟩
    rw [← hpt.done hall]
    exact hM.row
  · right
    obtain ⟨x0, x1, x2, y, hy⟩ := hpt.at_ hx
    have hM1 := hM.iter hI hst b1 b2 b3
    have hent := run_entryI (P := Tryd.prog) w1 b rg (goesOf st 0) seen j x hM1.gm hst.at_ hx
    have hc : code[x.1.toNat]? = some code[x.1.toNat] := List.getElem?_eq_getElem (by omega)
    have hxi : ((x.1.toNat : Nat) : Int) = x.1 := by omega
    have hpm : (x.2, P x.2) ∈ pl := hP _ (List.mem_of_getElem? hy) x2
    obtain ⟨gv, cap, cells, hv, hcell, hfz, hcells, hge, hM2⟩ := (hM1.drewN 0).setIns x.1.toNat _ hc (4 * (P x.2 - x.1))
    have hlc : code.length = st.length := hpt.1
    refine ⟨x.1.toNat, x.2, w1, gv, code.length, cap, (goesOf st 0).length - (seen ++ [j]).length, code[x.1.toNat].f4, by rw [hxi]; exact hnext, by rw [hxi]; exact hent, ?_, ?_, by omega, by omega, (hPb _ hpm).1, (hPb _ hpm).2, ?_, ?_, hcell, hfz, ?_⟩
    · rw [← hv]
      exact hM1.cell 20 v (by simp [mkCells])
    · exact hM1.cell 22 _ (by simp [mkCells])
    · have h1 : seen.length < (goesOf st 0).length := by
        have := nodup_length (seen := seen ++ [j]) (n := (goesOf st 0).length) (by rw [List.nodup_append]; exact ⟨hnd, by simp, by intro a ha c hc; obtain rfl := List.mem_singleton.1 hc; rintro rfl; exact hns ha⟩) (by
          intro a ha
          rcases List.mem_append.1 ha with ha | ha
          · exact hsb a ha
          · obtain rfl := List.mem_singleton.1 ha
            exact (List.getElem?_eq_some_iff.1 hx).1)
        rw [List.length_append] at this
        simp at this
        omega
      rw [List.length_append]
      simp
      omega
    · intro m
      exact run_find (P := Tryd.prog) Tryd.underlying86 Tryd.underlying3 (w1.drewN m) rp pl x.2 (P x.2) (hM1.drewN m).pm hpl hpm
    · intro m
      rw [hxi]
      obtain ⟨gv', cap', cells', hv', hcell', hfz', hcells', hge', hM2'⟩ := (hM1.drewN m).setIns x.1.toNat _ hc (4 * (P x.2 - x.1))
      rw [hv] at hv'
      injection hv' with e1 e2 e3
      injection e1 with e1
      injection e1 with e1
      subst e1
      have hbne : b ≠ gv := by
        rintro rfl
        have h1 : (w1.drewN m).heap[b]? = w1.heap[b]? := (pw_below_drewN (Below.refl _ _) m).block b (Array.getElem?_eq_some_iff.1 hst.at_).1
        rw [h1, show w1.heap[b]? = _ from hst.at_] at hcells'
        cases hcells'
      have hbd : Below w0.heap.size w0 ((w1.drewN m).setCell ⟨gv, x.1.toNat * 5 + 4, none⟩ (.int .i64 (4 * (P x.2 - x.1)))) := by
        refine (pw_below_drewN (hst.below hB b4) m).setCell ?_ _
        exact hge
      refine ⟨seen ++ [j], _, v, hM2', ?_, ?_, ?_, hpt.step hx hns _ hc, hbd, ⟨b1, b2, b3, b4⟩, rfl⟩
      · show (World.setCell _ _ _).heap[b]? = _
        rw [Below.heap_setCell _ _ _ _ (by exact hbne)]
        exact ((pw_below_drewN (Below.refl _ _) m).block b (Array.getElem?_eq_some_iff.1 hst.at_).1).trans hst.at_
      · rw [List.nodup_append]
        exact ⟨hnd, by simp, by intro a ha c hc; obtain rfl := List.mem_singleton.1 hc; rintro rfl; exact hns ha⟩
      · intro a ha
        rcases List.mem_append.1 ha with ha | ha
        · exact hsb a ha
        · obtain rfl := List.mem_singleton.1 ha
          exact (List.getElem?_eq_some_iff.1 hx).1
end Go.Proofs.YtaoajlaocphgdaaDoor.PA
end
section
namespace Go.Proofs.YtaoajlaocphgdaaDoor.PA
open Go.RowKit Go.Proofs.YtaoajlaocphgdaaDoorW.PrintWords Go.Proofs.YtaoajlaocphgdaaDoorW.PrintLast Go.Proofs.YtaoajlaocphgdaaDoorW.PrintMore
set_option linter.unusedVariables false
set_option linter.unusedSimpArgs false
theorem here_ms {w0 w : World} {g : Nat} {l : LayV} {st : List InsP} {place : List (Int × Int)} (k n : Int) (hn : (st.length : Int) = n) (hK : MS w0 w g l st place) (hB : Below w0.heap.size w0 w) (hk : ∀ x ∈ place, x.1 ≠ k) :
    Calls Tryd.prog 50 #[.pointer (some ⟨g, 0, none⟩), .int .i64 k] w fun e w' => e = .returned (.tuple #[]) ∧ MS w0 w' g l st (place ++ [(k, n)]) ∧ Below w0.heap.size w0 w' := by
  subst hn
  refine (here_calls w0 w g l _ _ place k hK hB hk).mono ?_
  rintro e w' ⟨rfl, hK, hB⟩
  rw [List.length_map] at hK
  exact ⟨rfl, hK, hB⟩
theorem MS.len {w0 w : World} {g : Nat} {l : LayV} {st : List InsP} {place : List (Int × Int)} (h : MS w0 w g l st place) : ∃ A c, w.cell? ⟨g, 20, none⟩ = some (.slice A st.length c) := by
  obtain ⟨v, rg, rp, hM⟩ := h
  obtain ⟨A, c, hv⟩ := Kd.R_slice hM.row
  refine ⟨A, c, ?_⟩
  rw [hM.cell 20 v (by simp [mkCells]), hv, List.length_map]
def paramsP (l : LayV) : List Int → Int → List InsP
  | [], _ => []
  | n :: r, i => (if n > 0 then ptrP l (10 + i) n else []) ++ paramsP l r (i + 1)
theorem paramsP_snoc (l : LayV) (a : List Int) (n i : Int) : paramsP l (a ++ [n]) i = paramsP l a i ++ (if n > 0 then ptrP l (10 + (i + a.length)) n else []) := by
  induction a generalizing i with
  | nil => simp [paramsP]
  | cons x r ih =>
    simp only [List.cons_append, paramsP, ih, List.length_cons, Int.natCast_add, Int.natCast_one, List.append_assoc]
    rw [show i + 1 + (r.length : Int) = i + ((r.length : Int) + 1) from by omega]
theorem ptrP_length (l : LayV) (r n : Int) : (ptrP l r n).length ≤ 8 := by
  unfold ptrP
  split <;> simp [num, noneGo, numIns]
theorem paramsP_length (l : LayV) (a : List Int) (i : Int) : (paramsP l a i).length ≤ 8 * a.length := by
  induction a generalizing i with
  | nil => simp [paramsP]
  | cons x r ih =>
    have := ih (i + 1)
    have h8 := ptrP_length l (10 + i) x
    simp only [paramsP, List.length_append, List.length_cons]
    split <;> simp <;> omega
def checksP (l : LayV) (ps : List Int) : List InsP := backP l ++ paramsP l ps 0
def preP (l : LayV) (ps : List Int) : List InsP := checksP l ps ++ num 5 (l.a5 - 16) ++ noneGo [⟨31, 0, 5, 1, 0⟩, ⟨31, 0, 5, 2, 8⟩] ++ num 2 l.a9
def midP (l : LayV) (ps : List Int) : List InsP := preP l ps ++ noneGo [⟨40, 1, 0, 0, 0⟩] ++ num 5 (l.a5 - 16) ++ noneGo [⟨28, 1, 5, 0, 0⟩, ⟨28, 2, 5, 0, 8⟩, ⟨16, 11, 0, 0, 0⟩]
def leftP (l : LayV) (ps : List Int) : List InsP := midP l ps ++ cleanP ++ noneGo [⟨41, 0, 1, 0, 0⟩]
def noP (l : LayV) (ps : List Int) : List InsP := leftP l ps ++ noneGo [⟨16, 10, 0, 0, 0⟩, ⟨16, 11, 0, 0, 1⟩] ++ [(⟨40, 0, 0, 0, 0⟩, 2)]
def allP (l : LayV) (ps : List Int) : List InsP := noP l ps ++ noneGo [⟨42, 0, 0, 0, 0⟩]
def places (l : LayV) (ps : List Int) : List (Int × Int) := [(2, ((midP l ps).length : Int)), (1, ((leftP l ps).length : Int)), (3, ((noP l ps).length : Int))]
theorem checks_length (l : LayV) (ps : List Int) (h : ps.length ≤ 6) : (checksP l ps).length ≤ 56 := by
  have := paramsP_length l ps 0
  have hb : (backP l).length = 8 := by simp [backP, num, noneGo, numIns]
  simp only [checksP, List.length_append]
  omega
theorem num_length (d v : Int) : (num d v).length = 2 := by simp [num, noneGo, numIns]
theorem clean_length : cleanP.length = 13 := by simp [cleanP, noneGo, cleanRegs]
theorem noneGo_length (xs : List S43) : (noneGo xs).length = xs.length := by simp [noneGo]
structure LayOk (l : LayV) : Prop where
  h5 : 16 ≤ l.a5 ∧ l.a5 ≤ 1073741824
  h9 : 0 ≤ l.a9 ∧ l.a9 ≤ 1073741824
  h12 : 0 ≤ l.a12 ∧ l.a12 ≤ 1073741824
  h13 : 0 ≤ l.a13 ∧ l.a13 ≤ 1073741824
  h16 : 0 ≤ l.a16 ∧ l.a16 ≤ 1073741824
  h17 : 0 ≤ l.a17 ∧ l.a17 ≤ 1073741824
def placeOf (l : LayV) (ps : List Int) (k : Int) : Int := if k = 2 then (midP l ps).length else if k = 1 then (leftP l ps).length else if k = 3 then (noP l ps).length else 0
theorem small_tags (l : LayV) (ps : List Int) : ∀ x ∈ allP l ps, x.2 = 0 ∨ x.2 = 1 ∨ x.2 = 2 ∨ x.2 = 3 := by
  have hng : ∀ xs : List S43, ∀ x ∈ noneGo xs, x.2 = 0 ∨ x.2 = 1 ∨ x.2 = 2 ∨ x.2 = 3 := by
    intro xs x hx
    obtain ⟨y, _, rfl⟩ := List.mem_map.1 hx
    exact .inl rfl
  have hnum : ∀ d v, ∀ x ∈ num d v, x.2 = 0 ∨ x.2 = 1 ∨ x.2 = 2 ∨ x.2 = 3 := fun d v => hng _
  have happ : ∀ a b : List InsP, (∀ x ∈ a, x.2 = 0 ∨ x.2 = 1 ∨ x.2 = 2 ∨ x.2 = 3) → (∀ x ∈ b, x.2 = 0 ∨ x.2 = 1 ∨ x.2 = 2 ∨ x.2 = 3) → ∀ x ∈ a ++ b, x.2 = 0 ∨ x.2 = 1 ∨ x.2 = 2 ∨ x.2 = 3 := fun a b ha hb x hx => (List.mem_append.1 hx).elim (ha x) (hb x)
  have hone : ∀ (y : S43) (k : Int), (k = 1 ∨ k = 2 ∨ k = 3) → ∀ x ∈ [((y, k) : InsP)], x.2 = 0 ∨ x.2 = 1 ∨ x.2 = 2 ∨ x.2 = 3 := by
    intro y k hk x hx
    obtain rfl := List.mem_singleton.1 hx
    exact .inr hk
  have hback : ∀ x ∈ backP l, x.2 = 0 ∨ x.2 = 1 ∨ x.2 = 2 ∨ x.2 = 3 := by
    unfold backP
    exact happ _ _ (hnum _ _) (happ _ _ (hone _ _ (by decide)) (happ _ _ (hnum _ _) (happ _ _ (hone _ _ (by decide)) (happ _ _ (hng _) (hone _ _ (by decide))))))
  have hptr : ∀ r n, ∀ x ∈ ptrP l r n, x.2 = 0 ∨ x.2 = 1 ∨ x.2 = 2 ∨ x.2 = 3 := by
    intro r n
    unfold ptrP
    split
    · exact hone _ _ (by decide)
    · exact happ _ _ (hng _) (happ _ _ (hone _ _ (by decide)) (happ _ _ (hnum _ _) (happ _ _ (hone _ _ (by decide)) (happ _ _ (hnum _ _) (hone _ _ (by decide))))))
  have hpar : ∀ (ps : List Int) i, ∀ x ∈ paramsP l ps i, x.2 = 0 ∨ x.2 = 1 ∨ x.2 = 2 ∨ x.2 = 3 := by
    intro ps
    induction ps with
    | nil => intro i x hx; cases hx
    | cons n r ih =>
      intro i
      unfold paramsP
      refine happ _ _ ?_ (ih _)
      split
      · exact hptr _ _
      · intro x hx; cases hx
  unfold allP noP leftP midP preP checksP cleanP
  refine happ _ _ (happ _ _ (happ _ _ (happ _ _ (happ _ _ (happ _ _ (happ _ _ (happ _ _ (happ _ _ (happ _ _ (happ _ _ (happ _ _ hback (hpar _ _)) ?_) ?_) ?_) ?_) ?_) ?_) ?_) ?_) ?_) ?_) ?_ <;> first | exact hnum _ _ | exact hng _ | exact hone _ _ (by decide)
theorem placeOf_mem (l : LayV) (ps : List Int) : ∀ x ∈ allP l ps, x.2 ≠ 0 → (x.2, placeOf l ps x.2) ∈ places l ps := by
  intro x hx h0
  rcases small_tags l ps x hx with h | h | h | h <;> rw [h] at h0 ⊢ <;> simp [placeOf, places] at h0 ⊢
theorem all_length (l : LayV) (ps : List Int) (h : ps.length ≤ 6) : (allP l ps).length ≤ 100 := by
  have := checks_length l ps h
  simp only [allP, noP, leftP, midP, preP, List.length_append, num_length, noneGo_length, clean_length, List.length_cons, List.length_nil]
  omega
theorem places_bound (l : LayV) (ps : List Int) (h : ps.length ≤ 6) : ∀ x ∈ places l ps, 0 ≤ x.2 ∧ x.2 ≤ 1000 := by
  have := all_length l ps h
  have h1 : (noP l ps).length ≤ (allP l ps).length := by simp only [allP, List.length_append]; omega
  have h2 : (leftP l ps).length ≤ (noP l ps).length := by simp only [noP, List.length_append]; omega
  have h3 : (midP l ps).length ≤ (leftP l ps).length := by simp only [leftP, List.length_append]; omega
  intro x hx
  simp only [places, List.mem_cons, List.not_mem_nil, or_false] at hx
  rcases hx with rfl | rfl | rfl <;> simp only [] <;> omega
structure Made (w0 w : World) (g : Nat) (l : LayV) (ps : List Int) : Prop where
  ms : MS w0 w g l (allP l ps) (places l ps)
  below : Below w0.heap.size w0 w
def layArr (l : LayV) : Array Value := #[.int .u64 l.a0, .int .u64 l.a1, .int .i64 l.a2, .int .i64 l.a3, .int .u64 l.a4, .int .u64 l.a5, .int .i64 l.a6, .int .i64 l.a7, .int .u64 l.a8, .int .u64 l.a9, .int .i64 l.a10, .int .i64 l.a11, .int .u64 l.a12, .int .u64 l.a13, .int .i64 l.a14, .int .i64 l.a15, .int .u64 l.a16, .int .u64 l.a17, .int .i64 l.a18, .int .i64 l.a19]
section
variable {P : Program} {a : Act} {o : Oper} {W W1 : World} {r : Value}
theorem exec_box {t : TypeId} {x : Operand} (ho : o.op = .box t x) {v : Value} (hx : a.eval x = v) (h : (Instr.box t v).run P W = .ok r W1) : (execOp a.eval o).run P W = .ok (.value r) W1 := by
  unfold execOp
  rw [ho]
  simp only [hx, Sem.run_bind, h, Result.andThen_ok, Sem.run_pure]
theorem exec_build {t : TypeId} {parts : Array (Nat × Operand)} (ho : o.op = .build t parts) {ps : Array (Nat × Value)} (hp : parts.map (fun p => (p.1, a.eval p.2)) = ps) (h : (Instr.build t ps).run P W = .ok r W1) : (execOp a.eval o).run P W = .ok (.value r) W1 := by
  subst hp
  unfold execOp
  rw [ho]
  show ((Instr.build t (parts.map fun p => (p.1, a.eval p.2))).bind fun s => pure (Next.value s)).run P W = _
  rw [show ((Instr.build t (parts.map fun p => (p.1, a.eval p.2))).bind fun s => (pure (Next.value s) : Sem Next)) = (Instr.build t (parts.map fun p => (p.1, a.eval p.2)) >>= fun s => pure (Next.value s)) from rfl]
  simp only [Sem.run_bind, h, Result.andThen_ok, Sem.run_pure]
theorem exec_load {t : TypeId} {x : Operand} (ho : o.op = .load t x) {v : Value} (hx : a.eval x = v) (h : (Instr.loadAt t v).run P W = .ok r W1) : (execOp a.eval o).run P W = .ok (.value r) W1 := by
  unfold execOp
  rw [ho]
  simp only [hx, Sem.run_bind, h, Result.andThen_ok, Sem.run_pure]
end
theorem run_boxL (l : LayV) (W : World) : (Instr.box 27 (.agg (layArr l))).run Tryd.prog W = .ok (.pointer (some ⟨W.heap.size, 0, none⟩)) (W.alloc (.cells (layArr l) 27)) := by kernel_rfl
theorem run_loadL (l : LayV) (W : World) (b : Nat) (h : W.heap[b]? = some (.cells (layArr l) 27)) : (Instr.loadAt 27 (.pointer (some ⟨b, 0, none⟩))).run Tryd.prog W = .ok (.agg (layArr l)) W :=
  run_loadVar_row W b _ _ (layArr l) _ _ h Tryd.underlying27 rfl (by kernel_rfl)
theorem run_buildM (l : LayV) (rg rp : Nat) (W : World) : (Instr.build 88 #[(0, .agg (layArr l)), (2, .map (some rg)), (3, .map (some rp))]).run Tryd.prog W = .ok (.agg (mkCells l (.slice none 0 0) rg rp)) W := by kernel_rfl
theorem run_boxM (l : LayV) (rg rp : Nat) (W : World) : (Instr.box 88 (.agg (mkCells l (.slice none 0 0) rg rp))).run Tryd.prog W = .ok (.pointer (some ⟨W.heap.size, 0, none⟩)) (W.alloc (.cells (mkCells l (.slice none 0 0) rg rp) 88)) := by kernel_rfl
theorem layArr_cell {l : LayV} {W : World} {b : Nat} (h : W.heap[b]? = some (.cells (layArr l) 27)) (j : Nat) (u : Value) (hu : (layArr l)[j]? = some u) : W.cell? ⟨b, j, none⟩ = some u := by
  simp [World.cell?, h, hu]
theorem start_ms (l : LayV) (W1 W4 : World) (g : Nat) (hblk : W4.heap[g]? = some (.cells (mkCells l (.slice none 0 0) W1.heap.size (W1.heap.size + 1)) 88)) (hb : Below (W1.heap.size + 2) ((W1.alloc (.map #[] 0)).alloc (.map #[] 0)) W4) (hg : g = W1.heap.size + 2) :
    MS W1 W4 g l [] [] ∧ Below W1.heap.size W1 W4 := by
  refine ⟨⟨_, _, _, hblk, Kd.R_nil _ _ _ _ _, ?_, ?_, by omega, Nat.le_refl _, by omega, by omega⟩, ?_⟩
  · show W4.heap[W1.heap.size]? = _
    rw [hb.block _ (by omega)]
    show ((W1.heap.push _).push _)[W1.heap.size]? = _
    rw [Array.getElem?_push, if_neg (by simp), Array.getElem?_push, if_pos rfl]
    rfl
  · show W4.heap[W1.heap.size + 1]? = _
    rw [hb.block _ (by omega)]
    show ((W1.heap.push _).push _)[W1.heap.size + 1]? = _
    rw [Array.getElem?_push, if_pos (by simp)]
    rfl
  · exact (((Below.refl _ _).alloc (Nat.le_refl _) _).alloc (by simp) _).trans (hb.mono (by omega))
set_option maxHeartbeats 16000000 in
set_option maxRecDepth 100000 in
theorem wrapper_calls (A0 : Option Addr) (c0 : Nat) (ps : List Int) (l : LayV) (w : World) (hr0 : Kd.C (Kd.int .i64) w A0 ps.length ps) (hO : LayOk l) (hps : ps.length ≤ 6) (hpn : ∀ n ∈ ps, 0 ≤ n ∧ n ≤ 64) :
    Calls Tryd.prog 24 #[.slice A0 ps.length c0, .agg (layArr l)] w fun e w' => ∃ v0_ : Value, e = .returned (.tuple #[v0_, .int .i64 ((preP l ps).length : Int)]) ∧ k43.R 43 w' w.heap.size (fun _ => True) v0_ (finalL (placeOf l ps) (allP l ps) 0) ∧ Below w.heap.size w w' := by
  have HRw := Aside0.mk hr0
  have HP := Aside0.mk hpn
  have HL := Aside0.mk (checks_length l ps hps)
  have HO := Aside0.mk hO
  have o1 := hO.h5.1
  have o2 := hO.h5.2
  clear hr0 hpn hO
  obtain ⟨b, hbe⟩ : ∃ b, b = w.heap.size := ⟨_, rfl⟩
  obtain ⟨W1, hW1⟩ : ∃ W1, W1 = w.alloc (.cells (layArr l) 27) := ⟨_, rfl⟩
  have hb : W1.heap[b]? = some (.cells (layArr l) 27) := by subst hW1 hbe; exact heap_alloc_new w _
  have hbW : Below w.heap.size w W1 := by subst hW1; exact (Below.refl _ _).alloc (Nat.le_refl _) _
  have e1 := run_boxL l w
  rw [← hW1, ← hbe] at e1
  obtain ⟨W2, hW2⟩ : ∃ W2, W2 = W1.alloc (.map #[] 0) := ⟨_, rfl⟩
  obtain ⟨W3, hW3⟩ : ∃ W3, W3 = W2.alloc (.map #[] 0) := ⟨_, rfl⟩
  obtain ⟨rg, hrg⟩ : ∃ r, r = W1.heap.size := ⟨_, rfl⟩
  obtain ⟨rp, hrp⟩ : ∃ r, r = W2.heap.size := ⟨_, rfl⟩
  obtain ⟨g, hg⟩ : ∃ r, r = W3.heap.size := ⟨_, rfl⟩
  obtain ⟨W4, hW4⟩ : ∃ W4, W4 = W3.alloc (.cells (mkCells l (.slice none 0 0) rg rp) 88) := ⟨_, rfl⟩
  have m1 := run_makeMap (P := Tryd.prog) 86 W1
  rw [← hW2, ← hrg] at m1
  have m2 := run_makeMap (P := Tryd.prog) 86 W2
  rw [← hW3, ← hrp] at m2
  have e5 := run_boxM l rg rp W3
  rw [← hW4, ← hg] at e5
  have hs := start_ms l W1 W4 g (by
      have h1 : rg = W1.heap.size := hrg
      have h2 : rp = W1.heap.size + 1 := by rw [hrp, hW2]; simp
      rw [← h2, ← h1, hW4, hg]
      exact heap_alloc_new W3 _) (by
      rw [hW4, hW3, hW2]
      exact (Below.refl _ _).alloc (by simp) _) (by rw [hg, hW3, hW2]; simp)
  have E1 := Aside0.mk e1
  have E2 := Aside0.mk (run_loadL l W1 b hb)
  have E4 := Aside0.mk (run_buildM l rg rp W3)
  have E5 := Aside0.mk e5
  have HK := Aside0.mk hs.1
  have HB := Aside0.mk hs.2
  have HBW := Aside0.mk hbW
  have HBK := Aside0.mk hb
  have l5 := layArr_cell ((hs.2.block b (Array.getElem?_eq_some_iff.1 hb).1).trans hb) 5 (.int .u64 l.a5) rfl
  clear hbe hW1 hb hbW e1 hW2 hW3 hrg hrp hg hW4 e5 hs
  go_enter Tryd.func24, Tryd.ntmps24
  go_wp2_with (first | ((with_reducible refine gate_dst (N := 3) rfl ?_); refine Kd.event_run (by rfl) (by refine exec_box (by rfl) (by rfl) E1.out) ?_) | ((with_reducible refine gate_dst (N := 13) rfl ?_); refine Kd.event_run (by rfl) (by refine exec_load (by rfl) (by rfl) E2.out) ?_) | ((with_reducible refine gate_dst (N := 16) rfl ?_); refine Kd.event_run (v := .agg (mkCells l (.slice none 0 0) rg rp)) (w1 := W3) (by rfl) ?hrun ?_; (case hrun => refine exec_build (parts := #[(0, .tmp 13), (2, .tmp 14), (3, .tmp 15)]) (by rfl) ?_ E4.out; simp [Act.eval])) | ((with_reducible refine gate_dst (N := 17) rfl ?_); refine Kd.event_run (by rfl) (by refine exec_box (by rfl) (by rfl) E5.out) ?_))
  have HBL := Aside0.mk (Array.getElem?_eq_some_iff.1 HBK.out).1
  have HBL : Aside0 (b < W1.heap.size) := ⟨HBL.out⟩
  refine (back_calls W1 W4 g l [] [] HK.out HB.out ⟨HO.out.h16.1, by have := HO.out.h16.2; omega⟩ ⟨HO.out.h17.1, by have := HO.out.h17.2; omega⟩ (by simp)).mono ?_
  rintro e w5 ⟨rfl, hK, hB⟩
  have HK := Aside0.mk hK
  have HB := Aside0.mk hB
  clear hK hB
  rw [List.nil_append] at HK
  go_wp2_with fail
  go_loopw [8, 9, 26] (fun _ _ i wr => ∃ k : Nat, k ≤ ps.length ∧ i = .int .i64 k ∧ Aside0 (MS W1 wr g l (backP l ++ paramsP l (ps.take k) 0) []) ∧ Aside0 (Below W1.heap.size W1 wr)) (fun _ _ i _ => ps.length - (intOf i).toNat)
  case atStart => exact ⟨0, Nat.zero_le _, rfl, ⟨by simpa [paramsP] using HK.out⟩, HB⟩
  case round =>
    obtain ⟨k, hk, rfl, HK, HB⟩ := hrel
    by_cases hlt : k < ps.length
    · obtain ⟨ad, rfl, hc⟩ := Kd.at_int (Kd.C_below (Kd.C_below HRw.out HBW.out) HB.out) (k : Int) (by omega) (by omega)
      rw [Int.toNat_natCast] at hc
      obtain ⟨n, hn⟩ : ∃ n, rd ps (k : Int) = n := ⟨_, rfl⟩
      have hget : ps[k]? = some n := by
        rw [List.getElem?_eq_getElem hlt, ← hn]
        simp [rd, List.getD_eq_getElem?_getD, List.getElem?_eq_getElem hlt]
      have hnb := HP.out n (List.mem_of_getElem? hget)
      have HT : Aside0 (paramsP l (ps.take (k + 1)) 0 = paramsP l (ps.take k) 0 ++ (if n > 0 then ptrP l (10 + (0 + (k : Int))) n else [])) := ⟨by
        obtain ⟨hk', rfl⟩ := List.getElem?_eq_some_iff.1 hget
        rw [List.take_succ_eq_append_getElem hk', paramsP_snoc, List.length_take, Nat.min_eq_left (by omega)]⟩
      have hlen : (backP l ++ paramsP l (ps.take k) 0).length ≤ 900 := by
        have h1 := paramsP_length l (ps.take k) 0
        have hb : (backP l).length = 8 := by simp [backP, num, noneGo, numIns]
        rw [List.length_append, hb]
        rw [List.length_take] at h1
        omega
      have HLEN := Aside0.mk hlen
      rw [hn] at hc
      obtain ⟨n0, n1⟩ := hnb
      clear hn hget hlen
      by_cases hp : n > 0
      · rw [if_pos hp] at HT
        go_wp2_with fail
        refine (pointer_calls W1 wr g l _ [] (10 + (k : Int)) n HK.out HB.out HO.out.h12 HO.out.h13 ⟨n0, n1⟩ ⟨by omega, by omega⟩ HLEN.out).mono ?_
        rintro e w6 ⟨rfl, hK, hB⟩
        have HK2 := Aside0.mk hK
        have HB2 := Aside0.mk hB
        clear hK hB hc
        go_wp2_with fail
        go_roundw
        case rel => exact ⟨k + 1, by omega, by go_num, ⟨by rw [HT.out, ← List.append_assoc, Int.zero_add]; exact HK2.out⟩, HB2⟩
        case measure => simp [intOf]; omega
      · rw [if_neg hp, List.append_nil] at HT
        go_wp2_with fail
        go_roundw
        case rel => exact ⟨k + 1, by omega, by go_num, ⟨by rw [HT.out]; exact HK.out⟩, HB⟩
        case measure => simp [intOf]; omega
    · obtain rfl : k = ps.length := by omega
      rw [List.take_length] at HK
      have HK : Aside0 (MS W1 wr g l (checksP l ps) []) := HK
      go_wp2_with fail
      refine (number_ms 5 (l.a5 - 16) HK.out HB.out (by omega) (by omega) (by have := HL.out; first | omega | (simp only [preP, midP, leftP, noP, List.length_append, num_length, noneGo_length, clean_length, List.length_cons, List.length_nil]; omega))).mono ?_
      rintro e x1 ⟨rfl, hK, hB⟩
      have HK := Aside0.mk hK
      have HB := Aside0.mk hB
      clear hK hB
      go_wp2_with fail
      refine (put_lit [⟨31, 0, 5, 1, 0⟩, ⟨31, 0, 5, 2, 8⟩] _ 2 rfl rfl HK.out HB.out (by have := HL.out; first | omega | (simp only [preP, midP, leftP, noP, List.length_append, num_length, noneGo_length, clean_length, List.length_cons, List.length_nil]; omega))).mono ?_
      rintro e x2 ⟨rfl, hK, hB⟩
      have l9 := layArr_cell ((hB.block b HBL.out).trans HBK.out) 9 (.int .u64 l.a9) rfl
      have HK := Aside0.mk hK
      have HB := Aside0.mk hB
      clear hK hB
      go_wp2_with fail
      refine (number_ms 2 l.a9 HK.out HB.out HO.out.h9.1 (by have := HO.out.h9.2; omega) (by have := HL.out; first | omega | (simp only [preP, midP, leftP, noP, List.length_append, num_length, noneGo_length, clean_length, List.length_cons, List.length_nil]; omega))).mono ?_
      rintro e x3 ⟨rfl, hK, hB⟩
      have hK : MS W1 x3 g l (preP l ps) [] := hK
      obtain ⟨LA, LC, hln⟩ := hK.len
      have HK := Aside0.mk hK
      have HB := Aside0.mk hB
      clear hK hB
      go_wp2_with fail
      refine (put_lit [⟨40, 1, 0, 0, 0⟩] _ 1 rfl rfl HK.out HB.out (by have := HL.out; first | omega | (simp only [preP, midP, leftP, noP, List.length_append, num_length, noneGo_length, clean_length, List.length_cons, List.length_nil]; omega))).mono ?_
      rintro e x4 ⟨rfl, hK, hB⟩
      have HK := Aside0.mk hK
      have HB := Aside0.mk hB
      clear hK hB
      go_wp2_with fail
      refine (number_ms 5 (l.a5 - 16) HK.out HB.out (by omega) (by omega) (by have := HL.out; first | omega | (simp only [preP, midP, leftP, noP, List.length_append, num_length, noneGo_length, clean_length, List.length_cons, List.length_nil]; omega))).mono ?_
      rintro e x5 ⟨rfl, hK, hB⟩
      have HK := Aside0.mk hK
      have HB := Aside0.mk hB
      clear hK hB
      go_wp2_with fail
      refine (put_lit [⟨28, 1, 5, 0, 0⟩, ⟨28, 2, 5, 0, 8⟩, ⟨16, 11, 0, 0, 0⟩] _ 3 rfl rfl HK.out HB.out (by have := HL.out; first | omega | (simp only [preP, midP, leftP, noP, List.length_append, num_length, noneGo_length, clean_length, List.length_cons, List.length_nil]; omega))).mono ?_
      rintro e x6 ⟨rfl, hK, hB⟩
      have hK : MS W1 x6 g l (midP l ps) [] := hK
      have HK := Aside0.mk hK
      have HB := Aside0.mk hB
      clear hK hB
      go_wp2_with fail
      refine (here_ms 2 _ rfl HK.out HB.out (by simp)).mono ?_
      rintro e x7 ⟨rfl, hK, hB⟩
      have HK := Aside0.mk hK
      have HB := Aside0.mk hB
      clear hK hB
      go_wp2_with fail
      refine (clean_calls W1 x7 g l _ _ HK.out HB.out (by have := HL.out; first | omega | (simp only [preP, midP, leftP, noP, List.length_append, num_length, noneGo_length, clean_length, List.length_cons, List.length_nil]; omega))).mono ?_
      rintro e x8 ⟨rfl, hK, hB⟩
      have HK := Aside0.mk hK
      have HB := Aside0.mk hB
      clear hK hB
      go_wp2_with fail
      refine (put_lit [⟨41, 0, 1, 0, 0⟩] _ 1 rfl rfl HK.out HB.out (by have := HL.out; first | omega | (simp only [preP, midP, leftP, noP, List.length_append, num_length, noneGo_length, clean_length, List.length_cons, List.length_nil]; omega))).mono ?_
      rintro e x9 ⟨rfl, hK, hB⟩
      have hK : MS W1 x9 g l (leftP l ps) [(2, ((midP l ps).length : Int))] := hK
      have HK := Aside0.mk hK
      have HB := Aside0.mk hB
      clear hK hB
      go_wp2_with fail
      refine (here_ms 1 _ rfl HK.out HB.out (by simp)).mono ?_
      rintro e x10 ⟨rfl, hK, hB⟩
      have HK := Aside0.mk hK
      have HB := Aside0.mk hB
      clear hK hB
      go_wp2_with fail
      refine (put_lit [⟨16, 10, 0, 0, 0⟩, ⟨16, 11, 0, 0, 1⟩] _ 2 rfl rfl HK.out HB.out (by have := HL.out; first | omega | (simp only [preP, midP, leftP, noP, List.length_append, num_length, noneGo_length, clean_length, List.length_cons, List.length_nil]; omega))).mono ?_
      rintro e x11 ⟨rfl, hK, hB⟩
      have HK := Aside0.mk hK
      have HB := Aside0.mk hB
      clear hK hB
      go_wp2_with fail
      refine (to_ms 2 ⟨40, 0, 0, 0, 0⟩ (by decide) HK.out HB.out (by have := HL.out; first | omega | (simp only [preP, midP, leftP, noP, List.length_append, num_length, noneGo_length, clean_length, List.length_cons, List.length_nil]; omega))).mono ?_
      rintro e x12 ⟨rfl, hK, hB⟩
      have hK : MS W1 x12 g l (noP l ps) [(2, ((midP l ps).length : Int)), (1, ((leftP l ps).length : Int))] := hK
      have HK := Aside0.mk hK
      have HB := Aside0.mk hB
      clear hK hB
      go_wp2_with fail
      refine (here_ms 3 _ rfl HK.out HB.out (by simp)).mono ?_
      rintro e x13 ⟨rfl, hK, hB⟩
      have HK := Aside0.mk hK
      have HB := Aside0.mk hB
      clear hK hB
      go_wp2_with fail
      refine (put_lit [⟨42, 0, 0, 0, 0⟩] _ 1 rfl rfl HK.out HB.out (by have := HL.out; first | omega | (simp only [preP, midP, leftP, noP, List.length_append, num_length, noneGo_length, clean_length, List.length_cons, List.length_nil]; omega))).mono ?_
      rintro e x14 ⟨rfl, hK, hB⟩
      have hK : MS W1 x14 g l (allP l ps) (places l ps) := hK
      obtain ⟨v, rg', rp', hM⟩ := hK
      have c21 := hM.cell 21 _ (by simp [mkCells]; rfl)
      have hrun := run_rangeI (P := Tryd.prog) Tryd.underlying86 x14 rg' _ hM.gm
      have hF := Fill.start (placeOf l ps) hM hB
      obtain ⟨y0, hy0⟩ : ∃ y, y = x14.alloc (.mapIter (some rg') (goesOf (allP l ps) 0).length #[] (goesOf (allP l ps) 0).length) := ⟨_, rfl⟩
      rw [← hy0] at hrun hF
      obtain ⟨it, hit⟩ : ∃ y, y = x14.heap.size := ⟨_, rfl⟩
      rw [← hit] at hrun hF
      obtain ⟨n0, hn0⟩ : ∃ y, y = (goesOf (allP l ps) 0).length := ⟨_, rfl⟩
      rw [← hn0] at hF
      have HF := Aside0.mk hF
      have HN := Aside0.mk (⟨placeOf_mem l ps, places_bound l ps hps, all_length l ps hps⟩ : (∀ x ∈ allP l ps, x.2 ≠ 0 → (x.2, placeOf l ps x.2) ∈ places l ps) ∧ (∀ x ∈ places l ps, 0 ≤ x.2 ∧ x.2 ≤ 1000) ∧ (allP l ps).length ≤ 100)
      clear hK hB hM hy0 hit hn0 hF
      go_wp2_with fail
      go_loopg [11] n0 (fun k _ wr => Aside0 (Fill W1 wr g l (allP l ps) (places l ps) (placeOf l ps) it rg' rp' k))
      case atStart => exact HF
      case round =>
        rcases hrel.out.round (by simp [places]) HN.out.1 HN.out.2.1 (by have := HN.out.2.2; omega) with ⟨v, hnext, hc20, hR, hB⟩ | ⟨i, q, w1, gv, n, cap, k', old, hnext, hent, h20, h22, hi, hn, hp0, hp1, hk, hlook, hcell, hfz, hF⟩
        · have HR := Aside0.mk hR
          have HB2 := Aside0.mk hB
          clear hR hB
          go_wp2_with fail
          go_ret2
          exact ⟨v, rfl, Kd.R_lower HR.out HBW.out.size, below_then HBW.out HBW.out.size HB2.out⟩
        · have hl1 : (Instr.lookup 86 (.map (some rp')) (.int .i64 q) false).run Tryd.prog w1.drew = .ok (.int .i64 (placeOf l ps q)) w1.drew := hlook 1
          have hF1 : Fill W1 (World.setCell w1.drew ⟨gv, i * 5 + 4, none⟩ (.int .i64 (4 * (placeOf l ps q - i)))) g l (allP l ps) (places l ps) (placeOf l ps) it rg' rp' k' := hF 1
          obtain ⟨pq, hpq⟩ : ∃ y, y = placeOf l ps q := ⟨_, rfl⟩
          rw [← hpq] at hl1 hF1 hp0 hp1
          have HF := Aside0.mk hF1
          have hw1 : IntKind.i64.wrap (pq - (i : Int)) = pq - i := IntWalk.i64_in _ (by omega)
          have hw2 : IntKind.i64.wrap (4 * (pq - (i : Int))) = 4 * (pq - i) := IntWalk.i64_in _ (by omega)
          clear hF hlook hF1 hpq
          go_wp2_with fail
          go_still_tail 16, rfl
          go_wp2_with fail
          go_roundg k'
          case measure => exact hk
          case rel => exact HF
def wrap_wrapper.f (l0 : List Int) (a1_0 a1_1 a1_2 a1_3 a1_4 a1_5 a1_6 a1_7 a1_8 a1_9 a1_10 a1_11 a1_12 a1_13 a1_14 a1_15 a1_16 a1_17 a1_18 a1_19 : Int) : Option (List S43 × Int) :=
  if ((16 ≤ a1_5 ∧ a1_5 ≤ 1073741824) ∧ (0 ≤ a1_9 ∧ a1_9 ≤ 1073741824) ∧ (0 ≤ a1_12 ∧ a1_12 ≤ 1073741824) ∧ (0 ≤ a1_13 ∧ a1_13 ≤ 1073741824) ∧ (0 ≤ a1_16 ∧ a1_16 ≤ 1073741824) ∧ (0 ≤ a1_17 ∧ a1_17 ≤ 1073741824)) ∧ l0.length ≤ 6 ∧ ∀ n ∈ l0, 0 ≤ n ∧ n ≤ 64 then
    some (finalL (placeOf ⟨a1_0, a1_1, a1_2, a1_3, a1_4, a1_5, a1_6, a1_7, a1_8, a1_9, a1_10, a1_11, a1_12, a1_13, a1_14, a1_15, a1_16, a1_17, a1_18, a1_19⟩ l0) (allP ⟨a1_0, a1_1, a1_2, a1_3, a1_4, a1_5, a1_6, a1_7, a1_8, a1_9, a1_10, a1_11, a1_12, a1_13, a1_14, a1_15, a1_16, a1_17, a1_18, a1_19⟩ l0) 0, ((preP ⟨a1_0, a1_1, a1_2, a1_3, a1_4, a1_5, a1_6, a1_7, a1_8, a1_9, a1_10, a1_11, a1_12, a1_13, a1_14, a1_15, a1_16, a1_17, a1_18, a1_19⟩ l0).length : Int)) else none
theorem wrap_wrapper.calls (A0 : Option Addr) (c0 : Nat) (l0 : List Int) (a1_0 a1_1 a1_2 a1_3 a1_4 a1_5 a1_6 a1_7 a1_8 a1_9 a1_10 a1_11 a1_12 a1_13 a1_14 a1_15 a1_16 a1_17 a1_18 a1_19 : Int) (r1 : List S43) (r2 : Int) (w : World) (hr0 : Kd.C (Kd.int .i64) w A0 l0.length l0) (hc0 : l0.length ≤ c0) (h : wrap_wrapper.f l0 a1_0 a1_1 a1_2 a1_3 a1_4 a1_5 a1_6 a1_7 a1_8 a1_9 a1_10 a1_11 a1_12 a1_13 a1_14 a1_15 a1_16 a1_17 a1_18 a1_19 = some (r1, r2)) :
    Calls Tryd.prog 24 #[.slice A0 l0.length c0, .agg #[.int .u64 a1_0, .int .u64 a1_1, .int .i64 a1_2, .int .i64 a1_3, .int .u64 a1_4, .int .u64 a1_5, .int .i64 a1_6, .int .i64 a1_7, .int .u64 a1_8, .int .u64 a1_9, .int .i64 a1_10, .int .i64 a1_11, .int .u64 a1_12, .int .u64 a1_13, .int .i64 a1_14, .int .i64 a1_15, .int .u64 a1_16, .int .u64 a1_17, .int .i64 a1_18, .int .i64 a1_19]] w fun e w' => ∃ v0_ : Value, e = .returned (.tuple #[v0_, .int .i64 r2]) ∧ Kd.R k43 43 w' w.heap.size (fun _ => True) v0_ r1 ∧ Below w.heap.size w w' := by
  unfold wrap_wrapper.f at h
  split at h
  · rename_i hc
    obtain ⟨⟨h5, h9, h12, h13, h16, h17⟩, hl, hp⟩ := hc
    obtain ⟨rfl, rfl⟩ := Prod.mk.inj (Option.some.inj h)
    exact wrapper_calls A0 c0 l0 ⟨a1_0, a1_1, a1_2, a1_3, a1_4, a1_5, a1_6, a1_7, a1_8, a1_9, a1_10, a1_11, a1_12, a1_13, a1_14, a1_15, a1_16, a1_17, a1_18, a1_19⟩ w hr0 ⟨h5, h9, h12, h13, h16, h17⟩ hl hp
  · cases h
end Go.Proofs.YtaoajlaocphgdaaDoor.PA
end
section
namespace Go.Proofs.YtaoajlaocphgdaaDoor.PA
open Go.RowKit Go.Proofs.YtaoajlaocphgdaaDoorW.PrintWords Go.Proofs.YtaoajlaocphgdaaDoorW.PrintLast Go.Proofs.YtaoajlaocphgdaaDoorW.PrintMore
attribute [local go_sem] max2_int min2_int max_two min_two max_three min_three max_four min_four   -- for this text's walks alone
set_option linter.unusedVariables false
set_option linter.unusedSimpArgs false
def ins_has.j0 : Nat → ByteArray → Bool → Option (Bool × Bool × Bool)
  | 0, _, _ => none
  | k + 1, x5, x10 => if x10 = true then (some (false, true, true)) else (if x5.toList = ([85] : List UInt8) then (some (true, false, false)) else (if x5.toList = ([74] : List UInt8) then (some (true, false, false)) else (some (false, false, false))))
def ins_has.f (k : Nat) (a0 : ByteArray) : Option (Bool × Bool × Bool) := if a0.toList = ([82] : List UInt8) then (some (true, true, true)) else (if a0.toList = ([73] : List UInt8) then (some (true, true, false)) else (if a0.toList = ([83] : List UInt8) then (ins_has.j0 k a0 (a0.toList == ([83] : List UInt8))) else (ins_has.j0 k a0 (a0.toList == ([66] : List UInt8)))))
theorem ins_has.mono_l : ∀ k, (∀ y0 y1, LeO (ins_has.j0 k y0 y1) (ins_has.j0 (k + 1) y0 y1))
  | 0 => fun _ _ r h => by simp [ins_has.j0] at h
  | k + 1 => by
    have ih0 := ins_has.mono_l k
    · intro y0 y1
      unfold ins_has.j0
      repeat' first
      | (with_reducible exact ih0 _ _)
      | (with_reducible exact LeO.refl _)
      | (with_reducible exact LeO.none _)
      | (with_reducible refine LeO.ite ?_ ?_)
      | (with_reducible refine LeO.bind ?_ (fun _ => ?_))
      | exact ih0 _ _
      | exact LeO.none _
      | refine LeO.ite ?_ ?_
      | refine LeO.bind ?_ (fun _ => ?_)
theorem ins_has.mono : ∀ a0 k, LeO (ins_has.f k a0) (ins_has.f (k + 1) a0) := by
  intro a0 k
  have ih0 := ins_has.mono_l k
  unfold ins_has.f
  repeat' first
      | (with_reducible exact ih0 _ _)
      | (with_reducible exact LeO.refl _)
      | (with_reducible exact LeO.none _)
      | (with_reducible refine LeO.ite ?_ ?_)
      | (with_reducible refine LeO.bind ?_ (fun _ => ?_))
      | exact ih0 _ _
      | exact LeO.none _
      | refine LeO.ite ?_ ?_
      | refine LeO.bind ?_ (fun _ => ?_)
set_option maxHeartbeats 8000000 in
set_option maxRecDepth 100000 in
theorem ins_has.calls (k : Nat) (a0 : ByteArray) (r1 : Bool) (r2 : Bool) (r3 : Bool) (w : World) (h : ins_has.f k a0 = some (r1, r2, r3)) :
    Calls Tryd.prog 78 #[.string a0] w fun e w' => e = .returned (.tuple #[.bool r1, .bool r2, .bool r3]) ∧ Drawn0 w w' := by
  have H : (if a0.toList = ([82] : List UInt8) then (some (true, true, true)) else (if a0.toList = ([73] : List UInt8) then (some (true, true, false)) else (if a0.toList = ([83] : List UInt8) then (ins_has.j0 k a0 (a0.toList == ([83] : List UInt8))) else (ins_has.j0 k a0 (a0.toList == ([66] : List UInt8)))))) = some (r1, r2, r3) := h
  clear h
  by_cases c2 : a0.toList = ([82] : List UInt8)
  · rw [if_pos c2] at H
    have c2b0 : (a0.toList == ([82] : List UInt8)) = true := beq_iff_eq.mpr c2
    have c2b1 : (a0.toList != ([82] : List UInt8)) = false := bne_eq_false_iff_eq.mpr c2
    clear c2
    simp only [Option.some.injEq, Prod.mk.injEq] at H
    obtain ⟨rfl, rfl, rfl⟩ := H
    go_enter Tryd.func78, Tryd.ntmps78
    go_wp2
    go_ret3
    exact ⟨by first | rfl | (simp; done) | (simp [*]; done), by repeat (first | exact Drawn0.refl _ | apply Drawn0.step)⟩
  · rw [if_neg c2] at H
    have c2b0 : (a0.toList == ([82] : List UInt8)) = false := beq_eq_false_iff_ne.mpr c2
    have c2b1 : (a0.toList != ([82] : List UInt8)) = true := bne_iff_ne.mpr c2
    by_cases c3 : a0.toList = ([73] : List UInt8)
    · rw [if_pos c3] at H
      have c3b0 : (a0.toList == ([73] : List UInt8)) = true := beq_iff_eq.mpr c3
      have c3b1 : (a0.toList != ([73] : List UInt8)) = false := bne_eq_false_iff_eq.mpr c3
      clear c3
      simp only [Option.some.injEq, Prod.mk.injEq] at H
      obtain ⟨rfl, rfl, rfl⟩ := H
      go_enter Tryd.func78, Tryd.ntmps78
      go_wp2
      go_ret3
      exact ⟨by first | rfl | (simp; done) | (simp [*]; done), by repeat (first | exact Drawn0.refl _ | apply Drawn0.step)⟩
    · rw [if_neg c3] at H
      have c3b0 : (a0.toList == ([73] : List UInt8)) = false := beq_eq_false_iff_ne.mpr c3
      have c3b1 : (a0.toList != ([73] : List UInt8)) = true := bne_iff_ne.mpr c3
      have HC4 := Aside0.mk H
      clear H
      go_enter Tryd.func78, Tryd.ntmps78
      go_upto_if 10 with (fail)
      go_cut [10] (fun v10 wc => ∃ (kq : Nat) (x10_3 : Bool), v10 = .bool x10_3 ∧ Aside0 (ins_has.j0 kq a0 x10_3 = some (r1, r2, r3)) ∧ Aside0 (kq ≤ k) ∧ Drawn0 w wc)
      case first =>
        have H := HC4.out
        clear HC4
        by_cases c5 : a0.toList = ([83] : List UInt8)
        · rw [if_pos c5] at H
          have c5b0 : (a0.toList == ([83] : List UInt8)) = true := beq_iff_eq.mpr c5
          have c5b1 : (a0.toList != ([83] : List UInt8)) = false := bne_eq_false_iff_eq.mpr c5
          clear c5
          (first | rw [c5b0] | (simp only [i64_w, i32_w]; rw [c5b0]) | skip)
          have H' := Aside0.mk H
          clear H
          go_wp2
          go_meet
          case rel => exact ⟨_, ((a0.toList == ([83] : List UInt8))), (by first | rfl | (simp; done) | (simp [*]; done)), H', ⟨by first | omega | exact Nat.le_refl _⟩, by repeat (first | exact Drawn0.refl _ | apply Drawn0.step)⟩
        · rw [if_neg c5] at H
          have c5b0 : (a0.toList == ([83] : List UInt8)) = false := beq_eq_false_iff_ne.mpr c5
          have c5b1 : (a0.toList != ([83] : List UInt8)) = true := bne_iff_ne.mpr c5
          (first | rw [c5b0] | (simp only [i64_w, i32_w]; rw [c5b0]) | skip)
          have H' := Aside0.mk H
          clear H
          go_wp2
          go_meet
          case rel => exact ⟨_, ((a0.toList == ([66] : List UInt8))), (by first | rfl | (simp; done) | (simp [*]; done)), H', ⟨by first | omega | exact Nat.le_refl _⟩, by repeat (first | exact Drawn0.refl _ | apply Drawn0.step)⟩
      case rest =>
        clear HC4
        try clear c2
        try clear c2b0
        try clear c2b1
        try clear p2
        try clear c3
        try clear c3b0
        try clear c3b1
        try clear c5
        try clear c5b0
        try clear c5b1
        obtain ⟨kq, x10_3, rfl, HA, HJ3, ⟨mc3, rfl⟩⟩ := hcut
        cases kq with
        | zero => exact absurd HA.out (by simp [ins_has.j0])
        | succ kj3 =>
          have H := HA.out
          clear HA
          simp only [ins_has.j0] at H
          by_cases c6 : x10_3 = true
          · subst c6
            have H1 : (some (false, true, true)) = some (r1, r2, r3) := by rw [if_pos rfl] at H; exact H
            clear H
            have H := H1
            clear H1
            simp only [Option.some.injEq, Prod.mk.injEq] at H
            obtain ⟨rfl, rfl, rfl⟩ := H
            go_wp2
            go_ret3
            exact ⟨by first | rfl | (simp; done) | (simp [*]; done), by repeat (first | exact Drawn0.refl _ | apply Drawn0.step)⟩
          · replace c6 := Bool.eq_false_iff.mpr c6
            subst c6
            have H1 : (if a0.toList = ([85] : List UInt8) then (some (true, false, false)) else (if a0.toList = ([74] : List UInt8) then (some (true, false, false)) else (some (false, false, false)))) = some (r1, r2, r3) := by rw [if_neg (show ¬ (false = true) by decide)] at H; exact H
            clear H
            have H := H1
            clear H1
            by_cases c7 : a0.toList = ([85] : List UInt8)
            · rw [if_pos c7] at H
              have c7b0 : (a0.toList == ([85] : List UInt8)) = true := beq_iff_eq.mpr c7
              have c7b1 : (a0.toList != ([85] : List UInt8)) = false := bne_eq_false_iff_eq.mpr c7
              clear c7
              simp only [Option.some.injEq, Prod.mk.injEq] at H
              obtain ⟨rfl, rfl, rfl⟩ := H
              go_wp2
              go_ret3
              exact ⟨by first | rfl | (simp; done) | (simp [*]; done), by repeat (first | exact Drawn0.refl _ | apply Drawn0.step)⟩
            · rw [if_neg c7] at H
              have c7b0 : (a0.toList == ([85] : List UInt8)) = false := beq_eq_false_iff_ne.mpr c7
              have c7b1 : (a0.toList != ([85] : List UInt8)) = true := bne_iff_ne.mpr c7
              by_cases c8 : a0.toList = ([74] : List UInt8)
              · rw [if_pos c8] at H
                have c8b0 : (a0.toList == ([74] : List UInt8)) = true := beq_iff_eq.mpr c8
                have c8b1 : (a0.toList != ([74] : List UInt8)) = false := bne_eq_false_iff_eq.mpr c8
                clear c8
                simp only [Option.some.injEq, Prod.mk.injEq] at H
                obtain ⟨rfl, rfl, rfl⟩ := H
                go_wp2
                go_ret3
                exact ⟨by first | rfl | (simp; done) | (simp [*]; done), by repeat (first | exact Drawn0.refl _ | apply Drawn0.step)⟩
              · rw [if_neg c8] at H
                have c8b0 : (a0.toList == ([74] : List UInt8)) = false := beq_eq_false_iff_ne.mpr c8
                have c8b1 : (a0.toList != ([74] : List UInt8)) = true := bne_iff_ne.mpr c8
                simp only [Option.some.injEq, Prod.mk.injEq] at H
                obtain ⟨rfl, rfl, rfl⟩ := H
                go_wp2
                go_ret3
                exact ⟨by first | rfl | (simp; done) | (simp [*]; done), by repeat (first | exact Drawn0.refl _ | apply Drawn0.step)⟩
def ins_reg.f (a0 : Int) (a1 : Bool) : Option (Bool) := if a0 = 0 then (some true) else (if a1 = true then (if a0 > 0 then (some (decide (a0 < 32))) else (some false)) else (some false))
set_option maxHeartbeats 8000000 in
set_option maxRecDepth 100000 in
theorem ins_reg.calls (a0 : Int) (a1 : Bool) (r : Bool) (w : World) (h : ins_reg.f a0 a1 = some r) :
    Calls Tryd.prog 79 #[.int .i64 a0, .bool a1] w fun e w' => e = .returned (.bool r) ∧ Drawn0 w w' := by
  have H : (if a0 = 0 then (some true) else (if a1 = true then (if a0 > 0 then (some (decide (a0 < 32))) else (some false)) else (some false))) = some r := h
  clear h
  by_cases c3 : a0 = 0
  · rw [if_pos c3] at H
    have c3b0 : (a0 == 0) = true := beq_iff_eq.mpr c3
    have c3b1 : (a0 != 0) = false := bne_eq_false_iff_eq.mpr c3
    clear c3
    obtain rfl := Option.some.inj H
    go_enter Tryd.func79, Tryd.ntmps79
    go_wp2
    go_ret
    exact ⟨by first | rfl | (simp; done) | (simp [*]; done), by repeat (first | exact Drawn0.refl _ | apply Drawn0.step)⟩
  · rw [if_neg c3] at H
    have c3b0 : (a0 == 0) = false := beq_eq_false_iff_ne.mpr c3
    have c3b1 : (a0 != 0) = true := bne_iff_ne.mpr c3
    by_cases c4 : a1 = true
    · subst c4
      have H1 : (if a0 > 0 then (some (decide (a0 < 32))) else (some false)) = some r := by rw [if_pos rfl] at H; exact H
      clear H
      have H := H1
      clear H1
      by_cases c5 : a0 > 0
      · rw [if_pos c5] at H
        have c5b0 : decide (0 < a0) = true := decide_eq_true c5
        clear c5
        obtain rfl := Option.some.inj H
        go_enter Tryd.func79, Tryd.ntmps79
        go_wp2
        go_ret
        exact ⟨by first | rfl | (simp; done) | (simp [*]; done), by repeat (first | exact Drawn0.refl _ | apply Drawn0.step)⟩
      · rw [if_neg c5] at H
        have c5b0 : decide (0 < a0) = false := decide_eq_false c5
        clear c5
        obtain rfl := Option.some.inj H
        go_enter Tryd.func79, Tryd.ntmps79
        go_wp2
        go_ret
        exact ⟨by first | rfl | (simp; done) | (simp [*]; done), by repeat (first | exact Drawn0.refl _ | apply Drawn0.step)⟩
    · replace c4 := Bool.eq_false_iff.mpr c4
      subst c4
      have H1 : (some false) = some r := by rw [if_neg (show ¬ (false = true) by decide)] at H; exact H
      clear H
      have H := H1
      clear H1
      obtain rfl := Option.some.inj H
      go_enter Tryd.func79, Tryd.ntmps79
      go_wp2
      go_ret
      exact ⟨by first | rfl | (simp; done) | (simp [*]; done), by repeat (first | exact Drawn0.refl _ | apply Drawn0.step)⟩
def ins_shift.f (a0 : Int) : Option (Bool) := if a0 = 22 then (some true) else (if a0 = 23 then (some true) else (some (a0 == 24)))
set_option maxHeartbeats 8000000 in
set_option maxRecDepth 100000 in
theorem ins_shift.calls (a0 : Int) (r : Bool) (w : World) (h : ins_shift.f a0 = some r) :
    Calls Tryd.prog 54 #[.int .i64 a0] w fun e w' => e = .returned (.bool r) ∧ Drawn0 w w' := by
  have H : (if a0 = 22 then (some true) else (if a0 = 23 then (some true) else (some (a0 == 24)))) = some r := h
  clear h
  by_cases c2 : a0 = 22
  · rw [if_pos c2] at H
    have c2b0 : (a0 == 22) = true := beq_iff_eq.mpr c2
    have c2b1 : (a0 != 22) = false := bne_eq_false_iff_eq.mpr c2
    clear c2
    obtain rfl := Option.some.inj H
    go_enter Tryd.func54, Tryd.ntmps54
    go_wp2
    go_ret
    exact ⟨by first | rfl | (simp; done) | (simp [*]; done), by repeat (first | exact Drawn0.refl _ | apply Drawn0.step)⟩
  · rw [if_neg c2] at H
    have c2b0 : (a0 == 22) = false := beq_eq_false_iff_ne.mpr c2
    have c2b1 : (a0 != 22) = true := bne_iff_ne.mpr c2
    by_cases c3 : a0 = 23
    · rw [if_pos c3] at H
      have c3b0 : (a0 == 23) = true := beq_iff_eq.mpr c3
      have c3b1 : (a0 != 23) = false := bne_eq_false_iff_eq.mpr c3
      clear c3
      obtain rfl := Option.some.inj H
      go_enter Tryd.func54, Tryd.ntmps54
      go_wp2
      go_ret
      exact ⟨by first | rfl | (simp; done) | (simp [*]; done), by repeat (first | exact Drawn0.refl _ | apply Drawn0.step)⟩
    · rw [if_neg c3] at H
      have c3b0 : (a0 == 23) = false := beq_eq_false_iff_ne.mpr c3
      have c3b1 : (a0 != 23) = true := bne_iff_ne.mpr c3
      obtain rfl := Option.some.inj H
      go_enter Tryd.func54, Tryd.ntmps54
      go_wp2
      go_ret
      exact ⟨by first | rfl | (simp; done) | (simp [*]; done), by repeat (first | exact Drawn0.refl _ | apply Drawn0.step)⟩
def bits_mask.f (a0 : Int) : Option (Int) := if 0 ≤ a0 then (some (IntKind.u64.wrap ((shl .u64 1 a0) - 1))) else (none)
set_option maxHeartbeats 8000000 in
set_option maxRecDepth 100000 in
theorem bits_mask.calls (a0 : Int) (r : Int) (w : World) (h : bits_mask.f a0 = some r) :
    Calls Tryd.prog 82 #[.int .i64 a0] w fun e w' => e = .returned (.int .u64 r) ∧ Drawn0 w w' := by
  have H : (if 0 ≤ a0 then (some (IntKind.u64.wrap ((shl .u64 1 a0) - 1))) else (none)) = some r := h
  clear h
  by_cases c2 : 0 ≤ a0
  · rw [if_pos c2] at H
    have c2b0 := eq_true c2
    have c2b1 : decide (0 ≤ a0) = true := decide_eq_true c2
    clear c2
    obtain ⟨ji3, hji3⟩ : ∃ j_ : Int, (shl .u64 1 a0) = j_ := ⟨_, rfl⟩
    replace H : (some (IntKind.u64.wrap ((ji3) - 1))) = some r := by first | (rw [hji3] at H; exact H) | (simp only [hji3] at H ⊢; exact H)
    have hji3_ : (IntKind.u64.wrap (1 * 2 ^ min a0.toNat 64)) = ji3 := hji3
    have hji3z : a0 ≤ 64 → (IntKind.u64.wrap (1 * 2 ^ a0.toNat)) = ji3 := shl_small hji3
    have hji3u : (IntKind.u64.wrap (2 ^ min a0.toNat 64)) = ji3 := by have h_ := hji3_; rw [Int.one_mul] at h_; exact h_
    have hji3v : a0 ≤ 64 → (IntKind.u64.wrap (2 ^ a0.toNat)) = ji3 := fun hle_ => by have h_ := hji3z hle_; rw [Int.one_mul] at h_; exact h_
    obtain rfl := Option.some.inj H
    go_enter Tryd.func82, Tryd.ntmps82
    go_wp2
    go_ret
    exact ⟨by first | rfl | (simp; done) | (simp only [← hji3] <;> (first | rfl | simp)) | (simp [*]; done), by repeat (first | exact Drawn0.refl _ | apply Drawn0.step)⟩
  · rw [if_neg c2] at H
    exact absurd H (by simp)
def bits_FitsU.f (a0 : Int) (a1 : Int) : Option (Bool) := if a1 ≥ 1 then (if a1 ≤ 64 then ((bits_mask.f a1).bind fun t108 => (some ((Go.bits .andNot .u64 a0 t108) == 0))) else (some false)) else (some false)
set_option maxHeartbeats 8000000 in
set_option maxRecDepth 100000 in
theorem bits_FitsU.calls (a0 : Int) (a1 : Int) (r : Bool) (w : World) (h : bits_FitsU.f a0 a1 = some r) :
    Calls Tryd.prog 97 #[.int .u64 a0, .int .i64 a1] w fun e w' => e = .returned (.bool r) ∧ Drawn0 w w' := by
  have H : (if a1 ≥ 1 then (if a1 ≤ 64 then ((bits_mask.f a1).bind fun t108 => (some ((Go.bits .andNot .u64 a0 t108) == 0))) else (some false)) else (some false)) = some r := h
  clear h
  by_cases c3 : a1 ≥ 1
  · rw [if_pos c3] at H
    have c3b0 : decide (1 ≤ a1) = true := decide_eq_true c3
    clear c3
    by_cases c4 : a1 ≤ 64
    · rw [if_pos c4] at H
      have c4b0 : decide (a1 ≤ 64) = true := decide_eq_true c4
      clear c4
      replace H := Option.bind_eq_some_iff.mp H
      obtain ⟨t108, A50, H⟩ := H
      replace H : (some ((Go.bits .andNot .u64 a0 t108) == 0)) = some r := H
      have A5 := Aside0.mk A50
      clear A50
      obtain rfl := Option.some.inj H
      go_enter Tryd.func97, Tryd.ntmps97
      go_wp2_with (first | (go_at_call 82; (with_reducible refine (bits_mask.calls a1 t108 _ A5.out).mono ?_); rintro e w' ⟨rfl, ⟨nd, rfl⟩⟩))
      go_ret
      exact ⟨by first | rfl | (simp; done) | (simp [*]; done), by repeat (first | exact Drawn0.refl _ | apply Drawn0.step)⟩
    · rw [if_neg c4] at H
      have c4b0 : decide (a1 ≤ 64) = false := decide_eq_false c4
      clear c4
      obtain rfl := Option.some.inj H
      go_enter Tryd.func97, Tryd.ntmps97
      go_wp2
      go_ret
      exact ⟨by first | rfl | (simp; done) | (simp [*]; done), by repeat (first | exact Drawn0.refl _ | apply Drawn0.step)⟩
  · rw [if_neg c3] at H
    have c3b0 : decide (1 ≤ a1) = false := decide_eq_false c3
    clear c3
    obtain rfl := Option.some.inj H
    go_enter Tryd.func97, Tryd.ntmps97
    go_wp2
    go_ret
    exact ⟨by first | rfl | (simp; done) | (simp [*]; done), by repeat (first | exact Drawn0.refl _ | apply Drawn0.step)⟩
def bits_Fits.f (a0 : Int) (a1 : Int) : Option (Bool) := if a1 ≥ 1 then (if a1 ≤ 64 then ((bits_Sign.f (IntKind.u64.wrap (a0)) a1).bind fun t109 => (some (t109 == a0))) else (some false)) else (some false)
set_option maxHeartbeats 8000000 in
set_option maxRecDepth 100000 in
theorem bits_Fits.calls (a0 : Int) (a1 : Int) (r : Bool) (w : World) (h : bits_Fits.f a0 a1 = some r) :
    Calls Tryd.prog 98 #[.int .i64 a0, .int .i64 a1] w fun e w' => e = .returned (.bool r) ∧ Drawn0 w w' := by
  have H : (if a1 ≥ 1 then (if a1 ≤ 64 then ((bits_Sign.f (IntKind.u64.wrap (a0)) a1).bind fun t109 => (some (t109 == a0))) else (some false)) else (some false)) = some r := h
  clear h
  by_cases c3 : a1 ≥ 1
  · rw [if_pos c3] at H
    have c3b0 : decide (1 ≤ a1) = true := decide_eq_true c3
    clear c3
    by_cases c4 : a1 ≤ 64
    · rw [if_pos c4] at H
      have c4b0 : decide (a1 ≤ 64) = true := decide_eq_true c4
      clear c4
      replace H := Option.bind_eq_some_iff.mp H
      obtain ⟨t109, A50, H⟩ := H
      replace H : (some (t109 == a0)) = some r := H
      have A5 := Aside0.mk A50
      clear A50
      obtain rfl := Option.some.inj H
      go_enter Tryd.func98, Tryd.ntmps98
      go_wp2_with (first | (go_at_call 76; (with_reducible refine (bits_Sign.calls (IntKind.u64.wrap (a0)) a1 t109 _ A5.out).mono ?_); rintro e w' ⟨rfl, ⟨nd, rfl⟩⟩))
      go_ret
      exact ⟨by first | rfl | (simp; done) | (simp [*]; done), by repeat (first | exact Drawn0.refl _ | apply Drawn0.step)⟩
    · rw [if_neg c4] at H
      have c4b0 : decide (a1 ≤ 64) = false := decide_eq_false c4
      clear c4
      obtain rfl := Option.some.inj H
      go_enter Tryd.func98, Tryd.ntmps98
      go_wp2
      go_ret
      exact ⟨by first | rfl | (simp; done) | (simp [*]; done), by repeat (first | exact Drawn0.refl _ | apply Drawn0.step)⟩
  · rw [if_neg c3] at H
    have c3b0 : decide (1 ≤ a1) = false := decide_eq_false c3
    clear c3
    obtain rfl := Option.some.inj H
    go_enter Tryd.func98, Tryd.ntmps98
    go_wp2
    go_ret
    exact ⟨by first | rfl | (simp; done) | (simp [*]; done), by repeat (first | exact Drawn0.refl _ | apply Drawn0.step)⟩
def ins_imm.f (a0_0 : Int) (a0_1 : Int) (a0_2 : Int) (a0_3 : Int) (a0_4 : Int) : Option (Bool) := if 0 ≤ a0_0 then (if a0_0 < 43 then (if ((rd_T97 rowsL a0_0).f0).toList = ([73] : List UInt8) then ((ins_shift.f a0_0).bind fun t112 => (if t112 = true then (if a0_4 ≥ 0 then ((bits_FitsU.f (IntKind.u64.wrap (a0_4)) 6).bind fun t113 => (some t113)) else (some false)) else ((bits_Fits.f a0_4 12).bind fun t114 => (some t114)))) else (if ((rd_T97 rowsL a0_0).f0).toList = ([83] : List UInt8) then ((bits_Fits.f a0_4 12).bind fun t115 => (some t115)) else (if ((rd_T97 rowsL a0_0).f0).toList = ([66] : List UInt8) then ((bits_Fits.f a0_4 13).bind fun t116 => (if t116 = true then (some ((Go.bits .and .i64 a0_4 1) == 0)) else (some false))) else (if ((rd_T97 rowsL a0_0).f0).toList = ([85] : List UInt8) then ((bits_Fits.f a0_4 32).bind fun t117 => (if t117 = true then (some ((Go.bits .and .i64 a0_4 4095) == 0)) else (some false))) else (if ((rd_T97 rowsL a0_0).f0).toList = ([74] : List UInt8) then ((bits_Fits.f a0_4 21).bind fun t118 => (if t118 = true then (some ((Go.bits .and .i64 a0_4 1) == 0)) else (some false))) else (some (a0_4 == 0))))))) else (none)) else (none)
set_option maxHeartbeats 8000000 in
set_option maxRecDepth 100000 in
theorem ins_imm.calls (a0_0 : Int) (a0_1 : Int) (a0_2 : Int) (a0_3 : Int) (a0_4 : Int) (r : Bool) (w : World) (h : ins_imm.f a0_0 a0_1 a0_2 a0_3 a0_4 = some r) (hG : GlobOk w) :
    Calls Tryd.prog 80 #[.agg #[.int .i64 a0_0, .int .i64 a0_1, .int .i64 a0_2, .int .i64 a0_3, .int .i64 a0_4]] w fun e w' => e = .returned (.bool r) ∧ Below w.heap.size w w' := by
  have hu43 := Tryd.underlying43
  have HRGrows := Aside0.mk (GlobOk.rowsC hG)
  have HB := Aside0.mk (Below.refl w.heap.size w)
  have H : (if 0 ≤ a0_0 then (if a0_0 < 43 then (if ((rd_T97 rowsL a0_0).f0).toList = ([73] : List UInt8) then ((ins_shift.f a0_0).bind fun t112 => (if t112 = true then (if a0_4 ≥ 0 then ((bits_FitsU.f (IntKind.u64.wrap (a0_4)) 6).bind fun t113 => (some t113)) else (some false)) else ((bits_Fits.f a0_4 12).bind fun t114 => (some t114)))) else (if ((rd_T97 rowsL a0_0).f0).toList = ([83] : List UInt8) then ((bits_Fits.f a0_4 12).bind fun t115 => (some t115)) else (if ((rd_T97 rowsL a0_0).f0).toList = ([66] : List UInt8) then ((bits_Fits.f a0_4 13).bind fun t116 => (if t116 = true then (some ((Go.bits .and .i64 a0_4 1) == 0)) else (some false))) else (if ((rd_T97 rowsL a0_0).f0).toList = ([85] : List UInt8) then ((bits_Fits.f a0_4 32).bind fun t117 => (if t117 = true then (some ((Go.bits .and .i64 a0_4 4095) == 0)) else (some false))) else (if ((rd_T97 rowsL a0_0).f0).toList = ([74] : List UInt8) then ((bits_Fits.f a0_4 21).bind fun t118 => (if t118 = true then (some ((Go.bits .and .i64 a0_4 1) == 0)) else (some false))) else (some (a0_4 == 0))))))) else (none)) else (none)) = some r := h
  clear h
  by_cases c2 : 0 ≤ a0_0
  · rw [if_pos c2] at H
    have c2b0 : decide (0 ≤ a0_0) = true := decide_eq_true c2
    clear c2
    by_cases c3 : a0_0 < 43
    · rw [if_pos c3] at H
      have c3b0 : decide (a0_0 < 43) = true := decide_eq_true c3
      clear c3
      by_cases c4 : ((rd_T97 rowsL a0_0).f0).toList = ([73] : List UInt8)
      · rw [if_pos c4] at H
        have c4b0 : (((rd_T97 rowsL a0_0).f0).toList == ([73] : List UInt8)) = true := beq_iff_eq.mpr c4
        have c4b1 : (((rd_T97 rowsL a0_0).f0).toList != ([73] : List UInt8)) = false := bne_eq_false_iff_eq.mpr c4
        clear c4
        replace H := Option.bind_eq_some_iff.mp H
        obtain ⟨t112, A50, H⟩ := H
        replace H : (if t112 = true then (if a0_4 ≥ 0 then ((bits_FitsU.f (IntKind.u64.wrap (a0_4)) 6).bind fun t113 => (some t113)) else (some false)) else ((bits_Fits.f a0_4 12).bind fun t114 => (some t114))) = some r := H
        have A5 := Aside0.mk A50
        clear A50
        by_cases c6 : t112 = true
        · subst c6
          have H1 : (if a0_4 ≥ 0 then ((bits_FitsU.f (IntKind.u64.wrap (a0_4)) 6).bind fun t113 => (some t113)) else (some false)) = some r := by rw [if_pos rfl] at H; exact H
          clear H
          have H := H1
          clear H1
          by_cases c7 : a0_4 ≥ 0
          · rw [if_pos c7] at H
            have c7b0 : decide (0 ≤ a0_4) = true := decide_eq_true c7
            clear c7
            replace H := Option.bind_eq_some_iff.mp H
            obtain ⟨t113, A80, H⟩ := H
            replace H : (some t113) = some r := H
            have A8 := Aside0.mk A80
            clear A80
            obtain rfl := Option.some.inj H
            go_enter Tryd.func80, Tryd.ntmps80
            go_wp2_with (first | ((with_reducible refine gate_dst (N := 1) rfl ?_); refine box_event ?hg (N := 1) ?hd (cs := #[.int .i64 a0_0, .int .i64 a0_1, .int .i64 a0_2, .int .i64 a0_3, .int .i64 a0_4]) (t := 43) ?hr ?_; (case hd => rfl); (case hg => rfl); (case hr => first | (go_simp; done) | (go_simp; rfl)); intro gb110 hg w9 hbox hb; have n0_ := Aside0.mk (below_step (by repeat (first | (with_reducible first | exact HB.out | apply below_alloc | apply pw_below_drewN | apply below_drew1) | exact HB.out)) hb); have n1_ := Aside0.mk (hbox); have n2_ := Aside0.mk ((by rw [hg]; exact (below_size (by repeat (first | (with_reducible first | exact HB.out | apply below_alloc | apply pw_below_drewN | apply below_drew1) | exact HB.out))) : w.heap.size ≤ gb110)); have n3_ := Aside0.mk ((by rw [hg]; exact (below_size (by repeat (first | (with_reducible first | exact HB.out | apply below_alloc | apply pw_below_drewN | apply below_drew1) | exact HB.out))) : w.heap.size ≤ gb110)); clear HB; have HB := n0_; have BK110 := n1_; have GW110 := n2_; have GE110 := n3_; clear n0_ n1_ n2_ n3_; clear hb hbox hg; have hcz10_0 : w9.cell? ⟨gb110, 0, none⟩ = some (.int .i64 a0_0) := (blk_cell BK110.out 0).trans rfl; have hcz10_1 : w9.cell? ⟨gb110, 1, none⟩ = some (.int .i64 a0_1) := (blk_cell BK110.out 1).trans rfl; have hcz10_2 : w9.cell? ⟨gb110, 2, none⟩ = some (.int .i64 a0_2) := (blk_cell BK110.out 2).trans rfl; have hcz10_3 : w9.cell? ⟨gb110, 3, none⟩ = some (.int .i64 a0_3) := (blk_cell BK110.out 3).trans rfl; have hcz10_4 : w9.cell? ⟨gb110, 4, none⟩ = some (.int .i64 a0_4) := (blk_cell BK110.out 4).trans rfl; have hfz10_0 := blk_frozen BK110.out 0; have hfz10_1 := blk_frozen BK110.out 1; have hfz10_2 := blk_frozen BK110.out 2; have hfz10_3 := blk_frozen BK110.out 3; have hfz10_4 := blk_frozen BK110.out 4; have p111 : 0 ≤ (a0_0 : Int) := of_decide_eq_true (by first | (with_reducible assumption) | assumption); have q111 : a0_0 < (rowsL.length : Int) := of_decide_eq_true (by first | (with_reducible assumption) | assumption); have ql111 : ((a0_0 : Int) < (43 : Int)) = True := eq_true (of_decide_eq_true (by first | (with_reducible assumption) | assumption)); obtain ⟨ad111, e111, hx111_0, hx111_1, hx111_2, hx111_3⟩ := at_T97 HRGrows.out a0_0 p111 q111; obtain rfl : (⟨0, 0, none⟩ : Addr) = ad111 := (by injection e111); (first | simp only [add_plain] at hx111_0 | simp only [add_at] at hx111_0 | simp only [Addr.add, Nat.zero_add] at hx111_0 | skip); (first | simp only [add_plain] at hx111_1 | simp only [add_at] at hx111_1 | simp only [Addr.add, Nat.zero_add] at hx111_1 | skip); (first | simp only [add_plain] at hx111_2 | simp only [add_at] at hx111_2 | simp only [Addr.add, Nat.zero_add] at hx111_2 | skip); (first | simp only [add_plain] at hx111_3 | simp only [add_at] at hx111_3 | simp only [Addr.add, Nat.zero_add] at hx111_3 | skip); replace hx111_0 := (HB.out.cell (World.block_lt_of_cell? w _ hx111_0)).trans hx111_0; replace hx111_1 := (HB.out.cell (World.block_lt_of_cell? w _ hx111_1)).trans hx111_1; replace hx111_2 := (HB.out.cell (World.block_lt_of_cell? w _ hx111_2)).trans hx111_2; replace hx111_3 := (HB.out.cell (World.block_lt_of_cell? w _ hx111_3)).trans hx111_3; replace p111 := eq_true p111; replace q111 := eq_true q111) | ((with_reducible refine gate_callee (f := 54) rfl ?_); refine goesL_ (some 12) rfl rfl Tryd.func54 (by kernel_rfl) rfl #[.int .i64 a0_0] rfl (by (try simp only [List.map_toArray, List.map_cons, List.map_nil]); first | done | rfl | (simp only [List.length_drop, List.length_take]; rfl)) ?_; (with_reducible refine (ins_shift.calls a0_0 true _ A5.out).mono ?_); rintro e w' ⟨rfl, ⟨nd, rfl⟩⟩; refine ⟨_, rfl, ?_⟩) | (go_at_call 97; (with_reducible refine (bits_FitsU.calls (IntKind.u64.wrap (a0_4)) 6 t113 _ A8.out).mono ?_); rintro e w' ⟨rfl, ⟨nd, rfl⟩⟩))
            go_ret
            exact ⟨by first | rfl | (simp [errW_none, errW_some] <;> rfl) | (simp [*, errW_none, errW_some] <;> rfl), by repeat (first | (with_reducible first | exact HB.out | apply below_alloc | apply pw_below_drewN | apply below_drew1 | refine below_set ?_ GE110.out) | exact HB.out)⟩
          · rw [if_neg c7] at H
            have c7b0 : decide (0 ≤ a0_4) = false := decide_eq_false c7
            clear c7
            obtain rfl := Option.some.inj H
            go_enter Tryd.func80, Tryd.ntmps80
            go_wp2_with (first | ((with_reducible refine gate_dst (N := 1) rfl ?_); refine box_event ?hg (N := 1) ?hd (cs := #[.int .i64 a0_0, .int .i64 a0_1, .int .i64 a0_2, .int .i64 a0_3, .int .i64 a0_4]) (t := 43) ?hr ?_; (case hd => rfl); (case hg => rfl); (case hr => first | (go_simp; done) | (go_simp; rfl)); intro gb110 hg w11 hbox hb; have n0_ := Aside0.mk (below_step (by repeat (first | (with_reducible first | exact HB.out | apply below_alloc | apply pw_below_drewN | apply below_drew1) | exact HB.out)) hb); have n1_ := Aside0.mk (hbox); have n2_ := Aside0.mk ((by rw [hg]; exact (below_size (by repeat (first | (with_reducible first | exact HB.out | apply below_alloc | apply pw_below_drewN | apply below_drew1) | exact HB.out))) : w.heap.size ≤ gb110)); have n3_ := Aside0.mk ((by rw [hg]; exact (below_size (by repeat (first | (with_reducible first | exact HB.out | apply below_alloc | apply pw_below_drewN | apply below_drew1) | exact HB.out))) : w.heap.size ≤ gb110)); clear HB; have HB := n0_; have BK110 := n1_; have GW110 := n2_; have GE110 := n3_; clear n0_ n1_ n2_ n3_; clear hb hbox hg; have hcz12_0 : w11.cell? ⟨gb110, 0, none⟩ = some (.int .i64 a0_0) := (blk_cell BK110.out 0).trans rfl; have hcz12_1 : w11.cell? ⟨gb110, 1, none⟩ = some (.int .i64 a0_1) := (blk_cell BK110.out 1).trans rfl; have hcz12_2 : w11.cell? ⟨gb110, 2, none⟩ = some (.int .i64 a0_2) := (blk_cell BK110.out 2).trans rfl; have hcz12_3 : w11.cell? ⟨gb110, 3, none⟩ = some (.int .i64 a0_3) := (blk_cell BK110.out 3).trans rfl; have hcz12_4 : w11.cell? ⟨gb110, 4, none⟩ = some (.int .i64 a0_4) := (blk_cell BK110.out 4).trans rfl; have hfz12_0 := blk_frozen BK110.out 0; have hfz12_1 := blk_frozen BK110.out 1; have hfz12_2 := blk_frozen BK110.out 2; have hfz12_3 := blk_frozen BK110.out 3; have hfz12_4 := blk_frozen BK110.out 4; have p111 : 0 ≤ (a0_0 : Int) := of_decide_eq_true (by first | (with_reducible assumption) | assumption); have q111 : a0_0 < (rowsL.length : Int) := of_decide_eq_true (by first | (with_reducible assumption) | assumption); have ql111 : ((a0_0 : Int) < (43 : Int)) = True := eq_true (of_decide_eq_true (by first | (with_reducible assumption) | assumption)); obtain ⟨ad111, e111, hx111_0, hx111_1, hx111_2, hx111_3⟩ := at_T97 HRGrows.out a0_0 p111 q111; obtain rfl : (⟨0, 0, none⟩ : Addr) = ad111 := (by injection e111); (first | simp only [add_plain] at hx111_0 | simp only [add_at] at hx111_0 | simp only [Addr.add, Nat.zero_add] at hx111_0 | skip); (first | simp only [add_plain] at hx111_1 | simp only [add_at] at hx111_1 | simp only [Addr.add, Nat.zero_add] at hx111_1 | skip); (first | simp only [add_plain] at hx111_2 | simp only [add_at] at hx111_2 | simp only [Addr.add, Nat.zero_add] at hx111_2 | skip); (first | simp only [add_plain] at hx111_3 | simp only [add_at] at hx111_3 | simp only [Addr.add, Nat.zero_add] at hx111_3 | skip); replace hx111_0 := (HB.out.cell (World.block_lt_of_cell? w _ hx111_0)).trans hx111_0; replace hx111_1 := (HB.out.cell (World.block_lt_of_cell? w _ hx111_1)).trans hx111_1; replace hx111_2 := (HB.out.cell (World.block_lt_of_cell? w _ hx111_2)).trans hx111_2; replace hx111_3 := (HB.out.cell (World.block_lt_of_cell? w _ hx111_3)).trans hx111_3; replace p111 := eq_true p111; replace q111 := eq_true q111) | ((with_reducible refine gate_callee (f := 54) rfl ?_); refine goesL_ (some 12) rfl rfl Tryd.func54 (by kernel_rfl) rfl #[.int .i64 a0_0] rfl (by (try simp only [List.map_toArray, List.map_cons, List.map_nil]); first | done | rfl | (simp only [List.length_drop, List.length_take]; rfl)) ?_; (with_reducible refine (ins_shift.calls a0_0 true _ A5.out).mono ?_); rintro e w' ⟨rfl, ⟨nd, rfl⟩⟩; refine ⟨_, rfl, ?_⟩))
            go_ret
            exact ⟨by first | rfl | (simp [errW_none, errW_some] <;> rfl) | (simp [*, errW_none, errW_some] <;> rfl), by repeat (first | (with_reducible first | exact HB.out | apply below_alloc | apply pw_below_drewN | apply below_drew1 | refine below_set ?_ GE110.out) | exact HB.out)⟩
        · replace c6 := Bool.eq_false_iff.mpr c6
          subst c6
          have H1 : ((bits_Fits.f a0_4 12).bind fun t114 => (some t114)) = some r := by rw [if_neg (show ¬ (false = true) by decide)] at H; exact H
          clear H
          have H := H1
          clear H1
          replace H := Option.bind_eq_some_iff.mp H
          obtain ⟨t114, A130, H⟩ := H
          replace H : (some t114) = some r := H
          have A13 := Aside0.mk A130
          clear A130
          obtain rfl := Option.some.inj H
          go_enter Tryd.func80, Tryd.ntmps80
          go_wp2_with (first | ((with_reducible refine gate_dst (N := 1) rfl ?_); refine box_event ?hg (N := 1) ?hd (cs := #[.int .i64 a0_0, .int .i64 a0_1, .int .i64 a0_2, .int .i64 a0_3, .int .i64 a0_4]) (t := 43) ?hr ?_; (case hd => rfl); (case hg => rfl); (case hr => first | (go_simp; done) | (go_simp; rfl)); intro gb110 hg w14 hbox hb; have n0_ := Aside0.mk (below_step (by repeat (first | (with_reducible first | exact HB.out | apply below_alloc | apply pw_below_drewN | apply below_drew1) | exact HB.out)) hb); have n1_ := Aside0.mk (hbox); have n2_ := Aside0.mk ((by rw [hg]; exact (below_size (by repeat (first | (with_reducible first | exact HB.out | apply below_alloc | apply pw_below_drewN | apply below_drew1) | exact HB.out))) : w.heap.size ≤ gb110)); have n3_ := Aside0.mk ((by rw [hg]; exact (below_size (by repeat (first | (with_reducible first | exact HB.out | apply below_alloc | apply pw_below_drewN | apply below_drew1) | exact HB.out))) : w.heap.size ≤ gb110)); clear HB; have HB := n0_; have BK110 := n1_; have GW110 := n2_; have GE110 := n3_; clear n0_ n1_ n2_ n3_; clear hb hbox hg; have hcz15_0 : w14.cell? ⟨gb110, 0, none⟩ = some (.int .i64 a0_0) := (blk_cell BK110.out 0).trans rfl; have hcz15_1 : w14.cell? ⟨gb110, 1, none⟩ = some (.int .i64 a0_1) := (blk_cell BK110.out 1).trans rfl; have hcz15_2 : w14.cell? ⟨gb110, 2, none⟩ = some (.int .i64 a0_2) := (blk_cell BK110.out 2).trans rfl; have hcz15_3 : w14.cell? ⟨gb110, 3, none⟩ = some (.int .i64 a0_3) := (blk_cell BK110.out 3).trans rfl; have hcz15_4 : w14.cell? ⟨gb110, 4, none⟩ = some (.int .i64 a0_4) := (blk_cell BK110.out 4).trans rfl; have hfz15_0 := blk_frozen BK110.out 0; have hfz15_1 := blk_frozen BK110.out 1; have hfz15_2 := blk_frozen BK110.out 2; have hfz15_3 := blk_frozen BK110.out 3; have hfz15_4 := blk_frozen BK110.out 4; have p111 : 0 ≤ (a0_0 : Int) := of_decide_eq_true (by first | (with_reducible assumption) | assumption); have q111 : a0_0 < (rowsL.length : Int) := of_decide_eq_true (by first | (with_reducible assumption) | assumption); have ql111 : ((a0_0 : Int) < (43 : Int)) = True := eq_true (of_decide_eq_true (by first | (with_reducible assumption) | assumption)); obtain ⟨ad111, e111, hx111_0, hx111_1, hx111_2, hx111_3⟩ := at_T97 HRGrows.out a0_0 p111 q111; obtain rfl : (⟨0, 0, none⟩ : Addr) = ad111 := (by injection e111); (first | simp only [add_plain] at hx111_0 | simp only [add_at] at hx111_0 | simp only [Addr.add, Nat.zero_add] at hx111_0 | skip); (first | simp only [add_plain] at hx111_1 | simp only [add_at] at hx111_1 | simp only [Addr.add, Nat.zero_add] at hx111_1 | skip); (first | simp only [add_plain] at hx111_2 | simp only [add_at] at hx111_2 | simp only [Addr.add, Nat.zero_add] at hx111_2 | skip); (first | simp only [add_plain] at hx111_3 | simp only [add_at] at hx111_3 | simp only [Addr.add, Nat.zero_add] at hx111_3 | skip); replace hx111_0 := (HB.out.cell (World.block_lt_of_cell? w _ hx111_0)).trans hx111_0; replace hx111_1 := (HB.out.cell (World.block_lt_of_cell? w _ hx111_1)).trans hx111_1; replace hx111_2 := (HB.out.cell (World.block_lt_of_cell? w _ hx111_2)).trans hx111_2; replace hx111_3 := (HB.out.cell (World.block_lt_of_cell? w _ hx111_3)).trans hx111_3; replace p111 := eq_true p111; replace q111 := eq_true q111) | ((with_reducible refine gate_callee (f := 54) rfl ?_); refine goesL_ (some 12) rfl rfl Tryd.func54 (by kernel_rfl) rfl #[.int .i64 a0_0] rfl (by (try simp only [List.map_toArray, List.map_cons, List.map_nil]); first | done | rfl | (simp only [List.length_drop, List.length_take]; rfl)) ?_; (with_reducible refine (ins_shift.calls a0_0 false _ A5.out).mono ?_); rintro e w' ⟨rfl, ⟨nd, rfl⟩⟩; refine ⟨_, rfl, ?_⟩) | ((with_reducible refine gate_callee (f := 98) rfl ?_); refine goesL_ (some 24) rfl rfl Tryd.func98 (by kernel_rfl) rfl #[.int .i64 a0_4, .int .i64 12] rfl (by (try simp only [List.map_toArray, List.map_cons, List.map_nil]); first | done | rfl | (simp only [List.length_drop, List.length_take]; rfl)) ?_; (with_reducible refine (bits_Fits.calls a0_4 12 t114 _ A13.out).mono ?_); rintro e w' ⟨rfl, ⟨nd, rfl⟩⟩; refine ⟨_, rfl, ?_⟩))
          go_ret
          exact ⟨by first | rfl | (simp [errW_none, errW_some] <;> rfl) | (simp [*, errW_none, errW_some] <;> rfl), by repeat (first | (with_reducible first | exact HB.out | apply below_alloc | apply pw_below_drewN | apply below_drew1 | refine below_set ?_ GE110.out) | exact HB.out)⟩
      · rw [if_neg c4] at H
        have c4b0 : (((rd_T97 rowsL a0_0).f0).toList == ([73] : List UInt8)) = false := beq_eq_false_iff_ne.mpr c4
        have c4b1 : (((rd_T97 rowsL a0_0).f0).toList != ([73] : List UInt8)) = true := bne_iff_ne.mpr c4
        by_cases c16 : ((rd_T97 rowsL a0_0).f0).toList = ([83] : List UInt8)
        · rw [if_pos c16] at H
          have c16b0 : (((rd_T97 rowsL a0_0).f0).toList == ([83] : List UInt8)) = true := beq_iff_eq.mpr c16
          have c16b1 : (((rd_T97 rowsL a0_0).f0).toList != ([83] : List UInt8)) = false := bne_eq_false_iff_eq.mpr c16
          clear c16
          replace H := Option.bind_eq_some_iff.mp H
          obtain ⟨t115, A170, H⟩ := H
          replace H : (some t115) = some r := H
          have A17 := Aside0.mk A170
          clear A170
          obtain rfl := Option.some.inj H
          go_enter Tryd.func80, Tryd.ntmps80
          go_wp2_with (first | ((with_reducible refine gate_dst (N := 1) rfl ?_); refine box_event ?hg (N := 1) ?hd (cs := #[.int .i64 a0_0, .int .i64 a0_1, .int .i64 a0_2, .int .i64 a0_3, .int .i64 a0_4]) (t := 43) ?hr ?_; (case hd => rfl); (case hg => rfl); (case hr => first | (go_simp; done) | (go_simp; rfl)); intro gb110 hg w18 hbox hb; have n0_ := Aside0.mk (below_step (by repeat (first | (with_reducible first | exact HB.out | apply below_alloc | apply pw_below_drewN | apply below_drew1) | exact HB.out)) hb); have n1_ := Aside0.mk (hbox); have n2_ := Aside0.mk ((by rw [hg]; exact (below_size (by repeat (first | (with_reducible first | exact HB.out | apply below_alloc | apply pw_below_drewN | apply below_drew1) | exact HB.out))) : w.heap.size ≤ gb110)); have n3_ := Aside0.mk ((by rw [hg]; exact (below_size (by repeat (first | (with_reducible first | exact HB.out | apply below_alloc | apply pw_below_drewN | apply below_drew1) | exact HB.out))) : w.heap.size ≤ gb110)); clear HB; have HB := n0_; have BK110 := n1_; have GW110 := n2_; have GE110 := n3_; clear n0_ n1_ n2_ n3_; clear hb hbox hg; have hcz19_0 : w18.cell? ⟨gb110, 0, none⟩ = some (.int .i64 a0_0) := (blk_cell BK110.out 0).trans rfl; have hcz19_1 : w18.cell? ⟨gb110, 1, none⟩ = some (.int .i64 a0_1) := (blk_cell BK110.out 1).trans rfl; have hcz19_2 : w18.cell? ⟨gb110, 2, none⟩ = some (.int .i64 a0_2) := (blk_cell BK110.out 2).trans rfl; have hcz19_3 : w18.cell? ⟨gb110, 3, none⟩ = some (.int .i64 a0_3) := (blk_cell BK110.out 3).trans rfl; have hcz19_4 : w18.cell? ⟨gb110, 4, none⟩ = some (.int .i64 a0_4) := (blk_cell BK110.out 4).trans rfl; have hfz19_0 := blk_frozen BK110.out 0; have hfz19_1 := blk_frozen BK110.out 1; have hfz19_2 := blk_frozen BK110.out 2; have hfz19_3 := blk_frozen BK110.out 3; have hfz19_4 := blk_frozen BK110.out 4; have p111 : 0 ≤ (a0_0 : Int) := of_decide_eq_true (by first | (with_reducible assumption) | assumption); have q111 : a0_0 < (rowsL.length : Int) := of_decide_eq_true (by first | (with_reducible assumption) | assumption); have ql111 : ((a0_0 : Int) < (43 : Int)) = True := eq_true (of_decide_eq_true (by first | (with_reducible assumption) | assumption)); obtain ⟨ad111, e111, hx111_0, hx111_1, hx111_2, hx111_3⟩ := at_T97 HRGrows.out a0_0 p111 q111; obtain rfl : (⟨0, 0, none⟩ : Addr) = ad111 := (by injection e111); (first | simp only [add_plain] at hx111_0 | simp only [add_at] at hx111_0 | simp only [Addr.add, Nat.zero_add] at hx111_0 | skip); (first | simp only [add_plain] at hx111_1 | simp only [add_at] at hx111_1 | simp only [Addr.add, Nat.zero_add] at hx111_1 | skip); (first | simp only [add_plain] at hx111_2 | simp only [add_at] at hx111_2 | simp only [Addr.add, Nat.zero_add] at hx111_2 | skip); (first | simp only [add_plain] at hx111_3 | simp only [add_at] at hx111_3 | simp only [Addr.add, Nat.zero_add] at hx111_3 | skip); replace hx111_0 := (HB.out.cell (World.block_lt_of_cell? w _ hx111_0)).trans hx111_0; replace hx111_1 := (HB.out.cell (World.block_lt_of_cell? w _ hx111_1)).trans hx111_1; replace hx111_2 := (HB.out.cell (World.block_lt_of_cell? w _ hx111_2)).trans hx111_2; replace hx111_3 := (HB.out.cell (World.block_lt_of_cell? w _ hx111_3)).trans hx111_3; replace p111 := eq_true p111; replace q111 := eq_true q111) | ((with_reducible refine gate_callee (f := 98) rfl ?_); refine goesL_ (some 29) rfl rfl Tryd.func98 (by kernel_rfl) rfl #[.int .i64 a0_4, .int .i64 12] rfl (by (try simp only [List.map_toArray, List.map_cons, List.map_nil]); first | done | rfl | (simp only [List.length_drop, List.length_take]; rfl)) ?_; (with_reducible refine (bits_Fits.calls a0_4 12 t115 _ A17.out).mono ?_); rintro e w' ⟨rfl, ⟨nd, rfl⟩⟩; refine ⟨_, rfl, ?_⟩))
          go_ret
          exact ⟨by first | rfl | (simp [errW_none, errW_some] <;> rfl) | (simp [*, errW_none, errW_some] <;> rfl), by repeat (first | (with_reducible first | exact HB.out | apply below_alloc | apply pw_below_drewN | apply below_drew1 | refine below_set ?_ GE110.out) | exact HB.out)⟩
        · rw [if_neg c16] at H
          have c16b0 : (((rd_T97 rowsL a0_0).f0).toList == ([83] : List UInt8)) = false := beq_eq_false_iff_ne.mpr c16
          have c16b1 : (((rd_T97 rowsL a0_0).f0).toList != ([83] : List UInt8)) = true := bne_iff_ne.mpr c16
          by_cases c20 : ((rd_T97 rowsL a0_0).f0).toList = ([66] : List UInt8)
          · rw [if_pos c20] at H
            have c20b0 : (((rd_T97 rowsL a0_0).f0).toList == ([66] : List UInt8)) = true := beq_iff_eq.mpr c20
            have c20b1 : (((rd_T97 rowsL a0_0).f0).toList != ([66] : List UInt8)) = false := bne_eq_false_iff_eq.mpr c20
            clear c20
            replace H := Option.bind_eq_some_iff.mp H
            obtain ⟨t116, A210, H⟩ := H
            replace H : (if t116 = true then (some ((Go.bits .and .i64 a0_4 1) == 0)) else (some false)) = some r := H
            have A21 := Aside0.mk A210
            clear A210
            by_cases c22 : t116 = true
            · subst c22
              have H1 : (some ((Go.bits .and .i64 a0_4 1) == 0)) = some r := by rw [if_pos rfl] at H; exact H
              clear H
              have H := H1
              clear H1
              obtain rfl := Option.some.inj H
              go_enter Tryd.func80, Tryd.ntmps80
              go_wp2_with (first | ((with_reducible refine gate_dst (N := 1) rfl ?_); refine box_event ?hg (N := 1) ?hd (cs := #[.int .i64 a0_0, .int .i64 a0_1, .int .i64 a0_2, .int .i64 a0_3, .int .i64 a0_4]) (t := 43) ?hr ?_; (case hd => rfl); (case hg => rfl); (case hr => first | (go_simp; done) | (go_simp; rfl)); intro gb110 hg w23 hbox hb; have n0_ := Aside0.mk (below_step (by repeat (first | (with_reducible first | exact HB.out | apply below_alloc | apply pw_below_drewN | apply below_drew1) | exact HB.out)) hb); have n1_ := Aside0.mk (hbox); have n2_ := Aside0.mk ((by rw [hg]; exact (below_size (by repeat (first | (with_reducible first | exact HB.out | apply below_alloc | apply pw_below_drewN | apply below_drew1) | exact HB.out))) : w.heap.size ≤ gb110)); have n3_ := Aside0.mk ((by rw [hg]; exact (below_size (by repeat (first | (with_reducible first | exact HB.out | apply below_alloc | apply pw_below_drewN | apply below_drew1) | exact HB.out))) : w.heap.size ≤ gb110)); clear HB; have HB := n0_; have BK110 := n1_; have GW110 := n2_; have GE110 := n3_; clear n0_ n1_ n2_ n3_; clear hb hbox hg; have hcz24_0 : w23.cell? ⟨gb110, 0, none⟩ = some (.int .i64 a0_0) := (blk_cell BK110.out 0).trans rfl; have hcz24_1 : w23.cell? ⟨gb110, 1, none⟩ = some (.int .i64 a0_1) := (blk_cell BK110.out 1).trans rfl; have hcz24_2 : w23.cell? ⟨gb110, 2, none⟩ = some (.int .i64 a0_2) := (blk_cell BK110.out 2).trans rfl; have hcz24_3 : w23.cell? ⟨gb110, 3, none⟩ = some (.int .i64 a0_3) := (blk_cell BK110.out 3).trans rfl; have hcz24_4 : w23.cell? ⟨gb110, 4, none⟩ = some (.int .i64 a0_4) := (blk_cell BK110.out 4).trans rfl; have hfz24_0 := blk_frozen BK110.out 0; have hfz24_1 := blk_frozen BK110.out 1; have hfz24_2 := blk_frozen BK110.out 2; have hfz24_3 := blk_frozen BK110.out 3; have hfz24_4 := blk_frozen BK110.out 4; have p111 : 0 ≤ (a0_0 : Int) := of_decide_eq_true (by first | (with_reducible assumption) | assumption); have q111 : a0_0 < (rowsL.length : Int) := of_decide_eq_true (by first | (with_reducible assumption) | assumption); have ql111 : ((a0_0 : Int) < (43 : Int)) = True := eq_true (of_decide_eq_true (by first | (with_reducible assumption) | assumption)); obtain ⟨ad111, e111, hx111_0, hx111_1, hx111_2, hx111_3⟩ := at_T97 HRGrows.out a0_0 p111 q111; obtain rfl : (⟨0, 0, none⟩ : Addr) = ad111 := (by injection e111); (first | simp only [add_plain] at hx111_0 | simp only [add_at] at hx111_0 | simp only [Addr.add, Nat.zero_add] at hx111_0 | skip); (first | simp only [add_plain] at hx111_1 | simp only [add_at] at hx111_1 | simp only [Addr.add, Nat.zero_add] at hx111_1 | skip); (first | simp only [add_plain] at hx111_2 | simp only [add_at] at hx111_2 | simp only [Addr.add, Nat.zero_add] at hx111_2 | skip); (first | simp only [add_plain] at hx111_3 | simp only [add_at] at hx111_3 | simp only [Addr.add, Nat.zero_add] at hx111_3 | skip); replace hx111_0 := (HB.out.cell (World.block_lt_of_cell? w _ hx111_0)).trans hx111_0; replace hx111_1 := (HB.out.cell (World.block_lt_of_cell? w _ hx111_1)).trans hx111_1; replace hx111_2 := (HB.out.cell (World.block_lt_of_cell? w _ hx111_2)).trans hx111_2; replace hx111_3 := (HB.out.cell (World.block_lt_of_cell? w _ hx111_3)).trans hx111_3; replace p111 := eq_true p111; replace q111 := eq_true q111) | ((with_reducible refine gate_callee (f := 98) rfl ?_); refine goesL_ (some 34) rfl rfl Tryd.func98 (by kernel_rfl) rfl #[.int .i64 a0_4, .int .i64 13] rfl (by (try simp only [List.map_toArray, List.map_cons, List.map_nil]); first | done | rfl | (simp only [List.length_drop, List.length_take]; rfl)) ?_; (with_reducible refine (bits_Fits.calls a0_4 13 true _ A21.out).mono ?_); rintro e w' ⟨rfl, ⟨nd, rfl⟩⟩; refine ⟨_, rfl, ?_⟩))
              go_ret
              exact ⟨by first | rfl | (simp [errW_none, errW_some] <;> rfl) | (simp [*, errW_none, errW_some] <;> rfl), by repeat (first | (with_reducible first | exact HB.out | apply below_alloc | apply pw_below_drewN | apply below_drew1 | refine below_set ?_ GE110.out) | exact HB.out)⟩
            · replace c22 := Bool.eq_false_iff.mpr c22
              subst c22
              have H1 : (some false) = some r := by rw [if_neg (show ¬ (false = true) by decide)] at H; exact H
              clear H
              have H := H1
              clear H1
              obtain rfl := Option.some.inj H
              go_enter Tryd.func80, Tryd.ntmps80
              go_wp2_with (first | ((with_reducible refine gate_dst (N := 1) rfl ?_); refine box_event ?hg (N := 1) ?hd (cs := #[.int .i64 a0_0, .int .i64 a0_1, .int .i64 a0_2, .int .i64 a0_3, .int .i64 a0_4]) (t := 43) ?hr ?_; (case hd => rfl); (case hg => rfl); (case hr => first | (go_simp; done) | (go_simp; rfl)); intro gb110 hg w25 hbox hb; have n0_ := Aside0.mk (below_step (by repeat (first | (with_reducible first | exact HB.out | apply below_alloc | apply pw_below_drewN | apply below_drew1) | exact HB.out)) hb); have n1_ := Aside0.mk (hbox); have n2_ := Aside0.mk ((by rw [hg]; exact (below_size (by repeat (first | (with_reducible first | exact HB.out | apply below_alloc | apply pw_below_drewN | apply below_drew1) | exact HB.out))) : w.heap.size ≤ gb110)); have n3_ := Aside0.mk ((by rw [hg]; exact (below_size (by repeat (first | (with_reducible first | exact HB.out | apply below_alloc | apply pw_below_drewN | apply below_drew1) | exact HB.out))) : w.heap.size ≤ gb110)); clear HB; have HB := n0_; have BK110 := n1_; have GW110 := n2_; have GE110 := n3_; clear n0_ n1_ n2_ n3_; clear hb hbox hg; have hcz26_0 : w25.cell? ⟨gb110, 0, none⟩ = some (.int .i64 a0_0) := (blk_cell BK110.out 0).trans rfl; have hcz26_1 : w25.cell? ⟨gb110, 1, none⟩ = some (.int .i64 a0_1) := (blk_cell BK110.out 1).trans rfl; have hcz26_2 : w25.cell? ⟨gb110, 2, none⟩ = some (.int .i64 a0_2) := (blk_cell BK110.out 2).trans rfl; have hcz26_3 : w25.cell? ⟨gb110, 3, none⟩ = some (.int .i64 a0_3) := (blk_cell BK110.out 3).trans rfl; have hcz26_4 : w25.cell? ⟨gb110, 4, none⟩ = some (.int .i64 a0_4) := (blk_cell BK110.out 4).trans rfl; have hfz26_0 := blk_frozen BK110.out 0; have hfz26_1 := blk_frozen BK110.out 1; have hfz26_2 := blk_frozen BK110.out 2; have hfz26_3 := blk_frozen BK110.out 3; have hfz26_4 := blk_frozen BK110.out 4; have p111 : 0 ≤ (a0_0 : Int) := of_decide_eq_true (by first | (with_reducible assumption) | assumption); have q111 : a0_0 < (rowsL.length : Int) := of_decide_eq_true (by first | (with_reducible assumption) | assumption); have ql111 : ((a0_0 : Int) < (43 : Int)) = True := eq_true (of_decide_eq_true (by first | (with_reducible assumption) | assumption)); obtain ⟨ad111, e111, hx111_0, hx111_1, hx111_2, hx111_3⟩ := at_T97 HRGrows.out a0_0 p111 q111; obtain rfl : (⟨0, 0, none⟩ : Addr) = ad111 := (by injection e111); (first | simp only [add_plain] at hx111_0 | simp only [add_at] at hx111_0 | simp only [Addr.add, Nat.zero_add] at hx111_0 | skip); (first | simp only [add_plain] at hx111_1 | simp only [add_at] at hx111_1 | simp only [Addr.add, Nat.zero_add] at hx111_1 | skip); (first | simp only [add_plain] at hx111_2 | simp only [add_at] at hx111_2 | simp only [Addr.add, Nat.zero_add] at hx111_2 | skip); (first | simp only [add_plain] at hx111_3 | simp only [add_at] at hx111_3 | simp only [Addr.add, Nat.zero_add] at hx111_3 | skip); replace hx111_0 := (HB.out.cell (World.block_lt_of_cell? w _ hx111_0)).trans hx111_0; replace hx111_1 := (HB.out.cell (World.block_lt_of_cell? w _ hx111_1)).trans hx111_1; replace hx111_2 := (HB.out.cell (World.block_lt_of_cell? w _ hx111_2)).trans hx111_2; replace hx111_3 := (HB.out.cell (World.block_lt_of_cell? w _ hx111_3)).trans hx111_3; replace p111 := eq_true p111; replace q111 := eq_true q111) | ((with_reducible refine gate_callee (f := 98) rfl ?_); refine goesL_ (some 34) rfl rfl Tryd.func98 (by kernel_rfl) rfl #[.int .i64 a0_4, .int .i64 13] rfl (by (try simp only [List.map_toArray, List.map_cons, List.map_nil]); first | done | rfl | (simp only [List.length_drop, List.length_take]; rfl)) ?_; (with_reducible refine (bits_Fits.calls a0_4 13 false _ A21.out).mono ?_); rintro e w' ⟨rfl, ⟨nd, rfl⟩⟩; refine ⟨_, rfl, ?_⟩))
              go_ret
              exact ⟨by first | rfl | (simp [errW_none, errW_some] <;> rfl) | (simp [*, errW_none, errW_some] <;> rfl), by repeat (first | (with_reducible first | exact HB.out | apply below_alloc | apply pw_below_drewN | apply below_drew1 | refine below_set ?_ GE110.out) | exact HB.out)⟩
          · rw [if_neg c20] at H
            have c20b0 : (((rd_T97 rowsL a0_0).f0).toList == ([66] : List UInt8)) = false := beq_eq_false_iff_ne.mpr c20
            have c20b1 : (((rd_T97 rowsL a0_0).f0).toList != ([66] : List UInt8)) = true := bne_iff_ne.mpr c20
            by_cases c27 : ((rd_T97 rowsL a0_0).f0).toList = ([85] : List UInt8)
            · rw [if_pos c27] at H
              have c27b0 : (((rd_T97 rowsL a0_0).f0).toList == ([85] : List UInt8)) = true := beq_iff_eq.mpr c27
              have c27b1 : (((rd_T97 rowsL a0_0).f0).toList != ([85] : List UInt8)) = false := bne_eq_false_iff_eq.mpr c27
              clear c27
              replace H := Option.bind_eq_some_iff.mp H
              obtain ⟨t117, A280, H⟩ := H
              replace H : (if t117 = true then (some ((Go.bits .and .i64 a0_4 4095) == 0)) else (some false)) = some r := H
              have A28 := Aside0.mk A280
              clear A280
              by_cases c29 : t117 = true
              · subst c29
                have H1 : (some ((Go.bits .and .i64 a0_4 4095) == 0)) = some r := by rw [if_pos rfl] at H; exact H
                clear H
                have H := H1
                clear H1
                obtain rfl := Option.some.inj H
                go_enter Tryd.func80, Tryd.ntmps80
                go_wp2_with (first | ((with_reducible refine gate_dst (N := 1) rfl ?_); refine box_event ?hg (N := 1) ?hd (cs := #[.int .i64 a0_0, .int .i64 a0_1, .int .i64 a0_2, .int .i64 a0_3, .int .i64 a0_4]) (t := 43) ?hr ?_; (case hd => rfl); (case hg => rfl); (case hr => first | (go_simp; done) | (go_simp; rfl)); intro gb110 hg w30 hbox hb; have n0_ := Aside0.mk (below_step (by repeat (first | (with_reducible first | exact HB.out | apply below_alloc | apply pw_below_drewN | apply below_drew1) | exact HB.out)) hb); have n1_ := Aside0.mk (hbox); have n2_ := Aside0.mk ((by rw [hg]; exact (below_size (by repeat (first | (with_reducible first | exact HB.out | apply below_alloc | apply pw_below_drewN | apply below_drew1) | exact HB.out))) : w.heap.size ≤ gb110)); have n3_ := Aside0.mk ((by rw [hg]; exact (below_size (by repeat (first | (with_reducible first | exact HB.out | apply below_alloc | apply pw_below_drewN | apply below_drew1) | exact HB.out))) : w.heap.size ≤ gb110)); clear HB; have HB := n0_; have BK110 := n1_; have GW110 := n2_; have GE110 := n3_; clear n0_ n1_ n2_ n3_; clear hb hbox hg; have hcz31_0 : w30.cell? ⟨gb110, 0, none⟩ = some (.int .i64 a0_0) := (blk_cell BK110.out 0).trans rfl; have hcz31_1 : w30.cell? ⟨gb110, 1, none⟩ = some (.int .i64 a0_1) := (blk_cell BK110.out 1).trans rfl; have hcz31_2 : w30.cell? ⟨gb110, 2, none⟩ = some (.int .i64 a0_2) := (blk_cell BK110.out 2).trans rfl; have hcz31_3 : w30.cell? ⟨gb110, 3, none⟩ = some (.int .i64 a0_3) := (blk_cell BK110.out 3).trans rfl; have hcz31_4 : w30.cell? ⟨gb110, 4, none⟩ = some (.int .i64 a0_4) := (blk_cell BK110.out 4).trans rfl; have hfz31_0 := blk_frozen BK110.out 0; have hfz31_1 := blk_frozen BK110.out 1; have hfz31_2 := blk_frozen BK110.out 2; have hfz31_3 := blk_frozen BK110.out 3; have hfz31_4 := blk_frozen BK110.out 4; have p111 : 0 ≤ (a0_0 : Int) := of_decide_eq_true (by first | (with_reducible assumption) | assumption); have q111 : a0_0 < (rowsL.length : Int) := of_decide_eq_true (by first | (with_reducible assumption) | assumption); have ql111 : ((a0_0 : Int) < (43 : Int)) = True := eq_true (of_decide_eq_true (by first | (with_reducible assumption) | assumption)); obtain ⟨ad111, e111, hx111_0, hx111_1, hx111_2, hx111_3⟩ := at_T97 HRGrows.out a0_0 p111 q111; obtain rfl : (⟨0, 0, none⟩ : Addr) = ad111 := (by injection e111); (first | simp only [add_plain] at hx111_0 | simp only [add_at] at hx111_0 | simp only [Addr.add, Nat.zero_add] at hx111_0 | skip); (first | simp only [add_plain] at hx111_1 | simp only [add_at] at hx111_1 | simp only [Addr.add, Nat.zero_add] at hx111_1 | skip); (first | simp only [add_plain] at hx111_2 | simp only [add_at] at hx111_2 | simp only [Addr.add, Nat.zero_add] at hx111_2 | skip); (first | simp only [add_plain] at hx111_3 | simp only [add_at] at hx111_3 | simp only [Addr.add, Nat.zero_add] at hx111_3 | skip); replace hx111_0 := (HB.out.cell (World.block_lt_of_cell? w _ hx111_0)).trans hx111_0; replace hx111_1 := (HB.out.cell (World.block_lt_of_cell? w _ hx111_1)).trans hx111_1; replace hx111_2 := (HB.out.cell (World.block_lt_of_cell? w _ hx111_2)).trans hx111_2; replace hx111_3 := (HB.out.cell (World.block_lt_of_cell? w _ hx111_3)).trans hx111_3; replace p111 := eq_true p111; replace q111 := eq_true q111) | ((with_reducible refine gate_callee (f := 98) rfl ?_); refine goesL_ (some 45) rfl rfl Tryd.func98 (by kernel_rfl) rfl #[.int .i64 a0_4, .int .i64 32] rfl (by (try simp only [List.map_toArray, List.map_cons, List.map_nil]); first | done | rfl | (simp only [List.length_drop, List.length_take]; rfl)) ?_; (with_reducible refine (bits_Fits.calls a0_4 32 true _ A28.out).mono ?_); rintro e w' ⟨rfl, ⟨nd, rfl⟩⟩; refine ⟨_, rfl, ?_⟩))
                go_ret
                exact ⟨by first | rfl | (simp [errW_none, errW_some] <;> rfl) | (simp [*, errW_none, errW_some] <;> rfl), by repeat (first | (with_reducible first | exact HB.out | apply below_alloc | apply pw_below_drewN | apply below_drew1 | refine below_set ?_ GE110.out) | exact HB.out)⟩
              · replace c29 := Bool.eq_false_iff.mpr c29
                subst c29
                have H1 : (some false) = some r := by rw [if_neg (show ¬ (false = true) by decide)] at H; exact H
                clear H
                have H := H1
                clear H1
                obtain rfl := Option.some.inj H
                go_enter Tryd.func80, Tryd.ntmps80
                go_wp2_with (first | ((with_reducible refine gate_dst (N := 1) rfl ?_); refine box_event ?hg (N := 1) ?hd (cs := #[.int .i64 a0_0, .int .i64 a0_1, .int .i64 a0_2, .int .i64 a0_3, .int .i64 a0_4]) (t := 43) ?hr ?_; (case hd => rfl); (case hg => rfl); (case hr => first | (go_simp; done) | (go_simp; rfl)); intro gb110 hg w32 hbox hb; have n0_ := Aside0.mk (below_step (by repeat (first | (with_reducible first | exact HB.out | apply below_alloc | apply pw_below_drewN | apply below_drew1) | exact HB.out)) hb); have n1_ := Aside0.mk (hbox); have n2_ := Aside0.mk ((by rw [hg]; exact (below_size (by repeat (first | (with_reducible first | exact HB.out | apply below_alloc | apply pw_below_drewN | apply below_drew1) | exact HB.out))) : w.heap.size ≤ gb110)); have n3_ := Aside0.mk ((by rw [hg]; exact (below_size (by repeat (first | (with_reducible first | exact HB.out | apply below_alloc | apply pw_below_drewN | apply below_drew1) | exact HB.out))) : w.heap.size ≤ gb110)); clear HB; have HB := n0_; have BK110 := n1_; have GW110 := n2_; have GE110 := n3_; clear n0_ n1_ n2_ n3_; clear hb hbox hg; have hcz33_0 : w32.cell? ⟨gb110, 0, none⟩ = some (.int .i64 a0_0) := (blk_cell BK110.out 0).trans rfl; have hcz33_1 : w32.cell? ⟨gb110, 1, none⟩ = some (.int .i64 a0_1) := (blk_cell BK110.out 1).trans rfl; have hcz33_2 : w32.cell? ⟨gb110, 2, none⟩ = some (.int .i64 a0_2) := (blk_cell BK110.out 2).trans rfl; have hcz33_3 : w32.cell? ⟨gb110, 3, none⟩ = some (.int .i64 a0_3) := (blk_cell BK110.out 3).trans rfl; have hcz33_4 : w32.cell? ⟨gb110, 4, none⟩ = some (.int .i64 a0_4) := (blk_cell BK110.out 4).trans rfl; have hfz33_0 := blk_frozen BK110.out 0; have hfz33_1 := blk_frozen BK110.out 1; have hfz33_2 := blk_frozen BK110.out 2; have hfz33_3 := blk_frozen BK110.out 3; have hfz33_4 := blk_frozen BK110.out 4; have p111 : 0 ≤ (a0_0 : Int) := of_decide_eq_true (by first | (with_reducible assumption) | assumption); have q111 : a0_0 < (rowsL.length : Int) := of_decide_eq_true (by first | (with_reducible assumption) | assumption); have ql111 : ((a0_0 : Int) < (43 : Int)) = True := eq_true (of_decide_eq_true (by first | (with_reducible assumption) | assumption)); obtain ⟨ad111, e111, hx111_0, hx111_1, hx111_2, hx111_3⟩ := at_T97 HRGrows.out a0_0 p111 q111; obtain rfl : (⟨0, 0, none⟩ : Addr) = ad111 := (by injection e111); (first | simp only [add_plain] at hx111_0 | simp only [add_at] at hx111_0 | simp only [Addr.add, Nat.zero_add] at hx111_0 | skip); (first | simp only [add_plain] at hx111_1 | simp only [add_at] at hx111_1 | simp only [Addr.add, Nat.zero_add] at hx111_1 | skip); (first | simp only [add_plain] at hx111_2 | simp only [add_at] at hx111_2 | simp only [Addr.add, Nat.zero_add] at hx111_2 | skip); (first | simp only [add_plain] at hx111_3 | simp only [add_at] at hx111_3 | simp only [Addr.add, Nat.zero_add] at hx111_3 | skip); replace hx111_0 := (HB.out.cell (World.block_lt_of_cell? w _ hx111_0)).trans hx111_0; replace hx111_1 := (HB.out.cell (World.block_lt_of_cell? w _ hx111_1)).trans hx111_1; replace hx111_2 := (HB.out.cell (World.block_lt_of_cell? w _ hx111_2)).trans hx111_2; replace hx111_3 := (HB.out.cell (World.block_lt_of_cell? w _ hx111_3)).trans hx111_3; replace p111 := eq_true p111; replace q111 := eq_true q111) | ((with_reducible refine gate_callee (f := 98) rfl ?_); refine goesL_ (some 45) rfl rfl Tryd.func98 (by kernel_rfl) rfl #[.int .i64 a0_4, .int .i64 32] rfl (by (try simp only [List.map_toArray, List.map_cons, List.map_nil]); first | done | rfl | (simp only [List.length_drop, List.length_take]; rfl)) ?_; (with_reducible refine (bits_Fits.calls a0_4 32 false _ A28.out).mono ?_); rintro e w' ⟨rfl, ⟨nd, rfl⟩⟩; refine ⟨_, rfl, ?_⟩))
                go_ret
                exact ⟨by first | rfl | (simp [errW_none, errW_some] <;> rfl) | (simp [*, errW_none, errW_some] <;> rfl), by repeat (first | (with_reducible first | exact HB.out | apply below_alloc | apply pw_below_drewN | apply below_drew1 | refine below_set ?_ GE110.out) | exact HB.out)⟩
            · rw [if_neg c27] at H
              have c27b0 : (((rd_T97 rowsL a0_0).f0).toList == ([85] : List UInt8)) = false := beq_eq_false_iff_ne.mpr c27
              have c27b1 : (((rd_T97 rowsL a0_0).f0).toList != ([85] : List UInt8)) = true := bne_iff_ne.mpr c27
              by_cases c34 : ((rd_T97 rowsL a0_0).f0).toList = ([74] : List UInt8)
              · rw [if_pos c34] at H
                have c34b0 : (((rd_T97 rowsL a0_0).f0).toList == ([74] : List UInt8)) = true := beq_iff_eq.mpr c34
                have c34b1 : (((rd_T97 rowsL a0_0).f0).toList != ([74] : List UInt8)) = false := bne_eq_false_iff_eq.mpr c34
                clear c34
                replace H := Option.bind_eq_some_iff.mp H
                obtain ⟨t118, A350, H⟩ := H
                replace H : (if t118 = true then (some ((Go.bits .and .i64 a0_4 1) == 0)) else (some false)) = some r := H
                have A35 := Aside0.mk A350
                clear A350
                by_cases c36 : t118 = true
                · subst c36
                  have H1 : (some ((Go.bits .and .i64 a0_4 1) == 0)) = some r := by rw [if_pos rfl] at H; exact H
                  clear H
                  have H := H1
                  clear H1
                  obtain rfl := Option.some.inj H
                  go_enter Tryd.func80, Tryd.ntmps80
                  go_wp2_with (first | ((with_reducible refine gate_dst (N := 1) rfl ?_); refine box_event ?hg (N := 1) ?hd (cs := #[.int .i64 a0_0, .int .i64 a0_1, .int .i64 a0_2, .int .i64 a0_3, .int .i64 a0_4]) (t := 43) ?hr ?_; (case hd => rfl); (case hg => rfl); (case hr => first | (go_simp; done) | (go_simp; rfl)); intro gb110 hg w37 hbox hb; have n0_ := Aside0.mk (below_step (by repeat (first | (with_reducible first | exact HB.out | apply below_alloc | apply pw_below_drewN | apply below_drew1) | exact HB.out)) hb); have n1_ := Aside0.mk (hbox); have n2_ := Aside0.mk ((by rw [hg]; exact (below_size (by repeat (first | (with_reducible first | exact HB.out | apply below_alloc | apply pw_below_drewN | apply below_drew1) | exact HB.out))) : w.heap.size ≤ gb110)); have n3_ := Aside0.mk ((by rw [hg]; exact (below_size (by repeat (first | (with_reducible first | exact HB.out | apply below_alloc | apply pw_below_drewN | apply below_drew1) | exact HB.out))) : w.heap.size ≤ gb110)); clear HB; have HB := n0_; have BK110 := n1_; have GW110 := n2_; have GE110 := n3_; clear n0_ n1_ n2_ n3_; clear hb hbox hg; have hcz38_0 : w37.cell? ⟨gb110, 0, none⟩ = some (.int .i64 a0_0) := (blk_cell BK110.out 0).trans rfl; have hcz38_1 : w37.cell? ⟨gb110, 1, none⟩ = some (.int .i64 a0_1) := (blk_cell BK110.out 1).trans rfl; have hcz38_2 : w37.cell? ⟨gb110, 2, none⟩ = some (.int .i64 a0_2) := (blk_cell BK110.out 2).trans rfl; have hcz38_3 : w37.cell? ⟨gb110, 3, none⟩ = some (.int .i64 a0_3) := (blk_cell BK110.out 3).trans rfl; have hcz38_4 : w37.cell? ⟨gb110, 4, none⟩ = some (.int .i64 a0_4) := (blk_cell BK110.out 4).trans rfl; have hfz38_0 := blk_frozen BK110.out 0; have hfz38_1 := blk_frozen BK110.out 1; have hfz38_2 := blk_frozen BK110.out 2; have hfz38_3 := blk_frozen BK110.out 3; have hfz38_4 := blk_frozen BK110.out 4; have p111 : 0 ≤ (a0_0 : Int) := of_decide_eq_true (by first | (with_reducible assumption) | assumption); have q111 : a0_0 < (rowsL.length : Int) := of_decide_eq_true (by first | (with_reducible assumption) | assumption); have ql111 : ((a0_0 : Int) < (43 : Int)) = True := eq_true (of_decide_eq_true (by first | (with_reducible assumption) | assumption)); obtain ⟨ad111, e111, hx111_0, hx111_1, hx111_2, hx111_3⟩ := at_T97 HRGrows.out a0_0 p111 q111; obtain rfl : (⟨0, 0, none⟩ : Addr) = ad111 := (by injection e111); (first | simp only [add_plain] at hx111_0 | simp only [add_at] at hx111_0 | simp only [Addr.add, Nat.zero_add] at hx111_0 | skip); (first | simp only [add_plain] at hx111_1 | simp only [add_at] at hx111_1 | simp only [Addr.add, Nat.zero_add] at hx111_1 | skip); (first | simp only [add_plain] at hx111_2 | simp only [add_at] at hx111_2 | simp only [Addr.add, Nat.zero_add] at hx111_2 | skip); (first | simp only [add_plain] at hx111_3 | simp only [add_at] at hx111_3 | simp only [Addr.add, Nat.zero_add] at hx111_3 | skip); replace hx111_0 := (HB.out.cell (World.block_lt_of_cell? w _ hx111_0)).trans hx111_0; replace hx111_1 := (HB.out.cell (World.block_lt_of_cell? w _ hx111_1)).trans hx111_1; replace hx111_2 := (HB.out.cell (World.block_lt_of_cell? w _ hx111_2)).trans hx111_2; replace hx111_3 := (HB.out.cell (World.block_lt_of_cell? w _ hx111_3)).trans hx111_3; replace p111 := eq_true p111; replace q111 := eq_true q111) | ((with_reducible refine gate_callee (f := 98) rfl ?_); refine goesL_ (some 56) rfl rfl Tryd.func98 (by kernel_rfl) rfl #[.int .i64 a0_4, .int .i64 21] rfl (by (try simp only [List.map_toArray, List.map_cons, List.map_nil]); first | done | rfl | (simp only [List.length_drop, List.length_take]; rfl)) ?_; (with_reducible refine (bits_Fits.calls a0_4 21 true _ A35.out).mono ?_); rintro e w' ⟨rfl, ⟨nd, rfl⟩⟩; refine ⟨_, rfl, ?_⟩))
                  go_ret
                  exact ⟨by first | rfl | (simp [errW_none, errW_some] <;> rfl) | (simp [*, errW_none, errW_some] <;> rfl), by repeat (first | (with_reducible first | exact HB.out | apply below_alloc | apply pw_below_drewN | apply below_drew1 | refine below_set ?_ GE110.out) | exact HB.out)⟩
                · replace c36 := Bool.eq_false_iff.mpr c36
                  subst c36
                  have H1 : (some false) = some r := by rw [if_neg (show ¬ (false = true) by decide)] at H; exact H
                  clear H
                  have H := H1
                  clear H1
                  obtain rfl := Option.some.inj H
                  go_enter Tryd.func80, Tryd.ntmps80
                  go_wp2_with (first | ((with_reducible refine gate_dst (N := 1) rfl ?_); refine box_event ?hg (N := 1) ?hd (cs := #[.int .i64 a0_0, .int .i64 a0_1, .int .i64 a0_2, .int .i64 a0_3, .int .i64 a0_4]) (t := 43) ?hr ?_; (case hd => rfl); (case hg => rfl); (case hr => first | (go_simp; done) | (go_simp; rfl)); intro gb110 hg w39 hbox hb; have n0_ := Aside0.mk (below_step (by repeat (first | (with_reducible first | exact HB.out | apply below_alloc | apply pw_below_drewN | apply below_drew1) | exact HB.out)) hb); have n1_ := Aside0.mk (hbox); have n2_ := Aside0.mk ((by rw [hg]; exact (below_size (by repeat (first | (with_reducible first | exact HB.out | apply below_alloc | apply pw_below_drewN | apply below_drew1) | exact HB.out))) : w.heap.size ≤ gb110)); have n3_ := Aside0.mk ((by rw [hg]; exact (below_size (by repeat (first | (with_reducible first | exact HB.out | apply below_alloc | apply pw_below_drewN | apply below_drew1) | exact HB.out))) : w.heap.size ≤ gb110)); clear HB; have HB := n0_; have BK110 := n1_; have GW110 := n2_; have GE110 := n3_; clear n0_ n1_ n2_ n3_; clear hb hbox hg; have hcz40_0 : w39.cell? ⟨gb110, 0, none⟩ = some (.int .i64 a0_0) := (blk_cell BK110.out 0).trans rfl; have hcz40_1 : w39.cell? ⟨gb110, 1, none⟩ = some (.int .i64 a0_1) := (blk_cell BK110.out 1).trans rfl; have hcz40_2 : w39.cell? ⟨gb110, 2, none⟩ = some (.int .i64 a0_2) := (blk_cell BK110.out 2).trans rfl; have hcz40_3 : w39.cell? ⟨gb110, 3, none⟩ = some (.int .i64 a0_3) := (blk_cell BK110.out 3).trans rfl; have hcz40_4 : w39.cell? ⟨gb110, 4, none⟩ = some (.int .i64 a0_4) := (blk_cell BK110.out 4).trans rfl; have hfz40_0 := blk_frozen BK110.out 0; have hfz40_1 := blk_frozen BK110.out 1; have hfz40_2 := blk_frozen BK110.out 2; have hfz40_3 := blk_frozen BK110.out 3; have hfz40_4 := blk_frozen BK110.out 4; have p111 : 0 ≤ (a0_0 : Int) := of_decide_eq_true (by first | (with_reducible assumption) | assumption); have q111 : a0_0 < (rowsL.length : Int) := of_decide_eq_true (by first | (with_reducible assumption) | assumption); have ql111 : ((a0_0 : Int) < (43 : Int)) = True := eq_true (of_decide_eq_true (by first | (with_reducible assumption) | assumption)); obtain ⟨ad111, e111, hx111_0, hx111_1, hx111_2, hx111_3⟩ := at_T97 HRGrows.out a0_0 p111 q111; obtain rfl : (⟨0, 0, none⟩ : Addr) = ad111 := (by injection e111); (first | simp only [add_plain] at hx111_0 | simp only [add_at] at hx111_0 | simp only [Addr.add, Nat.zero_add] at hx111_0 | skip); (first | simp only [add_plain] at hx111_1 | simp only [add_at] at hx111_1 | simp only [Addr.add, Nat.zero_add] at hx111_1 | skip); (first | simp only [add_plain] at hx111_2 | simp only [add_at] at hx111_2 | simp only [Addr.add, Nat.zero_add] at hx111_2 | skip); (first | simp only [add_plain] at hx111_3 | simp only [add_at] at hx111_3 | simp only [Addr.add, Nat.zero_add] at hx111_3 | skip); replace hx111_0 := (HB.out.cell (World.block_lt_of_cell? w _ hx111_0)).trans hx111_0; replace hx111_1 := (HB.out.cell (World.block_lt_of_cell? w _ hx111_1)).trans hx111_1; replace hx111_2 := (HB.out.cell (World.block_lt_of_cell? w _ hx111_2)).trans hx111_2; replace hx111_3 := (HB.out.cell (World.block_lt_of_cell? w _ hx111_3)).trans hx111_3; replace p111 := eq_true p111; replace q111 := eq_true q111) | ((with_reducible refine gate_callee (f := 98) rfl ?_); refine goesL_ (some 56) rfl rfl Tryd.func98 (by kernel_rfl) rfl #[.int .i64 a0_4, .int .i64 21] rfl (by (try simp only [List.map_toArray, List.map_cons, List.map_nil]); first | done | rfl | (simp only [List.length_drop, List.length_take]; rfl)) ?_; (with_reducible refine (bits_Fits.calls a0_4 21 false _ A35.out).mono ?_); rintro e w' ⟨rfl, ⟨nd, rfl⟩⟩; refine ⟨_, rfl, ?_⟩))
                  go_ret
                  exact ⟨by first | rfl | (simp [errW_none, errW_some] <;> rfl) | (simp [*, errW_none, errW_some] <;> rfl), by repeat (first | (with_reducible first | exact HB.out | apply below_alloc | apply pw_below_drewN | apply below_drew1 | refine below_set ?_ GE110.out) | exact HB.out)⟩
              · rw [if_neg c34] at H
                have c34b0 : (((rd_T97 rowsL a0_0).f0).toList == ([74] : List UInt8)) = false := beq_eq_false_iff_ne.mpr c34
                have c34b1 : (((rd_T97 rowsL a0_0).f0).toList != ([74] : List UInt8)) = true := bne_iff_ne.mpr c34
                obtain rfl := Option.some.inj H
                go_enter Tryd.func80, Tryd.ntmps80
                go_wp2_with (first | ((with_reducible refine gate_dst (N := 1) rfl ?_); refine box_event ?hg (N := 1) ?hd (cs := #[.int .i64 a0_0, .int .i64 a0_1, .int .i64 a0_2, .int .i64 a0_3, .int .i64 a0_4]) (t := 43) ?hr ?_; (case hd => rfl); (case hg => rfl); (case hr => first | (go_simp; done) | (go_simp; rfl)); intro gb110 hg w41 hbox hb; have n0_ := Aside0.mk (below_step (by repeat (first | (with_reducible first | exact HB.out | apply below_alloc | apply pw_below_drewN | apply below_drew1) | exact HB.out)) hb); have n1_ := Aside0.mk (hbox); have n2_ := Aside0.mk ((by rw [hg]; exact (below_size (by repeat (first | (with_reducible first | exact HB.out | apply below_alloc | apply pw_below_drewN | apply below_drew1) | exact HB.out))) : w.heap.size ≤ gb110)); have n3_ := Aside0.mk ((by rw [hg]; exact (below_size (by repeat (first | (with_reducible first | exact HB.out | apply below_alloc | apply pw_below_drewN | apply below_drew1) | exact HB.out))) : w.heap.size ≤ gb110)); clear HB; have HB := n0_; have BK110 := n1_; have GW110 := n2_; have GE110 := n3_; clear n0_ n1_ n2_ n3_; clear hb hbox hg; have hcz42_0 : w41.cell? ⟨gb110, 0, none⟩ = some (.int .i64 a0_0) := (blk_cell BK110.out 0).trans rfl; have hcz42_1 : w41.cell? ⟨gb110, 1, none⟩ = some (.int .i64 a0_1) := (blk_cell BK110.out 1).trans rfl; have hcz42_2 : w41.cell? ⟨gb110, 2, none⟩ = some (.int .i64 a0_2) := (blk_cell BK110.out 2).trans rfl; have hcz42_3 : w41.cell? ⟨gb110, 3, none⟩ = some (.int .i64 a0_3) := (blk_cell BK110.out 3).trans rfl; have hcz42_4 : w41.cell? ⟨gb110, 4, none⟩ = some (.int .i64 a0_4) := (blk_cell BK110.out 4).trans rfl; have hfz42_0 := blk_frozen BK110.out 0; have hfz42_1 := blk_frozen BK110.out 1; have hfz42_2 := blk_frozen BK110.out 2; have hfz42_3 := blk_frozen BK110.out 3; have hfz42_4 := blk_frozen BK110.out 4; have p111 : 0 ≤ (a0_0 : Int) := of_decide_eq_true (by first | (with_reducible assumption) | assumption); have q111 : a0_0 < (rowsL.length : Int) := of_decide_eq_true (by first | (with_reducible assumption) | assumption); have ql111 : ((a0_0 : Int) < (43 : Int)) = True := eq_true (of_decide_eq_true (by first | (with_reducible assumption) | assumption)); obtain ⟨ad111, e111, hx111_0, hx111_1, hx111_2, hx111_3⟩ := at_T97 HRGrows.out a0_0 p111 q111; obtain rfl : (⟨0, 0, none⟩ : Addr) = ad111 := (by injection e111); (first | simp only [add_plain] at hx111_0 | simp only [add_at] at hx111_0 | simp only [Addr.add, Nat.zero_add] at hx111_0 | skip); (first | simp only [add_plain] at hx111_1 | simp only [add_at] at hx111_1 | simp only [Addr.add, Nat.zero_add] at hx111_1 | skip); (first | simp only [add_plain] at hx111_2 | simp only [add_at] at hx111_2 | simp only [Addr.add, Nat.zero_add] at hx111_2 | skip); (first | simp only [add_plain] at hx111_3 | simp only [add_at] at hx111_3 | simp only [Addr.add, Nat.zero_add] at hx111_3 | skip); replace hx111_0 := (HB.out.cell (World.block_lt_of_cell? w _ hx111_0)).trans hx111_0; replace hx111_1 := (HB.out.cell (World.block_lt_of_cell? w _ hx111_1)).trans hx111_1; replace hx111_2 := (HB.out.cell (World.block_lt_of_cell? w _ hx111_2)).trans hx111_2; replace hx111_3 := (HB.out.cell (World.block_lt_of_cell? w _ hx111_3)).trans hx111_3; replace p111 := eq_true p111; replace q111 := eq_true q111))
                go_ret
                exact ⟨by first | rfl | (simp [errW_none, errW_some] <;> rfl) | (simp [*, errW_none, errW_some] <;> rfl), by repeat (first | (with_reducible first | exact HB.out | apply below_alloc | apply pw_below_drewN | apply below_drew1 | refine below_set ?_ GE110.out) | exact HB.out)⟩
    · rw [if_neg c3] at H
      exact absurd H (by simp)
  · rw [if_neg c2] at H
    exact absurd H (by simp)
end Go.Proofs.YtaoajlaocphgdaaDoor.PA
end
section
namespace Go.Proofs.YtaoajlaocphgdaaDoor.PA
open Go.RowKit Go.Proofs.YtaoajlaocphgdaaDoorW.PrintWords Go.Proofs.YtaoajlaocphgdaaDoorW.PrintLast Go.Proofs.YtaoajlaocphgdaaDoorW.PrintMore
attribute [local go_sem] max2_int min2_int max_two min_two max_three min_three max_four min_four   -- for this text's walks alone
set_option linter.unusedVariables false
set_option linter.unusedSimpArgs false
def ins_May.f (k : Nat) (a0_0 : Int) (a0_1 : Int) (a0_2 : Int) (a0_3 : Int) (a0_4 : Int) : Option (Bool) := (ins_Form.f a0_0).bind fun t120 => ((ins_has.f k t120).bind fun bt121 => (if t120.toList = ([] : List UInt8) then (some false) else ((ins_reg.f a0_1 bt121.1).bind fun t124 => (if t124 = true then ((ins_reg.f a0_2 bt121.2.1).bind fun t125 => (if t125 = true then ((ins_reg.f a0_3 bt121.2.2).bind fun t126 => (if t126 = true then ((ins_imm.f a0_0 a0_1 a0_2 a0_3 a0_4).bind fun t127 => (some t127)) else (some false))) else (some false))) else (some false)))))
theorem ins_May.mono : ∀ a0 a1 a2 a3 a4 k, LeO (ins_May.f k a0 a1 a2 a3 a4) (ins_May.f (k + 1) a0 a1 a2 a3 a4) := by
  intro a0 a1 a2 a3 a4 k
  unfold ins_May.f
  repeat' first
      | (with_reducible exact ins_has.mono _ _)
      | (with_reducible exact LeO.refl _)
      | (with_reducible exact LeO.none _)
      | (with_reducible refine LeO.ite ?_ ?_)
      | (with_reducible refine LeO.bind ?_ (fun _ => ?_))
      | exact ins_has.mono _ _
      | exact LeO.none _
      | refine LeO.ite ?_ ?_
      | refine LeO.bind ?_ (fun _ => ?_)
set_option maxHeartbeats 8000000 in
set_option maxRecDepth 100000 in
theorem ins_May.calls (k : Nat) (a0_0 : Int) (a0_1 : Int) (a0_2 : Int) (a0_3 : Int) (a0_4 : Int) (r : Bool) (w : World) (h : ins_May.f k a0_0 a0_1 a0_2 a0_3 a0_4 = some r) (hG : GlobOk w) :
    Calls Tryd.prog 53 #[.agg #[.int .i64 a0_0, .int .i64 a0_1, .int .i64 a0_2, .int .i64 a0_3, .int .i64 a0_4]] w fun e w' => e = .returned (.bool r) ∧ Below w.heap.size w w' := by
  have hu43 := Tryd.underlying43
  have HB := Aside0.mk (Below.refl w.heap.size w)
  have H : ((ins_Form.f a0_0).bind fun t120 => ((ins_has.f k t120).bind fun bt121 => (if t120.toList = ([] : List UInt8) then (some false) else ((ins_reg.f a0_1 bt121.1).bind fun t124 => (if t124 = true then ((ins_reg.f a0_2 bt121.2.1).bind fun t125 => (if t125 = true then ((ins_reg.f a0_3 bt121.2.2).bind fun t126 => (if t126 = true then ((ins_imm.f a0_0 a0_1 a0_2 a0_3 a0_4).bind fun t127 => (some t127)) else (some false))) else (some false))) else (some false)))))) = some r := h
  clear h
  replace H := Option.bind_eq_some_iff.mp H
  obtain ⟨t120, A20, H⟩ := H
  replace H : ((ins_has.f k t120).bind fun bt121 => (if t120.toList = ([] : List UInt8) then (some false) else ((ins_reg.f a0_1 bt121.1).bind fun t124 => (if t124 = true then ((ins_reg.f a0_2 bt121.2.1).bind fun t125 => (if t125 = true then ((ins_reg.f a0_3 bt121.2.2).bind fun t126 => (if t126 = true then ((ins_imm.f a0_0 a0_1 a0_2 a0_3 a0_4).bind fun t127 => (some t127)) else (some false))) else (some false))) else (some false))))) = some r := H
  have A2 := Aside0.mk A20
  clear A20
  replace H := Option.bind_eq_some_iff.mp H
  obtain ⟨⟨t121, t122, t123⟩, A30, H⟩ := H
  replace H : (if t120.toList = ([] : List UInt8) then (some false) else ((ins_reg.f a0_1 t121).bind fun t124 => (if t124 = true then ((ins_reg.f a0_2 t122).bind fun t125 => (if t125 = true then ((ins_reg.f a0_3 t123).bind fun t126 => (if t126 = true then ((ins_imm.f a0_0 a0_1 a0_2 a0_3 a0_4).bind fun t127 => (some t127)) else (some false))) else (some false))) else (some false)))) = some r := H
  have A3 := Aside0.mk A30
  clear A30
  by_cases c4 : t120.toList = ([] : List UInt8)
  · rw [if_pos c4] at H
    have c4b0 : (t120.toList == ([] : List UInt8)) = true := beq_iff_eq.mpr c4
    have c4b1 : (t120.toList != ([] : List UInt8)) = false := bne_eq_false_iff_eq.mpr c4
    clear c4
    obtain rfl := Option.some.inj H
    go_enter Tryd.func53, Tryd.ntmps53
    go_wp2_with (first | ((with_reducible refine gate_dst (N := 1) rfl ?_); refine box_event ?hg (N := 1) ?hd (cs := #[.int .i64 a0_0, .int .i64 a0_1, .int .i64 a0_2, .int .i64 a0_3, .int .i64 a0_4]) (t := 43) ?hr ?_; (case hd => rfl); (case hg => rfl); (case hr => first | (go_simp; done) | (go_simp; rfl)); intro gb119 hg w5 hbox hb; have n0_ := Aside0.mk (below_step (by repeat (first | (with_reducible first | exact HB.out | apply below_alloc | apply pw_below_drewN | apply below_drew1) | exact HB.out)) hb); have n1_ := Aside0.mk (hbox); have n2_ := Aside0.mk ((by rw [hg]; exact (below_size (by repeat (first | (with_reducible first | exact HB.out | apply below_alloc | apply pw_below_drewN | apply below_drew1) | exact HB.out))) : w.heap.size ≤ gb119)); have n3_ := Aside0.mk ((by rw [hg]; exact (below_size (by repeat (first | (with_reducible first | exact HB.out | apply below_alloc | apply pw_below_drewN | apply below_drew1) | exact HB.out))) : w.heap.size ≤ gb119)); clear HB; have HB := n0_; have BK119 := n1_; have GW119 := n2_; have GE119 := n3_; clear n0_ n1_ n2_ n3_; clear hb hbox hg; have hcz6_0 : w5.cell? ⟨gb119, 0, none⟩ = some (.int .i64 a0_0) := (blk_cell BK119.out 0).trans rfl; have hcz6_1 : w5.cell? ⟨gb119, 1, none⟩ = some (.int .i64 a0_1) := (blk_cell BK119.out 1).trans rfl; have hcz6_2 : w5.cell? ⟨gb119, 2, none⟩ = some (.int .i64 a0_2) := (blk_cell BK119.out 2).trans rfl; have hcz6_3 : w5.cell? ⟨gb119, 3, none⟩ = some (.int .i64 a0_3) := (blk_cell BK119.out 3).trans rfl; have hcz6_4 : w5.cell? ⟨gb119, 4, none⟩ = some (.int .i64 a0_4) := (blk_cell BK119.out 4).trans rfl; have hfz6_0 := blk_frozen BK119.out 0; have hfz6_1 := blk_frozen BK119.out 1; have hfz6_2 := blk_frozen BK119.out 2; have hfz6_3 := blk_frozen BK119.out 3; have hfz6_4 := blk_frozen BK119.out 4) | ((with_reducible refine gate_callee (f := 77) rfl ?_); refine goesL_ (some 9) rfl rfl Tryd.func77 (by kernel_rfl) rfl #[.int .i64 a0_0] rfl (by (try simp only [List.map_toArray, List.map_cons, List.map_nil]); first | done | rfl | (simp only [List.length_drop, List.length_take]; rfl)) ?_; (with_reducible refine (ins_Form.calls a0_0 t120 _ A2.out ?side1).mono ?_); (case side1 => (with_reducible first | exact hG | exact GlobOk.drewN hG _ | exact GlobOk.drew hG | (refine GlobOk.of_below hG ?_; repeat (first | (with_reducible first | exact HB.out | apply below_alloc | apply pw_below_drewN | apply below_drew1 | refine below_set ?_ GE119.out) | exact HB.out)))); rintro e w' ⟨rfl, ⟨nd, rfl⟩⟩; refine ⟨_, rfl, ?_⟩) | ((with_reducible refine gate_callee (f := 78) rfl ?_); refine goesL_ (some 12) rfl rfl Tryd.func78 (by kernel_rfl) rfl #[.string t120] rfl (by (try simp only [List.map_toArray, List.map_cons, List.map_nil]); first | done | rfl | (simp only [List.length_drop, List.length_take]; rfl)) ?_; (with_reducible refine (ins_has.calls k t120 t121 t122 t123 _ A3.out).mono ?_); rintro e w' ⟨rfl, ⟨nd, rfl⟩⟩; refine ⟨_, rfl, ?_⟩))
    go_ret
    exact ⟨by first | rfl | (simp [errW_none, errW_some] <;> rfl) | (simp [*, errW_none, errW_some] <;> rfl), by repeat (first | (with_reducible first | exact HB.out | apply below_alloc | apply pw_below_drewN | apply below_drew1 | refine below_set ?_ GE119.out) | exact HB.out)⟩
  · rw [if_neg c4] at H
    have c4b0 : (t120.toList == ([] : List UInt8)) = false := beq_eq_false_iff_ne.mpr c4
    have c4b1 : (t120.toList != ([] : List UInt8)) = true := bne_iff_ne.mpr c4
    replace H := Option.bind_eq_some_iff.mp H
    obtain ⟨t124, A70, H⟩ := H
    replace H : (if t124 = true then ((ins_reg.f a0_2 t122).bind fun t125 => (if t125 = true then ((ins_reg.f a0_3 t123).bind fun t126 => (if t126 = true then ((ins_imm.f a0_0 a0_1 a0_2 a0_3 a0_4).bind fun t127 => (some t127)) else (some false))) else (some false))) else (some false)) = some r := H
    have A7 := Aside0.mk A70
    clear A70
    by_cases c8 : t124 = true
    · subst c8
      have H1 : ((ins_reg.f a0_2 t122).bind fun t125 => (if t125 = true then ((ins_reg.f a0_3 t123).bind fun t126 => (if t126 = true then ((ins_imm.f a0_0 a0_1 a0_2 a0_3 a0_4).bind fun t127 => (some t127)) else (some false))) else (some false))) = some r := by rw [if_pos rfl] at H; exact H
      clear H
      have H := H1
      clear H1
      replace H := Option.bind_eq_some_iff.mp H
      obtain ⟨t125, A90, H⟩ := H
      replace H : (if t125 = true then ((ins_reg.f a0_3 t123).bind fun t126 => (if t126 = true then ((ins_imm.f a0_0 a0_1 a0_2 a0_3 a0_4).bind fun t127 => (some t127)) else (some false))) else (some false)) = some r := H
      have A9 := Aside0.mk A90
      clear A90
      by_cases c10 : t125 = true
      · subst c10
        have H1 : ((ins_reg.f a0_3 t123).bind fun t126 => (if t126 = true then ((ins_imm.f a0_0 a0_1 a0_2 a0_3 a0_4).bind fun t127 => (some t127)) else (some false))) = some r := by rw [if_pos rfl] at H; exact H
        clear H
        have H := H1
        clear H1
        replace H := Option.bind_eq_some_iff.mp H
        obtain ⟨t126, A110, H⟩ := H
        replace H : (if t126 = true then ((ins_imm.f a0_0 a0_1 a0_2 a0_3 a0_4).bind fun t127 => (some t127)) else (some false)) = some r := H
        have A11 := Aside0.mk A110
        clear A110
        by_cases c12 : t126 = true
        · subst c12
          have H1 : ((ins_imm.f a0_0 a0_1 a0_2 a0_3 a0_4).bind fun t127 => (some t127)) = some r := by rw [if_pos rfl] at H; exact H
          clear H
          have H := H1
          clear H1
          replace H := Option.bind_eq_some_iff.mp H
          obtain ⟨t127, A130, H⟩ := H
          replace H : (some t127) = some r := H
          have A13 := Aside0.mk A130
          clear A130
          obtain rfl := Option.some.inj H
          go_enter Tryd.func53, Tryd.ntmps53
          go_wp2_with (first | ((with_reducible refine gate_dst (N := 1) rfl ?_); refine box_event ?hg (N := 1) ?hd (cs := #[.int .i64 a0_0, .int .i64 a0_1, .int .i64 a0_2, .int .i64 a0_3, .int .i64 a0_4]) (t := 43) ?hr ?_; (case hd => rfl); (case hg => rfl); (case hr => first | (go_simp; done) | (go_simp; rfl)); intro gb119 hg w14 hbox hb; have n0_ := Aside0.mk (below_step (by repeat (first | (with_reducible first | exact HB.out | apply below_alloc | apply pw_below_drewN | apply below_drew1) | exact HB.out)) hb); have n1_ := Aside0.mk (hbox); have n2_ := Aside0.mk ((by rw [hg]; exact (below_size (by repeat (first | (with_reducible first | exact HB.out | apply below_alloc | apply pw_below_drewN | apply below_drew1) | exact HB.out))) : w.heap.size ≤ gb119)); have n3_ := Aside0.mk ((by rw [hg]; exact (below_size (by repeat (first | (with_reducible first | exact HB.out | apply below_alloc | apply pw_below_drewN | apply below_drew1) | exact HB.out))) : w.heap.size ≤ gb119)); clear HB; have HB := n0_; have BK119 := n1_; have GW119 := n2_; have GE119 := n3_; clear n0_ n1_ n2_ n3_; clear hb hbox hg; have hcz15_0 : w14.cell? ⟨gb119, 0, none⟩ = some (.int .i64 a0_0) := (blk_cell BK119.out 0).trans rfl; have hcz15_1 : w14.cell? ⟨gb119, 1, none⟩ = some (.int .i64 a0_1) := (blk_cell BK119.out 1).trans rfl; have hcz15_2 : w14.cell? ⟨gb119, 2, none⟩ = some (.int .i64 a0_2) := (blk_cell BK119.out 2).trans rfl; have hcz15_3 : w14.cell? ⟨gb119, 3, none⟩ = some (.int .i64 a0_3) := (blk_cell BK119.out 3).trans rfl; have hcz15_4 : w14.cell? ⟨gb119, 4, none⟩ = some (.int .i64 a0_4) := (blk_cell BK119.out 4).trans rfl; have hfz15_0 := blk_frozen BK119.out 0; have hfz15_1 := blk_frozen BK119.out 1; have hfz15_2 := blk_frozen BK119.out 2; have hfz15_3 := blk_frozen BK119.out 3; have hfz15_4 := blk_frozen BK119.out 4) | ((with_reducible refine gate_callee (f := 77) rfl ?_); refine goesL_ (some 9) rfl rfl Tryd.func77 (by kernel_rfl) rfl #[.int .i64 a0_0] rfl (by (try simp only [List.map_toArray, List.map_cons, List.map_nil]); first | done | rfl | (simp only [List.length_drop, List.length_take]; rfl)) ?_; (with_reducible refine (ins_Form.calls a0_0 t120 _ A2.out ?side1).mono ?_); (case side1 => (with_reducible first | exact hG | exact GlobOk.drewN hG _ | exact GlobOk.drew hG | (refine GlobOk.of_below hG ?_; repeat (first | (with_reducible first | exact HB.out | apply below_alloc | apply pw_below_drewN | apply below_drew1 | refine below_set ?_ GE119.out) | exact HB.out)))); rintro e w' ⟨rfl, ⟨nd, rfl⟩⟩; refine ⟨_, rfl, ?_⟩) | ((with_reducible refine gate_callee (f := 78) rfl ?_); refine goesL_ (some 12) rfl rfl Tryd.func78 (by kernel_rfl) rfl #[.string t120] rfl (by (try simp only [List.map_toArray, List.map_cons, List.map_nil]); first | done | rfl | (simp only [List.length_drop, List.length_take]; rfl)) ?_; (with_reducible refine (ins_has.calls k t120 t121 t122 t123 _ A3.out).mono ?_); rintro e w' ⟨rfl, ⟨nd, rfl⟩⟩; refine ⟨_, rfl, ?_⟩) | (go_at_call 79; (with_reducible refine (ins_reg.calls a0_1 t121 true _ A7.out).mono ?_); rintro e w' ⟨rfl, ⟨nd, rfl⟩⟩) | (go_at_call 79; (with_reducible refine (ins_reg.calls a0_2 t122 true _ A9.out).mono ?_); rintro e w' ⟨rfl, ⟨nd, rfl⟩⟩) | (go_at_call 79; (with_reducible refine (ins_reg.calls a0_3 t123 true _ A11.out).mono ?_); rintro e w' ⟨rfl, ⟨nd, rfl⟩⟩) | (go_at_call 80; (with_reducible refine (ins_imm.calls a0_0 a0_1 a0_2 a0_3 a0_4 t127 _ A13.out ?side1).mono ?_); (case side1 => (with_reducible first | exact hG | exact GlobOk.drewN hG _ | exact GlobOk.drew hG | (refine GlobOk.of_below hG ?_; repeat (first | (with_reducible first | exact HB.out | apply below_alloc | apply pw_below_drewN | apply below_drew1 | refine below_set ?_ GE119.out) | exact HB.out)))); rintro e w16 ⟨rfl, hb⟩; have n0_ := Aside0.mk (blk_below (g := gb119) (o := .cells #[.int .i64 a0_0, .int .i64 a0_1, .int .i64 a0_2, .int .i64 a0_3, .int .i64 a0_4] 43 (0, 0)) (by (with_reducible repeat (first | refine blk_drewN ?_ _ | refine blk_drew ?_ | refine blk_alloc ?_ _)); exact BK119.out) hb); have n1_ := Aside0.mk (below_step (by repeat (first | (with_reducible first | exact HB.out | apply below_alloc | apply pw_below_drewN | apply below_drew1 | refine below_set ?_ GE119.out) | exact HB.out)) hb); clear BK119; clear HB; have BK119 := n0_; have HB := n1_; clear n0_ n1_; (try clear hb); (try clear hb2); (try clear hk); (try clear hi)))
          go_ret
          exact ⟨by first | rfl | (simp [errW_none, errW_some] <;> rfl) | (simp [*, errW_none, errW_some] <;> rfl), by repeat (first | (with_reducible first | exact HB.out | apply below_alloc | apply pw_below_drewN | apply below_drew1 | refine below_set ?_ GE119.out) | exact HB.out)⟩
        · replace c12 := Bool.eq_false_iff.mpr c12
          subst c12
          have H1 : (some false) = some r := by rw [if_neg (show ¬ (false = true) by decide)] at H; exact H
          clear H
          have H := H1
          clear H1
          obtain rfl := Option.some.inj H
          go_enter Tryd.func53, Tryd.ntmps53
          go_wp2_with (first | ((with_reducible refine gate_dst (N := 1) rfl ?_); refine box_event ?hg (N := 1) ?hd (cs := #[.int .i64 a0_0, .int .i64 a0_1, .int .i64 a0_2, .int .i64 a0_3, .int .i64 a0_4]) (t := 43) ?hr ?_; (case hd => rfl); (case hg => rfl); (case hr => first | (go_simp; done) | (go_simp; rfl)); intro gb119 hg w17 hbox hb; have n0_ := Aside0.mk (below_step (by repeat (first | (with_reducible first | exact HB.out | apply below_alloc | apply pw_below_drewN | apply below_drew1) | exact HB.out)) hb); have n1_ := Aside0.mk (hbox); have n2_ := Aside0.mk ((by rw [hg]; exact (below_size (by repeat (first | (with_reducible first | exact HB.out | apply below_alloc | apply pw_below_drewN | apply below_drew1) | exact HB.out))) : w.heap.size ≤ gb119)); have n3_ := Aside0.mk ((by rw [hg]; exact (below_size (by repeat (first | (with_reducible first | exact HB.out | apply below_alloc | apply pw_below_drewN | apply below_drew1) | exact HB.out))) : w.heap.size ≤ gb119)); clear HB; have HB := n0_; have BK119 := n1_; have GW119 := n2_; have GE119 := n3_; clear n0_ n1_ n2_ n3_; clear hb hbox hg; have hcz18_0 : w17.cell? ⟨gb119, 0, none⟩ = some (.int .i64 a0_0) := (blk_cell BK119.out 0).trans rfl; have hcz18_1 : w17.cell? ⟨gb119, 1, none⟩ = some (.int .i64 a0_1) := (blk_cell BK119.out 1).trans rfl; have hcz18_2 : w17.cell? ⟨gb119, 2, none⟩ = some (.int .i64 a0_2) := (blk_cell BK119.out 2).trans rfl; have hcz18_3 : w17.cell? ⟨gb119, 3, none⟩ = some (.int .i64 a0_3) := (blk_cell BK119.out 3).trans rfl; have hcz18_4 : w17.cell? ⟨gb119, 4, none⟩ = some (.int .i64 a0_4) := (blk_cell BK119.out 4).trans rfl; have hfz18_0 := blk_frozen BK119.out 0; have hfz18_1 := blk_frozen BK119.out 1; have hfz18_2 := blk_frozen BK119.out 2; have hfz18_3 := blk_frozen BK119.out 3; have hfz18_4 := blk_frozen BK119.out 4) | ((with_reducible refine gate_callee (f := 77) rfl ?_); refine goesL_ (some 9) rfl rfl Tryd.func77 (by kernel_rfl) rfl #[.int .i64 a0_0] rfl (by (try simp only [List.map_toArray, List.map_cons, List.map_nil]); first | done | rfl | (simp only [List.length_drop, List.length_take]; rfl)) ?_; (with_reducible refine (ins_Form.calls a0_0 t120 _ A2.out ?side1).mono ?_); (case side1 => (with_reducible first | exact hG | exact GlobOk.drewN hG _ | exact GlobOk.drew hG | (refine GlobOk.of_below hG ?_; repeat (first | (with_reducible first | exact HB.out | apply below_alloc | apply pw_below_drewN | apply below_drew1 | refine below_set ?_ GE119.out) | exact HB.out)))); rintro e w' ⟨rfl, ⟨nd, rfl⟩⟩; refine ⟨_, rfl, ?_⟩) | ((with_reducible refine gate_callee (f := 78) rfl ?_); refine goesL_ (some 12) rfl rfl Tryd.func78 (by kernel_rfl) rfl #[.string t120] rfl (by (try simp only [List.map_toArray, List.map_cons, List.map_nil]); first | done | rfl | (simp only [List.length_drop, List.length_take]; rfl)) ?_; (with_reducible refine (ins_has.calls k t120 t121 t122 t123 _ A3.out).mono ?_); rintro e w' ⟨rfl, ⟨nd, rfl⟩⟩; refine ⟨_, rfl, ?_⟩) | (go_at_call 79; (with_reducible refine (ins_reg.calls a0_1 t121 true _ A7.out).mono ?_); rintro e w' ⟨rfl, ⟨nd, rfl⟩⟩) | (go_at_call 79; (with_reducible refine (ins_reg.calls a0_2 t122 true _ A9.out).mono ?_); rintro e w' ⟨rfl, ⟨nd, rfl⟩⟩) | (go_at_call 79; (with_reducible refine (ins_reg.calls a0_3 t123 false _ A11.out).mono ?_); rintro e w' ⟨rfl, ⟨nd, rfl⟩⟩))
          go_ret
          exact ⟨by first | rfl | (simp [errW_none, errW_some] <;> rfl) | (simp [*, errW_none, errW_some] <;> rfl), by repeat (first | (with_reducible first | exact HB.out | apply below_alloc | apply pw_below_drewN | apply below_drew1 | refine below_set ?_ GE119.out) | exact HB.out)⟩
      · replace c10 := Bool.eq_false_iff.mpr c10
        subst c10
        have H1 : (some false) = some r := by rw [if_neg (show ¬ (false = true) by decide)] at H; exact H
        clear H
        have H := H1
        clear H1
        obtain rfl := Option.some.inj H
        go_enter Tryd.func53, Tryd.ntmps53
        go_wp2_with (first | ((with_reducible refine gate_dst (N := 1) rfl ?_); refine box_event ?hg (N := 1) ?hd (cs := #[.int .i64 a0_0, .int .i64 a0_1, .int .i64 a0_2, .int .i64 a0_3, .int .i64 a0_4]) (t := 43) ?hr ?_; (case hd => rfl); (case hg => rfl); (case hr => first | (go_simp; done) | (go_simp; rfl)); intro gb119 hg w19 hbox hb; have n0_ := Aside0.mk (below_step (by repeat (first | (with_reducible first | exact HB.out | apply below_alloc | apply pw_below_drewN | apply below_drew1) | exact HB.out)) hb); have n1_ := Aside0.mk (hbox); have n2_ := Aside0.mk ((by rw [hg]; exact (below_size (by repeat (first | (with_reducible first | exact HB.out | apply below_alloc | apply pw_below_drewN | apply below_drew1) | exact HB.out))) : w.heap.size ≤ gb119)); have n3_ := Aside0.mk ((by rw [hg]; exact (below_size (by repeat (first | (with_reducible first | exact HB.out | apply below_alloc | apply pw_below_drewN | apply below_drew1) | exact HB.out))) : w.heap.size ≤ gb119)); clear HB; have HB := n0_; have BK119 := n1_; have GW119 := n2_; have GE119 := n3_; clear n0_ n1_ n2_ n3_; clear hb hbox hg; have hcz20_0 : w19.cell? ⟨gb119, 0, none⟩ = some (.int .i64 a0_0) := (blk_cell BK119.out 0).trans rfl; have hcz20_1 : w19.cell? ⟨gb119, 1, none⟩ = some (.int .i64 a0_1) := (blk_cell BK119.out 1).trans rfl; have hcz20_2 : w19.cell? ⟨gb119, 2, none⟩ = some (.int .i64 a0_2) := (blk_cell BK119.out 2).trans rfl; have hcz20_3 : w19.cell? ⟨gb119, 3, none⟩ = some (.int .i64 a0_3) := (blk_cell BK119.out 3).trans rfl; have hcz20_4 : w19.cell? ⟨gb119, 4, none⟩ = some (.int .i64 a0_4) := (blk_cell BK119.out 4).trans rfl; have hfz20_0 := blk_frozen BK119.out 0; have hfz20_1 := blk_frozen BK119.out 1; have hfz20_2 := blk_frozen BK119.out 2; have hfz20_3 := blk_frozen BK119.out 3; have hfz20_4 := blk_frozen BK119.out 4) | ((with_reducible refine gate_callee (f := 77) rfl ?_); refine goesL_ (some 9) rfl rfl Tryd.func77 (by kernel_rfl) rfl #[.int .i64 a0_0] rfl (by (try simp only [List.map_toArray, List.map_cons, List.map_nil]); first | done | rfl | (simp only [List.length_drop, List.length_take]; rfl)) ?_; (with_reducible refine (ins_Form.calls a0_0 t120 _ A2.out ?side1).mono ?_); (case side1 => (with_reducible first | exact hG | exact GlobOk.drewN hG _ | exact GlobOk.drew hG | (refine GlobOk.of_below hG ?_; repeat (first | (with_reducible first | exact HB.out | apply below_alloc | apply pw_below_drewN | apply below_drew1 | refine below_set ?_ GE119.out) | exact HB.out)))); rintro e w' ⟨rfl, ⟨nd, rfl⟩⟩; refine ⟨_, rfl, ?_⟩) | ((with_reducible refine gate_callee (f := 78) rfl ?_); refine goesL_ (some 12) rfl rfl Tryd.func78 (by kernel_rfl) rfl #[.string t120] rfl (by (try simp only [List.map_toArray, List.map_cons, List.map_nil]); first | done | rfl | (simp only [List.length_drop, List.length_take]; rfl)) ?_; (with_reducible refine (ins_has.calls k t120 t121 t122 t123 _ A3.out).mono ?_); rintro e w' ⟨rfl, ⟨nd, rfl⟩⟩; refine ⟨_, rfl, ?_⟩) | (go_at_call 79; (with_reducible refine (ins_reg.calls a0_1 t121 true _ A7.out).mono ?_); rintro e w' ⟨rfl, ⟨nd, rfl⟩⟩) | (go_at_call 79; (with_reducible refine (ins_reg.calls a0_2 t122 false _ A9.out).mono ?_); rintro e w' ⟨rfl, ⟨nd, rfl⟩⟩))
        go_ret
        exact ⟨by first | rfl | (simp [errW_none, errW_some] <;> rfl) | (simp [*, errW_none, errW_some] <;> rfl), by repeat (first | (with_reducible first | exact HB.out | apply below_alloc | apply pw_below_drewN | apply below_drew1 | refine below_set ?_ GE119.out) | exact HB.out)⟩
    · replace c8 := Bool.eq_false_iff.mpr c8
      subst c8
      have H1 : (some false) = some r := by rw [if_neg (show ¬ (false = true) by decide)] at H; exact H
      clear H
      have H := H1
      clear H1
      obtain rfl := Option.some.inj H
      go_enter Tryd.func53, Tryd.ntmps53
      go_wp2_with (first | ((with_reducible refine gate_dst (N := 1) rfl ?_); refine box_event ?hg (N := 1) ?hd (cs := #[.int .i64 a0_0, .int .i64 a0_1, .int .i64 a0_2, .int .i64 a0_3, .int .i64 a0_4]) (t := 43) ?hr ?_; (case hd => rfl); (case hg => rfl); (case hr => first | (go_simp; done) | (go_simp; rfl)); intro gb119 hg w21 hbox hb; have n0_ := Aside0.mk (below_step (by repeat (first | (with_reducible first | exact HB.out | apply below_alloc | apply pw_below_drewN | apply below_drew1) | exact HB.out)) hb); have n1_ := Aside0.mk (hbox); have n2_ := Aside0.mk ((by rw [hg]; exact (below_size (by repeat (first | (with_reducible first | exact HB.out | apply below_alloc | apply pw_below_drewN | apply below_drew1) | exact HB.out))) : w.heap.size ≤ gb119)); have n3_ := Aside0.mk ((by rw [hg]; exact (below_size (by repeat (first | (with_reducible first | exact HB.out | apply below_alloc | apply pw_below_drewN | apply below_drew1) | exact HB.out))) : w.heap.size ≤ gb119)); clear HB; have HB := n0_; have BK119 := n1_; have GW119 := n2_; have GE119 := n3_; clear n0_ n1_ n2_ n3_; clear hb hbox hg; have hcz22_0 : w21.cell? ⟨gb119, 0, none⟩ = some (.int .i64 a0_0) := (blk_cell BK119.out 0).trans rfl; have hcz22_1 : w21.cell? ⟨gb119, 1, none⟩ = some (.int .i64 a0_1) := (blk_cell BK119.out 1).trans rfl; have hcz22_2 : w21.cell? ⟨gb119, 2, none⟩ = some (.int .i64 a0_2) := (blk_cell BK119.out 2).trans rfl; have hcz22_3 : w21.cell? ⟨gb119, 3, none⟩ = some (.int .i64 a0_3) := (blk_cell BK119.out 3).trans rfl; have hcz22_4 : w21.cell? ⟨gb119, 4, none⟩ = some (.int .i64 a0_4) := (blk_cell BK119.out 4).trans rfl; have hfz22_0 := blk_frozen BK119.out 0; have hfz22_1 := blk_frozen BK119.out 1; have hfz22_2 := blk_frozen BK119.out 2; have hfz22_3 := blk_frozen BK119.out 3; have hfz22_4 := blk_frozen BK119.out 4) | ((with_reducible refine gate_callee (f := 77) rfl ?_); refine goesL_ (some 9) rfl rfl Tryd.func77 (by kernel_rfl) rfl #[.int .i64 a0_0] rfl (by (try simp only [List.map_toArray, List.map_cons, List.map_nil]); first | done | rfl | (simp only [List.length_drop, List.length_take]; rfl)) ?_; (with_reducible refine (ins_Form.calls a0_0 t120 _ A2.out ?side1).mono ?_); (case side1 => (with_reducible first | exact hG | exact GlobOk.drewN hG _ | exact GlobOk.drew hG | (refine GlobOk.of_below hG ?_; repeat (first | (with_reducible first | exact HB.out | apply below_alloc | apply pw_below_drewN | apply below_drew1 | refine below_set ?_ GE119.out) | exact HB.out)))); rintro e w' ⟨rfl, ⟨nd, rfl⟩⟩; refine ⟨_, rfl, ?_⟩) | ((with_reducible refine gate_callee (f := 78) rfl ?_); refine goesL_ (some 12) rfl rfl Tryd.func78 (by kernel_rfl) rfl #[.string t120] rfl (by (try simp only [List.map_toArray, List.map_cons, List.map_nil]); first | done | rfl | (simp only [List.length_drop, List.length_take]; rfl)) ?_; (with_reducible refine (ins_has.calls k t120 t121 t122 t123 _ A3.out).mono ?_); rintro e w' ⟨rfl, ⟨nd, rfl⟩⟩; refine ⟨_, rfl, ?_⟩) | (go_at_call 79; (with_reducible refine (ins_reg.calls a0_1 t121 false _ A7.out).mono ?_); rintro e w' ⟨rfl, ⟨nd, rfl⟩⟩))
      go_ret
      exact ⟨by first | rfl | (simp [errW_none, errW_some] <;> rfl) | (simp [*, errW_none, errW_some] <;> rfl), by repeat (first | (with_reducible first | exact HB.out | apply below_alloc | apply pw_below_drewN | apply below_drew1 | refine below_set ?_ GE119.out) | exact HB.out)⟩
def ins_parts.f (a0 : ByteArray) : Option ((List (S103))) := if a0.toList = ([73] : List UInt8) then (some (([(⟨0, 12, 20⟩ : S103)] : List (S103)))) else (if a0.toList = ([83] : List UInt8) then (some (([(⟨0, 5, 7⟩ : S103), (⟨5, 7, 25⟩ : S103)] : List (S103)))) else (if a0.toList = ([66] : List UInt8) then (some (([(⟨1, 4, 8⟩ : S103), (⟨5, 6, 25⟩ : S103), (⟨11, 1, 7⟩ : S103), (⟨12, 1, 31⟩ : S103)] : List (S103)))) else (if a0.toList = ([85] : List UInt8) then (some (([(⟨12, 20, 12⟩ : S103)] : List (S103)))) else (if a0.toList = ([74] : List UInt8) then (some (([(⟨1, 10, 21⟩ : S103), (⟨11, 1, 20⟩ : S103), (⟨12, 8, 12⟩ : S103), (⟨20, 1, 31⟩ : S103)] : List (S103)))) else (some ([] : List (S103)))))))
set_option maxHeartbeats 8000000 in
set_option maxRecDepth 100000 in
theorem ins_parts.calls (a0 : ByteArray) (r : List (S103)) (w : World) (h : ins_parts.f a0 = some r) :
    Calls Tryd.prog 55 #[.string a0] w fun e w' => ∃ v0_ : Value, e = .returned (v0_) ∧ Kd.R k103 103 w' w.heap.size (fun _ => True) v0_ r ∧ Below w.heap.size w w' := by
  have hu103 := Tryd.underlying103
  have HB := Aside0.mk (Below.refl w.heap.size w)
  have H : (if a0.toList = ([73] : List UInt8) then (some (([(⟨0, 12, 20⟩ : S103)] : List (S103)))) else (if a0.toList = ([83] : List UInt8) then (some (([(⟨0, 5, 7⟩ : S103), (⟨5, 7, 25⟩ : S103)] : List (S103)))) else (if a0.toList = ([66] : List UInt8) then (some (([(⟨1, 4, 8⟩ : S103), (⟨5, 6, 25⟩ : S103), (⟨11, 1, 7⟩ : S103), (⟨12, 1, 31⟩ : S103)] : List (S103)))) else (if a0.toList = ([85] : List UInt8) then (some (([(⟨12, 20, 12⟩ : S103)] : List (S103)))) else (if a0.toList = ([74] : List UInt8) then (some (([(⟨1, 10, 21⟩ : S103), (⟨11, 1, 20⟩ : S103), (⟨12, 8, 12⟩ : S103), (⟨20, 1, 31⟩ : S103)] : List (S103)))) else (some ([] : List (S103)))))))) = some r := h
  clear h
  by_cases c2 : a0.toList = ([73] : List UInt8)
  · rw [if_pos c2] at H
    have c2b0 : (a0.toList == ([73] : List UInt8)) = true := beq_iff_eq.mpr c2
    have c2b1 : (a0.toList != ([73] : List UInt8)) = false := bne_eq_false_iff_eq.mpr c2
    clear c2
    obtain ⟨y128, hy128⟩ : ∃ y_ : List (S103), y_ = (([(⟨0, 12, 20⟩ : S103)] : List (S103))) := ⟨_, rfl⟩
    replace H : (some y128) = some r := by first | (rw [hy128]; with_reducible exact H) | (have H2_ := (Option.bind_some _ _).symm.trans H; rw [hy128]; with_reducible exact H2_) | (have H2_ := (Option.bind_some _ _).symm.trans H; with_reducible exact H2_) | with_reducible exact H | (rw [hy128]; exact H) | exact H
    have Ny128 := Aside0.mk hy128
    clear hy128
    obtain rfl := Option.some.inj H
    go_enter Tryd.func55, Tryd.ntmps55
    go_wp2_with (first | ((with_reducible refine gate_dst (N := 7) rfl ?_); refine Kd.R_lit k103 _ 103 ?hg (N := 7) ?hd (xs := ([(⟨0, 12, 20⟩ : S103)] : List (S103))) (inner := [.int .i64 0, .int .i64 12, .int .i64 20]) (ok := fun _ => True) (okp := fun _ => True) ?hr ?hp (fun _ hk => hk) trivial (Below.refl _ _) (Nat.le_refl _) (by simp) ?_; (case hd => rfl); (case hg => rfl); (case hr => first | (go_simp; done) | (go_simp; rfl)); (case hp => exact (Reps.c3 (show Kd.M k103 _ _ _ (⟨0, 12, 20⟩ : S103) [.int .i64 0, .int .i64 12, .int .i64 20] from (k103_mkM _ _ _ (⟨0, 12, 20⟩ : S103) )) (Reps.none _ _))); intro v129 w3 ho4 hb hg_ hnew_; clear hg_ hnew_; (first | rw [← Ny128.out] at ho4 | (simp only [Int.reduceToNat] at ho4; rw [← Ny128.out] at ho4)); have n0_ := Aside0.mk (Kd.R_lower ho4 (below_size (by repeat (first | (with_reducible first | exact HB.out | apply below_alloc | apply pw_below_drewN | apply below_drew1) | exact HB.out)))); have n1_ := Aside0.mk (below_step (by repeat (first | (with_reducible first | exact HB.out | apply below_alloc | apply pw_below_drewN | apply below_drew1) | exact HB.out)) hb); clear HB; have HO130 := n0_; have HB := n1_; clear n0_ n1_; clear hb ho4))
    go_ret
    exact ⟨_, by first | rfl | (simp [errW_none, errW_some] <;> rfl) | (simp [*, errW_none, errW_some] <;> rfl), by (with_reducible repeat (first | apply Kd.R_alloc | apply Kd.R_drewN | apply Kd.R_drew)); exact HO130.out, by repeat (first | (with_reducible first | exact HB.out | apply below_alloc | apply pw_below_drewN | apply below_drew1) | exact HB.out)⟩
  · rw [if_neg c2] at H
    have c2b0 : (a0.toList == ([73] : List UInt8)) = false := beq_eq_false_iff_ne.mpr c2
    have c2b1 : (a0.toList != ([73] : List UInt8)) = true := bne_iff_ne.mpr c2
    by_cases c5 : a0.toList = ([83] : List UInt8)
    · rw [if_pos c5] at H
      have c5b0 : (a0.toList == ([83] : List UInt8)) = true := beq_iff_eq.mpr c5
      have c5b1 : (a0.toList != ([83] : List UInt8)) = false := bne_eq_false_iff_eq.mpr c5
      clear c5
      obtain ⟨y131, hy131⟩ : ∃ y_ : List (S103), y_ = (([(⟨0, 5, 7⟩ : S103), (⟨5, 7, 25⟩ : S103)] : List (S103))) := ⟨_, rfl⟩
      replace H : (some y131) = some r := by first | (rw [hy131]; with_reducible exact H) | (have H2_ := (Option.bind_some _ _).symm.trans H; rw [hy131]; with_reducible exact H2_) | (have H2_ := (Option.bind_some _ _).symm.trans H; with_reducible exact H2_) | with_reducible exact H | (rw [hy131]; exact H) | exact H
      have Ny131 := Aside0.mk hy131
      clear hy131
      obtain rfl := Option.some.inj H
      go_enter Tryd.func55, Tryd.ntmps55
      go_wp2_with (first | ((with_reducible refine gate_dst (N := 12) rfl ?_); refine Kd.R_lit k103 _ 103 ?hg (N := 12) ?hd (xs := ([(⟨0, 5, 7⟩ : S103), (⟨5, 7, 25⟩ : S103)] : List (S103))) (inner := [.int .i64 0, .int .i64 5, .int .i64 7, .int .i64 5, .int .i64 7, .int .i64 25]) (ok := fun _ => True) (okp := fun _ => True) ?hr ?hp (fun _ hk => hk) trivial (Below.refl _ _) (Nat.le_refl _) (by simp) ?_; (case hd => rfl); (case hg => rfl); (case hr => first | (go_simp; done) | (go_simp; rfl)); (case hp => exact (Reps.c3 (show Kd.M k103 _ _ _ (⟨0, 5, 7⟩ : S103) [.int .i64 0, .int .i64 5, .int .i64 7] from (k103_mkM _ _ _ (⟨0, 5, 7⟩ : S103) )) (Reps.c3 (show Kd.M k103 _ _ _ (⟨5, 7, 25⟩ : S103) [.int .i64 5, .int .i64 7, .int .i64 25] from (k103_mkM _ _ _ (⟨5, 7, 25⟩ : S103) )) (Reps.none _ _)))); intro v132 w6 ho7 hb hg_ hnew_; clear hg_ hnew_; (first | rw [← Ny131.out] at ho7 | (simp only [Int.reduceToNat] at ho7; rw [← Ny131.out] at ho7)); have n0_ := Aside0.mk (Kd.R_lower ho7 (below_size (by repeat (first | (with_reducible first | exact HB.out | apply below_alloc | apply pw_below_drewN | apply below_drew1) | exact HB.out)))); have n1_ := Aside0.mk (below_step (by repeat (first | (with_reducible first | exact HB.out | apply below_alloc | apply pw_below_drewN | apply below_drew1) | exact HB.out)) hb); clear HB; have HO133 := n0_; have HB := n1_; clear n0_ n1_; clear hb ho7))
      go_ret
      exact ⟨_, by first | rfl | (simp [errW_none, errW_some] <;> rfl) | (simp [*, errW_none, errW_some] <;> rfl), by (with_reducible repeat (first | apply Kd.R_alloc | apply Kd.R_drewN | apply Kd.R_drew)); exact HO133.out, by repeat (first | (with_reducible first | exact HB.out | apply below_alloc | apply pw_below_drewN | apply below_drew1) | exact HB.out)⟩
    · rw [if_neg c5] at H
      have c5b0 : (a0.toList == ([83] : List UInt8)) = false := beq_eq_false_iff_ne.mpr c5
      have c5b1 : (a0.toList != ([83] : List UInt8)) = true := bne_iff_ne.mpr c5
      by_cases c8 : a0.toList = ([66] : List UInt8)
      · rw [if_pos c8] at H
        have c8b0 : (a0.toList == ([66] : List UInt8)) = true := beq_iff_eq.mpr c8
        have c8b1 : (a0.toList != ([66] : List UInt8)) = false := bne_eq_false_iff_eq.mpr c8
        clear c8
        obtain ⟨y134, hy134⟩ : ∃ y_ : List (S103), y_ = (([(⟨1, 4, 8⟩ : S103), (⟨5, 6, 25⟩ : S103), (⟨11, 1, 7⟩ : S103), (⟨12, 1, 31⟩ : S103)] : List (S103))) := ⟨_, rfl⟩
        replace H : (some y134) = some r := by first | (rw [hy134]; with_reducible exact H) | (have H2_ := (Option.bind_some _ _).symm.trans H; rw [hy134]; with_reducible exact H2_) | (have H2_ := (Option.bind_some _ _).symm.trans H; with_reducible exact H2_) | with_reducible exact H | (rw [hy134]; exact H) | exact H
        have Ny134 := Aside0.mk hy134
        clear hy134
        obtain rfl := Option.some.inj H
        go_enter Tryd.func55, Tryd.ntmps55
        go_wp2_with (first | ((with_reducible refine gate_dst (N := 19) rfl ?_); refine Kd.R_lit k103 _ 103 ?hg (N := 19) ?hd (xs := ([(⟨1, 4, 8⟩ : S103), (⟨5, 6, 25⟩ : S103), (⟨11, 1, 7⟩ : S103), (⟨12, 1, 31⟩ : S103)] : List (S103))) (inner := [.int .i64 1, .int .i64 4, .int .i64 8, .int .i64 5, .int .i64 6, .int .i64 25, .int .i64 11, .int .i64 1, .int .i64 7, .int .i64 12, .int .i64 1, .int .i64 31]) (ok := fun _ => True) (okp := fun _ => True) ?hr ?hp (fun _ hk => hk) trivial (Below.refl _ _) (Nat.le_refl _) (by simp) ?_; (case hd => rfl); (case hg => rfl); (case hr => first | (go_simp; done) | (go_simp; rfl)); (case hp => exact (Reps.c3 (show Kd.M k103 _ _ _ (⟨1, 4, 8⟩ : S103) [.int .i64 1, .int .i64 4, .int .i64 8] from (k103_mkM _ _ _ (⟨1, 4, 8⟩ : S103) )) (Reps.c3 (show Kd.M k103 _ _ _ (⟨5, 6, 25⟩ : S103) [.int .i64 5, .int .i64 6, .int .i64 25] from (k103_mkM _ _ _ (⟨5, 6, 25⟩ : S103) )) (Reps.c3 (show Kd.M k103 _ _ _ (⟨11, 1, 7⟩ : S103) [.int .i64 11, .int .i64 1, .int .i64 7] from (k103_mkM _ _ _ (⟨11, 1, 7⟩ : S103) )) (Reps.c3 (show Kd.M k103 _ _ _ (⟨12, 1, 31⟩ : S103) [.int .i64 12, .int .i64 1, .int .i64 31] from (k103_mkM _ _ _ (⟨12, 1, 31⟩ : S103) )) (Reps.none _ _)))))); intro v135 w9 ho10 hb hg_ hnew_; clear hg_ hnew_; (first | rw [← Ny134.out] at ho10 | (simp only [Int.reduceToNat] at ho10; rw [← Ny134.out] at ho10)); have n0_ := Aside0.mk (Kd.R_lower ho10 (below_size (by repeat (first | (with_reducible first | exact HB.out | apply below_alloc | apply pw_below_drewN | apply below_drew1) | exact HB.out)))); have n1_ := Aside0.mk (below_step (by repeat (first | (with_reducible first | exact HB.out | apply below_alloc | apply pw_below_drewN | apply below_drew1) | exact HB.out)) hb); clear HB; have HO136 := n0_; have HB := n1_; clear n0_ n1_; clear hb ho10))
        go_ret
        exact ⟨_, by first | rfl | (simp [errW_none, errW_some] <;> rfl) | (simp [*, errW_none, errW_some] <;> rfl), by (with_reducible repeat (first | apply Kd.R_alloc | apply Kd.R_drewN | apply Kd.R_drew)); exact HO136.out, by repeat (first | (with_reducible first | exact HB.out | apply below_alloc | apply pw_below_drewN | apply below_drew1) | exact HB.out)⟩
      · rw [if_neg c8] at H
        have c8b0 : (a0.toList == ([66] : List UInt8)) = false := beq_eq_false_iff_ne.mpr c8
        have c8b1 : (a0.toList != ([66] : List UInt8)) = true := bne_iff_ne.mpr c8
        by_cases c11 : a0.toList = ([85] : List UInt8)
        · rw [if_pos c11] at H
          have c11b0 : (a0.toList == ([85] : List UInt8)) = true := beq_iff_eq.mpr c11
          have c11b1 : (a0.toList != ([85] : List UInt8)) = false := bne_eq_false_iff_eq.mpr c11
          clear c11
          obtain ⟨y137, hy137⟩ : ∃ y_ : List (S103), y_ = (([(⟨12, 20, 12⟩ : S103)] : List (S103))) := ⟨_, rfl⟩
          replace H : (some y137) = some r := by first | (rw [hy137]; with_reducible exact H) | (have H2_ := (Option.bind_some _ _).symm.trans H; rw [hy137]; with_reducible exact H2_) | (have H2_ := (Option.bind_some _ _).symm.trans H; with_reducible exact H2_) | with_reducible exact H | (rw [hy137]; exact H) | exact H
          have Ny137 := Aside0.mk hy137
          clear hy137
          obtain rfl := Option.some.inj H
          go_enter Tryd.func55, Tryd.ntmps55
          go_wp2_with (first | ((with_reducible refine gate_dst (N := 23) rfl ?_); refine Kd.R_lit k103 _ 103 ?hg (N := 23) ?hd (xs := ([(⟨12, 20, 12⟩ : S103)] : List (S103))) (inner := [.int .i64 12, .int .i64 20, .int .i64 12]) (ok := fun _ => True) (okp := fun _ => True) ?hr ?hp (fun _ hk => hk) trivial (Below.refl _ _) (Nat.le_refl _) (by simp) ?_; (case hd => rfl); (case hg => rfl); (case hr => first | (go_simp; done) | (go_simp; rfl)); (case hp => exact (Reps.c3 (show Kd.M k103 _ _ _ (⟨12, 20, 12⟩ : S103) [.int .i64 12, .int .i64 20, .int .i64 12] from (k103_mkM _ _ _ (⟨12, 20, 12⟩ : S103) )) (Reps.none _ _))); intro v138 w12 ho13 hb hg_ hnew_; clear hg_ hnew_; (first | rw [← Ny137.out] at ho13 | (simp only [Int.reduceToNat] at ho13; rw [← Ny137.out] at ho13)); have n0_ := Aside0.mk (Kd.R_lower ho13 (below_size (by repeat (first | (with_reducible first | exact HB.out | apply below_alloc | apply pw_below_drewN | apply below_drew1) | exact HB.out)))); have n1_ := Aside0.mk (below_step (by repeat (first | (with_reducible first | exact HB.out | apply below_alloc | apply pw_below_drewN | apply below_drew1) | exact HB.out)) hb); clear HB; have HO139 := n0_; have HB := n1_; clear n0_ n1_; clear hb ho13))
          go_ret
          exact ⟨_, by first | rfl | (simp [errW_none, errW_some] <;> rfl) | (simp [*, errW_none, errW_some] <;> rfl), by (with_reducible repeat (first | apply Kd.R_alloc | apply Kd.R_drewN | apply Kd.R_drew)); exact HO139.out, by repeat (first | (with_reducible first | exact HB.out | apply below_alloc | apply pw_below_drewN | apply below_drew1) | exact HB.out)⟩
        · rw [if_neg c11] at H
          have c11b0 : (a0.toList == ([85] : List UInt8)) = false := beq_eq_false_iff_ne.mpr c11
          have c11b1 : (a0.toList != ([85] : List UInt8)) = true := bne_iff_ne.mpr c11
          by_cases c14 : a0.toList = ([74] : List UInt8)
          · rw [if_pos c14] at H
            have c14b0 : (a0.toList == ([74] : List UInt8)) = true := beq_iff_eq.mpr c14
            have c14b1 : (a0.toList != ([74] : List UInt8)) = false := bne_eq_false_iff_eq.mpr c14
            clear c14
            obtain ⟨y140, hy140⟩ : ∃ y_ : List (S103), y_ = (([(⟨1, 10, 21⟩ : S103), (⟨11, 1, 20⟩ : S103), (⟨12, 8, 12⟩ : S103), (⟨20, 1, 31⟩ : S103)] : List (S103))) := ⟨_, rfl⟩
            replace H : (some y140) = some r := by first | (rw [hy140]; with_reducible exact H) | (have H2_ := (Option.bind_some _ _).symm.trans H; rw [hy140]; with_reducible exact H2_) | (have H2_ := (Option.bind_some _ _).symm.trans H; with_reducible exact H2_) | with_reducible exact H | (rw [hy140]; exact H) | exact H
            have Ny140 := Aside0.mk hy140
            clear hy140
            obtain rfl := Option.some.inj H
            go_enter Tryd.func55, Tryd.ntmps55
            go_wp2_with (first | ((with_reducible refine gate_dst (N := 30) rfl ?_); refine Kd.R_lit k103 _ 103 ?hg (N := 30) ?hd (xs := ([(⟨1, 10, 21⟩ : S103), (⟨11, 1, 20⟩ : S103), (⟨12, 8, 12⟩ : S103), (⟨20, 1, 31⟩ : S103)] : List (S103))) (inner := [.int .i64 1, .int .i64 10, .int .i64 21, .int .i64 11, .int .i64 1, .int .i64 20, .int .i64 12, .int .i64 8, .int .i64 12, .int .i64 20, .int .i64 1, .int .i64 31]) (ok := fun _ => True) (okp := fun _ => True) ?hr ?hp (fun _ hk => hk) trivial (Below.refl _ _) (Nat.le_refl _) (by simp) ?_; (case hd => rfl); (case hg => rfl); (case hr => first | (go_simp; done) | (go_simp; rfl)); (case hp => exact (Reps.c3 (show Kd.M k103 _ _ _ (⟨1, 10, 21⟩ : S103) [.int .i64 1, .int .i64 10, .int .i64 21] from (k103_mkM _ _ _ (⟨1, 10, 21⟩ : S103) )) (Reps.c3 (show Kd.M k103 _ _ _ (⟨11, 1, 20⟩ : S103) [.int .i64 11, .int .i64 1, .int .i64 20] from (k103_mkM _ _ _ (⟨11, 1, 20⟩ : S103) )) (Reps.c3 (show Kd.M k103 _ _ _ (⟨12, 8, 12⟩ : S103) [.int .i64 12, .int .i64 8, .int .i64 12] from (k103_mkM _ _ _ (⟨12, 8, 12⟩ : S103) )) (Reps.c3 (show Kd.M k103 _ _ _ (⟨20, 1, 31⟩ : S103) [.int .i64 20, .int .i64 1, .int .i64 31] from (k103_mkM _ _ _ (⟨20, 1, 31⟩ : S103) )) (Reps.none _ _)))))); intro v141 w15 ho16 hb hg_ hnew_; clear hg_ hnew_; (first | rw [← Ny140.out] at ho16 | (simp only [Int.reduceToNat] at ho16; rw [← Ny140.out] at ho16)); have n0_ := Aside0.mk (Kd.R_lower ho16 (below_size (by repeat (first | (with_reducible first | exact HB.out | apply below_alloc | apply pw_below_drewN | apply below_drew1) | exact HB.out)))); have n1_ := Aside0.mk (below_step (by repeat (first | (with_reducible first | exact HB.out | apply below_alloc | apply pw_below_drewN | apply below_drew1) | exact HB.out)) hb); clear HB; have HO142 := n0_; have HB := n1_; clear n0_ n1_; clear hb ho16))
            go_ret
            exact ⟨_, by first | rfl | (simp [errW_none, errW_some] <;> rfl) | (simp [*, errW_none, errW_some] <;> rfl), by (with_reducible repeat (first | apply Kd.R_alloc | apply Kd.R_drewN | apply Kd.R_drew)); exact HO142.out, by repeat (first | (with_reducible first | exact HB.out | apply below_alloc | apply pw_below_drewN | apply below_drew1) | exact HB.out)⟩
          · rw [if_neg c14] at H
            have c14b0 : (a0.toList == ([74] : List UInt8)) = false := beq_eq_false_iff_ne.mpr c14
            have c14b1 : (a0.toList != ([74] : List UInt8)) = true := bne_iff_ne.mpr c14
            obtain rfl := Option.some.inj H
            go_enter Tryd.func55, Tryd.ntmps55
            go_wp2
            go_ret
            exact ⟨_, by first | rfl | (simp [errW_none, errW_some] <;> rfl) | (simp [*, errW_none, errW_some] <;> rfl), by first | exact Kd.R_nil _ _ _ _ _ | exact Kd.N_nil _ _ _ _ _ | exact Kd.V_nil _ _ _ _ _ | exact Kd.Q_nil _ _ _ _ _ | exact Kd.S_nil _ _ _ _ _, by repeat (first | (with_reducible first | exact HB.out | apply below_alloc | apply pw_below_drewN | apply below_drew1) | exact HB.out)⟩
def bits_may.f (a0 : Int) (a1 : Int) : Option (Bool) := if a0 ≥ 0 then (if a0 ≤ 64 then (if a1 ≥ 0 then (some (decide (a1 ≤ (wrap64 (64 - a0))))) else (some false)) else (some false)) else (some false)
set_option maxHeartbeats 8000000 in
set_option maxRecDepth 100000 in
theorem bits_may.calls (a0 : Int) (a1 : Int) (r : Bool) (w : World) (h : bits_may.f a0 a1 = some r) :
    Calls Tryd.prog 81 #[.int .i64 a0, .int .i64 a1] w fun e w' => e = .returned (.bool r) ∧ Drawn0 w w' := by
  have H : (if a0 ≥ 0 then (if a0 ≤ 64 then (if a1 ≥ 0 then (some (decide (a1 ≤ (wrap64 (64 - a0))))) else (some false)) else (some false)) else (some false)) = some r := h
  clear h
  by_cases c3 : a0 ≥ 0
  · rw [if_pos c3] at H
    have c3b0 : decide (0 ≤ a0) = true := decide_eq_true c3
    clear c3
    by_cases c4 : a0 ≤ 64
    · rw [if_pos c4] at H
      have c4b0 : decide (a0 ≤ 64) = true := decide_eq_true c4
      clear c4
      by_cases c5 : a1 ≥ 0
      · rw [if_pos c5] at H
        have c5b0 : decide (0 ≤ a1) = true := decide_eq_true c5
        clear c5
        obtain rfl := Option.some.inj H
        go_enter Tryd.func81, Tryd.ntmps81
        go_wp2
        go_ret
        exact ⟨by first | rfl | (simp; done) | (simp [*]; done), by repeat (first | exact Drawn0.refl _ | apply Drawn0.step)⟩
      · rw [if_neg c5] at H
        have c5b0 : decide (0 ≤ a1) = false := decide_eq_false c5
        clear c5
        obtain rfl := Option.some.inj H
        go_enter Tryd.func81, Tryd.ntmps81
        go_wp2
        go_ret
        exact ⟨by first | rfl | (simp; done) | (simp [*]; done), by repeat (first | exact Drawn0.refl _ | apply Drawn0.step)⟩
    · rw [if_neg c4] at H
      have c4b0 : decide (a0 ≤ 64) = false := decide_eq_false c4
      clear c4
      obtain rfl := Option.some.inj H
      go_enter Tryd.func81, Tryd.ntmps81
      go_wp2
      go_ret
      exact ⟨by first | rfl | (simp; done) | (simp [*]; done), by repeat (first | exact Drawn0.refl _ | apply Drawn0.step)⟩
  · rw [if_neg c3] at H
    have c3b0 : decide (0 ≤ a0) = false := decide_eq_false c3
    clear c3
    obtain rfl := Option.some.inj H
    go_enter Tryd.func81, Tryd.ntmps81
    go_wp2
    go_ret
    exact ⟨by first | rfl | (simp; done) | (simp [*]; done), by repeat (first | exact Drawn0.refl _ | apply Drawn0.step)⟩
def bits_Field.f (a0 : Int) (a1 : Int) (a2 : Int) : Option (Int × Bool) := (bits_may.f a1 a2).bind fun t143 => (if t143 = true then (if 0 ≤ a1 then ((bits_mask.f a2).bind fun t144 => (some (Go.bits .and .u64 (shr .u64 a0 a1) t144, true))) else (none)) else (some (0, false)))
set_option maxHeartbeats 8000000 in
set_option maxRecDepth 100000 in
theorem bits_Field.calls (a0 : Int) (a1 : Int) (a2 : Int) (r1 : Int) (r2 : Bool) (w : World) (h : bits_Field.f a0 a1 a2 = some (r1, r2)) :
    Calls Tryd.prog 56 #[.int .u64 a0, .int .i64 a1, .int .i64 a2] w fun e w' => e = .returned (.tuple #[.int .u64 r1, .bool r2]) ∧ Drawn0 w w' := by
  have H : ((bits_may.f a1 a2).bind fun t143 => (if t143 = true then (if 0 ≤ a1 then ((bits_mask.f a2).bind fun t144 => (some (Go.bits .and .u64 (shr .u64 a0 a1) t144, true))) else (none)) else (some (0, false)))) = some (r1, r2) := h
  clear h
  replace H := Option.bind_eq_some_iff.mp H
  obtain ⟨t143, A40, H⟩ := H
  replace H : (if t143 = true then (if 0 ≤ a1 then ((bits_mask.f a2).bind fun t144 => (some (Go.bits .and .u64 (shr .u64 a0 a1) t144, true))) else (none)) else (some (0, false))) = some (r1, r2) := H
  have A4 := Aside0.mk A40
  clear A40
  by_cases c5 : t143 = true
  · subst c5
    have H1 : (if 0 ≤ a1 then ((bits_mask.f a2).bind fun t144 => (some (Go.bits .and .u64 (shr .u64 a0 a1) t144, true))) else (none)) = some (r1, r2) := by rw [if_pos rfl] at H; exact H
    clear H
    have H := H1
    clear H1
    by_cases c6 : 0 ≤ a1
    · rw [if_pos c6] at H
      have c6b0 := eq_true c6
      have c6b1 : decide (0 ≤ a1) = true := decide_eq_true c6
      clear c6
      obtain ⟨ji7, hji7⟩ : ∃ j_ : Int, (shr .u64 a0 a1) = j_ := ⟨_, rfl⟩
      replace H : ((bits_mask.f a2).bind fun t144 => (some (Go.bits .and .u64 (ji7) t144, true))) = some (r1, r2) := by first | (rw [hji7] at H; exact H) | (simp only [hji7] at H ⊢; exact H)
      (try rw [hji7] at A4)
      have hji7_ : (a0 / 2 ^ min a1.toNat 64) = ji7 := hji7
      have hji7z : a1 ≤ 64 → (a0 / 2 ^ a1.toNat) = ji7 := shr_small hji7
      replace H := Option.bind_eq_some_iff.mp H
      obtain ⟨t144, A80, H⟩ := H
      replace H : (some (Go.bits .and .u64 (ji7) t144, true)) = some (r1, r2) := H
      have A8 := Aside0.mk A80
      clear A80
      simp only [Option.some.injEq, Prod.mk.injEq] at H
      obtain ⟨rfl, rfl⟩ := H
      go_enter Tryd.func56, Tryd.ntmps56
      go_wp2_with (first | (go_at_call 81; (with_reducible refine (bits_may.calls a1 a2 true _ A4.out).mono ?_); rintro e w' ⟨rfl, ⟨nd, rfl⟩⟩; (try first | exact ⟨rfl, _, World.drewN_drewN _ _ _⟩ | exact ⟨rfl, _, Eq.trans (World.drewN_drewN _ _ _) (congrArg (World.drewN _) (Nat.add_assoc _ _ _))⟩)) | (go_at_call 82; (with_reducible refine (bits_mask.calls a2 t144 _ A8.out).mono ?_); rintro e w' ⟨rfl, ⟨nd, rfl⟩⟩; (try first | exact ⟨rfl, _, World.drewN_drewN _ _ _⟩ | exact ⟨rfl, _, Eq.trans (World.drewN_drewN _ _ _) (congrArg (World.drewN _) (Nat.add_assoc _ _ _))⟩)))
      repeat (go_quiet (first | (go_at_call 81; (with_reducible refine (bits_may.calls a1 a2 true _ A4.out).mono ?_); rintro e w' ⟨rfl, ⟨nd, rfl⟩⟩; (try first | exact ⟨rfl, _, World.drewN_drewN _ _ _⟩ | exact ⟨rfl, _, Eq.trans (World.drewN_drewN _ _ _) (congrArg (World.drewN _) (Nat.add_assoc _ _ _))⟩)) | (go_at_call 82; (with_reducible refine (bits_mask.calls a2 t144 _ A8.out).mono ?_); rintro e w' ⟨rfl, ⟨nd, rfl⟩⟩; (try first | exact ⟨rfl, _, World.drewN_drewN _ _ _⟩ | exact ⟨rfl, _, Eq.trans (World.drewN_drewN _ _ _) (congrArg (World.drewN _) (Nat.add_assoc _ _ _))⟩))); try go_wp2_with (first | (go_at_call 81; (with_reducible refine (bits_may.calls a1 a2 true _ A4.out).mono ?_); rintro e w' ⟨rfl, ⟨nd, rfl⟩⟩; (try first | exact ⟨rfl, _, World.drewN_drewN _ _ _⟩ | exact ⟨rfl, _, Eq.trans (World.drewN_drewN _ _ _) (congrArg (World.drewN _) (Nat.add_assoc _ _ _))⟩)) | (go_at_call 82; (with_reducible refine (bits_mask.calls a2 t144 _ A8.out).mono ?_); rintro e w' ⟨rfl, ⟨nd, rfl⟩⟩; (try first | exact ⟨rfl, _, World.drewN_drewN _ _ _⟩ | exact ⟨rfl, _, Eq.trans (World.drewN_drewN _ _ _) (congrArg (World.drewN _) (Nat.add_assoc _ _ _))⟩))))
      go_ret2
      exact ⟨by first | rfl | (simp; done) | (simp only [← hji7] <;> (first | rfl | simp)) | (simp [*]; done), by repeat (first | exact Drawn0.refl _ | apply Drawn0.step)⟩
    · rw [if_neg c6] at H
      exact absurd H (by simp)
  · replace c5 := Bool.eq_false_iff.mpr c5
    subst c5
    have H1 : (some (0, false)) = some (r1, r2) := by rw [if_neg (show ¬ (false = true) by decide)] at H; exact H
    clear H
    have H := H1
    clear H1
    simp only [Option.some.injEq, Prod.mk.injEq] at H
    obtain ⟨rfl, rfl⟩ := H
    go_enter Tryd.func56, Tryd.ntmps56
    go_wp2_with (first | (go_at_call 81; (with_reducible refine (bits_may.calls a1 a2 false _ A4.out).mono ?_); rintro e w' ⟨rfl, ⟨nd, rfl⟩⟩; (try first | exact ⟨rfl, _, World.drewN_drewN _ _ _⟩ | exact ⟨rfl, _, Eq.trans (World.drewN_drewN _ _ _) (congrArg (World.drewN _) (Nat.add_assoc _ _ _))⟩)))
    repeat (go_quiet (first | (go_at_call 81; (with_reducible refine (bits_may.calls a1 a2 false _ A4.out).mono ?_); rintro e w' ⟨rfl, ⟨nd, rfl⟩⟩; (try first | exact ⟨rfl, _, World.drewN_drewN _ _ _⟩ | exact ⟨rfl, _, Eq.trans (World.drewN_drewN _ _ _) (congrArg (World.drewN _) (Nat.add_assoc _ _ _))⟩))); try go_wp2_with (first | (go_at_call 81; (with_reducible refine (bits_may.calls a1 a2 false _ A4.out).mono ?_); rintro e w' ⟨rfl, ⟨nd, rfl⟩⟩; (try first | exact ⟨rfl, _, World.drewN_drewN _ _ _⟩ | exact ⟨rfl, _, Eq.trans (World.drewN_drewN _ _ _) (congrArg (World.drewN _) (Nat.add_assoc _ _ _))⟩))))
    go_ret2
    exact ⟨by first | rfl | (simp; done) | (simp [*]; done), by repeat (first | exact Drawn0.refl _ | apply Drawn0.step)⟩
def bits_Put.f (a0 : Int) (a1 : Int) (a2 : Int) (a3 : Int) : Option (Int × Bool) := (bits_may.f a1 a2).bind fun t145 => (if t145 = true then ((bits_mask.f a2).bind fun t146 => (if 0 ≤ a1 then (some (Go.bits .or .u64 (Go.bits .andNot .u64 a0 (shl .u64 t146 a1)) (shl .u64 (Go.bits .and .u64 a3 t146) a1), true)) else (none))) else (some (0, false)))
set_option maxHeartbeats 8000000 in
set_option maxRecDepth 100000 in
theorem bits_Put.calls (a0 : Int) (a1 : Int) (a2 : Int) (a3 : Int) (r1 : Int) (r2 : Bool) (w : World) (h : bits_Put.f a0 a1 a2 a3 = some (r1, r2)) :
    Calls Tryd.prog 57 #[.int .u64 a0, .int .i64 a1, .int .i64 a2, .int .u64 a3] w fun e w' => e = .returned (.tuple #[.int .u64 r1, .bool r2]) ∧ Drawn0 w w' := by
  have H : ((bits_may.f a1 a2).bind fun t145 => (if t145 = true then ((bits_mask.f a2).bind fun t146 => (if 0 ≤ a1 then (some (Go.bits .or .u64 (Go.bits .andNot .u64 a0 (shl .u64 t146 a1)) (shl .u64 (Go.bits .and .u64 a3 t146) a1), true)) else (none))) else (some (0, false)))) = some (r1, r2) := h
  clear h
  replace H := Option.bind_eq_some_iff.mp H
  obtain ⟨t145, A50, H⟩ := H
  replace H : (if t145 = true then ((bits_mask.f a2).bind fun t146 => (if 0 ≤ a1 then (some (Go.bits .or .u64 (Go.bits .andNot .u64 a0 (shl .u64 t146 a1)) (shl .u64 (Go.bits .and .u64 a3 t146) a1), true)) else (none))) else (some (0, false))) = some (r1, r2) := H
  have A5 := Aside0.mk A50
  clear A50
  by_cases c6 : t145 = true
  · subst c6
    have H1 : ((bits_mask.f a2).bind fun t146 => (if 0 ≤ a1 then (some (Go.bits .or .u64 (Go.bits .andNot .u64 a0 (shl .u64 t146 a1)) (shl .u64 (Go.bits .and .u64 a3 t146) a1), true)) else (none))) = some (r1, r2) := by rw [if_pos rfl] at H; exact H
    clear H
    have H := H1
    clear H1
    replace H := Option.bind_eq_some_iff.mp H
    obtain ⟨t146, A70, H⟩ := H
    replace H : (if 0 ≤ a1 then (some (Go.bits .or .u64 (Go.bits .andNot .u64 a0 (shl .u64 t146 a1)) (shl .u64 (Go.bits .and .u64 a3 t146) a1), true)) else (none)) = some (r1, r2) := H
    have A7 := Aside0.mk A70
    clear A70
    by_cases c8 : 0 ≤ a1
    · rw [if_pos c8] at H
      have c8b0 := eq_true c8
      have c8b1 : decide (0 ≤ a1) = true := decide_eq_true c8
      clear c8
      obtain ⟨ji9, hji9⟩ : ∃ j_ : Int, (shl .u64 t146 a1) = j_ := ⟨_, rfl⟩
      replace H : (some (Go.bits .or .u64 (Go.bits .andNot .u64 a0 (ji9)) (shl .u64 (Go.bits .and .u64 a3 t146) a1), true)) = some (r1, r2) := by first | (rw [hji9] at H; exact H) | (simp only [hji9] at H ⊢; exact H)
      (try rw [hji9] at A5)
      (try rw [hji9] at A7)
      have hji9_ : (IntKind.u64.wrap (t146 * 2 ^ min a1.toNat 64)) = ji9 := hji9
      have hji9z : a1 ≤ 64 → (IntKind.u64.wrap (t146 * 2 ^ a1.toNat)) = ji9 := shl_small hji9
      have c10b0 := eq_true (of_decide_eq_true (by first | (with_reducible assumption) | assumption) : 0 ≤ a1)
      obtain ⟨ji11, hji11⟩ : ∃ j_ : Int, (shl .u64 (Go.bits .and .u64 a3 t146) a1) = j_ := ⟨_, rfl⟩
      replace H : (some (Go.bits .or .u64 (Go.bits .andNot .u64 a0 (ji9)) (ji11), true)) = some (r1, r2) := by first | (rw [hji11] at H; exact H) | (simp only [hji11] at H ⊢; exact H)
      (try rw [hji11] at A5)
      (try rw [hji11] at A7)
      have hji11_ : (IntKind.u64.wrap ((Go.bits .and .u64 a3 t146) * 2 ^ min a1.toNat 64)) = ji11 := hji11
      have hji11z : a1 ≤ 64 → (IntKind.u64.wrap ((Go.bits .and .u64 a3 t146) * 2 ^ a1.toNat)) = ji11 := shl_small hji11
      simp only [Option.some.injEq, Prod.mk.injEq] at H
      obtain ⟨rfl, rfl⟩ := H
      go_enter Tryd.func57, Tryd.ntmps57
      go_wp2_with (first | (go_at_call 81; (with_reducible refine (bits_may.calls a1 a2 true _ A5.out).mono ?_); rintro e w' ⟨rfl, ⟨nd, rfl⟩⟩; (try first | exact ⟨rfl, _, World.drewN_drewN _ _ _⟩ | exact ⟨rfl, _, Eq.trans (World.drewN_drewN _ _ _) (congrArg (World.drewN _) (Nat.add_assoc _ _ _))⟩)) | (go_at_call 82; (with_reducible refine (bits_mask.calls a2 t146 _ A7.out).mono ?_); rintro e w' ⟨rfl, ⟨nd, rfl⟩⟩; (try first | exact ⟨rfl, _, World.drewN_drewN _ _ _⟩ | exact ⟨rfl, _, Eq.trans (World.drewN_drewN _ _ _) (congrArg (World.drewN _) (Nat.add_assoc _ _ _))⟩)))
      repeat (go_quiet (first | (go_at_call 81; (with_reducible refine (bits_may.calls a1 a2 true _ A5.out).mono ?_); rintro e w' ⟨rfl, ⟨nd, rfl⟩⟩; (try first | exact ⟨rfl, _, World.drewN_drewN _ _ _⟩ | exact ⟨rfl, _, Eq.trans (World.drewN_drewN _ _ _) (congrArg (World.drewN _) (Nat.add_assoc _ _ _))⟩)) | (go_at_call 82; (with_reducible refine (bits_mask.calls a2 t146 _ A7.out).mono ?_); rintro e w' ⟨rfl, ⟨nd, rfl⟩⟩; (try first | exact ⟨rfl, _, World.drewN_drewN _ _ _⟩ | exact ⟨rfl, _, Eq.trans (World.drewN_drewN _ _ _) (congrArg (World.drewN _) (Nat.add_assoc _ _ _))⟩))); try go_wp2_with (first | (go_at_call 81; (with_reducible refine (bits_may.calls a1 a2 true _ A5.out).mono ?_); rintro e w' ⟨rfl, ⟨nd, rfl⟩⟩; (try first | exact ⟨rfl, _, World.drewN_drewN _ _ _⟩ | exact ⟨rfl, _, Eq.trans (World.drewN_drewN _ _ _) (congrArg (World.drewN _) (Nat.add_assoc _ _ _))⟩)) | (go_at_call 82; (with_reducible refine (bits_mask.calls a2 t146 _ A7.out).mono ?_); rintro e w' ⟨rfl, ⟨nd, rfl⟩⟩; (try first | exact ⟨rfl, _, World.drewN_drewN _ _ _⟩ | exact ⟨rfl, _, Eq.trans (World.drewN_drewN _ _ _) (congrArg (World.drewN _) (Nat.add_assoc _ _ _))⟩))))
      go_ret2
      exact ⟨by first | rfl | (simp; done) | (simp only [← hji9, ← hji11] <;> (first | rfl | simp)) | (simp [*]; done), by repeat (first | exact Drawn0.refl _ | apply Drawn0.step)⟩
    · rw [if_neg c8] at H
      exact absurd H (by simp)
  · replace c6 := Bool.eq_false_iff.mpr c6
    subst c6
    have H1 : (some (0, false)) = some (r1, r2) := by rw [if_neg (show ¬ (false = true) by decide)] at H; exact H
    clear H
    have H := H1
    clear H1
    simp only [Option.some.injEq, Prod.mk.injEq] at H
    obtain ⟨rfl, rfl⟩ := H
    go_enter Tryd.func57, Tryd.ntmps57
    go_wp2_with (first | (go_at_call 81; (with_reducible refine (bits_may.calls a1 a2 false _ A5.out).mono ?_); rintro e w' ⟨rfl, ⟨nd, rfl⟩⟩; (try first | exact ⟨rfl, _, World.drewN_drewN _ _ _⟩ | exact ⟨rfl, _, Eq.trans (World.drewN_drewN _ _ _) (congrArg (World.drewN _) (Nat.add_assoc _ _ _))⟩)))
    repeat (go_quiet (first | (go_at_call 81; (with_reducible refine (bits_may.calls a1 a2 false _ A5.out).mono ?_); rintro e w' ⟨rfl, ⟨nd, rfl⟩⟩; (try first | exact ⟨rfl, _, World.drewN_drewN _ _ _⟩ | exact ⟨rfl, _, Eq.trans (World.drewN_drewN _ _ _) (congrArg (World.drewN _) (Nat.add_assoc _ _ _))⟩))); try go_wp2_with (first | (go_at_call 81; (with_reducible refine (bits_may.calls a1 a2 false _ A5.out).mono ?_); rintro e w' ⟨rfl, ⟨nd, rfl⟩⟩; (try first | exact ⟨rfl, _, World.drewN_drewN _ _ _⟩ | exact ⟨rfl, _, Eq.trans (World.drewN_drewN _ _ _) (congrArg (World.drewN _) (Nat.add_assoc _ _ _))⟩))))
    go_ret2
    exact ⟨by first | rfl | (simp; done) | (simp [*]; done), by repeat (first | exact Drawn0.refl _ | apply Drawn0.step)⟩
end Go.Proofs.YtaoajlaocphgdaaDoor.PA
end
