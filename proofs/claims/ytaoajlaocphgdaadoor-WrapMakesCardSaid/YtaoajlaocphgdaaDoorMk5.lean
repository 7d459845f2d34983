/-
Texts of this proof, put together: part 5.
-/
import Derived.Test.YtaoajlaocphgdaaDoorMk4
import Derived.StillTailTactics
import Derived.RegionTactic
import Derived.BigRegion
import Derived.Outline
import Derived.IntWalk
import Derived.Shelf.Small.Utf8
import Derived.Shelf.Strings.Search1
import Derived.Shelf.Strings.Search2
import Derived.Shelf.Strings.Search3
import Derived.Shelf.LaysM
import Derived.Shelf.Strings.Shaped
import Derived.Shelf.Unicode.Decode
import Derived.Shelf.Unicode.DecodeSlow
import Derived.Shelf.Unicode.DecodeAny
import Derived.Shelf.Unicode.DecodeLast
import Derived.Test.YtaoajlaocphgdaaDoorProg
import Derived.Laws.RangeAny
import Derived.Lib.OthersKept
import Derived.Laws.Concat
import Derived.WalkSpells

section
namespace Go.Proofs.YtaoajlaocphgdaaDoor.PA
open Go.RowKit Go.Proofs.YtaoajlaocphgdaaDoorW.PrintWords Go.Proofs.YtaoajlaocphgdaaDoorW.PrintLast Go.Proofs.YtaoajlaocphgdaaDoorW.PrintMore
set_option linter.unusedVariables false
set_option linter.unusedSimpArgs false
structure LayV where
  a0 : Int
  a1 : Int
  a2 : Int
  a3 : Int
  a4 : Int
  a5 : Int
  a6 : Int
  a7 : Int
  a8 : Int
  a9 : Int
  a10 : Int
  a11 : Int
  a12 : Int
  a13 : Int
  a14 : Int
  a15 : Int
  a16 : Int
  a17 : Int
  a18 : Int
  a19 : Int
def mkCells (l : LayV) (v : Value) (rg rp : Nat) : Array Value := #[.int .u64 l.a0, .int .u64 l.a1, .int .i64 l.a2, .int .i64 l.a3, .int .u64 l.a4, .int .u64 l.a5, .int .i64 l.a6, .int .i64 l.a7, .int .u64 l.a8, .int .u64 l.a9, .int .i64 l.a10, .int .i64 l.a11, .int .u64 l.a12, .int .u64 l.a13, .int .i64 l.a14, .int .i64 l.a15, .int .u64 l.a16, .int .u64 l.a17, .int .i64 l.a18, .int .i64 l.a19, v, .map (some rg), .map (some rp)]
structure MKat (w0 w : World) (g : Nat) (l : LayV) (code : List S43) (goes place : List (Int × Int)) (v : Value) (rg rp : Nat) : Prop where
  blk : w.heap[g]? = some (.cells (mkCells l v rg rp) 88 (0, 0))
  row : k43.R 43 w w0.heap.size (fun _ => True) v code
  gm : MapIs w rg goes
  pm : MapIs w rp place
  hg : w0.heap.size ≤ g
  hrg : w0.heap.size ≤ rg
  hrp : w0.heap.size ≤ rp
  hne : rg ≠ rp
def MK (w0 w : World) (g : Nat) (l : LayV) (code : List S43) (goes place : List (Int × Int)) : Prop := ∃ v rg rp, MKat w0 w g l code goes place v rg rp
section
variable {w0 w : World} {g : Nat} {l : LayV} {code : List S43} {goes place : List (Int × Int)} {v : Value} {rg rp : Nat}
theorem MKat.cell (h : MKat w0 w g l code goes place v rg rp) (j : Nat) (u : Value) (hu : (mkCells l v rg rp)[j]? = some u) : w.cell? ⟨g, j, none⟩ = some u := by
  simp [World.cell?, h.blk, hu]
theorem MKat.free (h : MKat w0 w g l code goes place v rg rp) (j : Nat) : w.frozen? ⟨g, j, none⟩ = false := by
  simp [World.frozen?, h.blk]
theorem MKat.g_ne_rg (h : MKat w0 w g l code goes place v rg rp) : g ≠ rg := by
  rintro rfl
  have h1 := h.blk
  rw [show w.heap[g]? = _ from h.gm] at h1
  cases h1
theorem MKat.g_ne_rp (h : MKat w0 w g l code goes place v rg rp) : g ≠ rp := by
  rintro rfl
  have h1 := h.blk
  rw [show w.heap[g]? = _ from h.pm] at h1
  cases h1
theorem MKat.lt (h : MKat w0 w g l code goes place v rg rp) : g < w.heap.size := (Array.getElem?_eq_some_iff.1 h.blk).1
theorem MKat.v_ne (h : MKat w0 w g l code goes place v rg rp) : some g ≠ v.ownBlock := Kd.R_ne h.row h.blk (by decide)
theorem MKat.v_ne_map (h : MKat w0 w g l code goes place v rg rp) {r : Nat} {es : List (Int × Int)} (hm : MapIs w r es) : some r ≠ v.ownBlock := by
  intro e
  obtain ⟨inner, ho⟩ := Kd.R_own h.row
  obtain ⟨cells, hc⟩ := own_typed ho r e.symm
  rw [show w.heap[r]? = _ from hm] at hc
  cases hc
theorem MKat.below {w1 : World} (h : MKat w0 w g l code goes place v rg rp) (hb : Below w.heap.size w w1) : MKat w0 w1 g l code goes place v rg rp :=
  ⟨(hb.block _ h.lt).trans h.blk, Kd.R_below h.row hb, h.gm.move (hb.block _ h.gm.lt), h.pm.move (hb.block _ h.pm.lt), h.hg, h.hrg, h.hrp, h.hne⟩
theorem MKat.store {w1 : World} {v1 : Value} {code1 : List S43} (h : MKat w0 w g l code goes place v rg rp) (hg : w.grownBy w1 v.ownBlock) (hr : k43.R 43 w1 w0.heap.size (fun _ => True) v1 code1) :
    MKat w0 (w1.setCell ⟨g, 20, none⟩ v1) g l code1 goes place v1 rg rp := by
  have hb1 : w1.heap[g]? = some (.cells (mkCells l v rg rp) 88 (0, 0)) := (hg.block g h.lt h.v_ne).trans h.blk
  refine ⟨?_, Kd.R_set hr hb1 (by decide) 20 v1, ?_, ?_, h.hg, h.hrg, h.hrp, h.hne⟩
  · show (w1.heap.modify g _)[g]? = _
    rw [Array.getElem?_modify, if_pos rfl, hb1]
    rfl
  · exact (h.gm.move (hg.block rg h.gm.lt (h.v_ne_map h.gm))).move (Below.heap_setCell _ _ _ _ (by exact h.g_ne_rg.symm))
  · exact (h.pm.move (hg.block rp h.pm.lt (h.v_ne_map h.pm))).move (Below.heap_setCell _ _ _ _ (by exact h.g_ne_rp.symm))
theorem MKat.addPlace (h : MKat w0 w g l code goes place v rg rp) (x : Int × Int) : MKat w0 (mapSet w.drew rp (place ++ [x])) g l code goes (place ++ [x]) v rg rp := by
  have hd : MKat w0 w.drew g l code goes place v rg rp := ⟨h.blk, Kd.R_move h.row (fun _ _ => rfl), h.gm, h.pm, h.hg, h.hrg, h.hrp, h.hne⟩
  have ho : ∀ k, k ≠ rp → (mapSet w.drew rp (place ++ [x])).heap[k]? = w.drew.heap[k]? := fun k hk => mapSet_other _ _ _ _ hk
  refine ⟨(ho g hd.g_ne_rp).trans hd.blk, ?_, hd.gm.move (ho rg hd.hne), mapSet_is _ _ _ hd.pm.lt, hd.hg, hd.hrg, hd.hrp, hd.hne⟩
  refine Kd.R_mono (ok := fun k => ∃ cells q, w.drew.heap[k]? = some (.cells cells q (0, 0))) (Kd.R_move (Kd.R_mono (Kd.R_bound hd.row) fun k hk => ?_) fun k hk => ?_) fun _ _ => trivial
  · obtain ⟨_, _, _, q, _, cells, hc⟩ := hk
    exact ⟨cells, q, hc⟩
  · obtain ⟨cells, q, hc⟩ := hk
    refine ho k ?_
    rintro rfl
    rw [show w.drew.heap[k]? = _ from hd.pm] at hc
    cases hc
theorem MKat.addGoes (h : MKat w0 w g l code goes place v rg rp) (x : Int × Int) : MKat w0 (mapSet w.drew rg (goes ++ [x])) g l code (goes ++ [x]) place v rg rp := by
  have hd : MKat w0 w.drew g l code goes place v rg rp := ⟨h.blk, Kd.R_move h.row (fun _ _ => rfl), h.gm, h.pm, h.hg, h.hrg, h.hrp, h.hne⟩
  have ho : ∀ k, k ≠ rg → (mapSet w.drew rg (goes ++ [x])).heap[k]? = w.drew.heap[k]? := fun k hk => mapSet_other _ _ _ _ hk
  refine ⟨(ho g hd.g_ne_rg).trans hd.blk, ?_, mapSet_is _ _ _ hd.gm.lt, hd.pm.move (ho rp hd.hne.symm), hd.hg, hd.hrg, hd.hrp, hd.hne⟩
  refine Kd.R_mono (ok := fun k => ∃ cells q, w.drew.heap[k]? = some (.cells cells q (0, 0))) (Kd.R_move (Kd.R_mono (Kd.R_bound hd.row) fun k hk => ?_) fun k hk => ?_) fun _ _ => trivial
  · obtain ⟨_, _, _, q, _, cells, hc⟩ := hk
    exact ⟨cells, q, hc⟩
  · obtain ⟨cells, q, hc⟩ := hk
    refine ho k ?_
    rintro rfl
    rw [show w.drew.heap[k]? = _ from hd.gm] at hc
    cases hc
end
set_option maxHeartbeats 2000000 in
theorem put_strong (w0 w : World) (g : Nat) (l : LayV) (code xs : List S43) (goes place : List (Int × Int)) (A : Option Addr) (c : Nat) (v : Value) (rg rp : Nat) (hM : MKat w0 w g l code goes place v rg rp) (hB : Below w0.heap.size w0 w)
    (hX : Kd.C k43 w A xs.length xs) (hlen : code.length + xs.length ≤ 1000) :
    Calls Tryd.prog 49 #[.pointer (some ⟨g, 0, none⟩), .slice A xs.length c] w fun e w' => e = .returned (.tuple #[]) ∧ (∃ v1, MKat w0 w' g l (code ++ xs) goes place v1 rg rp ∧
      (v1.ownBlock = v.ownBlock ∨ ∃ b, v1.ownBlock = some b ∧ w.heap.size ≤ b)) ∧ (∀ k, k < w.heap.size → k ≠ g → some k ≠ v.ownBlock → w'.heap[k]? = w.heap[k]?) ∧ w.heap.size ≤ w'.heap.size ∧ Below w0.heap.size w0 w' := by
  have c20 := hM.cell 20 v (by simp [mkCells])
  have HM := Aside0.mk hM
  have HB := Aside0.mk hB
  have HX := Aside0.mk hX
  clear hM hB hX
  go_enter Tryd.func49, Tryd.ntmps49
  go_wp2_with (at_builtin; refine Kd.R_append_rows k43 (w0 := w0) w0.heap.size rfl (.tmp 8) (.tmp 9) 56 43 (.agg #[(.int .i64 0), (.int .i64 0), (.int .i64 0), (.int .i64 0), (.int .i64 0)]) 40 rfl Tryd.underlying56 info43 rfl (by decide) (by omega) v code xs _ _ _ (fun _ => True) (fun _ => False) rfl rfl HM.out.row HX.out (fun _ _ h => h) (fun _ h => h.elim) (fun _ _ => trivial) HB.out HB.out.size (by omega) ?_)
  intro v1 w1 hr hb hg hat
  have hM1 := MKat.store HM.out hg hr
  have c20' : w1.cell? ⟨g, 20, none⟩ = some v := by
    have hb1 := (hg.block g HM.out.lt HM.out.v_ne).trans HM.out.blk
    simp [World.cell?, hb1, mkCells]
  have f20 : w1.frozen? ⟨g, 20, none⟩ = false := by
    have hb1 := (hg.block g HM.out.lt HM.out.v_ne).trans HM.out.blk
    simp [World.frozen?, hb1]
  have hsl := Kd.R_slice hr
  have HK : Aside0 (∀ k, k < w.heap.size → k ≠ g → some k ≠ v.ownBlock → (w1.setCell ⟨g, 20, none⟩ v1).heap[k]? = w.heap[k]?) := ⟨fun k h1 h2 h3 => (Below.heap_setCell _ _ _ _ (by exact h2)).trans (hg.block k h1 h3)⟩
  have HZ : Aside0 (w.heap.size ≤ (w1.setCell ⟨g, 20, none⟩ v1).heap.size) := ⟨by have := hg.size; simpa [World.setCell] using this⟩
  have HA := Aside0.mk hat
  have HM1 := Aside0.mk hM1
  have HB1 := Aside0.mk (below_set hb (j := 20) (v := v1) HM.out.hg)
  clear hM1 hg hr hb hat c20
  obtain ⟨A1, c1, rfl⟩ := hsl
  rw [List.length_append] at HM1 HB1 HK HA HZ
  go_wp2
  go_end0
  exact ⟨rfl, ⟨_, HM1.out, HA.out⟩, HK.out, HZ.out, HB1.out⟩
theorem put_calls (w0 w : World) (g : Nat) (l : LayV) (code xs : List S43) (goes place : List (Int × Int)) (A : Option Addr) (c : Nat) (hK : MK w0 w g l code goes place) (hB : Below w0.heap.size w0 w)
    (hX : Kd.C k43 w A xs.length xs) (hlen : code.length + xs.length ≤ 1000) :
    Calls Tryd.prog 49 #[.pointer (some ⟨g, 0, none⟩), .slice A xs.length c] w fun e w' => e = .returned (.tuple #[]) ∧ MK w0 w' g l (code ++ xs) goes place ∧ Below w0.heap.size w0 w' := by
  obtain ⟨v, rg, rp, hM⟩ := hK
  refine (put_strong w0 w g l code xs goes place A c v rg rp hM hB hX hlen).mono ?_
  rintro e w' ⟨rfl, ⟨v1, hM1, _⟩, _, _, hB1⟩
  exact ⟨rfl, ⟨v1, rg, rp, hM1⟩, hB1⟩
def insCells (x : S43) : List Value := [.int .i64 x.f0, .int .i64 x.f1, .int .i64 x.f2, .int .i64 x.f3, .int .i64 x.f4]
theorem flat_at (xs : List S43) (j i : Nat) (p : S43) (u : Value) (hp : xs[j]? = some p) (hu : (insCells p)[i]? = some u) : (xs.flatMap insCells)[j * 5 + i]? = some u := by
  induction xs generalizing j with
  | nil => cases hp
  | cons x r ih =>
    have hi : i < 5 := by
      rcases Nat.lt_or_ge i 5 with h | h
      · exact h
      · rw [List.getElem?_eq_none (by simpa [insCells] using h)] at hu
        cases hu
    rw [List.flatMap_cons]
    cases j with
    | zero =>
      obtain rfl := Option.some.inj hp
      rw [List.getElem?_append_left (by simp [insCells]; omega), Nat.zero_mul, Nat.zero_add]
      exact hu
    | succ j =>
      have hl : (insCells x).length = 5 := rfl
      rw [List.getElem?_append_right (by rw [hl]; omega), hl, show (j + 1) * 5 + i - 5 = j * 5 + i from by omega]
      exact ih j hp
theorem lit_C (W : World) (xs : List S43) (cs : Array Value) (h : cs.toList = xs.flatMap insCells) (hl : xs.length ≤ 9223372036854775807) :
    Kd.C k43 (W.alloc (.cells cs 43)) (some ⟨W.heap.size, 0, none⟩) xs.length xs := by
  refine ⟨rfl, hl, fun _ => ⟨_, rfl, fun j p hp => ⟨insCells p, rfl, k43_mk _ p, fun i u hu => ?_⟩⟩⟩
  rw [add_plain]
  have := flat_at xs j i p u hp hu
  rw [← h] at this
  have hsz : k43.sz = 5 := rfl
  simp only [World.cell?, heap_alloc_new]
  simpa [hsz] using this
def numIns (d v s : Int) : List S43 := [⟨38, d, 0, 0, (v + 2048) / 4096 * 4096⟩, ⟨16, d, d, 0, s⟩]
set_option maxHeartbeats 2000000 in
theorem number_calls (w0 w : World) (g : Nat) (l : LayV) (code : List S43) (goes place : List (Int × Int)) (d v s : Int) (hK : MK w0 w g l code goes place) (hB : Below w0.heap.size w0 w)
    (h0 : 0 ≤ v) (h1 : v ≤ 4294967296) (hs : bits_Sign.f v 12 = some s) (hlen : code.length ≤ 990) :
    Calls Tryd.prog 48 #[.pointer (some ⟨g, 0, none⟩), .int .i64 d, .int .u64 v] w fun e w' => e = .returned (.tuple #[]) ∧ MK w0 w' g l (code ++ numIns d v s) goes place ∧ Below w0.heap.size w0 w' := by
  have HS := Aside0.mk hs
  obtain ⟨v', rg, rp, hM⟩ := hK
  have HM := Aside0.mk hM
  have HB := Aside0.mk hB
  clear hs hM hB
  go_enter Tryd.func48, Tryd.ntmps48
  go_wp2_with (go_at_call 76; refine (bits_Sign.calls v 12 s _ HS.out).mono ?_; rintro e w1 ⟨rfl, ⟨nd, rfl⟩⟩)
  have hb : Below w.heap.size w ((w.drewN nd).alloc (.cells #[.int .i64 38, .int .i64 d, .int .i64 0, .int .i64 0, .int .i64 ((v + 2048) / 4096 * 4096), .int .i64 16, .int .i64 d, .int .i64 d, .int .i64 0, .int .i64 s] 43)) := (pw_below_drewN (Below.refl _ _) nd).alloc (by simp) _
  refine (put_calls w0 _ g l code (numIns d v s) goes place _ 2 ⟨_, _, _, HM.out.below hb⟩ (below_then HB.out HB.out.size hb) (lit_C (w.drewN nd) _ _ rfl (by show 2 ≤ _; decide)) (by show code.length + 2 ≤ 1000; omega)).mono ?_
  rintro e w2 ⟨rfl, hK, hB⟩
  have HK := Aside0.mk hK
  have HB2 := Aside0.mk hB
  clear hb hK hB
  go_wp2
  go_end0
  exact ⟨rfl, HK.out, HB2.out⟩
set_option maxHeartbeats 2000000 in
theorem here_calls (w0 w : World) (g : Nat) (l : LayV) (code : List S43) (goes place : List (Int × Int)) (k : Int) (hK : MK w0 w g l code goes place) (hB : Below w0.heap.size w0 w) (hk : ∀ x ∈ place, x.1 ≠ k) :
    Calls Tryd.prog 50 #[.pointer (some ⟨g, 0, none⟩), .int .i64 k] w fun e w' => e = .returned (.tuple #[]) ∧ MK w0 w' g l code goes (place ++ [(k, (code.length : Int))]) ∧ Below w0.heap.size w0 w' := by
  obtain ⟨v, rg, rp, hM⟩ := hK
  obtain ⟨A1, c1, rfl⟩ := Kd.R_slice hM.row
  have c20 := hM.cell 20 _ (by simp [mkCells]; rfl)
  have c22 := hM.cell 22 _ (by simp [mkCells]; rfl)
  have hu := run_add (P := Tryd.prog) Tryd.underlying86 Tryd.underlying3 w.drew rp place k (code.length : Int) (hM.pm) hk
  have HM := Aside0.mk hM
  have HB := Aside0.mk hB
  clear hM hB hk
  go_enter Tryd.func50, Tryd.ntmps50
  go_wp2
  go_region
  go_end0
  exact ⟨rfl, ⟨_, _, _, HM.out.addPlace _⟩, mapSet_below HB.out.drew _ _ HM.out.hrp⟩
set_option maxHeartbeats 2000000 in
set_option maxRecDepth 100000 in
theorem to_calls (w0 w : World) (g : Nat) (l : LayV) (code : List S43) (goes place : List (Int × Int)) (k : Int) (x : S43) (hK : MK w0 w g l code goes place) (hB : Below w0.heap.size w0 w) (hk : ∀ y ∈ goes, y.1 ≠ (code.length : Int)) (hlen : code.length ≤ 990) :
    Calls Tryd.prog 52 #[.pointer (some ⟨g, 0, none⟩), .int .i64 k, .agg #[.int .i64 x.f0, .int .i64 x.f1, .int .i64 x.f2, .int .i64 x.f3, .int .i64 x.f4]] w fun e w' => e = .returned (.tuple #[]) ∧ MK w0 w' g l (code ++ [x]) (goes ++ [((code.length : Int), k)]) place ∧ Below w0.heap.size w0 w' := by
  obtain ⟨v, rg, rp, hM0⟩ := hK
  obtain ⟨A1, c1, rfl⟩ := Kd.R_slice hM0.row
  obtain ⟨W, hW⟩ : ∃ W, W = w.alloc (.cells #[.int .i64 x.f0, .int .i64 x.f1, .int .i64 x.f2, .int .i64 x.f3, .int .i64 x.f4] 43) := ⟨_, rfl⟩
  have hbW : Below w.heap.size w W := by rw [hW]; exact (Below.refl _ _).alloc (Nat.le_refl _) _
  have hM := hM0.below hbW
  have c20 := hM.cell 20 _ (by simp [mkCells]; rfl)
  have c21 := hM.cell 21 _ (by simp [mkCells]; rfl)
  have hM2 := hM.addGoes ((code.length : Int), k)
  have hb2 := mapSet_below (below_then hB hB.size hbW).drew rg (goes ++ [((code.length : Int), k)]) hM.hrg
  have hu := run_add (P := Tryd.prog) Tryd.underlying86 Tryd.underlying3 W.drew rg goes (code.length : Int) k (hM.gm) hk
  have hcell : ∀ j u, (#[Value.int .i64 x.f0, Value.int .i64 x.f1, Value.int .i64 x.f2, Value.int .i64 x.f3, Value.int .i64 x.f4] : Array Value)[j]? = some u → (mapSet W.drew rg (goes ++ [((code.length : Int), k)])).cell? ⟨w.heap.size, j, none⟩ = some u := by
    intro j u hj
    have hne : w.heap.size ≠ rg := by have := hM0.gm.lt; omega
    have h1 : (mapSet W.drew rg (goes ++ [((code.length : Int), k)])).heap[w.heap.size]? = some (.cells #[.int .i64 x.f0, .int .i64 x.f1, .int .i64 x.f2, .int .i64 x.f3, .int .i64 x.f4] 43) := by
      rw [mapSet_other _ _ _ _ hne]
      subst hW
      exact heap_alloc_new w _
    simp only [World.cell?, h1]
    exact hj
  obtain ⟨W2, hW2⟩ : ∃ W2, W2 = mapSet W.drew rg (goes ++ [((code.length : Int), k)]) := ⟨_, rfl⟩
  rw [← hW2] at hM2 hb2 hu hcell
  have k0 := hcell 0 _ rfl
  have k1 := hcell 1 _ rfl
  have k2 := hcell 2 _ rfl
  have k3 := hcell 3 _ rfl
  have k4 := hcell 4 _ rfl
  have HM := Aside0.mk hM2
  have HB := Aside0.mk hb2
  subst hW
  clear hM hB hk hM0 hbW hM2 hb2 hcell hW2
  go_enter Tryd.func52, Tryd.ntmps52
  go_wp2
  go_region
  go_wp2_with fail
  have hb : Below W2.heap.size W2 (W2.alloc (.cells #[.int .i64 x.f0, .int .i64 x.f1, .int .i64 x.f2, .int .i64 x.f3, .int .i64 x.f4] 43)) := (Below.refl _ _).alloc (Nat.le_refl _) _
  refine (put_calls w0 _ g l code [x] _ place _ 1 ⟨_, _, _, HM.out.below hb⟩ (below_then HB.out HB.out.size hb) (lit_C W2 [x] _ rfl (by show 1 ≤ _; decide)) (by show code.length + 1 ≤ 1000; omega)).mono ?_
  rintro e w2 ⟨rfl, hK, hB⟩
  have HK := Aside0.mk hK
  have HB2 := Aside0.mk hB
  clear hb hK hB
  go_wp2
  go_end0
  exact ⟨rfl, HK.out, HB2.out⟩
end Go.Proofs.YtaoajlaocphgdaaDoor.PA
end
section
namespace Go.Proofs.YtaoajlaocphgdaaDoor.PA
open Go.RowKit Go.Proofs.YtaoajlaocphgdaaDoorW.PrintWords Go.Proofs.YtaoajlaocphgdaaDoorW.PrintLast Go.Proofs.YtaoajlaocphgdaaDoorW.PrintMore
set_option linter.unusedVariables false
set_option linter.unusedSimpArgs false
abbrev InsP := S43 × Int
def goesOf : List InsP → Int → List (Int × Int)
  | [], _ => []
  | x :: r, i => if x.2 = 0 then goesOf r (i + 1) else (i, x.2) :: goesOf r (i + 1)
theorem goesOf_append (a b : List InsP) (i : Int) : goesOf (a ++ b) i = goesOf a i ++ goesOf b (i + a.length) := by
  induction a generalizing i with
  | nil => simp [goesOf]
  | cons x r ih =>
    simp only [List.cons_append, goesOf, ih, List.length_cons, Int.natCast_add, Int.natCast_one]
    rw [show i + 1 + (r.length : Int) = i + ((r.length : Int) + 1) from by omega]
    split <;> simp
theorem goesOf_none (a : List InsP) (h : ∀ x ∈ a, x.2 = 0) (i : Int) : goesOf a i = [] := by
  induction a generalizing i with
  | nil => rfl
  | cons x r ih => simp only [goesOf, h x List.mem_cons_self, if_true]; exact ih (fun y hy => h y (List.mem_cons_of_mem _ hy)) _
theorem goesOf_lt (a : List InsP) (i : Int) : ∀ y ∈ goesOf a i, i ≤ y.1 ∧ y.1 < i + a.length := by
  induction a generalizing i with
  | nil => intro y hy; cases hy
  | cons x r ih =>
    intro y hy
    simp only [goesOf] at hy
    rw [List.length_cons]
    split at hy
    · have := ih _ y hy; omega
    · rcases List.mem_cons.1 hy with rfl | hy
      · simp only; omega
      · have := ih _ y hy; omega
def noneGo (xs : List S43) : List InsP := xs.map fun x => (x, 0)
def MS (w0 w : World) (g : Nat) (l : LayV) (st : List InsP) (place : List (Int × Int)) : Prop := MK w0 w g l (st.map (·.1)) (goesOf st 0) place
theorem MS.cellL {w0 w : World} {g : Nat} {l : LayV} {st : List InsP} {place : List (Int × Int)} (h : MS w0 w g l st place) (j : Nat) (u : Value) (hu : ∀ v rg rp, (mkCells l v rg rp)[j]? = some u) : w.cell? ⟨g, j, none⟩ = some u := by
  obtain ⟨v, rg, rp, hM⟩ := h
  exact hM.cell j u (hu _ _ _)
theorem MS.below {w0 w w1 : World} {g : Nat} {l : LayV} {st : List InsP} {place : List (Int × Int)} (h : MS w0 w g l st place) (hb : Below w.heap.size w w1) : MS w0 w1 g l st place := by
  obtain ⟨v, rg, rp, hM⟩ := h
  exact ⟨v, rg, rp, hM.below hb⟩
def sg (v : Int) : Int := shr .i64 (wrap64 (shl .u64 v 52)) 52
theorem sign_some (v : Int) : bits_Sign.f v 12 = some (sg v) := by
  unfold bits_Sign.f sg
  rw [if_neg (by decide), if_neg (by decide)]
  have : wrap64 (64 - 12) = 52 := by unfold wrap64; omega
  rw [this, if_pos (by decide)]
def num (d v : Int) : List InsP := noneGo (numIns d v (sg v))
section
variable {w0 w : World} {g : Nat} {l : LayV} {st : List InsP} {place : List (Int × Int)}
theorem put_ms (xs : List S43) (A : Option Addr) (c : Nat) (hK : MS w0 w g l st place) (hB : Below w0.heap.size w0 w) (hX : Kd.C k43 w A xs.length xs) (hlen : st.length + xs.length ≤ 1000) :
    Calls Tryd.prog 49 #[.pointer (some ⟨g, 0, none⟩), .slice A xs.length c] w fun e w' => e = .returned (.tuple #[]) ∧ MS w0 w' g l (st ++ noneGo xs) place ∧ Below w0.heap.size w0 w' := by
  refine (put_calls w0 w g l _ xs _ place A c hK hB hX (by rw [List.length_map]; exact hlen)).mono ?_
  rintro e w' ⟨rfl, hK, hB⟩
  refine ⟨rfl, ?_, hB⟩
  unfold MS
  rw [goesOf_append, goesOf_none (noneGo xs) (by simp [noneGo]), List.append_nil, List.map_append]
  have : (noneGo xs).map (·.1) = xs := by simp [noneGo, Function.comp_def]
  rw [this]
  exact hK
theorem put_lit (xs : List S43) (cs : Array Value) (n : Nat) (hn : xs.length = n) (hcs : cs.toList = xs.flatMap insCells) (hK : MS w0 w g l st place) (hB : Below w0.heap.size w0 w) (hlen : st.length + xs.length ≤ 1000) :
    Calls Tryd.prog 49 #[.pointer (some ⟨g, 0, none⟩), .slice (some ⟨w.heap.size, 0, none⟩) n n] (w.alloc (.cells cs 43)) fun e w' => e = .returned (.tuple #[]) ∧ MS w0 w' g l (st ++ noneGo xs) place ∧ Below w0.heap.size w0 w' := by
  subst hn
  have hb : Below w.heap.size w (w.alloc (.cells cs 43)) := (Below.refl _ _).alloc (Nat.le_refl _) _
  exact put_ms xs _ _ (hK.below hb) (below_then hB hB.size hb) (lit_C w xs cs hcs (by omega)) hlen
theorem to_ms (k : Int) (x : S43) (hk : k ≠ 0) (hK : MS w0 w g l st place) (hB : Below w0.heap.size w0 w) (hlen : st.length ≤ 990) :
    Calls Tryd.prog 52 #[.pointer (some ⟨g, 0, none⟩), .int .i64 k, .agg #[.int .i64 x.f0, .int .i64 x.f1, .int .i64 x.f2, .int .i64 x.f3, .int .i64 x.f4]] w fun e w' => e = .returned (.tuple #[]) ∧ MS w0 w' g l (st ++ [(x, k)]) place ∧ Below w0.heap.size w0 w' := by
  refine (to_calls w0 w g l _ _ place k x hK hB (fun y hy => ?_) (by rw [List.length_map]; exact hlen)).mono ?_
  · have := goesOf_lt st 0 y hy
    rw [List.length_map]
    omega
  · rintro e w' ⟨rfl, hK, hB⟩
    refine ⟨rfl, ?_, hB⟩
    unfold MS
    rw [goesOf_append, List.map_append]
    simp only [goesOf, hk, if_false]
    rw [List.length_map] at hK
    simpa using hK
theorem number_ms (d v : Int) (hK : MS w0 w g l st place) (hB : Below w0.heap.size w0 w) (h0 : 0 ≤ v) (h1 : v ≤ 4294967296) (hlen : st.length ≤ 990) :
    Calls Tryd.prog 48 #[.pointer (some ⟨g, 0, none⟩), .int .i64 d, .int .u64 v] w fun e w' => e = .returned (.tuple #[]) ∧ MS w0 w' g l (st ++ num d v) place ∧ Below w0.heap.size w0 w' := by
  refine (number_calls w0 w g l _ _ place d v (sg v) hK hB h0 h1 (sign_some v) (by rw [List.length_map]; exact hlen)).mono ?_
  rintro e w' ⟨rfl, hK, hB⟩
  refine ⟨rfl, ?_, hB⟩
  unfold MS num
  rw [goesOf_append, goesOf_none (noneGo _) (by simp [noneGo]), List.append_nil, List.map_append]
  have : (noneGo (numIns d v (sg v))).map (·.1) = numIns d v (sg v) := by simp [noneGo, Function.comp_def]
  rw [this]
  exact hK
end
def backP (l : LayV) : List InsP := num 5 l.a16 ++ ([(⟨36, 0, 1, 5, 0⟩, 3)] ++ (num 5 l.a17 ++ ([(⟨37, 0, 1, 5, 0⟩, 3)] ++ (noneGo [⟨21, 5, 1, 0, 3⟩] ++ [(⟨33, 0, 5, 0, 0⟩, 3)]))))
set_option maxHeartbeats 4000000 in
set_option maxRecDepth 100000 in
theorem back_calls (w0 w : World) (g : Nat) (l : LayV) (st : List InsP) (place : List (Int × Int)) (hK : MS w0 w g l st place) (hB : Below w0.heap.size w0 w)
    (h16 : 0 ≤ l.a16 ∧ l.a16 ≤ 4294967296) (h17 : 0 ≤ l.a17 ∧ l.a17 ≤ 4294967296) (hlen : st.length ≤ 900) :
    Calls Tryd.prog 46 #[.pointer (some ⟨g, 0, none⟩)] w fun e w' => e = .returned (.tuple #[]) ∧ MS w0 w' g l (st ++ backP l) place ∧ Below w0.heap.size w0 w' := by
  have c16 := hK.cellL 16 _ (fun _ _ _ => by simp [mkCells]; rfl)
  have HK := Aside0.mk hK
  have HB := Aside0.mk hB
  clear hK hB
  go_enter Tryd.func46, Tryd.ntmps46
  go_wp2_with fail
  refine (number_ms 5 l.a16 HK.out HB.out h16.1 h16.2 (by omega)).mono ?_
  rintro e w1 ⟨rfl, hK, hB⟩
  have HK := Aside0.mk hK
  have HB := Aside0.mk hB
  clear hK hB c16
  go_wp2_with fail
  refine (to_ms 3 ⟨36, 0, 1, 5, 0⟩ (by decide) HK.out HB.out (by simp [num, noneGo, numIns]; omega)).mono ?_
  rintro e w2 ⟨rfl, hK, hB⟩
  have c17 := hK.cellL 17 _ (fun _ _ _ => by simp [mkCells]; rfl)
  have HK := Aside0.mk hK
  have HB := Aside0.mk hB
  clear hK hB
  go_wp2_with fail
  refine (number_ms 5 l.a17 HK.out HB.out h17.1 h17.2 (by simp [num, noneGo, numIns]; omega)).mono ?_
  rintro e w3 ⟨rfl, hK, hB⟩
  have HK := Aside0.mk hK
  have HB := Aside0.mk hB
  clear hK hB c17
  go_wp2_with fail
  refine (to_ms 3 ⟨37, 0, 1, 5, 0⟩ (by decide) HK.out HB.out (by simp [num, noneGo, numIns]; omega)).mono ?_
  rintro e w4 ⟨rfl, hK, hB⟩
  have HK := Aside0.mk hK
  have HB := Aside0.mk hB
  clear hK hB
  go_wp2_with fail
  refine (put_lit [⟨21, 5, 1, 0, 3⟩] _ 1 rfl rfl HK.out HB.out (by simp [num, noneGo, numIns]; omega)).mono ?_
  rintro e w5 ⟨rfl, hK, hB⟩
  have HK := Aside0.mk hK
  have HB := Aside0.mk hB
  clear hK hB
  go_wp2_with fail
  refine (to_ms 3 ⟨33, 0, 5, 0, 0⟩ (by decide) HK.out HB.out (by simp [num, noneGo, numIns]; omega)).mono ?_
  rintro e w6 ⟨rfl, hK, hB⟩
  have HK := Aside0.mk hK
  have HB := Aside0.mk hB
  clear hK hB
  go_wp2_with fail
  go_end0
  refine ⟨rfl, ?_, HB.out⟩
  have := HK.out
  simpa only [backP, List.append_assoc] using this
def ptrP (l : LayV) (r n : Int) : List InsP :=
  if l.a13 - 8 * n < l.a12 then [(⟨40, 0, 0, 0, 0⟩, 1)] else
    noneGo [⟨21, 5, r, 0, 7⟩] ++ ([(⟨33, 0, 5, 0, 0⟩, 1)] ++ (num 5 l.a12 ++ ([(⟨36, 0, r, 5, 0⟩, 1)] ++ (num 5 (l.a13 - 8 * n) ++ [(⟨36, 0, 5, r, 0⟩, 1)]))))
theorem ptr_never (w0 w : World) (g : Nat) (l : LayV) (st : List InsP) (place : List (Int × Int)) (r n : Int) (hK : MS w0 w g l st place) (hB : Below w0.heap.size w0 w)
    (h12 : 0 ≤ l.a12 ∧ l.a12 ≤ 1073741824) (h13 : 0 ≤ l.a13 ∧ l.a13 ≤ 1073741824) (hn : 0 ≤ n ∧ n ≤ 64) (hr : 0 ≤ r ∧ r ≤ 31) (hlen : st.length ≤ 900) (hno : l.a13 - 8 * n < l.a12) :
    Calls Tryd.prog 47 #[.pointer (some ⟨g, 0, none⟩), .int .i64 r, .int .i64 n] w fun e w' => e = .returned (.tuple #[]) ∧ MS w0 w' g l (st ++ [(⟨40, 0, 0, 0, 0⟩, 1)]) place ∧ Below w0.heap.size w0 w' := by
  have c12 := hK.cellL 12 _ (fun _ _ _ => by simp [mkCells]; rfl)
  have c13 := hK.cellL 13 _ (fun _ _ _ => by simp [mkCells]; rfl)
  have HK := Aside0.mk hK
  have HB := Aside0.mk hB
  obtain ⟨n0, n1⟩ := hn
  obtain ⟨x0, x1⟩ := h12
  obtain ⟨y0, y1⟩ := h13
  clear hK hB
  by_cases hw : 0 ≤ l.a13 - 8 * n
  · have hd : decide (l.a13 - 8 * n < l.a12) = true := decide_eq_true hno
    go_enter Tryd.func47, Tryd.ntmps47
    go_wp2_with fail
    refine (to_ms 1 ⟨40, 0, 0, 0, 0⟩ (by decide) HK.out HB.out (by omega)).mono ?_
    rintro e w1 ⟨rfl, hK, hB⟩
    have HK := Aside0.mk hK
    have HB := Aside0.mk hB
    clear hK hB
    go_wp2_with fail
    refine bodyPost_ret (results_none rfl _ _ _) rfl ?_
    exact ⟨rfl, HK.out, HB.out⟩
  · have hd : decide (IntKind.u64.wrap (l.a13 - 8 * n) < l.a12) = false := decide_eq_false (by rw [IntKind.wrap_u64]; omega)
    have hd2 : decide (l.a13 < 8 * n) = true := decide_eq_true (by omega)
    go_enter Tryd.func47, Tryd.ntmps47
    go_wp2_with fail
    refine (to_ms 1 ⟨40, 0, 0, 0, 0⟩ (by decide) HK.out HB.out (by omega)).mono ?_
    rintro e w1 ⟨rfl, hK, hB⟩
    have HK := Aside0.mk hK
    have HB := Aside0.mk hB
    clear hK hB
    go_wp2_with fail
    refine bodyPost_ret (results_none rfl _ _ _) rfl ?_
    exact ⟨rfl, HK.out, HB.out⟩
set_option maxHeartbeats 4000000 in
set_option maxRecDepth 100000 in
theorem ptr_yes (w0 w : World) (g : Nat) (l : LayV) (st : List InsP) (place : List (Int × Int)) (r n : Int) (hK : MS w0 w g l st place) (hB : Below w0.heap.size w0 w)
    (h12 : 0 ≤ l.a12 ∧ l.a12 ≤ 1073741824) (h13 : 0 ≤ l.a13 ∧ l.a13 ≤ 1073741824) (hn : 0 ≤ n ∧ n ≤ 64) (hr : 0 ≤ r ∧ r ≤ 31) (hlen : st.length ≤ 900) (hyes : ¬ l.a13 - 8 * n < l.a12) :
    Calls Tryd.prog 47 #[.pointer (some ⟨g, 0, none⟩), .int .i64 r, .int .i64 n] w fun e w' => e = .returned (.tuple #[]) ∧ MS w0 w' g l (st ++ (noneGo [⟨21, 5, r, 0, 7⟩] ++ ([(⟨33, 0, 5, 0, 0⟩, 1)] ++ (num 5 l.a12 ++ ([(⟨36, 0, r, 5, 0⟩, 1)] ++ (num 5 (l.a13 - 8 * n) ++ [(⟨36, 0, 5, r, 0⟩, 1)])))))) place ∧ Below w0.heap.size w0 w' := by
  have c12 := hK.cellL 12 _ (fun _ _ _ => by simp [mkCells]; rfl)
  have c13 := hK.cellL 13 _ (fun _ _ _ => by simp [mkCells]; rfl)
  have HK := Aside0.mk hK
  have HB := Aside0.mk hB
  obtain ⟨n0, n1⟩ := hn
  obtain ⟨x0, x1⟩ := h12
  obtain ⟨y0, y1⟩ := h13
  clear hK hB
  have hd : decide (l.a13 - 8 * n < l.a12) = false := decide_eq_false hyes
  have hd2 : decide (l.a13 < 8 * n) = false := decide_eq_false (by omega)
  go_enter Tryd.func47, Tryd.ntmps47
  go_wp2_with fail
  refine (put_lit [⟨21, 5, r, 0, 7⟩] _ 1 rfl rfl HK.out HB.out (by simp [num, noneGo, numIns]; omega)).mono ?_
  rintro e w1 ⟨rfl, hK, hB⟩
  have HK := Aside0.mk hK
  have HB := Aside0.mk hB
  clear hK hB
  go_wp2_with fail
  refine (to_ms 1 ⟨33, 0, 5, 0, 0⟩ (by decide) HK.out HB.out (by simp [num, noneGo, numIns]; omega)).mono ?_
  rintro e w1 ⟨rfl, hK, hB⟩
  have c12 := hK.cellL 12 _ (fun _ _ _ => by simp [mkCells]; rfl)
  have HK := Aside0.mk hK
  have HB := Aside0.mk hB
  clear hK hB
  go_wp2_with fail
  refine (number_ms 5 l.a12 HK.out HB.out x0 (by omega) (by simp [num, noneGo, numIns]; omega)).mono ?_
  rintro e w1 ⟨rfl, hK, hB⟩
  have HK := Aside0.mk hK
  have HB := Aside0.mk hB
  clear hK hB
  go_wp2_with fail
  refine (to_ms 1 ⟨36, 0, r, 5, 0⟩ (by decide) HK.out HB.out (by simp [num, noneGo, numIns]; omega)).mono ?_
  rintro e w1 ⟨rfl, hK, hB⟩
  have HK := Aside0.mk hK
  have HB := Aside0.mk hB
  clear hK hB
  go_wp2_with fail
  refine (number_ms 5 (l.a13 - 8 * n) HK.out HB.out (by omega) (by omega) (by simp [num, noneGo, numIns]; omega)).mono ?_
  rintro e w1 ⟨rfl, hK, hB⟩
  have HK := Aside0.mk hK
  have HB := Aside0.mk hB
  clear hK hB
  go_wp2_with fail
  refine (to_ms 1 ⟨36, 0, 5, r, 0⟩ (by decide) HK.out HB.out (by simp [num, noneGo, numIns]; omega)).mono ?_
  rintro e w1 ⟨rfl, hK, hB⟩
  have HK := Aside0.mk hK
  have HB := Aside0.mk hB
  clear hK hB
  go_wp2_with fail
  go_end0
  refine ⟨rfl, ?_, HB.out⟩
  have := HK.out
  simpa using this
theorem pointer_calls (w0 w : World) (g : Nat) (l : LayV) (st : List InsP) (place : List (Int × Int)) (r n : Int) (hK : MS w0 w g l st place) (hB : Below w0.heap.size w0 w)
    (h12 : 0 ≤ l.a12 ∧ l.a12 ≤ 1073741824) (h13 : 0 ≤ l.a13 ∧ l.a13 ≤ 1073741824) (hn : 0 ≤ n ∧ n ≤ 64) (hr : 0 ≤ r ∧ r ≤ 31) (hlen : st.length ≤ 900) :
    Calls Tryd.prog 47 #[.pointer (some ⟨g, 0, none⟩), .int .i64 r, .int .i64 n] w fun e w' => e = .returned (.tuple #[]) ∧ MS w0 w' g l (st ++ ptrP l r n) place ∧ Below w0.heap.size w0 w' := by
  unfold ptrP
  by_cases h : l.a13 - 8 * n < l.a12
  · rw [if_pos h]
    exact ptr_never w0 w g l st place r n hK hB h12 h13 hn hr hlen h
  · rw [if_neg h]
    exact ptr_yes w0 w g l st place r n hK hB h12 h13 hn hr hlen h
def cleanRegs : List Int := [5, 6, 7, 12, 13, 14, 15, 16, 17, 28, 29, 30, 31]
def cleanP : List InsP := noneGo (cleanRegs.map fun r => ⟨16, r, 0, 0, 0⟩)
theorem take_map_succ {α β : Type} (l : List α) (f : α → β) (k : Nat) (x : α) (h : l[k]? = some x) : (l.take (k + 1)).map f = (l.take k).map f ++ [f x] := by
  obtain ⟨hk, rfl⟩ := List.getElem?_eq_some_iff.1 h
  rw [List.take_succ_eq_append_getElem hk, List.map_append]
  rfl
def MSx (w0 w : World) (g : Nat) (l : LayV) (st : List InsP) (place : List (Int × Int)) (b : Nat) : Prop := ∃ v rg rp, MKat w0 w g l (st.map (·.1)) (goesOf st 0) place v rg rp ∧ some b ≠ v.ownBlock ∧ b ≠ g ∧ b < w.heap.size
theorem MSx.ms {w0 w : World} {g : Nat} {l : LayV} {st : List InsP} {place : List (Int × Int)} {b : Nat} (h : MSx w0 w g l st place b) : MS w0 w g l st place := by
  obtain ⟨v, rg, rp, hM, _⟩ := h
  exact ⟨v, rg, rp, hM⟩
theorem MS.msx {w0 w : World} {g : Nat} {l : LayV} {st : List InsP} {place : List (Int × Int)} (h : MS w0 w g l st place) (o : Obj) : MSx w0 (w.alloc o) g l st place w.heap.size := by
  obtain ⟨v, rg, rp, hM⟩ := h
  refine ⟨v, rg, rp, hM.below ((Below.refl _ _).alloc (Nat.le_refl _) _), fun e => ?_, ?_, by simp⟩
  · obtain ⟨inner, ho⟩ := Kd.R_own hM.row
    have := own_lt ho _ e.symm
    omega
  · have := hM.lt
    omega
theorem put_x {w0 w : World} {g : Nat} {l : LayV} {st : List InsP} {place : List (Int × Int)} {b : Nat} (xs : List S43) (cs : Array Value) (n : Nat) (hn : xs.length = n) (hcs : cs.toList = xs.flatMap insCells) (hK : MSx w0 w g l st place b) (hB : Below w0.heap.size w0 w) (hlen : st.length + xs.length ≤ 1000) :
    Calls Tryd.prog 49 #[.pointer (some ⟨g, 0, none⟩), .slice (some ⟨w.heap.size, 0, none⟩) n n] (w.alloc (.cells cs 43)) fun e w' => e = .returned (.tuple #[]) ∧ MSx w0 w' g l (st ++ noneGo xs) place b ∧ w'.heap[b]? = w.heap[b]? ∧ Below w0.heap.size w0 w' := by
  subst hn
  obtain ⟨v, rg, rp, hM, h1, h2, h3⟩ := hK
  have hb : Below w.heap.size w (w.alloc (.cells cs 43)) := (Below.refl _ _).alloc (Nat.le_refl _) _
  refine (put_strong w0 _ g l _ xs _ place _ _ v rg rp (hM.below hb) (below_then hB hB.size hb) (lit_C w xs cs hcs (by omega)) (by rw [List.length_map]; exact hlen)).mono ?_
  rintro e w' ⟨rfl, ⟨v1, hM1, ha⟩, hk, hz, hB1⟩
  have hzz : w.heap.size ≤ w'.heap.size := Nat.le_trans hb.size hz
  refine ⟨rfl, ⟨v1, rg, rp, ?_, ?_, h2, by omega⟩, (hk b (Nat.lt_of_lt_of_le h3 hb.size) h2 h1).trans (hb.block b h3), hB1⟩
  · rw [goesOf_append, goesOf_none (noneGo xs) (by simp [noneGo]), List.append_nil, List.map_append]
    have : (noneGo xs).map (·.1) = xs := by simp [noneGo, Function.comp_def]
    rw [this]
    exact hM1
  · rcases ha with ha | ⟨b', ha, hlt⟩
    · rw [ha]; exact h1
    · rw [ha]
      intro e
      obtain rfl := Option.some.inj e
      have := hb.size
      omega
def regCells : Array Value := #[.int .i64 5, .int .i64 6, .int .i64 7, .int .i64 12, .int .i64 13, .int .i64 14, .int .i64 15, .int .i64 16, .int .i64 17, .int .i64 28, .int .i64 29, .int .i64 30, .int .i64 31]
theorem reg_cell (k : Nat) (hk : k < 13) : regCells[k]? = some (.int .i64 (cleanRegs.getD k 0)) := by
  unfold regCells cleanRegs
  match k, hk with
  | 0, _ => rfl
  | 1, _ => rfl
  | 2, _ => rfl
  | 3, _ => rfl
  | 4, _ => rfl
  | 5, _ => rfl
  | 6, _ => rfl
  | 7, _ => rfl
  | 8, _ => rfl
  | 9, _ => rfl
  | 10, _ => rfl
  | 11, _ => rfl
  | 12, _ => rfl
theorem clean_succ (k : Nat) (hk : k < 13) : noneGo ((cleanRegs.take (k + 1)).map fun r => ⟨16, r, 0, 0, 0⟩) = noneGo ((cleanRegs.take k).map fun r => ⟨16, r, 0, 0, 0⟩) ++ noneGo [⟨16, cleanRegs.getD k 0, 0, 0, 0⟩] := by
  unfold noneGo
  rw [take_map_succ cleanRegs (fun r => (⟨16, r, 0, 0, 0⟩ : S43)) k (cleanRegs.getD k 0) (by
    have : k < cleanRegs.length := hk
    rw [List.getD_eq_getElem?_getD, List.getElem?_eq_getElem this]; rfl), List.map_append]
set_option maxHeartbeats 4000000 in
set_option maxRecDepth 100000 in
theorem clean_calls (w0 w : World) (g : Nat) (l : LayV) (st : List InsP) (place : List (Int × Int)) (hK : MS w0 w g l st place) (hB : Below w0.heap.size w0 w) (hlen : st.length ≤ 900) :
    Calls Tryd.prog 51 #[.pointer (some ⟨g, 0, none⟩)] w fun e w' => e = .returned (.tuple #[]) ∧ MS w0 w' g l (st ++ cleanP) place ∧ Below w0.heap.size w0 w' := by
  have HK := Aside0.mk (hK.msx (.cells regCells 3))
  have HB := Aside0.mk (below_then hB hB.size ((Below.refl _ _).alloc (Nat.le_refl _) (.cells regCells 3)))
  have hr : (w.alloc (.cells regCells 3)).heap[w.heap.size]? = some (.cells regCells 3) := heap_alloc_new w _
  have HR := Aside0.mk hr
  unfold regCells at HK HB
  clear hK hB hr
  go_enter Tryd.func51, Tryd.ntmps51
  go_wp2_with fail
  go_loopw [3, 6] (fun _ i wr => ∃ k : Nat, k ≤ 13 ∧ i = .int .i64 k ∧ Aside0 (MSx w0 wr g l (st ++ noneGo ((cleanRegs.take k).map fun r => ⟨16, r, 0, 0, 0⟩)) place w.heap.size) ∧ Aside0 (wr.heap[w.heap.size]? = some (.cells regCells 3)) ∧ Aside0 (Below w0.heap.size w0 wr)) (fun _ i _ => 13 - (intOf i).toNat)
  case atStart => exact ⟨0, by omega, rfl, ⟨by simpa [noneGo] using HK.out⟩, HR, HB⟩
  case round =>
    obtain ⟨k, hk, rfl, HK, HR, HB⟩ := hrel
    by_cases hlt : k < 13
    · have hc : wr.cell? ⟨w.heap.size, k, none⟩ = some (.int .i64 (cleanRegs.getD k 0)) := by
        simp only [World.cell?, HR.out]
        exact reg_cell k hlt
      obtain ⟨r, hr⟩ : ∃ r, cleanRegs.getD k 0 = r := ⟨_, rfl⟩
      have HE := Aside0.mk (clean_succ k hlt)
      rw [hr] at hc HE
      have hlt2 : (k : Int) < 13 := by omega
      clear hr
      go_wp2_with fail
      refine (put_x [⟨16, r, 0, 0, 0⟩] _ 1 rfl rfl HK.out HB.out (by simp [noneGo]; omega)).mono ?_
      rintro e w1 ⟨rfl, hK1, hh1, hB1⟩
      have HK1 := Aside0.mk hK1
      have HR1 := Aside0.mk (hh1.trans HR.out)
      have HB1 := Aside0.mk hB1
      clear hK1 hh1 hB1 hc
      go_wp2_with fail
      go_roundw
      case rel => exact ⟨k + 1, by omega, by go_num, ⟨by rw [HE.out, ← List.append_assoc]; exact HK1.out⟩, HR1, HB1⟩
      case measure => simp [intOf]; omega
    · obtain rfl : k = 13 := by omega
      go_wp2_with fail
      go_end0
      exact ⟨rfl, HK.out.ms, HB.out⟩
end Go.Proofs.YtaoajlaocphgdaaDoor.PA
end
section
namespace Go.Proofs.YtaoajlaocphgdaaDoor.PA
open Go.RowKit Go.Proofs.YtaoajlaocphgdaaDoorW.PrintWords
set_option linter.unusedVariables false
def patchI (P : Int → Int) (i : Int) (x : InsP) : S43 := if x.2 = 0 then x.1 else { x.1 with f4 := 4 * (P x.2 - i) }
def finalL (P : Int → Int) : List InsP → Int → List S43
  | [], _ => []
  | x :: r, i => patchI P i x :: finalL P r (i + 1)
theorem finalL_get (P : Int → Int) (st : List InsP) (i : Int) (n : Nat) : (finalL P st i)[n]? = (st[n]?).map fun x => patchI P (i + n) x := by
  induction st generalizing i n with
  | nil => rfl
  | cons x r ih =>
    cases n with
    | zero => simp [finalL]
    | succ n => simp only [finalL, List.getElem?_cons_succ, ih]; rw [show i + 1 + (n : Int) = i + ((n + 1 : Nat) : Int) from by omega]
theorem finalL_length (P : Int → Int) (st : List InsP) (i : Int) : (finalL P st i).length = st.length := by
  induction st generalizing i with
  | nil => rfl
  | cons x r ih => simp [finalL, ih]
theorem goesOf_mem {st : List InsP} {i : Int} {y : Int × Int} (h : y ∈ goesOf st i) : ∃ (n : Nat) (x : S43), y.1 = i + n ∧ st[n]? = some (x, y.2) ∧ y.2 ≠ 0 := by
  induction st generalizing i with
  | nil => cases h
  | cons x r ih =>
    simp only [goesOf] at h
    split at h
    · obtain ⟨n, z, h1, h2, h3⟩ := ih h
      exact ⟨n + 1, z, by omega, by simpa using h2, h3⟩
    · rename_i hx
      rcases List.mem_cons.1 h with rfl | h
      · exact ⟨0, x.1, by simp, by simp, hx⟩
      · obtain ⟨n, z, h1, h2, h3⟩ := ih h
        exact ⟨n + 1, z, by omega, by simpa using h2, h3⟩
theorem mem_goesOf {st : List InsP} {i : Int} {n : Nat} {x : InsP} (h : st[n]? = some x) (hx : x.2 ≠ 0) : (i + (n : Int), x.2) ∈ goesOf st i := by
  induction st generalizing i n with
  | nil => cases h
  | cons y r ih =>
    simp only [goesOf]
    cases n with
    | zero =>
      obtain rfl := Option.some.inj h
      rw [if_neg hx]
      simp
    | succ n =>
      have := ih (i := i + 1) (n := n) (by simpa using h)
      rw [show i + 1 + (n : Int) = i + ((n + 1 : Nat) : Int) from by omega] at this
      split
      · exact this
      · exact List.mem_cons_of_mem _ this
open Classical in
noncomputable def Patched (st : List InsP) (P : Int → Int) (seen : List Nat) (code : List S43) : Prop :=
  code.length = st.length ∧ ∀ (i : Nat) (x : InsP), st[i]? = some x → code[i]? = some (if ∃ j ∈ seen, (goesOf st 0)[j]? = some ((i : Int), x.2) then patchI P i x else x.1)
theorem Patched.start (st : List InsP) (P : Int → Int) : Patched st P [] (st.map (·.1)) := by
  refine ⟨List.length_map _, fun i x hx => ?_⟩
  rw [if_neg (by rintro ⟨j, hj, _⟩; cases hj), List.getElem?_map, hx]
  rfl
theorem Patched.at_ {st : List InsP} {P : Int → Int} {seen : List Nat} {code : List S43} (h : Patched st P seen code) {j : Nat} {y : Int × Int} (hy : (goesOf st 0)[j]? = some y) :
    0 ≤ y.1 ∧ y.1 < code.length ∧ y.2 ≠ 0 ∧ ∃ x, st[y.1.toNat]? = some (x, y.2) := by
  obtain ⟨n, x, h1, h2, h3⟩ := goesOf_mem (List.mem_of_getElem? hy)
  have hn : n < st.length := (List.getElem?_eq_some_iff.1 h2).1
  rw [h.1]
  exact ⟨by omega, by omega, h3, x, by rw [h1, Int.zero_add, Int.toNat_natCast]; exact h2⟩
theorem Patched.step {st : List InsP} {P : Int → Int} {seen : List Nat} {code : List S43} (h : Patched st P seen code) {j : Nat} {y : Int × Int} (hy : (goesOf st 0)[j]? = some y) (hj : j ∉ seen) (c : S43) (hc : code[y.1.toNat]? = some c) :
    Patched st P (seen ++ [j]) (code.set y.1.toNat { c with f4 := 4 * (P y.2 - y.1) }) := by
  obtain ⟨h0, h1, h2, x, hx⟩ := h.at_ hy
  refine ⟨by rw [List.length_set]; exact h.1, fun i z hz => ?_⟩
  rw [List.getElem?_set]
  by_cases hi : y.1.toNat = i
  · subst hi
    rw [hz] at hx
    obtain rfl := Option.some.inj hx
    have hyi : ((y.1.toNat : Nat) : Int) = y.1 := by omega
    rw [if_pos rfl, if_pos (by omega), if_pos ⟨j, by simp, by rw [hy, hyi]⟩]
    have hcx := h.2 _ _ hz
    rw [hc] at hcx
    have hcx := Option.some.inj hcx
    simp only [patchI, h2, if_false, hyi]
    split at hcx
    · rw [hcx]; simp only [patchI, h2, if_false]
    · rw [hcx]
  · rw [if_neg hi, h.2 i z hz]
    congr 1
    have he : (∃ j' ∈ seen ++ [j], (goesOf st 0)[j']? = some ((i : Int), z.2)) ↔ ∃ j' ∈ seen, (goesOf st 0)[j']? = some ((i : Int), z.2) := by
      constructor
      · rintro ⟨j', hj', he⟩
        rcases List.mem_append.1 hj' with hj' | hj'
        · exact ⟨j', hj', he⟩
        · obtain rfl := List.mem_singleton.1 hj'
          rw [hy] at he
          have := congrArg Prod.fst (Option.some.inj he)
          simp only at this
          omega
      · rintro ⟨j', hj', he⟩
        exact ⟨j', List.mem_append_left _ hj', he⟩
    simp only [he]
theorem Patched.done {st : List InsP} {P : Int → Int} {seen : List Nat} {code : List S43} (h : Patched st P seen code) (hall : ∀ j, j < (goesOf st 0).length → j ∈ seen) : code = finalL P st 0 := by
  apply List.ext_getElem?
  intro i
  rw [finalL_get]
  cases hx : st[i]? with
  | none =>
    have : st.length ≤ i := List.getElem?_eq_none_iff.1 hx
    rw [List.getElem?_eq_none (by rw [h.1]; exact this)]
    rfl
  | some x =>
    rw [h.2 i x hx]
    simp only [Option.map_some, Int.zero_add]
    by_cases h2 : x.2 = 0
    · simp only [patchI, h2, if_true]
      split <;> rfl
    · have hm := mem_goesOf (i := 0) hx h2
      obtain ⟨j, hj, hje⟩ := List.getElem_of_mem hm
      rw [if_pos ⟨j, hall j hj, by rw [List.getElem?_eq_getElem hj, hje, Int.zero_add]⟩]
end Go.Proofs.YtaoajlaocphgdaaDoor.PA
end
section
namespace Go.Proofs.YtaoajlaocphgdaaDoor.PA
open Go.RowKit Go.Proofs.YtaoajlaocphgdaaDoorW.PrintWords Go.Proofs.YtaoajlaocphgdaaDoorW.PrintLast Go.Proofs.YtaoajlaocphgdaaDoorW.PrintMore
set_option linter.unusedVariables false
set_option linter.unusedSimpArgs false
theorem MKat.setIns {w0 w : World} {g : Nat} {l : LayV} {code : List S43} {es place : List (Int × Int)} {v : Value} {rg rp : Nat} (h : MKat w0 w g l code es place v rg rp) (at_ : Nat) (c : S43) (hc : code[at_]? = some c) (n : Int) :
    ∃ gv cap cells, v = .slice (some ⟨gv, 0, none⟩) code.length cap ∧ w.cell? ⟨gv, at_ * 5 + 4, none⟩ = some (.int .i64 c.f4) ∧ w.frozen? ⟨gv, at_ * 5 + 4, none⟩ = false ∧ w.heap[gv]? = some (.cells cells 43 (0, 0)) ∧ w0.heap.size ≤ gv ∧
      MKat w0 (w.setCell ⟨gv, at_ * 5 + 4, none⟩ (.int .i64 n)) g l (code.set at_ { c with f4 := n }) es place v rg rp := by
  have hlt : at_ < code.length := (List.getElem?_eq_some_iff.1 hc).1
  obtain ⟨gv, cap, hv, hb, hl, cells, hcells⟩ := Kd.R_form h.row (by omega)
  subst hv
  obtain ⟨ad, cc, he, hcl, hK, hcc⟩ := Kd.C_get (Kd.R_reads' h.row).2.2 (⟨0, 0, 0, 0, 0⟩ : S43) (at_ : Int) (by omega) (by omega)
  obtain rfl := Option.some.inj he
  have hg : code.getD (at_ : Int).toNat ⟨0, 0, 0, 0, 0⟩ = c := by rw [Int.toNat_natCast, List.getD_eq_getElem?_getD, hc]; rfl
  rw [hg] at hK
  have hcc2 : ∀ j u, cc[j]? = some u → w.cell? ⟨gv, (at_ : Int).toNat * k43.sz + j, none⟩ = some u := fun j u hu => by
    have := hcc j u hu
    rwa [add_plain] at this
  have hcs := k43_open hK
  subst hcs
  have h4 := hcc2 4 _ rfl
  have hsz : k43.sz = 5 := rfl
  rw [Int.toNat_natCast, hsz] at h4
  have hrow := (Kd.R_seg (okp := fun _ => False) h.row (at_ : Int) (by omega) (by omega) (c := _) (seg := [.int .i64 n]) (j := 4) hcl hcc2 (by rw [hsz]; exact Nat.le_refl 5) (x' := { c with f4 := n }) (k43_mkM w w0.heap.size (fun _ => False) { c with f4 := n }) (fun _ hk => hk.elim)).1
  rw [Int.toNat_natCast, hsz] at hrow
  have hne : gv ≠ g := by
    rintro rfl
    exact h.v_ne rfl
  refine ⟨gv, cap, cells, rfl, h4, by simp [World.frozen?, hcells], hcells, hb, ⟨?_, hrow, ?_, ?_, h.hg, h.hrg, h.hrp, h.hne⟩⟩
  · exact (Below.heap_setCell _ _ _ _ (by exact hne.symm)).trans h.blk
  · exact h.gm.move (Below.heap_setCell _ _ _ _ (by intro e; exact h.v_ne_map h.gm (by rw [e]; rfl)))
  · exact h.pm.move (Below.heap_setCell _ _ _ _ (by intro e; exact h.v_ne_map h.pm (by rw [e]; rfl)))
theorem MKat.drewN {w0 w : World} {g : Nat} {l : LayV} {code : List S43} {es place : List (Int × Int)} {v : Value} {rg rp : Nat} (h : MKat w0 w g l code es place v rg rp) (m : Nat) : MKat w0 (w.drewN m) g l code es place v rg rp := h.below (pw_below_drewN (Below.refl _ _) m)
theorem MKat.iter {w0 w w1 : World} {g : Nat} {l : LayV} {code : List S43} {es place fs : List (Int × Int)} {v : Value} {rg rp b r : Nat} {seen seen' : List Nat} (h : MKat w0 w g l code es place v rg rp) (hi : IterIs w b r fs seen') (hs : IterStep w w1 b r fs seen) (h1 : b ≠ g) (h2 : b ≠ rg) (h3 : b ≠ rp) : MKat w0 w1 g l code es place v rg rp := by
  refine ⟨(hs.other g (Ne.symm h1)).trans h.blk, ?_, h.gm.move (hs.other rg (Ne.symm h2)), h.pm.move (hs.other rp (Ne.symm h3)), h.hg, h.hrg, h.hrp, h.hne⟩
  refine Kd.R_mono (ok := fun k => ∃ cells q, w.heap[k]? = some (.cells cells q (0, 0))) (Kd.R_move (Kd.R_mono (Kd.R_bound h.row) fun k hk => ?_) fun k hk => ?_) fun _ _ => trivial
  · obtain ⟨_, _, _, q, _, cells, hc⟩ := hk
    exact ⟨cells, q, hc⟩
  · obtain ⟨cells, q, hc⟩ := hk
    refine hs.other k ?_
    rintro rfl
    rw [show w.heap[k]? = _ from hi] at hc
    cases hc
def Fill (w0 w : World) (g : Nat) (l : LayV) (st : List InsP) (pl : List (Int × Int)) (P : Int → Int) (b rg rp k : Nat) : Prop :=
  ∃ (seen : List Nat) (code : List S43) (v : Value), MKat w0 w g l code (goesOf st 0) pl v rg rp ∧ IterIs w b rg (goesOf st 0) seen ∧ seen.Nodup ∧ (∀ n ∈ seen, n < (goesOf st 0).length) ∧ Patched st P seen code ∧ Below w0.heap.size w0 w ∧ (b ≠ g ∧ b ≠ rg ∧ b ≠ rp ∧ w0.heap.size ≤ b) ∧ k = (goesOf st 0).length - seen.length
theorem nodup_length {seen : List Nat} {n : Nat} (h : seen.Nodup) (hb : ∀ x ∈ seen, x < n) : seen.length ≤ n := by
  have := List.Nodup.length_le_of_subset h (l₂ := List.range n) (fun x hx => List.mem_range.2 (hb x hx))
  rwa [List.length_range] at this
theorem Fill.start {w0 w : World} {g : Nat} {l : LayV} {st : List InsP} {pl : List (Int × Int)} (P : Int → Int) {v : Value} {rg rp : Nat} (h : MKat w0 w g l (st.map (·.1)) (goesOf st 0) pl v rg rp) (hB : Below w0.heap.size w0 w) :
    Fill w0 (w.alloc (.mapIter (some rg) (goesOf st 0).length #[] (goesOf st 0).length)) g l st pl P w.heap.size rg rp (goesOf st 0).length := by
  have hb : Below w.heap.size w (w.alloc (.mapIter (some rg) (goesOf st 0).length #[] (goesOf st 0).length)) := (Below.refl _ _).alloc (Nat.le_refl _) _
  refine ⟨[], _, v, h.below hb, heap_alloc_new w _, List.nodup_nil, by simp, Patched.start st P, below_then hB hB.size hb, ⟨?_, ?_, ?_, hB.size⟩, by simp⟩
  · have := h.lt; omega
  · have := h.gm.lt; omega
  · have := h.pm.lt; omega
theorem Fill.round {w0 w : World} {g : Nat} {l : LayV} {st : List InsP} {pl : List (Int × Int)} {P : Int → Int} {b rg rp k : Nat} (h : Fill w0 w g l st pl P b rg rp k) (hpl : (pl.map (·.1)).Nodup) (hP : ∀ x ∈ st, x.2 ≠ 0 → (x.2, P x.2) ∈ pl) (hPb : ∀ x ∈ pl, 0 ≤ x.2 ∧ x.2 ≤ 1000) (hlen : st.length ≤ 1000) :
    (∃ v, (∀ ty, (Instr.next (.pointer (some ⟨b, 0, none⟩)) false ty).run Tryd.prog w = .ok (.tuple #[.bool false]) w) ∧ w.cell? ⟨g, 20, none⟩ = some v ∧ k43.R 43 w w0.heap.size (fun _ => True) v (finalL P st 0) ∧ Below w0.heap.size w0 w) ∨
    (∃ (i : Nat) (q : Int) (w1 : World) (gv n cap : Nat) (k' : Nat) (old : Int), (∀ ty, (Instr.next (.pointer (some ⟨b, 0, none⟩)) false ty).run Tryd.prog w = .ok (.tuple #[.bool true, .int .i64 i, .int .i64 q]) w1) ∧
      (Instr.entry (.pointer (some ⟨b, 0, none⟩))).run Tryd.prog w1 = .ok (.tuple #[.int .i64 i, .int .i64 q]) w1 ∧
      w1.cell? ⟨g, 20, none⟩ = some (.slice (some ⟨gv, 0, none⟩) n cap) ∧ w1.cell? ⟨g, 22, none⟩ = some (.map (some rp)) ∧ i < n ∧ n ≤ 1000 ∧ 0 ≤ P q ∧ P q ≤ 1000 ∧ k' < k ∧
      (∀ m, (Instr.lookup 86 (.map (some rp)) (.int .i64 q) false).run Tryd.prog (w1.drewN m) = .ok (.int .i64 (P q)) (w1.drewN m)) ∧
      w1.cell? ⟨gv, i * 5 + 4, none⟩ = some (.int .i64 old) ∧ w1.frozen? ⟨gv, i * 5 + 4, none⟩ = false ∧
      ∀ m, Fill w0 ((w1.drewN m).setCell ⟨gv, i * 5 + 4, none⟩ (.int .i64 (4 * (P q - i)))) g l st pl P b rg rp k') := by
  obtain ⟨seen, code, v, hM, hI, hnd, hsb, hpt, hB, ⟨b1, b2, b3, b4⟩, hk⟩ := h
  rcases run_nextI (P := Tryd.prog) w b rg (goesOf st 0) seen hM.gm hI hsb with ⟨hall, hnext⟩ | ⟨j, x, w1, hx, hns, hst, hnext⟩
  · left
    refine ⟨v, hnext, hM.cell 20 v (by simp [mkCells]), ?_, hB⟩
    rw [← hpt.done hall]
    exact hM.row
  · right
    obtain ⟨x0, x1, x2, y, hy⟩ := hpt.at_ hx
    have hM1 := hM.iter hI hst b1 b2 b3
    have hent := run_entryI (P := Tryd.prog) w1 b rg (goesOf st 0) seen j x hM1.gm hst.at_ hx
    have hc : code[x.1.toNat]? = some code[x.1.toNat] := List.getElem?_eq_getElem (by omega)
    have hxi : ((x.1.toNat : Nat) : Int) = x.1 := by omega
    have hpm : (x.2, P x.2) ∈ pl := hP _ (List.mem_of_getElem? hy) x2
    obtain ⟨gv, cap, cells, hv, hcell, hfz, hcells, hge, hM2⟩ := (hM1.drewN 0).setIns x.1.toNat _ hc (4 * (P x.2 - x.1))
    have hlc : code.length = st.length := hpt.1
    refine ⟨x.1.toNat, x.2, w1, gv, code.length, cap, (goesOf st 0).length - (seen ++ [j]).length, code[x.1.toNat].f4, by rw [hxi]; exact hnext, by rw [hxi]; exact hent, ?_, ?_, by omega, by omega, (hPb _ hpm).1, (hPb _ hpm).2, ?_, ?_, hcell, hfz, ?_⟩
    · rw [← hv]
      exact hM1.cell 20 v (by simp [mkCells])
    · exact hM1.cell 22 _ (by simp [mkCells])
    · have h1 : seen.length < (goesOf st 0).length := by
        have := nodup_length (seen := seen ++ [j]) (n := (goesOf st 0).length) (by rw [List.nodup_append]; exact ⟨hnd, by simp, by intro a ha c hc; obtain rfl := List.mem_singleton.1 hc; rintro rfl; exact hns ha⟩) (by
          intro a ha
          rcases List.mem_append.1 ha with ha | ha
          · exact hsb a ha
          · obtain rfl := List.mem_singleton.1 ha
            exact (List.getElem?_eq_some_iff.1 hx).1)
        rw [List.length_append] at this
        simp at this
        omega
      rw [List.length_append]
      simp
      omega
    · intro m
      exact run_find (P := Tryd.prog) Tryd.underlying86 Tryd.underlying3 (w1.drewN m) rp pl x.2 (P x.2) (hM1.drewN m).pm hpl hpm
    · intro m
      rw [hxi]
      obtain ⟨gv', cap', cells', hv', hcell', hfz', hcells', hge', hM2'⟩ := (hM1.drewN m).setIns x.1.toNat _ hc (4 * (P x.2 - x.1))
      rw [hv] at hv'
      injection hv' with e1 e2 e3
      injection e1 with e1
      injection e1 with e1
      subst e1
      have hbne : b ≠ gv := by
        rintro rfl
        have h1 : (w1.drewN m).heap[b]? = w1.heap[b]? := (pw_below_drewN (Below.refl _ _) m).block b (Array.getElem?_eq_some_iff.1 hst.at_).1
        rw [h1, show w1.heap[b]? = _ from hst.at_] at hcells'
        cases hcells'
      have hbd : Below w0.heap.size w0 ((w1.drewN m).setCell ⟨gv, x.1.toNat * 5 + 4, none⟩ (.int .i64 (4 * (P x.2 - x.1)))) := by
        refine (pw_below_drewN (hst.below hB b4) m).setCell ?_ _
        exact hge
      refine ⟨seen ++ [j], _, v, hM2', ?_, ?_, ?_, hpt.step hx hns _ hc, hbd, ⟨b1, b2, b3, b4⟩, rfl⟩
      · show (World.setCell _ _ _).heap[b]? = _
        rw [Below.heap_setCell _ _ _ _ (by exact hbne)]
        exact ((pw_below_drewN (Below.refl _ _) m).block b (Array.getElem?_eq_some_iff.1 hst.at_).1).trans hst.at_
      · rw [List.nodup_append]
        exact ⟨hnd, by simp, by intro a ha c hc; obtain rfl := List.mem_singleton.1 hc; rintro rfl; exact hns ha⟩
      · intro a ha
        rcases List.mem_append.1 ha with ha | ha
        · exact hsb a ha
        · obtain rfl := List.mem_singleton.1 ha
          exact (List.getElem?_eq_some_iff.1 hx).1
end Go.Proofs.YtaoajlaocphgdaaDoor.PA
end
section
namespace Go.Proofs.YtaoajlaocphgdaaDoor.PA
open Go.RowKit Go.Proofs.YtaoajlaocphgdaaDoorW.PrintWords Go.Proofs.YtaoajlaocphgdaaDoorW.PrintLast Go.Proofs.YtaoajlaocphgdaaDoorW.PrintMore
set_option linter.unusedVariables false
set_option linter.unusedSimpArgs false
theorem here_ms {w0 w : World} {g : Nat} {l : LayV} {st : List InsP} {place : List (Int × Int)} (k n : Int) (hn : (st.length : Int) = n) (hK : MS w0 w g l st place) (hB : Below w0.heap.size w0 w) (hk : ∀ x ∈ place, x.1 ≠ k) :
    Calls Tryd.prog 50 #[.pointer (some ⟨g, 0, none⟩), .int .i64 k] w fun e w' => e = .returned (.tuple #[]) ∧ MS w0 w' g l st (place ++ [(k, n)]) ∧ Below w0.heap.size w0 w' := by
  subst hn
  refine (here_calls w0 w g l _ _ place k hK hB hk).mono ?_
  rintro e w' ⟨rfl, hK, hB⟩
  rw [List.length_map] at hK
  exact ⟨rfl, hK, hB⟩
theorem MS.len {w0 w : World} {g : Nat} {l : LayV} {st : List InsP} {place : List (Int × Int)} (h : MS w0 w g l st place) : ∃ A c, w.cell? ⟨g, 20, none⟩ = some (.slice A st.length c) := by
  obtain ⟨v, rg, rp, hM⟩ := h
  obtain ⟨A, c, hv⟩ := Kd.R_slice hM.row
  refine ⟨A, c, ?_⟩
  rw [hM.cell 20 v (by simp [mkCells]), hv, List.length_map]
def paramsP (l : LayV) : List Int → Int → List InsP
  | [], _ => []
  | n :: r, i => (if n > 0 then ptrP l (10 + i) n else []) ++ paramsP l r (i + 1)
theorem paramsP_snoc (l : LayV) (a : List Int) (n i : Int) : paramsP l (a ++ [n]) i = paramsP l a i ++ (if n > 0 then ptrP l (10 + (i + a.length)) n else []) := by
  induction a generalizing i with
  | nil => simp [paramsP]
  | cons x r ih =>
    simp only [List.cons_append, paramsP, ih, List.length_cons, Int.natCast_add, Int.natCast_one, List.append_assoc]
    rw [show i + 1 + (r.length : Int) = i + ((r.length : Int) + 1) from by omega]
theorem ptrP_length (l : LayV) (r n : Int) : (ptrP l r n).length ≤ 8 := by
  unfold ptrP
  split <;> simp [num, noneGo, numIns]
theorem paramsP_length (l : LayV) (a : List Int) (i : Int) : (paramsP l a i).length ≤ 8 * a.length := by
  induction a generalizing i with
  | nil => simp [paramsP]
  | cons x r ih =>
    have := ih (i + 1)
    have h8 := ptrP_length l (10 + i) x
    simp only [paramsP, List.length_append, List.length_cons]
    split <;> simp <;> omega
def checksP (l : LayV) (ps : List Int) : List InsP := backP l ++ paramsP l ps 0
def preP (l : LayV) (ps : List Int) : List InsP := checksP l ps ++ num 5 (l.a5 - 16) ++ noneGo [⟨31, 0, 5, 1, 0⟩, ⟨31, 0, 5, 2, 8⟩] ++ num 2 l.a9
def midP (l : LayV) (ps : List Int) : List InsP := preP l ps ++ noneGo [⟨40, 1, 0, 0, 0⟩] ++ num 5 (l.a5 - 16) ++ noneGo [⟨28, 1, 5, 0, 0⟩, ⟨28, 2, 5, 0, 8⟩, ⟨16, 11, 0, 0, 0⟩]
def leftP (l : LayV) (ps : List Int) : List InsP := midP l ps ++ cleanP ++ noneGo [⟨41, 0, 1, 0, 0⟩]
def noP (l : LayV) (ps : List Int) : List InsP := leftP l ps ++ noneGo [⟨16, 10, 0, 0, 0⟩, ⟨16, 11, 0, 0, 1⟩] ++ [(⟨40, 0, 0, 0, 0⟩, 2)]
def allP (l : LayV) (ps : List Int) : List InsP := noP l ps ++ noneGo [⟨42, 0, 0, 0, 0⟩]
def places (l : LayV) (ps : List Int) : List (Int × Int) := [(2, ((midP l ps).length : Int)), (1, ((leftP l ps).length : Int)), (3, ((noP l ps).length : Int))]
theorem checks_length (l : LayV) (ps : List Int) (h : ps.length ≤ 6) : (checksP l ps).length ≤ 56 := by
  have := paramsP_length l ps 0
  have hb : (backP l).length = 8 := by simp [backP, num, noneGo, numIns]
  simp only [checksP, List.length_append]
  omega
theorem num_length (d v : Int) : (num d v).length = 2 := by simp [num, noneGo, numIns]
theorem clean_length : cleanP.length = 13 := by simp [cleanP, noneGo, cleanRegs]
theorem noneGo_length (xs : List S43) : (noneGo xs).length = xs.length := by simp [noneGo]
structure LayOk (l : LayV) : Prop where
  h5 : 16 ≤ l.a5 ∧ l.a5 ≤ 1073741824
  h9 : 0 ≤ l.a9 ∧ l.a9 ≤ 1073741824
  h12 : 0 ≤ l.a12 ∧ l.a12 ≤ 1073741824
  h13 : 0 ≤ l.a13 ∧ l.a13 ≤ 1073741824
  h16 : 0 ≤ l.a16 ∧ l.a16 ≤ 1073741824
  h17 : 0 ≤ l.a17 ∧ l.a17 ≤ 1073741824
def placeOf (l : LayV) (ps : List Int) (k : Int) : Int := if k = 2 then (midP l ps).length else if k = 1 then (leftP l ps).length else if k = 3 then (noP l ps).length else 0
theorem small_tags (l : LayV) (ps : List Int) : ∀ x ∈ allP l ps, x.2 = 0 ∨ x.2 = 1 ∨ x.2 = 2 ∨ x.2 = 3 := by
  have hng : ∀ xs : List S43, ∀ x ∈ noneGo xs, x.2 = 0 ∨ x.2 = 1 ∨ x.2 = 2 ∨ x.2 = 3 := by
    intro xs x hx
    obtain ⟨y, _, rfl⟩ := List.mem_map.1 hx
    exact .inl rfl
  have hnum : ∀ d v, ∀ x ∈ num d v, x.2 = 0 ∨ x.2 = 1 ∨ x.2 = 2 ∨ x.2 = 3 := fun d v => hng _
  have happ : ∀ a b : List InsP, (∀ x ∈ a, x.2 = 0 ∨ x.2 = 1 ∨ x.2 = 2 ∨ x.2 = 3) → (∀ x ∈ b, x.2 = 0 ∨ x.2 = 1 ∨ x.2 = 2 ∨ x.2 = 3) → ∀ x ∈ a ++ b, x.2 = 0 ∨ x.2 = 1 ∨ x.2 = 2 ∨ x.2 = 3 := fun a b ha hb x hx => (List.mem_append.1 hx).elim (ha x) (hb x)
  have hone : ∀ (y : S43) (k : Int), (k = 1 ∨ k = 2 ∨ k = 3) → ∀ x ∈ [((y, k) : InsP)], x.2 = 0 ∨ x.2 = 1 ∨ x.2 = 2 ∨ x.2 = 3 := by
    intro y k hk x hx
    obtain rfl := List.mem_singleton.1 hx
    exact .inr hk
  have hback : ∀ x ∈ backP l, x.2 = 0 ∨ x.2 = 1 ∨ x.2 = 2 ∨ x.2 = 3 := by
    unfold backP
    exact happ _ _ (hnum _ _) (happ _ _ (hone _ _ (by decide)) (happ _ _ (hnum _ _) (happ _ _ (hone _ _ (by decide)) (happ _ _ (hng _) (hone _ _ (by decide))))))
  have hptr : ∀ r n, ∀ x ∈ ptrP l r n, x.2 = 0 ∨ x.2 = 1 ∨ x.2 = 2 ∨ x.2 = 3 := by
    intro r n
    unfold ptrP
    split
    · exact hone _ _ (by decide)
    · exact happ _ _ (hng _) (happ _ _ (hone _ _ (by decide)) (happ _ _ (hnum _ _) (happ _ _ (hone _ _ (by decide)) (happ _ _ (hnum _ _) (hone _ _ (by decide))))))
  have hpar : ∀ (ps : List Int) i, ∀ x ∈ paramsP l ps i, x.2 = 0 ∨ x.2 = 1 ∨ x.2 = 2 ∨ x.2 = 3 := by
    intro ps
    induction ps with
    | nil => intro i x hx; cases hx
    | cons n r ih =>
      intro i
      unfold paramsP
      refine happ _ _ ?_ (ih _)
      split
      · exact hptr _ _
      · intro x hx; cases hx
  unfold allP noP leftP midP preP checksP cleanP
  refine happ _ _ (happ _ _ (happ _ _ (happ _ _ (happ _ _ (happ _ _ (happ _ _ (happ _ _ (happ _ _ (happ _ _ (happ _ _ (happ _ _ hback (hpar _ _)) ?_) ?_) ?_) ?_) ?_) ?_) ?_) ?_) ?_) ?_) ?_ <;> first | exact hnum _ _ | exact hng _ | exact hone _ _ (by decide)
theorem placeOf_mem (l : LayV) (ps : List Int) : ∀ x ∈ allP l ps, x.2 ≠ 0 → (x.2, placeOf l ps x.2) ∈ places l ps := by
  intro x hx h0
  rcases small_tags l ps x hx with h | h | h | h <;> rw [h] at h0 ⊢ <;> simp [placeOf, places] at h0 ⊢
theorem all_length (l : LayV) (ps : List Int) (h : ps.length ≤ 6) : (allP l ps).length ≤ 100 := by
  have := checks_length l ps h
  simp only [allP, noP, leftP, midP, preP, List.length_append, num_length, noneGo_length, clean_length, List.length_cons, List.length_nil]
  omega
theorem places_bound (l : LayV) (ps : List Int) (h : ps.length ≤ 6) : ∀ x ∈ places l ps, 0 ≤ x.2 ∧ x.2 ≤ 1000 := by
  have := all_length l ps h
  have h1 : (noP l ps).length ≤ (allP l ps).length := by simp only [allP, List.length_append]; omega
  have h2 : (leftP l ps).length ≤ (noP l ps).length := by simp only [noP, List.length_append]; omega
  have h3 : (midP l ps).length ≤ (leftP l ps).length := by simp only [leftP, List.length_append]; omega
  intro x hx
  simp only [places, List.mem_cons, List.not_mem_nil, or_false] at hx
  rcases hx with rfl | rfl | rfl <;> simp only [] <;> omega
structure Made (w0 w : World) (g : Nat) (l : LayV) (ps : List Int) : Prop where
  ms : MS w0 w g l (allP l ps) (places l ps)
  below : Below w0.heap.size w0 w
def layArr (l : LayV) : Array Value := #[.int .u64 l.a0, .int .u64 l.a1, .int .i64 l.a2, .int .i64 l.a3, .int .u64 l.a4, .int .u64 l.a5, .int .i64 l.a6, .int .i64 l.a7, .int .u64 l.a8, .int .u64 l.a9, .int .i64 l.a10, .int .i64 l.a11, .int .u64 l.a12, .int .u64 l.a13, .int .i64 l.a14, .int .i64 l.a15, .int .u64 l.a16, .int .u64 l.a17, .int .i64 l.a18, .int .i64 l.a19]
section
variable {P : Program} {a : Act} {o : Oper} {W W1 : World} {r : Value}
theorem exec_box {t : TypeId} {x : Operand} (ho : o.op = .box t x) {v : Value} (hx : a.eval x = v) (h : (Instr.box t v).run P W = .ok r W1) : (execOp a.eval o).run P W = .ok (.value r) W1 := by
  unfold execOp
  rw [ho]
  simp only [hx, Sem.run_bind, h, Result.andThen_ok, Sem.run_pure]
theorem exec_build {t : TypeId} {parts : Array (Nat × Operand)} (ho : o.op = .build t parts) {ps : Array (Nat × Value)} (hp : parts.map (fun p => (p.1, a.eval p.2)) = ps) (h : (Instr.build t ps).run P W = .ok r W1) : (execOp a.eval o).run P W = .ok (.value r) W1 := by
  subst hp
  unfold execOp
  rw [ho]
  show ((Instr.build t (parts.map fun p => (p.1, a.eval p.2))).bind fun s => pure (Next.value s)).run P W = _
  rw [show ((Instr.build t (parts.map fun p => (p.1, a.eval p.2))).bind fun s => (pure (Next.value s) : Sem Next)) = (Instr.build t (parts.map fun p => (p.1, a.eval p.2)) >>= fun s => pure (Next.value s)) from rfl]
  simp only [Sem.run_bind, h, Result.andThen_ok, Sem.run_pure]
theorem exec_load {t : TypeId} {x : Operand} (ho : o.op = .load t x) {v : Value} (hx : a.eval x = v) (h : (Instr.loadAt t v).run P W = .ok r W1) : (execOp a.eval o).run P W = .ok (.value r) W1 := by
  unfold execOp
  rw [ho]
  simp only [hx, Sem.run_bind, h, Result.andThen_ok, Sem.run_pure]
end
theorem run_boxL (l : LayV) (W : World) : (Instr.box 27 (.agg (layArr l))).run Tryd.prog W = .ok (.pointer (some ⟨W.heap.size, 0, none⟩)) (W.alloc (.cells (layArr l) 27)) := by kernel_rfl
theorem run_loadL (l : LayV) (W : World) (b : Nat) (h : W.heap[b]? = some (.cells (layArr l) 27)) : (Instr.loadAt 27 (.pointer (some ⟨b, 0, none⟩))).run Tryd.prog W = .ok (.agg (layArr l)) W :=
  run_loadVar_row W b _ _ (layArr l) _ _ h Tryd.underlying27 rfl (by kernel_rfl)
theorem run_buildM (l : LayV) (rg rp : Nat) (W : World) : (Instr.build 88 #[(0, .agg (layArr l)), (2, .map (some rg)), (3, .map (some rp))]).run Tryd.prog W = .ok (.agg (mkCells l (.slice none 0 0) rg rp)) W := by kernel_rfl
theorem run_boxM (l : LayV) (rg rp : Nat) (W : World) : (Instr.box 88 (.agg (mkCells l (.slice none 0 0) rg rp))).run Tryd.prog W = .ok (.pointer (some ⟨W.heap.size, 0, none⟩)) (W.alloc (.cells (mkCells l (.slice none 0 0) rg rp) 88)) := by kernel_rfl
theorem layArr_cell {l : LayV} {W : World} {b : Nat} (h : W.heap[b]? = some (.cells (layArr l) 27)) (j : Nat) (u : Value) (hu : (layArr l)[j]? = some u) : W.cell? ⟨b, j, none⟩ = some u := by
  simp [World.cell?, h, hu]
theorem start_ms (l : LayV) (W1 W4 : World) (g : Nat) (hblk : W4.heap[g]? = some (.cells (mkCells l (.slice none 0 0) W1.heap.size (W1.heap.size + 1)) 88)) (hb : Below (W1.heap.size + 2) ((W1.alloc (.map #[] 0)).alloc (.map #[] 0)) W4) (hg : g = W1.heap.size + 2) :
    MS W1 W4 g l [] [] ∧ Below W1.heap.size W1 W4 := by
  refine ⟨⟨_, _, _, hblk, Kd.R_nil _ _ _ _ _, ?_, ?_, by omega, Nat.le_refl _, by omega, by omega⟩, ?_⟩
  · show W4.heap[W1.heap.size]? = _
    rw [hb.block _ (by omega)]
    show ((W1.heap.push _).push _)[W1.heap.size]? = _
    rw [Array.getElem?_push, if_neg (by simp), Array.getElem?_push, if_pos rfl]
    rfl
  · show W4.heap[W1.heap.size + 1]? = _
    rw [hb.block _ (by omega)]
    show ((W1.heap.push _).push _)[W1.heap.size + 1]? = _
    rw [Array.getElem?_push, if_pos (by simp)]
    rfl
  · exact (((Below.refl _ _).alloc (Nat.le_refl _) _).alloc (by simp) _).trans (hb.mono (by omega))
set_option maxHeartbeats 16000000 in
set_option maxRecDepth 100000 in
theorem wrapper_calls (A0 : Option Addr) (c0 : Nat) (ps : List Int) (l : LayV) (w : World) (hr0 : Kd.C (Kd.int .i64) w A0 ps.length ps) (hO : LayOk l) (hps : ps.length ≤ 6) (hpn : ∀ n ∈ ps, 0 ≤ n ∧ n ≤ 64) :
    Calls Tryd.prog 24 #[.slice A0 ps.length c0, .agg (layArr l)] w fun e w' => ∃ v0_ : Value, e = .returned (.tuple #[v0_, .int .i64 ((preP l ps).length : Int)]) ∧ k43.R 43 w' w.heap.size (fun _ => True) v0_ (finalL (placeOf l ps) (allP l ps) 0) ∧ Below w.heap.size w w' := by
  have HRw := Aside0.mk hr0
  have HP := Aside0.mk hpn
  have HL := Aside0.mk (checks_length l ps hps)
  have HO := Aside0.mk hO
  have o1 := hO.h5.1
  have o2 := hO.h5.2
  clear hr0 hpn hO
  obtain ⟨b, hbe⟩ : ∃ b, b = w.heap.size := ⟨_, rfl⟩
  obtain ⟨W1, hW1⟩ : ∃ W1, W1 = w.alloc (.cells (layArr l) 27) := ⟨_, rfl⟩
  have hb : W1.heap[b]? = some (.cells (layArr l) 27) := by subst hW1 hbe; exact heap_alloc_new w _
  have hbW : Below w.heap.size w W1 := by subst hW1; exact (Below.refl _ _).alloc (Nat.le_refl _) _
  have e1 := run_boxL l w
  rw [← hW1, ← hbe] at e1
  obtain ⟨W2, hW2⟩ : ∃ W2, W2 = W1.alloc (.map #[] 0) := ⟨_, rfl⟩
  obtain ⟨W3, hW3⟩ : ∃ W3, W3 = W2.alloc (.map #[] 0) := ⟨_, rfl⟩
  obtain ⟨rg, hrg⟩ : ∃ r, r = W1.heap.size := ⟨_, rfl⟩
  obtain ⟨rp, hrp⟩ : ∃ r, r = W2.heap.size := ⟨_, rfl⟩
  obtain ⟨g, hg⟩ : ∃ r, r = W3.heap.size := ⟨_, rfl⟩
  obtain ⟨W4, hW4⟩ : ∃ W4, W4 = W3.alloc (.cells (mkCells l (.slice none 0 0) rg rp) 88) := ⟨_, rfl⟩
  have m1 := run_makeMap (P := Tryd.prog) 86 W1
  rw [← hW2, ← hrg] at m1
  have m2 := run_makeMap (P := Tryd.prog) 86 W2
  rw [← hW3, ← hrp] at m2
  have e5 := run_boxM l rg rp W3
  rw [← hW4, ← hg] at e5
  have hs := start_ms l W1 W4 g (by
      have h1 : rg = W1.heap.size := hrg
      have h2 : rp = W1.heap.size + 1 := by rw [hrp, hW2]; simp
      rw [← h2, ← h1, hW4, hg]
      exact heap_alloc_new W3 _) (by
      rw [hW4, hW3, hW2]
      exact (Below.refl _ _).alloc (by simp) _) (by rw [hg, hW3, hW2]; simp)
  have E1 := Aside0.mk e1
  have E2 := Aside0.mk (run_loadL l W1 b hb)
  have E4 := Aside0.mk (run_buildM l rg rp W3)
  have E5 := Aside0.mk e5
  have HK := Aside0.mk hs.1
  have HB := Aside0.mk hs.2
  have HBW := Aside0.mk hbW
  have HBK := Aside0.mk hb
  have l5 := layArr_cell ((hs.2.block b (Array.getElem?_eq_some_iff.1 hb).1).trans hb) 5 (.int .u64 l.a5) rfl
  clear hbe hW1 hb hbW e1 hW2 hW3 hrg hrp hg hW4 e5 hs
  go_enter Tryd.func24, Tryd.ntmps24
  go_wp2_with (first | ((with_reducible refine gate_dst (N := 3) rfl ?_); refine Kd.event_run (by rfl) (by refine exec_box (by rfl) (by rfl) E1.out) ?_) | ((with_reducible refine gate_dst (N := 13) rfl ?_); refine Kd.event_run (by rfl) (by refine exec_load (by rfl) (by rfl) E2.out) ?_) | ((with_reducible refine gate_dst (N := 16) rfl ?_); refine Kd.event_run (v := .agg (mkCells l (.slice none 0 0) rg rp)) (w1 := W3) (by rfl) ?hrun ?_; (case hrun => refine exec_build (parts := #[(0, .tmp 13), (2, .tmp 14), (3, .tmp 15)]) (by rfl) ?_ E4.out; simp [Act.eval])) | ((with_reducible refine gate_dst (N := 17) rfl ?_); refine Kd.event_run (by rfl) (by refine exec_box (by rfl) (by rfl) E5.out) ?_))
  have HBL := Aside0.mk (Array.getElem?_eq_some_iff.1 HBK.out).1
  have HBL : Aside0 (b < W1.heap.size) := ⟨HBL.out⟩
  refine (back_calls W1 W4 g l [] [] HK.out HB.out ⟨HO.out.h16.1, by have := HO.out.h16.2; omega⟩ ⟨HO.out.h17.1, by have := HO.out.h17.2; omega⟩ (by simp)).mono ?_
  rintro e w5 ⟨rfl, hK, hB⟩
  have HK := Aside0.mk hK
  have HB := Aside0.mk hB
  clear hK hB
  rw [List.nil_append] at HK
  go_wp2_with fail
  go_loopw [8, 9, 26] (fun _ _ i wr => ∃ k : Nat, k ≤ ps.length ∧ i = .int .i64 k ∧ Aside0 (MS W1 wr g l (backP l ++ paramsP l (ps.take k) 0) []) ∧ Aside0 (Below W1.heap.size W1 wr)) (fun _ _ i _ => ps.length - (intOf i).toNat)
  case atStart => exact ⟨0, Nat.zero_le _, rfl, ⟨by simpa [paramsP] using HK.out⟩, HB⟩
  case round =>
    obtain ⟨k, hk, rfl, HK, HB⟩ := hrel
    by_cases hlt : k < ps.length
    · obtain ⟨ad, rfl, hc⟩ := Kd.at_int (Kd.C_below (Kd.C_below HRw.out HBW.out) HB.out) (k : Int) (by omega) (by omega)
      rw [Int.toNat_natCast] at hc
      obtain ⟨n, hn⟩ : ∃ n, rd ps (k : Int) = n := ⟨_, rfl⟩
      have hget : ps[k]? = some n := by
        rw [List.getElem?_eq_getElem hlt, ← hn]
        simp [rd, List.getD_eq_getElem?_getD, List.getElem?_eq_getElem hlt]
      have hnb := HP.out n (List.mem_of_getElem? hget)
      have HT : Aside0 (paramsP l (ps.take (k + 1)) 0 = paramsP l (ps.take k) 0 ++ (if n > 0 then ptrP l (10 + (0 + (k : Int))) n else [])) := ⟨by
        obtain ⟨hk', rfl⟩ := List.getElem?_eq_some_iff.1 hget
        rw [List.take_succ_eq_append_getElem hk', paramsP_snoc, List.length_take, Nat.min_eq_left (by omega)]⟩
      have hlen : (backP l ++ paramsP l (ps.take k) 0).length ≤ 900 := by
        have h1 := paramsP_length l (ps.take k) 0
        have hb : (backP l).length = 8 := by simp [backP, num, noneGo, numIns]
        rw [List.length_append, hb]
        rw [List.length_take] at h1
        omega
      have HLEN := Aside0.mk hlen
      rw [hn] at hc
      obtain ⟨n0, n1⟩ := hnb
      clear hn hget hlen
      by_cases hp : n > 0
      · rw [if_pos hp] at HT
        go_wp2_with fail
        refine (pointer_calls W1 wr g l _ [] (10 + (k : Int)) n HK.out HB.out HO.out.h12 HO.out.h13 ⟨n0, n1⟩ ⟨by omega, by omega⟩ HLEN.out).mono ?_
        rintro e w6 ⟨rfl, hK, hB⟩
        have HK2 := Aside0.mk hK
        have HB2 := Aside0.mk hB
        clear hK hB hc
        go_wp2_with fail
        go_roundw
        case rel => exact ⟨k + 1, by omega, by go_num, ⟨by rw [HT.out, ← List.append_assoc, Int.zero_add]; exact HK2.out⟩, HB2⟩
        case measure => simp [intOf]; omega
      · rw [if_neg hp, List.append_nil] at HT
        go_wp2_with fail
        go_roundw
        case rel => exact ⟨k + 1, by omega, by go_num, ⟨by rw [HT.out]; exact HK.out⟩, HB⟩
        case measure => simp [intOf]; omega
    · obtain rfl : k = ps.length := by omega
      rw [List.take_length] at HK
      have HK : Aside0 (MS W1 wr g l (checksP l ps) []) := HK
      go_wp2_with fail
      refine (number_ms 5 (l.a5 - 16) HK.out HB.out (by omega) (by omega) (by have := HL.out; first | omega | (simp only [preP, midP, leftP, noP, List.length_append, num_length, noneGo_length, clean_length, List.length_cons, List.length_nil]; omega))).mono ?_
      rintro e x1 ⟨rfl, hK, hB⟩
      have HK := Aside0.mk hK
      have HB := Aside0.mk hB
      clear hK hB
      go_wp2_with fail
      refine (put_lit [⟨31, 0, 5, 1, 0⟩, ⟨31, 0, 5, 2, 8⟩] _ 2 rfl rfl HK.out HB.out (by have := HL.out; first | omega | (simp only [preP, midP, leftP, noP, List.length_append, num_length, noneGo_length, clean_length, List.length_cons, List.length_nil]; omega))).mono ?_
      rintro e x2 ⟨rfl, hK, hB⟩
      have l9 := layArr_cell ((hB.block b HBL.out).trans HBK.out) 9 (.int .u64 l.a9) rfl
      have HK := Aside0.mk hK
      have HB := Aside0.mk hB
      clear hK hB
      go_wp2_with fail
      refine (number_ms 2 l.a9 HK.out HB.out HO.out.h9.1 (by have := HO.out.h9.2; omega) (by have := HL.out; first | omega | (simp only [preP, midP, leftP, noP, List.length_append, num_length, noneGo_length, clean_length, List.length_cons, List.length_nil]; omega))).mono ?_
      rintro e x3 ⟨rfl, hK, hB⟩
      have hK : MS W1 x3 g l (preP l ps) [] := hK
      obtain ⟨LA, LC, hln⟩ := hK.len
      have HK := Aside0.mk hK
      have HB := Aside0.mk hB
      clear hK hB
      go_wp2_with fail
      refine (put_lit [⟨40, 1, 0, 0, 0⟩] _ 1 rfl rfl HK.out HB.out (by have := HL.out; first | omega | (simp only [preP, midP, leftP, noP, List.length_append, num_length, noneGo_length, clean_length, List.length_cons, List.length_nil]; omega))).mono ?_
      rintro e x4 ⟨rfl, hK, hB⟩
      have HK := Aside0.mk hK
      have HB := Aside0.mk hB
      clear hK hB
      go_wp2_with fail
      refine (number_ms 5 (l.a5 - 16) HK.out HB.out (by omega) (by omega) (by have := HL.out; first | omega | (simp only [preP, midP, leftP, noP, List.length_append, num_length, noneGo_length, clean_length, List.length_cons, List.length_nil]; omega))).mono ?_
      rintro e x5 ⟨rfl, hK, hB⟩
      have HK := Aside0.mk hK
      have HB := Aside0.mk hB
      clear hK hB
      go_wp2_with fail
      refine (put_lit [⟨28, 1, 5, 0, 0⟩, ⟨28, 2, 5, 0, 8⟩, ⟨16, 11, 0, 0, 0⟩] _ 3 rfl rfl HK.out HB.out (by have := HL.out; first | omega | (simp only [preP, midP, leftP, noP, List.length_append, num_length, noneGo_length, clean_length, List.length_cons, List.length_nil]; omega))).mono ?_
      rintro e x6 ⟨rfl, hK, hB⟩
      have hK : MS W1 x6 g l (midP l ps) [] := hK
      have HK := Aside0.mk hK
      have HB := Aside0.mk hB
      clear hK hB
      go_wp2_with fail
      refine (here_ms 2 _ rfl HK.out HB.out (by simp)).mono ?_
      rintro e x7 ⟨rfl, hK, hB⟩
      have HK := Aside0.mk hK
      have HB := Aside0.mk hB
      clear hK hB
      go_wp2_with fail
      refine (clean_calls W1 x7 g l _ _ HK.out HB.out (by have := HL.out; first | omega | (simp only [preP, midP, leftP, noP, List.length_append, num_length, noneGo_length, clean_length, List.length_cons, List.length_nil]; omega))).mono ?_
      rintro e x8 ⟨rfl, hK, hB⟩
      have HK := Aside0.mk hK
      have HB := Aside0.mk hB
      clear hK hB
      go_wp2_with fail
      refine (put_lit [⟨41, 0, 1, 0, 0⟩] _ 1 rfl rfl HK.out HB.out (by have := HL.out; first | omega | (simp only [preP, midP, leftP, noP, List.length_append, num_length, noneGo_length, clean_length, List.length_cons, List.length_nil]; omega))).mono ?_
      rintro e x9 ⟨rfl, hK, hB⟩
      have hK : MS W1 x9 g l (leftP l ps) [(2, ((midP l ps).length : Int))] := hK
      have HK := Aside0.mk hK
      have HB := Aside0.mk hB
      clear hK hB
      go_wp2_with fail
      refine (here_ms 1 _ rfl HK.out HB.out (by simp)).mono ?_
      rintro e x10 ⟨rfl, hK, hB⟩
      have HK := Aside0.mk hK
      have HB := Aside0.mk hB
      clear hK hB
      go_wp2_with fail
      refine (put_lit [⟨16, 10, 0, 0, 0⟩, ⟨16, 11, 0, 0, 1⟩] _ 2 rfl rfl HK.out HB.out (by have := HL.out; first | omega | (simp only [preP, midP, leftP, noP, List.length_append, num_length, noneGo_length, clean_length, List.length_cons, List.length_nil]; omega))).mono ?_
      rintro e x11 ⟨rfl, hK, hB⟩
      have HK := Aside0.mk hK
      have HB := Aside0.mk hB
      clear hK hB
      go_wp2_with fail
      refine (to_ms 2 ⟨40, 0, 0, 0, 0⟩ (by decide) HK.out HB.out (by have := HL.out; first | omega | (simp only [preP, midP, leftP, noP, List.length_append, num_length, noneGo_length, clean_length, List.length_cons, List.length_nil]; omega))).mono ?_
      rintro e x12 ⟨rfl, hK, hB⟩
      have hK : MS W1 x12 g l (noP l ps) [(2, ((midP l ps).length : Int)), (1, ((leftP l ps).length : Int))] := hK
      have HK := Aside0.mk hK
      have HB := Aside0.mk hB
      clear hK hB
      go_wp2_with fail
      refine (here_ms 3 _ rfl HK.out HB.out (by simp)).mono ?_
      rintro e x13 ⟨rfl, hK, hB⟩
      have HK := Aside0.mk hK
      have HB := Aside0.mk hB
      clear hK hB
      go_wp2_with fail
      refine (put_lit [⟨42, 0, 0, 0, 0⟩] _ 1 rfl rfl HK.out HB.out (by have := HL.out; first | omega | (simp only [preP, midP, leftP, noP, List.length_append, num_length, noneGo_length, clean_length, List.length_cons, List.length_nil]; omega))).mono ?_
      rintro e x14 ⟨rfl, hK, hB⟩
      have hK : MS W1 x14 g l (allP l ps) (places l ps) := hK
      obtain ⟨v, rg', rp', hM⟩ := hK
      have c21 := hM.cell 21 _ (by simp [mkCells]; rfl)
      have hrun := run_rangeI (P := Tryd.prog) Tryd.underlying86 x14 rg' _ hM.gm
      have hF := Fill.start (placeOf l ps) hM hB
      obtain ⟨y0, hy0⟩ : ∃ y, y = x14.alloc (.mapIter (some rg') (goesOf (allP l ps) 0).length #[] (goesOf (allP l ps) 0).length) := ⟨_, rfl⟩
      rw [← hy0] at hrun hF
      obtain ⟨it, hit⟩ : ∃ y, y = x14.heap.size := ⟨_, rfl⟩
      rw [← hit] at hrun hF
      obtain ⟨n0, hn0⟩ : ∃ y, y = (goesOf (allP l ps) 0).length := ⟨_, rfl⟩
      rw [← hn0] at hF
      have HF := Aside0.mk hF
      have HN := Aside0.mk (⟨placeOf_mem l ps, places_bound l ps hps, all_length l ps hps⟩ : (∀ x ∈ allP l ps, x.2 ≠ 0 → (x.2, placeOf l ps x.2) ∈ places l ps) ∧ (∀ x ∈ places l ps, 0 ≤ x.2 ∧ x.2 ≤ 1000) ∧ (allP l ps).length ≤ 100)
      clear hK hB hM hy0 hit hn0 hF
      go_wp2_with fail
      go_loopg [11] n0 (fun k _ wr => Aside0 (Fill W1 wr g l (allP l ps) (places l ps) (placeOf l ps) it rg' rp' k))
      case atStart => exact HF
      case round =>
        rcases hrel.out.round (by simp [places]) HN.out.1 HN.out.2.1 (by have := HN.out.2.2; omega) with ⟨v, hnext, hc20, hR, hB⟩ | ⟨i, q, w1, gv, n, cap, k', old, hnext, hent, h20, h22, hi, hn, hp0, hp1, hk, hlook, hcell, hfz, hF⟩
        · have HR := Aside0.mk hR
          have HB2 := Aside0.mk hB
          clear hR hB
          go_wp2_with fail
          go_ret2
          exact ⟨v, rfl, Kd.R_lower HR.out HBW.out.size, below_then HBW.out HBW.out.size HB2.out⟩
        · have hl1 : (Instr.lookup 86 (.map (some rp')) (.int .i64 q) false).run Tryd.prog w1.drew = .ok (.int .i64 (placeOf l ps q)) w1.drew := hlook 1
          have hF1 : Fill W1 (World.setCell w1.drew ⟨gv, i * 5 + 4, none⟩ (.int .i64 (4 * (placeOf l ps q - i)))) g l (allP l ps) (places l ps) (placeOf l ps) it rg' rp' k' := hF 1
          obtain ⟨pq, hpq⟩ : ∃ y, y = placeOf l ps q := ⟨_, rfl⟩
          rw [← hpq] at hl1 hF1 hp0 hp1
          have HF := Aside0.mk hF1
          have hw1 : IntKind.i64.wrap (pq - (i : Int)) = pq - i := IntWalk.i64_in _ (by omega)
          have hw2 : IntKind.i64.wrap (4 * (pq - (i : Int))) = 4 * (pq - i) := IntWalk.i64_in _ (by omega)
          clear hF hlook hF1 hpq
          go_wp2_with fail
          go_still_tail 16, rfl
          go_wp2_with fail
          go_roundg k'
          case measure => exact hk
          case rel => exact HF
end Go.Proofs.YtaoajlaocphgdaaDoor.PA
end
section
namespace Go.Proofs.YtaoajlaocphgdaaDoor.PA
open Go.RowKit Go.Proofs.YtaoajlaocphgdaaDoorW.PrintWords Go.Proofs.YtaoajlaocphgdaaDoorW.PrintLast Go.Proofs.YtaoajlaocphgdaaDoorW.PrintMore
set_option linter.unusedVariables false
set_option linter.unusedSimpArgs false
def mayGo : List S25 → Int → Bool → Bool
  | [], _, fin => fin
  | r :: t, last, fin => if r.f0 < last then false else if r.f0 ≥ r.f1 then false else if Int.tmod (Go.bits .or .u64 r.f0 r.f1) 8 = 0 then (if r.f1 > 1073741824 then false else if IntKind.u64.wrap (r.f1 - r.f0) > 65536 then false else mayGo t r.f1 fin) else false
def LayV.regions (l : LayV) : List S25 := [⟨l.a0, l.a1, l.a2, l.a3⟩, ⟨l.a4, l.a5, l.a6, l.a7⟩, ⟨l.a8, l.a9, l.a10, l.a11⟩, ⟨l.a12, l.a13, l.a14, l.a15⟩, ⟨l.a16, l.a17, l.a18, l.a19⟩]
def mayL (l : LayV) : Bool := mayGo l.regions 0 (if IntKind.u64.wrap (l.a5 - l.a4) ≥ 16 then decide (IntKind.u64.wrap (l.a9 - l.a8) ≥ 16) else false)
theorem may_l0 (xs : List S25) (hx : xs.length ≤ 5) (l : LayV) : ∀ (n : Nat) (i : Nat) (last : Int) (k : Nat), xs.length = i + n → n < k →
    wrap_May.l0 k last xs xs.length i l.a0 l.a1 l.a2 l.a3 l.a4 l.a5 l.a6 l.a7 l.a8 l.a9 l.a10 l.a11 l.a12 l.a13 l.a14 l.a15 l.a16 l.a17 l.a18 l.a19 = some (mayGo (xs.drop i) last (if IntKind.u64.wrap (l.a5 - l.a4) ≥ 16 then decide (IntKind.u64.wrap (l.a9 - l.a8) ≥ 16) else false)) := by
  intro n
  induction n with
  | zero =>
    intro i last k hn hk
    obtain ⟨k, rfl⟩ : ∃ k', k = k' + 1 := ⟨k - 1, by omega⟩
    rw [wrap_May.l0, if_neg (by omega), List.drop_eq_nil_of_le (by omega)]
    simp only [mayGo]
    split <;> rfl
  | succ n ih =>
    intro i last k hn hk
    obtain ⟨k, rfl⟩ : ∃ k', k = k' + 1 := ⟨k - 1, by omega⟩
    have hlt : i < xs.length := by omega
    have hd : xs.drop i = xs[i] :: xs.drop (i + 1) := List.drop_eq_getElem_cons hlt
    have hr : rd_T25 xs (i : Int) = xs[i] := by
      simp [rd_T25, List.getD_eq_getElem?_getD, List.getElem?_eq_getElem hlt]
    have hw : wrap64 ((i : Int) + 1) = ((i + 1 : Nat) : Int) := by
      rw [show (i : Int) + 1 = ((i + 1 : Nat) : Int) from by omega]
      exact IntWalk.wrap64_in _ (by omega)
    rw [wrap_May.l0, if_pos (by omega), if_pos (by omega), if_pos (by omega), hr, hd, hw]
    simp only [mayGo]
    rw [ih (i + 1) _ k (by omega) (by omega)]
    repeat' split
    all_goals rfl
theorem may_f (l : LayV) (k : Nat) (hk : 6 ≤ k) : wrap_May.f k l.a0 l.a1 l.a2 l.a3 l.a4 l.a5 l.a6 l.a7 l.a8 l.a9 l.a10 l.a11 l.a12 l.a13 l.a14 l.a15 l.a16 l.a17 l.a18 l.a19 = some (mayL l) := by
  unfold wrap_May.f
  exact may_l0 l.regions (Nat.le_refl 5) l 5 0 0 k rfl (by omega)
theorem mayGo_cons {r : S25} {t : List S25} {last : Int} {fin : Bool} (h : mayGo (r :: t) last fin = true) : last ≤ r.f0 ∧ r.f0 < r.f1 ∧ r.f1 ≤ 1073741824 ∧ Int.tmod (Go.bits .or .u64 r.f0 r.f1) 8 = 0 ∧ IntKind.u64.wrap (r.f1 - r.f0) ≤ 65536 ∧ mayGo t r.f1 fin = true := by
  simp only [mayGo] at h
  split at h
  · cases h
  · split at h
    · cases h
    · split at h
      · split at h
        · cases h
        · split at h
          · cases h
          · exact ⟨by omega, by omega, by omega, by assumption, by omega, h⟩
      · cases h
theorem mayL_ok {l : LayV} (h : mayL l = true) : LayOk l ∧ 16 ≤ l.a5 - l.a4 ∧ 0 ≤ l.a12 ∧ l.a12 < l.a13 := by
  unfold mayL LayV.regions at h
  obtain ⟨a1, a2, a3, _, _, h⟩ := mayGo_cons h
  obtain ⟨b1, b2, b3, _, _, h⟩ := mayGo_cons h
  obtain ⟨c1, c2, c3, _, _, h⟩ := mayGo_cons h
  obtain ⟨d1, d2, d3, _, _, h⟩ := mayGo_cons h
  obtain ⟨e1, e2, e3, _, _, h⟩ := mayGo_cons h
  simp only [mayGo] at h a1 a2 a3 b1 b2 b3 c1 c2 c3 d1 d2 d3 e1 e2 e3
  split at h
  · rename_i h5
    rw [IntWalk.u64_in (l.a5 - l.a4) (by omega)] at h5
    exact ⟨⟨by omega, by omega, by omega, by omega, by omega, by omega⟩, by omega, by omega, by omega⟩
  · cases h
theorem bits_may_some (a b : Int) : ∃ r, bits_may.f a b = some r := by
  unfold bits_may.f
  repeat' split
  all_goals exact ⟨_, rfl⟩
theorem bits_mask_some (a : Int) (h : 0 ≤ a) : ∃ r, bits_mask.f a = some r := by unfold bits_mask.f; rw [if_pos h]; exact ⟨_, rfl⟩
theorem bits_may_pos {a b : Int} (h : bits_may.f a b = some true) : 0 ≤ a ∧ 0 ≤ b := by
  unfold bits_may.f at h
  repeat' split at h
  all_goals first | (cases h; done) | exact ⟨by omega, by omega⟩ | simp at h
theorem bits_Field_some (x a b : Int) : ∃ r, bits_Field.f x a b = some r := by
  unfold bits_Field.f
  obtain ⟨r, hr⟩ := bits_may_some a b
  rw [hr]
  simp only [Option.bind_some]
  cases r with
  | false => exact ⟨_, rfl⟩
  | true =>
    obtain ⟨h1, h2⟩ := bits_may_pos hr
    obtain ⟨m, hm⟩ := bits_mask_some b h2
    rw [if_pos rfl, if_pos h1, hm]
    exact ⟨_, rfl⟩
theorem bits_Put_some (x a b y : Int) : ∃ r, bits_Put.f x a b y = some r := by
  unfold bits_Put.f
  obtain ⟨r, hr⟩ := bits_may_some a b
  rw [hr]
  simp only [Option.bind_some]
  cases r with
  | false => exact ⟨_, rfl⟩
  | true =>
    obtain ⟨h1, h2⟩ := bits_may_pos hr
    obtain ⟨m, hm⟩ := bits_mask_some b h2
    rw [if_pos rfl, hm]
    simp only [Option.bind_some]
    rw [if_pos h1]
    exact ⟨_, rfl⟩
theorem bits_Sign_some (x n : Int) : ∃ r, bits_Sign.f x n = some r := by
  unfold bits_Sign.f
  split
  · exact ⟨_, rfl⟩
  · split
    · exact ⟨_, rfl⟩
    · rw [if_pos (by rw [IntWalk.wrap64_in _ (by omega)]; omega)]
      exact ⟨_, rfl⟩
theorem bits_Fits_some (x n : Int) : ∃ r, bits_Fits.f x n = some r := by
  unfold bits_Fits.f
  obtain ⟨r, hr⟩ := bits_Sign_some (IntKind.u64.wrap x) n
  rw [hr]
  repeat' split
  all_goals exact ⟨_, rfl⟩
theorem bits_FitsU_some (x n : Int) : ∃ r, bits_FitsU.f x n = some r := by
  unfold bits_FitsU.f
  split
  · split
    · obtain ⟨r, hr⟩ := bits_mask_some n (by omega)
      rw [hr]
      exact ⟨_, rfl⟩
    · exact ⟨_, rfl⟩
  · exact ⟨_, rfl⟩
theorem ins_shift_some (x : Int) : ∃ r, ins_shift.f x = some r := by
  unfold ins_shift.f
  repeat' split
  all_goals exact ⟨_, rfl⟩
theorem ins_reg_some (x : Int) (b : Bool) : ∃ r, ins_reg.f x b = some r := by
  unfold ins_reg.f
  repeat' split
  all_goals exact ⟨_, rfl⟩
theorem ins_has_some (k : Nat) (f : ByteArray) : ∃ r, ins_has.f (k + 1) f = some r := by
  simp only [ins_has.f, ins_has.j0]
  repeat' split
  all_goals exact ⟨_, rfl⟩
theorem ins_Form_some (x : Int) : ∃ r, ins_Form.f x = some r ∧ ((x < 0 ∨ 42 < x) → r.toList = []) := by
  unfold ins_Form.f
  split
  · exact ⟨_, rfl, fun _ => by rw [ByteArray.toList, ByteArray.toList.loop]; rfl⟩
  · split
    · exact ⟨_, rfl, fun _ => by rw [ByteArray.toList, ByteArray.toList.loop]; rfl⟩
    · rw [if_pos (by omega), if_pos (by omega)]
      exact ⟨_, rfl, fun h => by omega⟩
theorem ins_imm_some (a b c d e : Int) (h : 0 ≤ a ∧ a < 43) : ∃ r, ins_imm.f a b c d e = some r := by
  unfold ins_imm.f
  rw [if_pos h.1, if_pos h.2]
  obtain ⟨r1, h1⟩ := ins_shift_some a
  obtain ⟨r2, h2⟩ := bits_FitsU_some (IntKind.u64.wrap e) 6
  obtain ⟨r3, h3⟩ := bits_Fits_some e 12
  obtain ⟨r4, h4⟩ := bits_Fits_some e 13
  obtain ⟨r5, h5⟩ := bits_Fits_some e 32
  obtain ⟨r6, h6⟩ := bits_Fits_some e 21
  rw [h1, h2, h3, h4, h5, h6]
  simp only [Option.bind_some]
  repeat' split
  all_goals exact ⟨_, rfl⟩
theorem ins_May_some (k : Nat) (a b c d e : Int) : ∃ r, ins_May.f (k + 1) a b c d e = some r ∧ (r = true → 0 ≤ a ∧ a < 43) := by
  unfold ins_May.f
  obtain ⟨f, hf, hfe⟩ := ins_Form_some a
  obtain ⟨g, hg⟩ := ins_has_some k f
  rw [hf]
  simp only [Option.bind_some, hg]
  split
  · exact ⟨_, rfl, fun h => by cases h⟩
  · rename_i hne
    have hb : 0 ≤ a ∧ a < 43 := by
      apply Classical.byContradiction
      intro hn
      exact hne (hfe (by omega))
    obtain ⟨r1, h1⟩ := ins_reg_some b g.1
    obtain ⟨r2, h2⟩ := ins_reg_some c g.2.1
    obtain ⟨r3, h3⟩ := ins_reg_some d g.2.2
    obtain ⟨r4, h4⟩ := ins_imm_some a b c d e hb
    rw [h1, h2, h3, h4]
    simp only [Option.bind_some]
    repeat' split
    all_goals exact ⟨_, rfl, fun _ => hb⟩
theorem ins_parts_some (f : ByteArray) : ∃ r, ins_parts.f f = some r ∧ r.length ≤ 4 := by
  unfold ins_parts.f
  repeat' split
  all_goals exact ⟨_, rfl, by simp⟩
theorem encode_l0 (y : Int) (xs : List S103) (hx : xs.length ≤ 4) : ∀ (n i k : Nat) (w : Int), xs.length = i + n → n < k → ∃ r, ins_Encode.l0 k w y xs xs.length i = some r := by
  intro n
  induction n with
  | zero =>
    intro i k w hn hk
    obtain ⟨k, rfl⟩ : ∃ k', k = k' + 1 := ⟨k - 1, by omega⟩
    rw [ins_Encode.l0, if_neg (by omega)]
    exact ⟨_, rfl⟩
  | succ n ih =>
    intro i k w hn hk
    obtain ⟨k, rfl⟩ : ∃ k', k = k' + 1 := ⟨k - 1, by omega⟩
    have hw : wrap64 ((i : Int) + 1) = ((i + 1 : Nat) : Int) := by
      rw [show (i : Int) + 1 = ((i + 1 : Nat) : Int) from by omega]
      exact IntWalk.wrap64_in _ (by omega)
    rw [ins_Encode.l0, if_pos (by omega), if_pos (by omega), if_pos (by omega), hw]
    obtain ⟨r1, h1⟩ := bits_Field_some y ((rd_T103 xs i).f0) ((rd_T103 xs i).f1)
    rw [h1]
    simp only [Option.bind_some]
    obtain ⟨r2, h2⟩ := bits_Put_some w ((rd_T103 xs i).f2) ((rd_T103 xs i).f1) r1.1
    rw [h2]
    simp only [Option.bind_some]
    exact ih (i + 1) k _ (by omega) (by omega)
theorem encode_j2 (k : Nat) (a b : Int) (f : ByteArray) (c d e : Int) : ∃ r, ins_Encode.j2 (k + 6) a b f c d e = some r := by
  rw [ins_Encode.j2]
  obtain ⟨r, hr, hl⟩ := ins_parts_some f
  rw [hr]
  simp only [Option.bind_some]
  exact encode_l0 _ r hl r.length 0 _ _ (by omega) (by omega)
theorem encode_j1 (k : Nat) (x a b c d e : Int) (f : ByteArray) (g h i : Int) : ∃ r, ins_Encode.j1 (k + 7) x a b c d e f g h i = some r := by
  rw [ins_Encode.j1]
  obtain ⟨r, hr⟩ := ins_shift_some a
  rw [hr]
  simp only [Option.bind_some]
  repeat' split
  all_goals exact encode_j2 _ _ _ _ _ _ _
theorem encode_j0 (k : Nat) (x : Int) (t : Bool) (a b c d e : Int) (f : ByteArray) (g h i : Int) : ∃ r, ins_Encode.j0 (k + 8) x t a b c d e f g h i = some r := by
  rw [ins_Encode.j0]
  repeat' split
  all_goals exact encode_j1 _ _ _ _ _ _ _ _ _ _ _
theorem encode_some (k : Nat) (a b c d e : Int) : ∃ r, ins_Encode.f (k + 8) a b c d e = some r := by
  unfold ins_Encode.f
  obtain ⟨r, hr, hb⟩ := ins_May_some (k + 7) a b c d e
  rw [hr]
  simp only [Option.bind_some]
  split
  · rename_i h
    obtain ⟨h1, h2⟩ := hb h
    rw [if_pos h1, if_pos h2]
    repeat' split
    all_goals first | exact ⟨_, rfl⟩ | exact encode_j0 _ _ _ _ _ _ _ _ _ _ _ _
  · exact ⟨_, rfl⟩
def encP (x : S43) : Int × Int := (ins_Encode.f 20 x.f0 x.f1 x.f2 x.f3 x.f4).getD (0, 0)
theorem encode_f (x : S43) : ins_Encode.f 20 x.f0 x.f1 x.f2 x.f3 x.f4 = some ((encP x).1, (encP x).2) := by
  obtain ⟨r, hr⟩ := encode_some 12 x.f0 x.f1 x.f2 x.f3 x.f4
  unfold encP
  rw [hr]
  rfl
end Go.Proofs.YtaoajlaocphgdaaDoor.PA
end
section
namespace Go.Proofs.YtaoajlaocphgdaaDoor.PA
open Go.RowKit Go.Proofs.YtaoajlaocphgdaaDoorW.PrintWords Go.Proofs.YtaoajlaocphgdaaDoorW.PrintLast Go.Proofs.YtaoajlaocphgdaaDoorW.PrintMore
set_option linter.unusedVariables false
set_option linter.unusedSimpArgs false
theorem u64N_mod (x : Int) (m : Nat) (h : (m : Int) ∣ 18446744073709551616) : ((u64N x % m : Nat) : Int) = x % (m : Int) := by
  unfold u64N
  rw [Int.natCast_emod, Int.toNat_of_nonneg (by omega)]
  exact Int.emod_emod_of_dvd x h
theorem row_form (op : Nat) (h : op < 43) : (rd_T97 rowsL (op : Int)).f0 = (fm op).bytes :=
  (by decide +kernel : ∀ o : Fin 43, (rd_T97 rowsL ((o.val : Nat) : Int)).f0 = (fm o.val).bytes) ⟨op, h⟩
theorem row_low (op : Nat) (h : op < 43) : (rd_T97 rowsL (op : Int)).f1.f0 = ((lowN op : Nat) : Int) :=
  (by decide +kernel : ∀ o : Fin 43, (rd_T97 rowsL ((o.val : Nat) : Int)).f1.f0 = ((lowN o.val : Nat) : Int)) ⟨op, h⟩
theorem row_kind (op : Nat) (h : op < 43) : (rd_T97 rowsL (op : Int)).f1.f1 = ((kindN op : Nat) : Int) :=
  (by decide +kernel : ∀ o : Fin 43, (rd_T97 rowsL ((o.val : Nat) : Int)).f1.f1 = ((kindN o.val : Nat) : Int)) ⟨op, h⟩
theorem pshift_f (op : Nat) (h : op < 43) : ins_shift.f (op : Int) = some (shiftN op) :=
  (by decide +kernel : ∀ o : Fin 43, ins_shift.f ((o.val : Nat) : Int) = some (shiftN o.val)) ⟨op, h⟩
theorem pform_f (op : Nat) (h : op < 43) : ins_Form.f (op : Int) = some (fm op).bytes := by
  unfold ins_Form.f
  rw [if_neg (by omega), if_neg (by omega), if_pos (by omega), if_pos (by omega), row_form op h]
def hasN (f : Fm) : Bool × Bool × Bool := match f with
  | .R => (true, true, true)
  | .I => (true, true, false)
  | .S => (false, true, true)
  | .B => (false, true, true)
  | .U => (true, false, false)
  | .J => (true, false, false)
  | .E => (false, false, false)
theorem has_f (k : Nat) (f : Fm) : ins_has.f (k + 1) f.bytes = some (hasN f) := by
  cases f <;> simp (decide := true) only [ins_has.f, ins_has.j0, Fm.bytes, hasN, l82, l73, l83, l66, l85, l74, l69, if_true, if_false, List.cons.injEq, and_true, beq_iff_eq, BEq.rfl]
theorem reg_f (n : Nat) (b : Bool) (hn : n < 32) (h : b = false → n = 0) : ins_reg.f (n : Int) b = some true := by
  unfold ins_reg.f
  by_cases h0 : n = 0
  · subst h0; rfl
  · have hb : b = true := by cases b with
      | false => exact absurd (h rfl) h0
      | true => rfl
    rw [if_neg (by omega), if_pos hb, if_pos (by omega), decide_eq_true (by omega)]
theorem pmay_f (k op rd rs1 rs2 : Nat) (imm : Int) (hop : op < 43) (b1 : rd < 32) (b2 : rs1 < 32) (b3 : rs2 < 32) (h1 : (hasN (fm op)).1 = false → rd = 0) (h2 : (hasN (fm op)).2.1 = false → rs1 = 0) (h3 : (hasN (fm op)).2.2 = false → rs2 = 0)
    (hi : ins_imm.f (op : Int) (rd : Int) (rs1 : Int) (rs2 : Int) imm = some true) : ins_May.f (k + 1) op rd rs1 rs2 imm = some true := by
  unfold ins_May.f
  rw [pform_f op hop, Option.bind_some, has_f k, Option.bind_some, if_neg (by cases fm op <;> simp [Fm.bytes, l82, l73, l83, l66, l85, l74, l69]), reg_f rd _ b1 h1, Option.bind_some, if_pos rfl, reg_f rs1 _ b2 h2, Option.bind_some, if_pos rfl, reg_f rs2 _ b3 h3, Option.bind_some, if_pos rfl, hi]
  rfl
theorem fits_f (imm : Int) (n : Nat) (h1 : 1 ≤ n) (h2 : n ≤ 64) (h : sgn (u64N imm) n = imm) : bits_Fits.f imm (n : Int) = some true := by
  unfold bits_Fits.f
  rw [if_pos (by omega), if_pos (by omega), wrap_u64N, sign_f _ n h1 h2, Option.bind_some, h]
  simp
theorem sgn12 (imm : Int) (h : -2048 ≤ imm ∧ imm ≤ 2047) : sgn (u64N imm) 12 = imm := by
  have e := u64N_mod imm 4096 (by decide)
  unfold sgn
  rw [show 2 ^ 12 = 4096 from rfl, show 2 ^ (12 - 1) = 2048 from rfl]
  split <;> omega
theorem sgn13 (imm : Int) (h : -4096 ≤ imm ∧ imm ≤ 4095) : sgn (u64N imm) 13 = imm := by
  have e := u64N_mod imm 8192 (by decide)
  unfold sgn
  rw [show 2 ^ 13 = 8192 from rfl, show 2 ^ (13 - 1) = 4096 from rfl]
  split <;> omega
theorem sgn21 (imm : Int) (h : -1048576 ≤ imm ∧ imm ≤ 1048575) : sgn (u64N imm) 21 = imm := by
  have e := u64N_mod imm 2097152 (by decide)
  unfold sgn
  rw [show 2 ^ 21 = 2097152 from rfl, show 2 ^ (21 - 1) = 1048576 from rfl]
  split <;> omega
theorem sgn32 (imm : Int) (h : -2147483648 ≤ imm ∧ imm ≤ 2147483647) : sgn (u64N imm) 32 = imm := by
  have e := u64N_mod imm 4294967296 (by decide)
  unfold sgn
  rw [show 2 ^ 32 = 4294967296 from rfl, show 2 ^ (32 - 1) = 2147483648 from rfl]
  split <;> omega
theorem sgn_mod (v n : Nat) : sgn (v % 2 ^ n) n = sgn v n := by unfold sgn; rw [Nat.mod_mod]
theorem enc_l0_step (k w n i : Nat) (xs : List S103) (a m p : Nat) (hx : xs[i]? = some ⟨(a : Int), (m : Int), (p : Int)⟩) (hw : w < 2 ^ 64) (hn : n < 2 ^ 64) (h1 : a + m ≤ 64) (h2 : p + m ≤ 64) (h0 : w / 2 ^ p % 2 ^ m = 0) (hl : xs.length ≤ 4) :
    ins_Encode.l0 (k + 1) (w : Int) (n : Int) xs (xs.length : Int) (i : Int) = ins_Encode.l0 k ((w + n / 2 ^ a % 2 ^ m * 2 ^ p : Nat) : Int) (n : Int) xs (xs.length : Int) ((i + 1 : Nat) : Int) := by
  have hi : i < xs.length := (List.getElem?_eq_some_iff.1 hx).1
  have hr : rd_T103 xs (i : Int) = ⟨(a : Int), (m : Int), (p : Int)⟩ := by
    unfold rd_T103
    rw [Int.toNat_natCast, List.getD_eq_getElem?_getD, hx]
    rfl
  have hsm : n / 2 ^ a % 2 ^ m < 2 ^ 64 := Nat.lt_of_le_of_lt (Nat.mod_le _ _) (Nat.lt_of_le_of_lt (Nat.div_le_self _ _) hn)
  rw [ins_Encode.l0, if_pos (by omega), if_pos (by omega), if_pos (by omega), hr]
  dsimp only
  rw [field_f n a m hn h1, Option.bind_some]
  dsimp only
  rw [put_f w p m _ hw hsm h2 h0, Option.bind_some, Nat.mod_mod]
  dsimp only
  rw [IntWalk.wrap64_in _ (by omega)]
  rfl
theorem enc_l0_end (k w n : Nat) (xs : List S103) : ins_Encode.l0 (k + 1) (w : Int) (n : Int) xs (xs.length : Int) (xs.length : Int) = some (((w % 4294967296 : Nat) : Int), 0) := by
  rw [ins_Encode.l0, if_neg (by omega)]
  rfl
theorem base_or (lo rd kd rs1 rs2 : Nat) (h0 : lo < 128) (h1 : rd < 32) (h2 : kd < 8) (h3 : rs1 < 32) (h4 : rs2 < 32) :
    Go.bits .or .u64 (Go.bits .or .u64 (Go.bits .or .u64 (Go.bits .or .u64 (lo : Int) (IntKind.u64.wrap ((IntKind.u64.wrap (rd : Int)) * 128))) (IntKind.u64.wrap ((kd : Int) * 4096))) (IntKind.u64.wrap ((IntKind.u64.wrap (rs1 : Int)) * 32768))) (IntKind.u64.wrap ((IntKind.u64.wrap (rs2 : Int)) * 1048576)) = ((lo + rd * 128 + kd * 4096 + rs1 * 32768 + rs2 * 1048576 : Nat) : Int) := by
  have e1 : IntKind.u64.wrap ((IntKind.u64.wrap (rd : Int)) * 128) = ((rd * 128 : Nat) : Int) := by simp only [wrap_u64]; omega
  have e2 : IntKind.u64.wrap ((kd : Int) * 4096) = ((kd * 4096 : Nat) : Int) := by simp only [wrap_u64]; omega
  have e3 : IntKind.u64.wrap ((IntKind.u64.wrap (rs1 : Int)) * 32768) = ((rs1 * 32768 : Nat) : Int) := by simp only [wrap_u64]; omega
  have e4 : IntKind.u64.wrap ((IntKind.u64.wrap (rs2 : Int)) * 1048576) = ((rs2 * 1048576 : Nat) : Int) := by simp only [wrap_u64]; omega
  rw [e1, e2, e3, e4, or_nat _ _ (by omega) (by omega), or_add 7 h0 rd rfl, or_nat _ _ (by omega) (by omega), or_add 12 (by omega) kd rfl, or_nat _ _ (by omega) (by omega), or_add 15 (by omega) rs1 rfl, or_nat _ _ (by omega) (by omega), or_add 20 (by omega) rs2 rfl]
theorem base_or2 (lo rd : Nat) (h0 : lo < 128) (h1 : rd < 32) : Go.bits .or .u64 (lo : Int) (IntKind.u64.wrap ((IntKind.u64.wrap (rd : Int)) * 128)) = ((lo + rd * 128 : Nat) : Int) := by
  have e1 : IntKind.u64.wrap ((IntKind.u64.wrap (rd : Int)) * 128) = ((rd * 128 : Nat) : Int) := by simp only [wrap_u64]; omega
  rw [e1, or_nat _ _ (by omega) (by omega), or_add 7 h0 rd rfl]
theorem penc_start (k op rd rs1 rs2 : Nat) (imm : Int) (hop : op < 43) (b1 : rd < 32) (b2 : rs1 < 32) (b3 : rs2 < 32) (hm : ins_May.f (k + 3) op rd rs1 rs2 imm = some true) (hE : fm op ≠ .E) (hR : fm op ≠ .R) (hs : shiftN op = false) (w : Nat)
    (hw : w = if fm op = .U ∨ fm op = .J then lowN op + rd * 128 else lowN op + rd * 128 + kindN op * 4096 + rs1 * 32768 + rs2 * 1048576) :
    ins_Encode.f (k + 3) op rd rs1 rs2 imm = (ins_parts.f (fm op).bytes).bind fun t => ins_Encode.l0 k (w : Int) (u64N imm : Int) t (t.length : Int) 0 := by
  obtain ⟨t1, t2, t3⟩ := tab_lt op hop
  unfold ins_Encode.f
  rw [hm, Option.bind_some, if_pos rfl, if_pos (by omega), if_pos (by omega), row_form op hop, row_low op hop, row_kind op hop, base_or _ _ _ _ _ t1 b1 t2 b2 b3]
  cases hf : fm op
  case E => exact absurd hf hE
  case R => exact absurd hf hR
  all_goals
    simp (decide := true) only [Fm.bytes, l82, l73, l83, l66, l85, l74, l69, if_true, if_false, List.cons.injEq, and_true, beq_iff_eq, BEq.rfl, ins_Encode.j0, ins_Encode.j1, ins_Encode.j2, pshift_f op hop, hs, Option.bind_some, base_or2 _ _ t1 b1, wrap_u64N imm, hf, or_self, or_true, true_or, or_false, false_or, reduceCtorEq, Bool.false_eq_true] at hw ⊢
    rw [hw]
theorem parts_I : ins_parts.f Fm.I.bytes = some [⟨0, 12, 20⟩] := by simp (decide := true) only [ins_parts.f, Fm.bytes, l73, if_true]
theorem parts_S : ins_parts.f Fm.S.bytes = some [⟨0, 5, 7⟩, ⟨5, 7, 25⟩] := by simp (decide := true) only [ins_parts.f, Fm.bytes, l83, if_true, if_false]
theorem parts_B : ins_parts.f Fm.B.bytes = some [⟨1, 4, 8⟩, ⟨5, 6, 25⟩, ⟨11, 1, 7⟩, ⟨12, 1, 31⟩] := by simp (decide := true) only [ins_parts.f, Fm.bytes, l66, if_true, if_false]
theorem parts_U : ins_parts.f Fm.U.bytes = some [⟨12, 20, 12⟩] := by simp (decide := true) only [ins_parts.f, Fm.bytes, l85, if_true, if_false]
theorem parts_J : ins_parts.f Fm.J.bytes = some [⟨1, 10, 21⟩, ⟨11, 1, 20⟩, ⟨12, 8, 12⟩, ⟨20, 1, 31⟩] := by simp (decide := true) only [ins_parts.f, Fm.bytes, l74, if_true, if_false]
theorem steps_1 (k w u : Nat) (a m p : Nat) (hw : w < 2 ^ 64) (hu : u < 2 ^ 64) (h1 : a + m ≤ 64) (h2 : p + m ≤ 64) (h0 : w / 2 ^ p % 2 ^ m = 0) :
    ins_Encode.l0 (k + 2) (w : Int) (u : Int) [⟨(a : Int), (m : Int), (p : Int)⟩] 1 0 = some ((((w + u / 2 ^ a % 2 ^ m * 2 ^ p) % 4294967296 : Nat) : Int), 0) := by
  have h := enc_l0_step (k + 1) w u 0 [⟨(a : Int), (m : Int), (p : Int)⟩] a m p rfl hw hu h1 h2 h0 (Nat.le_of_ble_eq_true rfl)
  exact h.trans (enc_l0_end k _ u [⟨(a : Int), (m : Int), (p : Int)⟩])
theorem steps_2 (k w u : Nat) (a m p a' m' p' w' : Nat) (hw : w < 2 ^ 64) (hu : u < 2 ^ 64) (h1 : a + m ≤ 64) (h2 : p + m ≤ 64) (h0 : w / 2 ^ p % 2 ^ m = 0)
    (ew : w' = w + u / 2 ^ a % 2 ^ m * 2 ^ p) (hw' : w' < 2 ^ 64) (h1' : a' + m' ≤ 64) (h2' : p' + m' ≤ 64) (h0' : w' / 2 ^ p' % 2 ^ m' = 0) :
    ins_Encode.l0 (k + 3) (w : Int) (u : Int) [⟨(a : Int), (m : Int), (p : Int)⟩, ⟨(a' : Int), (m' : Int), (p' : Int)⟩] 2 0 = some ((((w' + u / 2 ^ a' % 2 ^ m' * 2 ^ p') % 4294967296 : Nat) : Int), 0) := by
  have h := enc_l0_step (k + 2) w u 0 [⟨(a : Int), (m : Int), (p : Int)⟩, ⟨(a' : Int), (m' : Int), (p' : Int)⟩] a m p rfl hw hu h1 h2 h0 (Nat.le_of_ble_eq_true rfl)
  rw [← ew] at h
  have h' := enc_l0_step (k + 1) w' u 1 [⟨(a : Int), (m : Int), (p : Int)⟩, ⟨(a' : Int), (m' : Int), (p' : Int)⟩] a' m' p' rfl hw' hu h1' h2' h0' (Nat.le_of_ble_eq_true rfl)
  exact (h.trans h').trans (enc_l0_end k _ u [⟨(a : Int), (m : Int), (p : Int)⟩, ⟨(a' : Int), (m' : Int), (p' : Int)⟩])
theorem steps_4 (k w u : Nat) (a m p a' m' p' b n q b' n' q' w' x x' : Nat) (hw : w < 2 ^ 64) (hu : u < 2 ^ 64) (h1 : a + m ≤ 64) (h2 : p + m ≤ 64) (h0 : w / 2 ^ p % 2 ^ m = 0)
    (ew : w' = w + u / 2 ^ a % 2 ^ m * 2 ^ p) (hw' : w' < 2 ^ 64) (h1' : a' + m' ≤ 64) (h2' : p' + m' ≤ 64) (h0' : w' / 2 ^ p' % 2 ^ m' = 0)
    (ex : x = w' + u / 2 ^ a' % 2 ^ m' * 2 ^ p') (hx : x < 2 ^ 64) (k1 : b + n ≤ 64) (k2 : q + n ≤ 64) (k0 : x / 2 ^ q % 2 ^ n = 0)
    (ex' : x' = x + u / 2 ^ b % 2 ^ n * 2 ^ q) (hx' : x' < 2 ^ 64) (k1' : b' + n' ≤ 64) (k2' : q' + n' ≤ 64) (k0' : x' / 2 ^ q' % 2 ^ n' = 0) :
    ins_Encode.l0 (k + 5) (w : Int) (u : Int) [⟨(a : Int), (m : Int), (p : Int)⟩, ⟨(a' : Int), (m' : Int), (p' : Int)⟩, ⟨(b : Int), (n : Int), (q : Int)⟩, ⟨(b' : Int), (n' : Int), (q' : Int)⟩] 4 0 = some ((((x' + u / 2 ^ b' % 2 ^ n' * 2 ^ q') % 4294967296 : Nat) : Int), 0) := by
  have h := enc_l0_step (k + 4) w u 0 [⟨(a : Int), (m : Int), (p : Int)⟩, ⟨(a' : Int), (m' : Int), (p' : Int)⟩, ⟨(b : Int), (n : Int), (q : Int)⟩, ⟨(b' : Int), (n' : Int), (q' : Int)⟩] a m p rfl hw hu h1 h2 h0 (Nat.le_of_ble_eq_true rfl)
  rw [← ew] at h
  have h' := enc_l0_step (k + 3) w' u 1 [⟨(a : Int), (m : Int), (p : Int)⟩, ⟨(a' : Int), (m' : Int), (p' : Int)⟩, ⟨(b : Int), (n : Int), (q : Int)⟩, ⟨(b' : Int), (n' : Int), (q' : Int)⟩] a' m' p' rfl hw' hu h1' h2' h0' (Nat.le_of_ble_eq_true rfl)
  rw [← ex] at h'
  have g := enc_l0_step (k + 2) x u 2 [⟨(a : Int), (m : Int), (p : Int)⟩, ⟨(a' : Int), (m' : Int), (p' : Int)⟩, ⟨(b : Int), (n : Int), (q : Int)⟩, ⟨(b' : Int), (n' : Int), (q' : Int)⟩] b n q rfl hx hu k1 k2 k0 (Nat.le_of_ble_eq_true rfl)
  rw [← ex'] at g
  have g' := enc_l0_step (k + 1) x' u 3 [⟨(a : Int), (m : Int), (p : Int)⟩, ⟨(a' : Int), (m' : Int), (p' : Int)⟩, ⟨(b : Int), (n : Int), (q : Int)⟩, ⟨(b' : Int), (n' : Int), (q' : Int)⟩] b' n' q' rfl hx' hu k1' k2' k0' (Nat.le_of_ble_eq_true rfl)
  exact (((h.trans h').trans g).trans g').trans (enc_l0_end k _ u [⟨(a : Int), (m : Int), (p : Int)⟩, ⟨(a' : Int), (m' : Int), (p' : Int)⟩, ⟨(b : Int), (n : Int), (q : Int)⟩, ⟨(b' : Int), (n' : Int), (q' : Int)⟩])
end Go.Proofs.YtaoajlaocphgdaaDoor.PA
end
section
namespace Go.Proofs.YtaoajlaocphgdaaDoor.PA
open Go.RowKit Go.Proofs.YtaoajlaocphgdaaDoorW.PrintWords Go.Proofs.YtaoajlaocphgdaaDoorW.PrintLast Go.Proofs.YtaoajlaocphgdaaDoorW.PrintMore
set_option linter.unusedVariables false
set_option linter.unusedSimpArgs false
structure Both (op rd rs1 rs2 : Nat) (imm : Int) (w : Nat) : Prop where
  lt : w < 4294967296
  prog : ∀ k, ins_Encode.f (k + 10) op rd rs1 rs2 imm = some ((w : Int), 0)
  enc : ∀ k, caponierref02_Encode.f (k + 100) op rd rs1 rs2 imm = some ((w : Int), 0)
  dec : ∀ k, caponierref02_Decode.f (k + 200) (w : Int) = some ((op : Int), (rd : Int), (rs1 : Int), (rs2 : Int), imm, 0)
theorem imm_I (op rd rs1 rs2 : Nat) (imm : Int) (hop : op < 43) (hf : fm op = .I) (hs : shiftN op = false) (hi : -2048 ≤ imm ∧ imm ≤ 2047) : ins_imm.f (op : Int) (rd : Int) (rs1 : Int) (rs2 : Int) imm = some true := by
  unfold ins_imm.f
  rw [if_pos (by omega), if_pos (by omega), row_form op hop, hf, show Fm.I.bytes.toList = [73] from l73, if_pos rfl, pshift_f op hop, hs, Option.bind_some, if_neg (by decide), show bits_Fits.f imm 12 = some true from fits_f imm 12 (by decide) (by decide) (sgn12 imm hi)]
  rfl
theorem imm_S (op rd rs1 rs2 : Nat) (imm : Int) (hop : op < 43) (hf : fm op = .S) (hi : -2048 ≤ imm ∧ imm ≤ 2047) : ins_imm.f (op : Int) (rd : Int) (rs1 : Int) (rs2 : Int) imm = some true := by
  unfold ins_imm.f
  rw [if_pos (by omega), if_pos (by omega), row_form op hop, hf, show Fm.S.bytes.toList = [83] from l83, if_neg (by decide), if_pos rfl, show bits_Fits.f imm 12 = some true from fits_f imm 12 (by decide) (by decide) (sgn12 imm hi)]
  rfl
theorem and1 (imm : Int) (h : imm % 2 = 0) : Go.bits .and .i64 imm 1 = 0 := by
  show IntKind.i64.wrap ((((BitVec.ofInt 64 imm) &&& (BitVec.ofInt 64 1) : BitVec 64).toNat : Nat) : Int) = 0
  rw [BitVec.toNat_and, show (BitVec.ofInt 64 1).toNat = 2 ^ 1 - 1 from rfl, Nat.and_two_pow_sub_one_eq_mod, BitVec.toNat_ofInt]
  have : (imm % ((2 ^ 64 : Nat) : Int)).toNat % 2 ^ 1 = 0 := by
    have e : ((2 ^ 64 : Nat) : Int) = 18446744073709551616 := rfl
    rw [e]; omega
  rw [this]; rfl
theorem and4095 (imm : Int) (h : imm % 4096 = 0) : Go.bits .and .i64 imm 4095 = 0 := by
  show IntKind.i64.wrap ((((BitVec.ofInt 64 imm) &&& (BitVec.ofInt 64 4095) : BitVec 64).toNat : Nat) : Int) = 0
  rw [BitVec.toNat_and, show (BitVec.ofInt 64 4095).toNat = 2 ^ 12 - 1 from rfl, Nat.and_two_pow_sub_one_eq_mod, BitVec.toNat_ofInt]
  have : (imm % ((2 ^ 64 : Nat) : Int)).toNat % 2 ^ 12 = 0 := by
    have e : ((2 ^ 64 : Nat) : Int) = 18446744073709551616 := rfl
    rw [e]; omega
  rw [this]; rfl
theorem imm_B (op rd rs1 rs2 : Nat) (imm : Int) (hop : op < 43) (hf : fm op = .B) (hi : -4096 ≤ imm ∧ imm ≤ 4094) (h2 : imm % 2 = 0) : ins_imm.f (op : Int) (rd : Int) (rs1 : Int) (rs2 : Int) imm = some true := by
  unfold ins_imm.f
  rw [if_pos (by omega), if_pos (by omega), row_form op hop, hf, show Fm.B.bytes.toList = [66] from l66, if_neg (by decide), if_neg (by decide), if_pos rfl, show bits_Fits.f imm 13 = some true from fits_f imm 13 (by decide) (by decide) (sgn13 imm (by omega)), Option.bind_some, if_pos rfl, and1 imm h2]
  rfl
theorem imm_U (op rd rs1 rs2 : Nat) (imm : Int) (hop : op < 43) (hf : fm op = .U) (hi : -2147483648 ≤ imm ∧ imm ≤ 2147483647) (h2 : imm % 4096 = 0) : ins_imm.f (op : Int) (rd : Int) (rs1 : Int) (rs2 : Int) imm = some true := by
  unfold ins_imm.f
  rw [if_pos (by omega), if_pos (by omega), row_form op hop, hf, show Fm.U.bytes.toList = [85] from l85, if_neg (by decide), if_neg (by decide), if_neg (by decide), if_pos rfl, show bits_Fits.f imm 32 = some true from fits_f imm 32 (by decide) (by decide) (sgn32 imm hi), Option.bind_some, if_pos rfl, and4095 imm h2]
  rfl
theorem imm_J (op rd rs1 rs2 : Nat) (imm : Int) (hop : op < 43) (hf : fm op = .J) (hi : -1048576 ≤ imm ∧ imm ≤ 1048574) (h2 : imm % 2 = 0) : ins_imm.f (op : Int) (rd : Int) (rs1 : Int) (rs2 : Int) imm = some true := by
  unfold ins_imm.f
  rw [if_pos (by omega), if_pos (by omega), row_form op hop, hf, show Fm.J.bytes.toList = [74] from l74, if_neg (by decide), if_neg (by decide), if_neg (by decide), if_neg (by decide), if_pos rfl, show bits_Fits.f imm 21 = some true from fits_f imm 21 (by decide) (by decide) (sgn21 imm (by omega)), Option.bind_some, if_pos rfl, and1 imm h2]
  rfl
theorem cut_B (u : Nat) (h : u % 2 = 0) : u / 2 % 16 * 2 + u / 32 % 64 * 32 + u / 2048 % 2 * 2048 + u / 4096 % 2 * 4096 = u % 8192 := by
  have a1 : u % 32 = u % 2 + u / 2 % 16 * 2 := by omega
  have a2 : u % 2048 = u % 32 + u / 32 % 64 * 32 := by omega
  have a3 : u % 4096 = u % 2048 + u / 2048 % 2 * 2048 := by omega
  have a4 : u % 8192 = u % 4096 + u / 4096 % 2 * 4096 := by omega
  rw [a4, a3, a2, a1, h, Nat.zero_add]
theorem cut_J (u : Nat) (h : u % 2 = 0) : u / 2 % 1024 * 2 + u / 2048 % 2 * 2048 + u / 4096 % 256 * 4096 + u / 1048576 % 2 * 1048576 = u % 2097152 := by
  have a1 : u % 2048 = u % 2 + u / 2 % 1024 * 2 := by omega
  have a2 : u % 4096 = u % 2048 + u / 2048 % 2 * 2048 := by omega
  have a3 : u % 1048576 = u % 4096 + u / 4096 % 256 * 4096 := by omega
  have a4 : u % 2097152 = u % 1048576 + u / 1048576 % 2 * 1048576 := by omega
  rw [a4, a3, a2, a1, h, Nat.zero_add]
theorem ne_fm {a b : Fm} {op : Nat} (h : fm op = a) (hn : a ≠ b) : fm op ≠ b := h ▸ hn
theorem both_I (op rd rs1 : Nat) (imm : Int) (hop : op < 43) (hf : fm op = .I) (hs : shiftN op = false) (hu : uniqN op = true) (b1 : rd < 32) (b2 : rs1 < 32) (hi : -2048 ≤ imm ∧ imm ≤ 2047) : Both op rd rs1 0 imm (wordN op rd rs1 0 (u64N imm) % 4294967296) := by
  obtain ⟨t1, t2, t3⟩ := tab_lt op hop
  have he : ∀ k, caponierref02_Encode.f (k + 100) op rd rs1 (0 : Nat) imm = some (((wordN op rd rs1 0 (u64N imm) % 4294967296 : Nat) : Int), 0) := fun k => enc_f k op rd rs1 0 imm hop b1 b2 (by decide) (may_I (k + 97) op rd rs1 imm hop hf hs b1 b2 hi)
  have hlt : wordN op rd rs1 0 (u64N imm) % 4294967296 < 4294967296 := Nat.mod_lt _ (by decide)
  have hw : wordN op rd rs1 0 (u64N imm) % 4294967296 = lowN op + rd * 128 + kindN op * 4096 + rs1 * 32768 + u64N imm % 4096 * 1048576 := by
    have hy : u64N imm % 4096 < 4096 := Nat.mod_lt _ (by decide)
    unfold wordN
    rw [hf]
    dsimp only
    rw [hs, if_neg (by decide)]
    generalize u64N imm % 4096 = y at *
    omega
  refine ⟨hlt, fun k => ?_, he, fun k => dec_f k op _ rd rs1 0 imm hop hlt (miss_of_uniq op rd rs1 0 _ hop b1 (fun h => by rcases h with h | h <;> rw [hf] at h <;> cases h) hu) (fun j => ?_) he⟩
  · rw [penc_start (k + 7) op rd rs1 0 imm hop b1 b2 (by decide) (pmay_f (k + 9) op rd rs1 0 imm hop b1 b2 (by decide) (by rw [hf]; intro h; cases h) (by rw [hf]; intro h; cases h) (fun _ => rfl) (imm_I op rd rs1 0 imm hop hf hs hi)) (ne_fm hf (by decide)) (ne_fm hf (by decide)) hs (lowN op + rd * 128 + kindN op * 4096 + rs1 * 32768 + 0 * 1048576) (by rw [if_neg (by rw [hf]; decide)]), hf, parts_I, Option.bind_some]
    refine (steps_1 (k + 5) (lowN op + rd * 128 + kindN op * 4096 + rs1 * 32768 + 0 * 1048576) (u64N imm) 0 12 20 (by omega) (u64N_lt imm) (by decide) (by decide) (by omega)).trans ?_
    refine congrArg (fun z : Nat => some ((z : Int), (0 : Int))) ?_
    rw [hw]
    have hy : u64N imm % 4096 < 4096 := Nat.mod_lt _ (by decide)
    rw [Nat.pow_zero, Nat.div_one, show (2 : Nat) ^ 12 = 4096 from rfl, show (2 : Nat) ^ 20 = 1048576 from rfl]
    generalize u64N imm % 4096 = y at *
    omega
  · rw [as_I0 j op _ hop hlt hf hs, hw]
    have hy : u64N imm % 4096 < 4096 := Nat.mod_lt _ (by decide)
    have hsg := sgn12 imm hi
    rw [← sgn_mod (u64N imm) 12, show (2 : Nat) ^ 12 = 4096 from rfl] at hsg
    generalize u64N imm % 4096 = y at *
    have e1 : (lowN op + rd * 128 + kindN op * 4096 + rs1 * 32768 + y * 1048576) / 128 % 32 = rd := by omega
    have e2 : (lowN op + rd * 128 + kindN op * 4096 + rs1 * 32768 + y * 1048576) / 32768 % 32 = rs1 := by omega
    have e3 : (lowN op + rd * 128 + kindN op * 4096 + rs1 * 32768 + y * 1048576) / 1048576 % 4096 = y := by omega
    rw [e1, e2, e3, hsg]
    rfl
theorem both_S (op rs1 rs2 : Nat) (imm : Int) (hop : op < 43) (hf : fm op = .S) (hs : shiftN op = false) (hu : uniqN op = true) (b2 : rs1 < 32) (b3 : rs2 < 32) (hi : -2048 ≤ imm ∧ imm ≤ 2047) : Both op 0 rs1 rs2 imm (wordN op 0 rs1 rs2 (u64N imm) % 4294967296) := by
  obtain ⟨t1, t2, t3⟩ := tab_lt op hop
  have he : ∀ k, caponierref02_Encode.f (k + 100) op (0 : Nat) rs1 rs2 imm = some (((wordN op 0 rs1 rs2 (u64N imm) % 4294967296 : Nat) : Int), 0) := fun k => enc_f k op 0 rs1 rs2 imm hop (by decide) b2 b3 (may_S (k + 97) op rs1 rs2 imm hop hf hs b2 b3 hi)
  have hlt : wordN op 0 rs1 rs2 (u64N imm) % 4294967296 < 4294967296 := Nat.mod_lt _ (by decide)
  have hw : wordN op 0 rs1 rs2 (u64N imm) % 4294967296 = lowN op + kindN op * 4096 + rs1 * 32768 + rs2 * 1048576 + u64N imm % 32 * 128 + u64N imm / 32 % 128 * 33554432 := by
    have hy : u64N imm % 32 < 32 := Nat.mod_lt _ (by decide)
    have hx : u64N imm / 32 % 128 < 128 := Nat.mod_lt _ (by decide)
    unfold wordN
    rw [hf]
    dsimp only
    generalize u64N imm % 32 = y at *
    generalize u64N imm / 32 % 128 = x at *
    omega
  refine ⟨hlt, fun k => ?_, he, fun k => dec_f k op _ 0 rs1 rs2 imm hop hlt (miss_of_uniq op 0 rs1 rs2 _ hop (by decide) (fun _ => rfl) hu) (fun j => ?_) he⟩
  · rw [penc_start (k + 7) op 0 rs1 rs2 imm hop (by decide) b2 b3 (pmay_f (k + 9) op 0 rs1 rs2 imm hop (by decide) b2 b3 (fun _ => rfl) (by rw [hf]; intro h; cases h) (by rw [hf]; intro h; cases h) (imm_S op 0 rs1 rs2 imm hop hf hi)) (ne_fm hf (by decide)) (ne_fm hf (by decide)) hs (lowN op + 0 * 128 + kindN op * 4096 + rs1 * 32768 + rs2 * 1048576) (by rw [if_neg (by rw [hf]; decide)]), hf, parts_S, Option.bind_some]
    have hy : u64N imm % 32 < 32 := Nat.mod_lt _ (by decide)
    have hx : u64N imm / 32 % 128 < 128 := Nat.mod_lt _ (by decide)
    refine (steps_2 (k + 4) (lowN op + 0 * 128 + kindN op * 4096 + rs1 * 32768 + rs2 * 1048576) (u64N imm) 0 5 7 5 7 25 (lowN op + 0 * 128 + kindN op * 4096 + rs1 * 32768 + rs2 * 1048576 + u64N imm % 32 * 128) (by omega) (u64N_lt imm) (by decide) (by decide) (by omega) (by rw [Nat.pow_zero, Nat.div_one]) (by omega) (by decide) (by decide) ?_).trans ?_
    · generalize u64N imm % 32 = y at *
      omega
    · refine congrArg (fun z : Nat => some ((z : Int), (0 : Int))) ?_
      rw [hw, show (2 : Nat) ^ 5 = 32 from rfl, show (2 : Nat) ^ 7 = 128 from rfl, show (2 : Nat) ^ 25 = 33554432 from rfl]
      generalize u64N imm % 32 = y at *
      generalize u64N imm / 32 % 128 = x at *
      omega
  · rw [as_S j op _ hop hlt hf, hw]
    have hy : u64N imm % 32 < 32 := Nat.mod_lt _ (by decide)
    have hx : u64N imm / 32 % 128 < 128 := Nat.mod_lt _ (by decide)
    have hsg := sgn12 imm hi
    have hyx : u64N imm % 32 + u64N imm / 32 % 128 * 32 = u64N imm % 4096 := by omega
    rw [← sgn_mod (u64N imm) 12, show (2 : Nat) ^ 12 = 4096 from rfl, ← hyx] at hsg
    clear hyx he hlt hw
    generalize u64N imm % 32 = y at *
    generalize u64N imm / 32 % 128 = x at *
    generalize lowN op = lo at *
    generalize kindN op = kd at *
    have e1 : (lo + kd * 4096 + rs1 * 32768 + rs2 * 1048576 + y * 128 + x * 33554432) / 128 % 32 = y := by omega
    have e2 : (lo + kd * 4096 + rs1 * 32768 + rs2 * 1048576 + y * 128 + x * 33554432) / 32768 % 32 = rs1 := by omega
    have e3 : (lo + kd * 4096 + rs1 * 32768 + rs2 * 1048576 + y * 128 + x * 33554432) / 1048576 % 32 = rs2 := by omega
    have e4 : (lo + kd * 4096 + rs1 * 32768 + rs2 * 1048576 + y * 128 + x * 33554432) / 33554432 % 128 = x := by omega
    rw [e1, e2, e3, e4, hsg]
    rfl
theorem both_U (op rd : Nat) (imm : Int) (hop : op < 43) (hf : fm op = .U) (hs : shiftN op = false) (hu : uniqN op = true) (b1 : rd < 32) (hi : -2147483648 ≤ imm ∧ imm ≤ 2147483647) (h2 : imm % 4096 = 0) : Both op rd 0 0 imm (wordN op rd 0 0 (u64N imm) % 4294967296) := by
  obtain ⟨t1, t2, t3⟩ := tab_lt op hop
  have he : ∀ k, caponierref02_Encode.f (k + 100) op rd (0 : Nat) (0 : Nat) imm = some (((wordN op rd 0 0 (u64N imm) % 4294967296 : Nat) : Int), 0) := fun k => enc_f k op rd 0 0 imm hop b1 (by decide) (by decide) (may_U (k + 97) op rd imm hop hf b1 hi h2)
  have hlt : wordN op rd 0 0 (u64N imm) % 4294967296 < 4294967296 := Nat.mod_lt _ (by decide)
  have hw : wordN op rd 0 0 (u64N imm) % 4294967296 = lowN op + rd * 128 + u64N imm / 4096 % 1048576 * 4096 := by
    have hy : u64N imm / 4096 % 1048576 < 1048576 := Nat.mod_lt _ (by decide)
    unfold wordN
    rw [hf]
    dsimp only
    generalize u64N imm / 4096 % 1048576 = y at *
    omega
  refine ⟨hlt, fun k => ?_, he, fun k => dec_f k op _ rd 0 0 imm hop hlt (miss_of_uniq op rd 0 0 _ hop b1 (fun h => by rcases h with h | h <;> rw [hf] at h <;> cases h) hu) (fun j => ?_) he⟩
  · rw [penc_start (k + 7) op rd 0 0 imm hop b1 (by decide) (by decide) (pmay_f (k + 9) op rd 0 0 imm hop b1 (by decide) (by decide) (by rw [hf]; intro h; cases h) (fun _ => rfl) (fun _ => rfl) (imm_U op rd 0 0 imm hop hf hi h2)) (ne_fm hf (by decide)) (ne_fm hf (by decide)) hs (lowN op + rd * 128) (by rw [if_pos (Or.inl hf)]), hf, parts_U, Option.bind_some]
    refine (steps_1 (k + 5) (lowN op + rd * 128) (u64N imm) 12 20 12 (by omega) (u64N_lt imm) (by decide) (by decide) (by omega)).trans ?_
    refine congrArg (fun z : Nat => some ((z : Int), (0 : Int))) ?_
    rw [hw]
    have hy : u64N imm / 4096 % 1048576 < 1048576 := Nat.mod_lt _ (by decide)
    rw [show (2 : Nat) ^ 12 = 4096 from rfl, show (2 : Nat) ^ 20 = 1048576 from rfl]
    generalize u64N imm / 4096 % 1048576 = y at *
    omega
  · rw [as_U j op _ hop hlt hf, hw]
    have hy : u64N imm / 4096 % 1048576 < 1048576 := Nat.mod_lt _ (by decide)
    have hsg := sgn32 imm hi
    have hm := u64N_mod imm 4096 (by decide)
    have hyx : u64N imm / 4096 % 1048576 * 4096 = u64N imm % 4294967296 := by omega
    rw [← sgn_mod (u64N imm) 32, show (2 : Nat) ^ 32 = 4294967296 from rfl, ← hyx] at hsg
    clear hyx hm he hlt hw
    generalize u64N imm / 4096 % 1048576 = y at *
    generalize lowN op = lo at *
    have e1 : (lo + rd * 128 + y * 4096) / 128 % 32 = rd := by omega
    have e2 : (lo + rd * 128 + y * 4096) / 4096 % 1048576 = y := by omega
    rw [e1, e2, hsg]
    rfl
theorem both_B (op rs1 rs2 : Nat) (imm : Int) (hop : op < 43) (hf : fm op = .B) (hs : shiftN op = false) (hu : uniqN op = true) (b2 : rs1 < 32) (b3 : rs2 < 32) (hi : -4096 ≤ imm ∧ imm ≤ 4094) (h2 : imm % 2 = 0) : Both op 0 rs1 rs2 imm (wordN op 0 rs1 rs2 (u64N imm) % 4294967296) := by
  obtain ⟨t1, t2, t3⟩ := tab_lt op hop
  have he : ∀ k, caponierref02_Encode.f (k + 100) op (0 : Nat) rs1 rs2 imm = some (((wordN op 0 rs1 rs2 (u64N imm) % 4294967296 : Nat) : Int), 0) := fun k => enc_f k op 0 rs1 rs2 imm hop (by decide) b2 b3 (may_B (k + 97) op rs1 rs2 imm hop hf b2 b3 hi h2)
  have hlt : wordN op 0 rs1 rs2 (u64N imm) % 4294967296 < 4294967296 := Nat.mod_lt _ (by decide)
  have hw : wordN op 0 rs1 rs2 (u64N imm) % 4294967296 = lowN op + kindN op * 4096 + rs1 * 32768 + rs2 * 1048576 + u64N imm / 2 % 16 * 256 + u64N imm / 32 % 64 * 33554432 + u64N imm / 2048 % 2 * 128 + u64N imm / 4096 % 2 * 2147483648 := by
    have hx0 : u64N imm / 2 % 16 < 16 := Nat.mod_lt _ (by decide)
    have hx1 : u64N imm / 32 % 64 < 64 := Nat.mod_lt _ (by decide)
    have hx2 : u64N imm / 2048 % 2 < 2 := Nat.mod_lt _ (by decide)
    have hx3 : u64N imm / 4096 % 2 < 2 := Nat.mod_lt _ (by decide)
    unfold wordN
    rw [hf]
    dsimp only
    generalize u64N imm / 2 % 16 = y0 at *
    generalize u64N imm / 32 % 64 = y1 at *
    generalize u64N imm / 2048 % 2 = y2 at *
    generalize u64N imm / 4096 % 2 = y3 at *
    generalize lowN op = lo at *
    generalize kindN op = kd at *
    clear he hlt
    omega
  refine ⟨hlt, fun k => ?_, he, fun k => dec_f k op _ 0 rs1 rs2 imm hop hlt (miss_of_uniq op 0 rs1 rs2 _ hop (by decide) (fun _ => rfl) hu) (fun j => ?_) he⟩
  · rw [penc_start (k + 7) op 0 rs1 rs2 imm hop (by decide) b2 b3 (pmay_f (k + 9) op 0 rs1 rs2 imm hop (by decide) b2 b3 (fun _ => rfl) (by rw [hf]; intro h; cases h) (by rw [hf]; intro h; cases h) (imm_B op 0 rs1 rs2 imm hop hf hi h2)) (ne_fm hf (by decide)) (ne_fm hf (by decide)) hs (lowN op + 0 * 128 + kindN op * 4096 + rs1 * 32768 + rs2 * 1048576) (by rw [if_neg (by rw [hf]; decide)]), hf, parts_B, Option.bind_some]
    have hx0 : u64N imm / 2 % 16 < 16 := Nat.mod_lt _ (by decide)
    have hx1 : u64N imm / 32 % 64 < 64 := Nat.mod_lt _ (by decide)
    have hx2 : u64N imm / 2048 % 2 < 2 := Nat.mod_lt _ (by decide)
    have hx3 : u64N imm / 4096 % 2 < 2 := Nat.mod_lt _ (by decide)
    clear he hlt
    refine (steps_4 (k + 2) (lowN op + 0 * 128 + kindN op * 4096 + rs1 * 32768 + rs2 * 1048576) (u64N imm) 1 4 8 5 6 25 11 1 7 12 1 31 (lowN op + 0 * 128 + kindN op * 4096 + rs1 * 32768 + rs2 * 1048576 + u64N imm / 2 % 16 * 256) (lowN op + 0 * 128 + kindN op * 4096 + rs1 * 32768 + rs2 * 1048576 + u64N imm / 2 % 16 * 256 + u64N imm / 32 % 64 * 33554432) (lowN op + 0 * 128 + kindN op * 4096 + rs1 * 32768 + rs2 * 1048576 + u64N imm / 2 % 16 * 256 + u64N imm / 32 % 64 * 33554432 + u64N imm / 2048 % 2 * 128) ?_ (u64N_lt imm) (by decide) (by decide) ?_ rfl ?_ (by decide) (by decide) ?_ rfl ?_ (by decide) (by decide) ?_ rfl ?_ (by decide) (by decide) ?_).trans ?_
    · generalize u64N imm / 2 % 16 = y0 at *
      generalize u64N imm / 32 % 64 = y1 at *
      generalize u64N imm / 2048 % 2 = y2 at *
      generalize u64N imm / 4096 % 2 = y3 at *
      generalize lowN op = lo at *
      generalize kindN op = kd at *
      clear hw
      omega
    · generalize u64N imm / 2 % 16 = y0 at *
      generalize u64N imm / 32 % 64 = y1 at *
      generalize u64N imm / 2048 % 2 = y2 at *
      generalize u64N imm / 4096 % 2 = y3 at *
      generalize lowN op = lo at *
      generalize kindN op = kd at *
      clear hw
      omega
    · generalize u64N imm / 2 % 16 = y0 at *
      generalize u64N imm / 32 % 64 = y1 at *
      generalize u64N imm / 2048 % 2 = y2 at *
      generalize u64N imm / 4096 % 2 = y3 at *
      generalize lowN op = lo at *
      generalize kindN op = kd at *
      clear hw
      omega
    · generalize u64N imm / 2 % 16 = y0 at *
      generalize u64N imm / 32 % 64 = y1 at *
      generalize u64N imm / 2048 % 2 = y2 at *
      generalize u64N imm / 4096 % 2 = y3 at *
      generalize lowN op = lo at *
      generalize kindN op = kd at *
      clear hw
      omega
    · generalize u64N imm / 2 % 16 = y0 at *
      generalize u64N imm / 32 % 64 = y1 at *
      generalize u64N imm / 2048 % 2 = y2 at *
      generalize u64N imm / 4096 % 2 = y3 at *
      generalize lowN op = lo at *
      generalize kindN op = kd at *
      clear hw
      omega
    · generalize u64N imm / 2 % 16 = y0 at *
      generalize u64N imm / 32 % 64 = y1 at *
      generalize u64N imm / 2048 % 2 = y2 at *
      generalize u64N imm / 4096 % 2 = y3 at *
      generalize lowN op = lo at *
      generalize kindN op = kd at *
      clear hw
      omega
    · generalize u64N imm / 2 % 16 = y0 at *
      generalize u64N imm / 32 % 64 = y1 at *
      generalize u64N imm / 2048 % 2 = y2 at *
      generalize u64N imm / 4096 % 2 = y3 at *
      generalize lowN op = lo at *
      generalize kindN op = kd at *
      clear hw
      omega
    · generalize u64N imm / 2 % 16 = y0 at *
      generalize u64N imm / 32 % 64 = y1 at *
      generalize u64N imm / 2048 % 2 = y2 at *
      generalize u64N imm / 4096 % 2 = y3 at *
      generalize lowN op = lo at *
      generalize kindN op = kd at *
      clear hw
      omega
    · refine congrArg (fun z : Nat => some ((z : Int), (0 : Int))) ?_
      rw [hw]
      show (lowN op + 0 * 128 + kindN op * 4096 + rs1 * 32768 + rs2 * 1048576 + u64N imm / 2 % 16 * 256 + u64N imm / 32 % 64 * 33554432 + u64N imm / 2048 % 2 * 128 + u64N imm / 4096 % 2 * 2147483648) % 4294967296 = _
      generalize u64N imm / 2 % 16 = y0 at *
      generalize u64N imm / 32 % 64 = y1 at *
      generalize u64N imm / 2048 % 2 = y2 at *
      generalize u64N imm / 4096 % 2 = y3 at *
      generalize lowN op = lo at *
      generalize kindN op = kd at *
      clear hw
      omega
  · rw [as_B j op _ hop hlt hf, hw]
    have hx0 : u64N imm / 2 % 16 < 16 := Nat.mod_lt _ (by decide)
    have hx1 : u64N imm / 32 % 64 < 64 := Nat.mod_lt _ (by decide)
    have hx2 : u64N imm / 2048 % 2 < 2 := Nat.mod_lt _ (by decide)
    have hx3 : u64N imm / 4096 % 2 < 2 := Nat.mod_lt _ (by decide)
    have hsg := sgn13 imm (by omega)
    have hm := u64N_mod imm 2 (by decide)
    have hyx : u64N imm / 2 % 16 * 2 + u64N imm / 32 % 64 * 32 + u64N imm / 2048 % 2 * 2048 + u64N imm / 4096 % 2 * 4096 = u64N imm % 8192 := cut_B _ (by omega)
    rw [← sgn_mod (u64N imm) 13, show (2 : Nat) ^ 13 = 8192 from rfl, ← hyx] at hsg
    clear hyx hm he hlt hw
    generalize u64N imm / 2 % 16 = y0 at *
    generalize u64N imm / 32 % 64 = y1 at *
    generalize u64N imm / 2048 % 2 = y2 at *
    generalize u64N imm / 4096 % 2 = y3 at *
    generalize lowN op = lo at *
    generalize kindN op = kd at *
    have e0 : (lo + kd * 4096 + rs1 * 32768 + rs2 * 1048576 + y0 * 256 + y1 * 33554432 + y2 * 128 + y3 * 2147483648) / 32768 % 32 = rs1 := by omega
    have e1 : (lo + kd * 4096 + rs1 * 32768 + rs2 * 1048576 + y0 * 256 + y1 * 33554432 + y2 * 128 + y3 * 2147483648) / 1048576 % 32 = rs2 := by omega
    have f0 : (lo + kd * 4096 + rs1 * 32768 + rs2 * 1048576 + y0 * 256 + y1 * 33554432 + y2 * 128 + y3 * 2147483648) / 256 % 16 = y0 := by omega
    have f1 : (lo + kd * 4096 + rs1 * 32768 + rs2 * 1048576 + y0 * 256 + y1 * 33554432 + y2 * 128 + y3 * 2147483648) / 33554432 % 64 = y1 := by omega
    have f2 : (lo + kd * 4096 + rs1 * 32768 + rs2 * 1048576 + y0 * 256 + y1 * 33554432 + y2 * 128 + y3 * 2147483648) / 128 % 2 = y2 := by omega
    have f3 : (lo + kd * 4096 + rs1 * 32768 + rs2 * 1048576 + y0 * 256 + y1 * 33554432 + y2 * 128 + y3 * 2147483648) / 2147483648 % 2 = y3 := by omega
    rw [e0, e1, f0, f1, f2, f3, hsg]
    rfl
theorem both_J (op rd : Nat) (imm : Int) (hop : op < 43) (hf : fm op = .J) (hs : shiftN op = false) (hu : uniqN op = true) (b1 : rd < 32) (hi : -1048576 ≤ imm ∧ imm ≤ 1048574) (h2 : imm % 2 = 0) : Both op rd 0 0 imm (wordN op rd 0 0 (u64N imm) % 4294967296) := by
  obtain ⟨t1, t2, t3⟩ := tab_lt op hop
  have he : ∀ k, caponierref02_Encode.f (k + 100) op rd (0 : Nat) (0 : Nat) imm = some (((wordN op rd 0 0 (u64N imm) % 4294967296 : Nat) : Int), 0) := fun k => enc_f k op rd 0 0 imm hop b1 (by decide) (by decide) (may_J (k + 97) op rd imm hop hf b1 hi h2)
  have hlt : wordN op rd 0 0 (u64N imm) % 4294967296 < 4294967296 := Nat.mod_lt _ (by decide)
  have hw : wordN op rd 0 0 (u64N imm) % 4294967296 = lowN op + rd * 128 + u64N imm / 2 % 1024 * 2097152 + u64N imm / 2048 % 2 * 1048576 + u64N imm / 4096 % 256 * 4096 + u64N imm / 1048576 % 2 * 2147483648 := by
    have hx0 : u64N imm / 2 % 1024 < 1024 := Nat.mod_lt _ (by decide)
    have hx1 : u64N imm / 2048 % 2 < 2 := Nat.mod_lt _ (by decide)
    have hx2 : u64N imm / 4096 % 256 < 256 := Nat.mod_lt _ (by decide)
    have hx3 : u64N imm / 1048576 % 2 < 2 := Nat.mod_lt _ (by decide)
    unfold wordN
    rw [hf]
    dsimp only
    generalize u64N imm / 2 % 1024 = y0 at *
    generalize u64N imm / 2048 % 2 = y1 at *
    generalize u64N imm / 4096 % 256 = y2 at *
    generalize u64N imm / 1048576 % 2 = y3 at *
    generalize lowN op = lo at *
    generalize kindN op = kd at *
    clear he hlt
    omega
  refine ⟨hlt, fun k => ?_, he, fun k => dec_f k op _ rd 0 0 imm hop hlt (miss_of_uniq op rd 0 0 _ hop b1 (fun h => by rcases h with h | h <;> rw [hf] at h <;> cases h) hu) (fun j => ?_) he⟩
  · rw [penc_start (k + 7) op rd 0 0 imm hop b1 (by decide) (by decide) (pmay_f (k + 9) op rd 0 0 imm hop b1 (by decide) (by decide) (by rw [hf]; intro h; cases h) (fun _ => rfl) (fun _ => rfl) (imm_J op rd 0 0 imm hop hf hi h2)) (ne_fm hf (by decide)) (ne_fm hf (by decide)) hs (lowN op + rd * 128) (by rw [if_pos (Or.inr hf)]), hf, parts_J, Option.bind_some]
    have hx0 : u64N imm / 2 % 1024 < 1024 := Nat.mod_lt _ (by decide)
    have hx1 : u64N imm / 2048 % 2 < 2 := Nat.mod_lt _ (by decide)
    have hx2 : u64N imm / 4096 % 256 < 256 := Nat.mod_lt _ (by decide)
    have hx3 : u64N imm / 1048576 % 2 < 2 := Nat.mod_lt _ (by decide)
    clear he hlt
    refine (steps_4 (k + 2) (lowN op + rd * 128) (u64N imm) 1 10 21 11 1 20 12 8 12 20 1 31 (lowN op + rd * 128 + u64N imm / 2 % 1024 * 2097152) (lowN op + rd * 128 + u64N imm / 2 % 1024 * 2097152 + u64N imm / 2048 % 2 * 1048576) (lowN op + rd * 128 + u64N imm / 2 % 1024 * 2097152 + u64N imm / 2048 % 2 * 1048576 + u64N imm / 4096 % 256 * 4096) ?_ (u64N_lt imm) (by decide) (by decide) ?_ rfl ?_ (by decide) (by decide) ?_ rfl ?_ (by decide) (by decide) ?_ rfl ?_ (by decide) (by decide) ?_).trans ?_
    · generalize u64N imm / 2 % 1024 = y0 at *
      generalize u64N imm / 2048 % 2 = y1 at *
      generalize u64N imm / 4096 % 256 = y2 at *
      generalize u64N imm / 1048576 % 2 = y3 at *
      generalize lowN op = lo at *
      generalize kindN op = kd at *
      clear hw
      omega
    · generalize u64N imm / 2 % 1024 = y0 at *
      generalize u64N imm / 2048 % 2 = y1 at *
      generalize u64N imm / 4096 % 256 = y2 at *
      generalize u64N imm / 1048576 % 2 = y3 at *
      generalize lowN op = lo at *
      generalize kindN op = kd at *
      clear hw
      omega
    · generalize u64N imm / 2 % 1024 = y0 at *
      generalize u64N imm / 2048 % 2 = y1 at *
      generalize u64N imm / 4096 % 256 = y2 at *
      generalize u64N imm / 1048576 % 2 = y3 at *
      generalize lowN op = lo at *
      generalize kindN op = kd at *
      clear hw
      omega
    · generalize u64N imm / 2 % 1024 = y0 at *
      generalize u64N imm / 2048 % 2 = y1 at *
      generalize u64N imm / 4096 % 256 = y2 at *
      generalize u64N imm / 1048576 % 2 = y3 at *
      generalize lowN op = lo at *
      generalize kindN op = kd at *
      clear hw
      omega
    · generalize u64N imm / 2 % 1024 = y0 at *
      generalize u64N imm / 2048 % 2 = y1 at *
      generalize u64N imm / 4096 % 256 = y2 at *
      generalize u64N imm / 1048576 % 2 = y3 at *
      generalize lowN op = lo at *
      generalize kindN op = kd at *
      clear hw
      omega
    · generalize u64N imm / 2 % 1024 = y0 at *
      generalize u64N imm / 2048 % 2 = y1 at *
      generalize u64N imm / 4096 % 256 = y2 at *
      generalize u64N imm / 1048576 % 2 = y3 at *
      generalize lowN op = lo at *
      generalize kindN op = kd at *
      clear hw
      omega
    · generalize u64N imm / 2 % 1024 = y0 at *
      generalize u64N imm / 2048 % 2 = y1 at *
      generalize u64N imm / 4096 % 256 = y2 at *
      generalize u64N imm / 1048576 % 2 = y3 at *
      generalize lowN op = lo at *
      generalize kindN op = kd at *
      clear hw
      omega
    · generalize u64N imm / 2 % 1024 = y0 at *
      generalize u64N imm / 2048 % 2 = y1 at *
      generalize u64N imm / 4096 % 256 = y2 at *
      generalize u64N imm / 1048576 % 2 = y3 at *
      generalize lowN op = lo at *
      generalize kindN op = kd at *
      clear hw
      omega
    · refine congrArg (fun z : Nat => some ((z : Int), (0 : Int))) ?_
      rw [hw]
      show (lowN op + rd * 128 + u64N imm / 2 % 1024 * 2097152 + u64N imm / 2048 % 2 * 1048576 + u64N imm / 4096 % 256 * 4096 + u64N imm / 1048576 % 2 * 2147483648) % 4294967296 = _
      generalize u64N imm / 2 % 1024 = y0 at *
      generalize u64N imm / 2048 % 2 = y1 at *
      generalize u64N imm / 4096 % 256 = y2 at *
      generalize u64N imm / 1048576 % 2 = y3 at *
      generalize lowN op = lo at *
      generalize kindN op = kd at *
      clear hw
      omega
  · rw [as_J j op _ hop hlt hf, hw]
    have hx0 : u64N imm / 2 % 1024 < 1024 := Nat.mod_lt _ (by decide)
    have hx1 : u64N imm / 2048 % 2 < 2 := Nat.mod_lt _ (by decide)
    have hx2 : u64N imm / 4096 % 256 < 256 := Nat.mod_lt _ (by decide)
    have hx3 : u64N imm / 1048576 % 2 < 2 := Nat.mod_lt _ (by decide)
    have hsg := sgn21 imm (by omega)
    have hm := u64N_mod imm 2 (by decide)
    have hyx : u64N imm / 2 % 1024 * 2 + u64N imm / 2048 % 2 * 2048 + u64N imm / 4096 % 256 * 4096 + u64N imm / 1048576 % 2 * 1048576 = u64N imm % 2097152 := cut_J _ (by omega)
    rw [← sgn_mod (u64N imm) 21, show (2 : Nat) ^ 21 = 2097152 from rfl, ← hyx] at hsg
    clear hyx hm he hlt hw
    generalize u64N imm / 2 % 1024 = y0 at *
    generalize u64N imm / 2048 % 2 = y1 at *
    generalize u64N imm / 4096 % 256 = y2 at *
    generalize u64N imm / 1048576 % 2 = y3 at *
    generalize lowN op = lo at *
    generalize kindN op = kd at *
    have e0 : (lo + rd * 128 + y0 * 2097152 + y1 * 1048576 + y2 * 4096 + y3 * 2147483648) / 128 % 32 = rd := by omega
    have f0 : (lo + rd * 128 + y0 * 2097152 + y1 * 1048576 + y2 * 4096 + y3 * 2147483648) / 2097152 % 1024 = y0 := by omega
    have f1 : (lo + rd * 128 + y0 * 2097152 + y1 * 1048576 + y2 * 4096 + y3 * 2147483648) / 1048576 % 2 = y1 := by omega
    have f2 : (lo + rd * 128 + y0 * 2097152 + y1 * 1048576 + y2 * 4096 + y3 * 2147483648) / 4096 % 256 = y2 := by omega
    have f3 : (lo + rd * 128 + y0 * 2097152 + y1 * 1048576 + y2 * 4096 + y3 * 2147483648) / 2147483648 % 2 = y3 := by omega
    rw [e0, f0, f1, f2, f3, hsg]
    rfl
theorem both_E : Both 42 0 0 0 0 1048691 :=
  ⟨by decide, fun k => by
    unfold ins_Encode.f
    rw [pmay_f (k + 9) 42 0 0 0 0 (by decide) (by decide) (by decide) (by decide) (fun _ => rfl) (fun _ => rfl) (fun _ => rfl) (by
      unfold ins_imm.f
      rw [if_pos (by decide), if_pos (by decide), row_form 42 (by decide), show fm 42 = .E from rfl, show Fm.E.bytes.toList = [69] from l69, if_neg (by decide), if_neg (by decide), if_neg (by decide), if_neg (by decide), if_neg (by decide)]
      rfl), Option.bind_some, if_pos rfl, if_pos (by decide), if_pos (by decide), row_form 42 (by decide), show fm 42 = .E from rfl, show Fm.E.bytes.toList = [69] from l69, if_pos rfl]
    rfl,
   fun k => enc_f k 42 0 0 0 0 (by decide) (by decide) (by decide) (by decide) (may_E (k + 97)),
   fun k => dec_f k 42 1048691 0 0 0 0 (by decide) (by decide) (miss_of_uniq 42 0 0 0 0 (by decide) (by decide) (fun _ => rfl) (by decide +kernel)) (fun j => as_E j 42 1048691 (by decide) (by decide) rfl) (fun j => enc_f j 42 0 0 0 0 (by decide) (by decide) (by decide) (by decide) (may_E (j + 97)))⟩
end Go.Proofs.YtaoajlaocphgdaaDoor.PA
end
section
namespace Go.Proofs.YtaoajlaocphgdaaDoor.PA
open Go.RowKit Go.Proofs.YtaoajlaocphgdaaDoorW.PrintWords Go.Proofs.YtaoajlaocphgdaaDoorW.PrintLast Go.Proofs.YtaoajlaocphgdaaDoorW.PrintMore
set_option linter.unusedVariables false
def badN (n : Int) : Bool := decide (n < 0) || decide (n > 64)
theorem badN_lt {n : Int} (h : n < 0) : badN n = true := by simp [badN, h]
theorem badN_gt {n : Int} (h : n > 64) : badN n = true := by simp [badN, h]
theorem badN_no {n : Int} (h : ¬ n < 0) (h2 : ¬ n > 64) : badN n = false := by simp [badN, h, h2]
theorem bad_calls (n : Int) (w : World) : Calls Tryd.prog 22 #[.int .i64 n] w fun e w' => e = .returned (.bool (badN n)) ∧ w = w' := by
  by_cases h : n < 0
  · rw [badN_lt h]
    go_enter Tryd.func22, Tryd.ntmps22
    go_wp2
    go_ret
    exact ⟨rfl, rfl⟩
  · by_cases h2 : n > 64
    · rw [badN_gt h2]
      go_enter Tryd.func22, Tryd.ntmps22
      go_wp2
      go_ret
      exact ⟨rfl, rfl⟩
    · rw [badN_no h h2]
      go_enter Tryd.func22, Tryd.ntmps22
      go_wp2
      go_ret
      exact ⟨rfl, rfl⟩
def badAt (l : List Int) : Int := match l.findIdx? badN with | some i => (i : Int) | none => -1
theorem rd_get (l : List Int) (j : Nat) (h : j < l.length) : rd l (j : Int) = l[j] := by
  simp [rd, List.getD_eq_getElem?_getD, List.getElem?_eq_getElem h]
theorem badAt_yes {l : List Int} {k : Nat} (hk : k < l.length) (h : ∀ j, j < k → badN (rd l (j : Int)) = false) (hb : badN (rd l (k : Int)) = true) : badAt l = k := by
  have : l.findIdx? badN = some k := by
    rw [List.findIdx?_eq_some_iff_getElem]
    refine ⟨hk, by rw [← rd_get l k hk]; exact hb, fun j hj => ?_⟩
    rw [← rd_get l j (by omega), h j hj]
    simp
  simp [badAt, this]
theorem badAt_no {l : List Int} (h : ∀ j, j < l.length → badN (rd l (j : Int)) = false) : badAt l = -1 := by
  have : l.findIdx? badN = none := by
    rw [List.findIdx?_eq_none_iff]
    intro x hx
    obtain ⟨j, hj, rfl⟩ := List.getElem_of_mem hx
    rw [← rd_get l j hj]
    exact h j hj
  simp [badAt, this]
theorem any_bad (l : List Int) : decide (0 ≤ badAt l) = l.any badN := by
  unfold badAt
  cases h : l.findIdx? badN with
  | none =>
    rw [List.findIdx?_eq_none_iff] at h
    have : l.any badN = false := by
      rw [List.any_eq_false]
      intro x hx
      simp [h x hx]
    simp [this]
  | some i =>
    obtain ⟨hi, hb, _⟩ := List.findIdx?_eq_some_iff_getElem.1 h
    have : l.any badN = true := List.any_eq_true.2 ⟨_, List.getElem_mem hi, hb⟩
    simp only [this, decide_eq_true_eq]
    omega
theorem index_calls (A0 : Option Addr) (c0 : Nat) (l0 : List Int) (w : World) (hr0 : Kd.C (Kd.int .i64) w A0 l0.length l0) :
    Calls Tryd.prog 41 #[.slice A0 l0.length c0, .func (.func 22) #[] #[]] w fun e w' => e = .returned (.int .i64 (badAt l0)) ∧ w = w' := by
  have hm : l0.length ≤ 9223372036854775807 := hr0.2.1
  have HR := Aside0.mk hr0
  clear hr0
  go_enter Tryd.func41, Tryd.ntmps41
  go_wp2
  go_loop [5, 8] (fun _ i => ∃ k : Nat, k ≤ l0.length ∧ i = .int .i64 k ∧ Aside0 (∀ j, j < k → badN (rd l0 (j : Int)) = false)) (fun _ i => l0.length - (intOf i).toNat)
  case atStart => exact ⟨0, Nat.zero_le _, rfl, ⟨fun j hj => absurd hj (Nat.not_lt_zero j)⟩⟩
  case round =>
    obtain ⟨k, hk, rfl, HJ⟩ := hrel
    by_cases hlt : k < l0.length
    · obtain ⟨ad, rfl, hc⟩ := Kd.at_int HR.out (k : Int) (by omega) (by omega)
      rw [Int.toNat_natCast] at hc
      cases hb : badN (rd l0 (k : Int)) with
      | true =>
        have HY := Aside0.mk (badAt_yes hlt HJ.out hb)
        have HC := Aside0.mk (bad_calls (rd l0 (k : Int)))
        rw [hb] at HC
        clear hb
        go_wp2_with (go_at_call 22; refine (HC.out _).mono ?_; rintro e w' ⟨rfl, rfl⟩)
        go_ret
        exact ⟨by rw [HY.out]; rfl, rfl⟩
      | false =>
        have HN : Aside0 (∀ j, j < k + 1 → badN (rd l0 (j : Int)) = false) := ⟨fun j hj => by
          rcases Nat.lt_succ_iff_lt_or_eq.1 hj with h | h
          · exact HJ.out j h
          · rw [h]; exact hb⟩
        have HC := Aside0.mk (bad_calls (rd l0 (k : Int)))
        rw [hb] at HC
        clear hb
        go_wp2_with (go_at_call 22; refine (HC.out _).mono ?_; rintro e w' ⟨rfl, rfl⟩)
        go_round
        case rel => exact ⟨k + 1, by omega, by go_num, HN⟩
        case measure => simp [intOf]; omega
    · have HY := Aside0.mk (badAt_no (l := l0) fun j hj => HJ.out j (by omega))
      go_wp2
      go_ret
      exact ⟨by rw [HY.out]; rfl, rfl⟩
def slices_ContainsFunc_int_int__22.f (l0 : List Int) : Option Bool := some (l0.any badN)
theorem slices_ContainsFunc_int_int__22.calls (A0 : Option Addr) (c0 : Nat) (l0 : List Int) (r : Bool) (w : World) (hr0 : Kd.C (Kd.int .i64) w A0 l0.length l0) (hc0 : l0.length ≤ c0) (h : slices_ContainsFunc_int_int__22.f l0 = some r) :
    Calls Tryd.prog 21 #[.slice A0 l0.length c0, .func (.func 22) #[] #[]] w fun e w' => e = .returned (.bool r) ∧ Below w.heap.size w w' := by
  have HX := Aside0.mk (index_calls A0 c0 l0 w hr0)
  clear hr0
  obtain rfl := Option.some.inj h
  clear h
  rw [← any_bad]
  go_enter Tryd.func21, Tryd.ntmps21
  go_wp2_with (go_at_call 41; refine HX.out.mono ?_; rintro e w' ⟨rfl, rfl⟩)
  go_ret
  exact ⟨rfl, Below.refl _ _⟩
end Go.Proofs.YtaoajlaocphgdaaDoor.PA
end
section
namespace Go.Proofs
open Go.Shelf
def Tryd.lays144_ren : Go.Shelf.Ren := ⟨fun | 144 => 42 | 143 => 74 | 219 => 94 | 217 => 104 | 225 => 105 | 224 => 106 | 267 => 107 | 266 => 110 | 314 => 111 | n => n, fun | 9 => 9 | 4 => 4 | 3 => 3 | 5 => 5 | 46 => 99 | 146 => 164 | 51 => 46 | n => n, fun | 1 => 1 | n => n⟩
theorem Tryd.lays144 : Go.Proofs.Lays.n144 Tryd.prog Tryd.lays144_ren := {
  mixed := by kernel_rfl
  f143 := Tryd.func74.trans (congrArg some (by kernel_rfl))
  f144 := Tryd.func42.trans (congrArg some (by kernel_rfl))
  f217 := Tryd.func104.trans (congrArg some (by kernel_rfl))
  f219 := Tryd.func94.trans (congrArg some (by kernel_rfl))
  f224 := Tryd.func106.trans (congrArg some (by kernel_rfl))
  f225 := Tryd.func105.trans (congrArg some (by kernel_rfl))
  f266 := Tryd.func110.trans (congrArg some (by kernel_rfl))
  f267 := Tryd.func107.trans (congrArg some (by kernel_rfl))
  f314 := Tryd.func111.trans (congrArg some (by kernel_rfl))
  t3 := Tryd.underlying3
  a3 := Tryd.isAgg3
  z3 := Tryd.sizeOf3
  v3 := Tryd.zeroValue3
  t4 := Tryd.underlying4
  a4 := Tryd.isAgg4
  z4 := Tryd.sizeOf4
  v4 := Tryd.zeroValue4
  t5 := Tryd.underlying5
  a5 := Tryd.isAgg5
  z5 := Tryd.sizeOf5
  v5 := Tryd.zeroValue5
  t9 := Tryd.underlying9
  a9 := Tryd.isAgg9
  z9 := Tryd.sizeOf9
  v9 := Tryd.zeroValue9
  t46 := Tryd.underlying99
  a46 := Tryd.isAgg99
  z46 := Tryd.sizeOf99
  v46 := Tryd.zeroValue99
  t51 := Tryd.underlying46
  a51 := Tryd.isAgg46
  z51 := Tryd.sizeOf46
  v51 := Tryd.zeroValue46
  t146 := Tryd.underlying164
  a146 := Tryd.isAgg164
  z146 := Tryd.sizeOf164
  v146 := Tryd.zeroValue164
  g1 := by kernel_rfl }
open Go.RowKit Go.Lib in
theorem Tryd.strings_Contains_one (s : ByteArray) (c : UInt8) (w : World) :
    Calls Tryd.prog 42 #[.string s, .string ⟨#[c]⟩] w fun e w' => e = .returned (.bool (decide (0 ≤ Lib.indexByte s.data.toList c))) ∧ w' = w := Any.strings_Contains_one Tryd.lays144 s c w
def Tryd.lays271_ren : Go.Shelf.Ren := ⟨fun | 271 => 75 | 120 => 95 | 197 => 96 | 260 => 108 | n => n, fun | 9 => 9 | 21 => 21 | 3 => 3 | 4 => 4 | 5 => 5 | 105 => 132 | 119 => 166 | 0 => 0 | 46 => 99 | 139 => 169 | 138 => 168 | n => n, fun | 3 => 2 | 4 => 3 | n => n⟩
theorem Tryd.lays271 : Go.Proofs.Lays.n271 Tryd.prog Tryd.lays271_ren := {
  mixed := by kernel_rfl
  f120 := Tryd.func95.trans (congrArg some (by kernel_rfl))
  f197 := Tryd.func96.trans (congrArg some (by kernel_rfl))
  f260 := Tryd.func108.trans (congrArg some (by kernel_rfl))
  f271 := Tryd.func75.trans (congrArg some (by kernel_rfl))
  t0 := Tryd.underlying0
  a0 := Tryd.isAgg0
  z0 := Tryd.sizeOf0
  v0 := Tryd.zeroValue0
  t3 := Tryd.underlying3
  a3 := Tryd.isAgg3
  z3 := Tryd.sizeOf3
  v3 := Tryd.zeroValue3
  t4 := Tryd.underlying4
  a4 := Tryd.isAgg4
  z4 := Tryd.sizeOf4
  v4 := Tryd.zeroValue4
  t5 := Tryd.underlying5
  a5 := Tryd.isAgg5
  z5 := Tryd.sizeOf5
  v5 := Tryd.zeroValue5
  t9 := Tryd.underlying9
  a9 := Tryd.isAgg9
  z9 := Tryd.sizeOf9
  v9 := Tryd.zeroValue9
  t21 := Tryd.underlying21
  a21 := Tryd.isAgg21
  z21 := Tryd.sizeOf21
  v21 := Tryd.zeroValue21
  t46 := Tryd.underlying99
  a46 := Tryd.isAgg99
  z46 := Tryd.sizeOf99
  v46 := Tryd.zeroValue99
  t105 := Tryd.underlying132
  a105 := Tryd.isAgg132
  z105 := Tryd.sizeOf132
  v105 := Tryd.zeroValue132
  t119 := Tryd.underlying166
  a119 := Tryd.isAgg166
  z119 := Tryd.sizeOf166
  t138 := Tryd.underlying168
  a138 := Tryd.isAgg168
  z138 := Tryd.sizeOf168
  v138 := Tryd.zeroValue168
  t139 := Tryd.underlying169
  a139 := Tryd.isAgg169
  z139 := Tryd.sizeOf169
  v139 := Tryd.zeroValue169
  g3 := by kernel_rfl
  g4 := by kernel_rfl }
open Go.RowKit Go.Lib in
theorem Tryd.utf8_DecodeLastRuneInString (s : ByteArray) (w : World) (hs : s.size ≤ 9223372036854775807) (hT : Lib.Utf8Tabs 2 3 w) :
    Calls Tryd.prog 75 #[.string s] w fun e w' => e = .returned (.tuple #[.int .i32 (Lib.decodeLastL s.data.toList).1, .int .i64 (Lib.decodeLastL s.data.toList).2]) ∧ Below w.heap.size w w' := Any.utf8_DecodeLastRuneInString Tryd.lays271 s w hs hT
end Go.Proofs
end
section
namespace Go.Proofs.YtaoajlaocphgdaaDoor.PA
open Go.RowKit Go.Lib Go.Proofs.YtaoajlaocphgdaaDoorW.PrintWords Go.Proofs.YtaoajlaocphgdaaDoorW.PrintLast Go.Proofs.YtaoajlaocphgdaaDoorW.PrintMore
set_option linter.unusedVariables false
def inUpto (c : Int) (set : ByteArray) (k : Nat) : Bool := (set.data.toList.take k).any fun b => (b.toNat : Int) == c
def inSet (c : Int) (set : ByteArray) : Bool := inUpto c set set.size
theorem inUpto_succ (c : Int) (set : ByteArray) (k : Nat) (h : k < set.size) : inUpto c set (k + 1) = (inUpto c set k || ((set[k].toNat : Int) == c)) := by
  unfold inUpto
  have h' : k < set.data.toList.length := by rw [data_length]; exact h
  rw [List.take_succ_eq_append_getElem h', List.any_append]
  simp
  rfl
theorem inUpto_yes (c : Int) (set : ByteArray) (k : Nat) (h : k < set.size) (hi : inUpto c set k = true) : inUpto c set (k + 1) = true := by rw [inUpto_succ c set k h, hi]; rfl
theorem inUpto_eq (c : Int) (set : ByteArray) (k : Nat) (h : k < set.size) (hc : c = (set[k].toNat : Int)) : inUpto c set (k + 1) = true := by
  rw [inUpto_succ c set k h, hc]; simp
theorem inUpto_no (c : Int) (set : ByteArray) (k : Nat) (h : k < set.size) (hi : inUpto c set k = false) (hc : ¬ c = (set[k].toNat : Int)) : inUpto c set (k + 1) = false := by
  rw [inUpto_succ c set k h, hi]; simp; exact fun e => hc e.symm
def Asc (set : ByteArray) : Prop := ∀ i (h : i < set.size), (set[i]'h).toNat < 128
theorem inSet_high {c : Int} {set : ByteArray} (ha : Asc set) (h : 128 ≤ c) : inSet c set = false := by
  unfold inSet inUpto
  rw [List.any_eq_false]
  intro b hb
  have hb := List.mem_of_mem_take hb
  obtain ⟨i, hi, rfl⟩ := List.getElem_of_mem hb
  have hi' : i < set.size := by rw [← data_length]; exact hi
  have h1 := ha i hi'
  have h2 : set.data.toList[i] = set[i]'hi' := by rw [Array.getElem_toList]; rfl
  rw [h2]
  simp only [beq_iff_eq]
  omega
def AllIn (s set : ByteArray) (k : Nat) : Prop := ∀ j (h : j < s.size), j < k → inSet ((s[j]'h).toNat : Int) set = true
def LeftOf (s set r : ByteArray) : Prop := (AllIn s set s.size ∧ r = ⟨#[]⟩) ∨ ∃ p, ∃ h : p < s.size, AllIn s set p ∧ inSet ((s[p]'h).toNat : Int) set = false ∧ r = s.extract p s.size
theorem next_rune (wr : World) (b : Nat) (s : ByteArray) (k : Nat) (hk : k < s.size) {B : Nat} {w : World} (hI : wr.heap[b]? = some (.stringIter s k)) (hB : Below B w wr) (hb : B ≤ b) :
    ∃ (w1 : World) (c : Int) (d : Nat), (∀ ty, (Instr.next (.pointer (some ⟨b, 0, none⟩)) true ty).run Tryd.prog wr = .ok (.tuple #[.bool true, .int .i64 k, .int .i32 c]) w1) ∧
      w1.heap[b]? = some (.stringIter s (k + d)) ∧ Below B w w1 ∧ w1.heap.size = wr.heap.size ∧ (∀ j, j ≠ b → w1.heap[j]? = wr.heap[j]?) ∧ ((s[k]'hk).toNat < 128 → c = ((s[k]'hk).toNat : Int) ∧ d = 1) ∧ (128 ≤ (s[k]'hk).toNat → 128 ≤ c) := by
  refine ⟨_, ((Utf8.decode s k).1 : Int), (Utf8.decode s k).2, fun ty => run_next_any_at wr b s k ty hI hk, iterAt_heap _ _ _ _ _ hI, below_iterAt hB hb _ _, iterAt_size _ _ _ _, fun j hj => iterAt_other _ _ _ _ _ hj, fun h => ?_, fun h => ?_⟩
  · rw [decode_ascii s k hk h]; exact ⟨rfl, rfl⟩
  · have := (decode_high s k hk h).1; omega
theorem next_none (wr : World) (b : Nat) (s : ByteArray) (k : Nat) (hk : ¬ k < s.size) (hI : wr.heap[b]? = some (.stringIter s k)) :
    ∀ ty, (Instr.next (.pointer (some ⟨b, 0, none⟩)) true ty).run Tryd.prog wr = .ok (.tuple #[.bool false]) wr := fun ty => run_next_end_at wr b s k ty hI hk
set_option maxHeartbeats 2000000 in
theorem cutLeft_calls (s set : ByteArray) (w : World) (hs : s.size ≤ 140737488351232) (hz : set.size ≤ 140737488351232) (hA : Asc set) :
    Calls Tryd.prog 44 #[.string s, .string set] w fun e w' => (∃ r, LeftOf s set r ∧ e = .returned (.string r)) ∧ Below w.heap.size w w' := by
  have HZ := Aside0.mk hA
  clear hA
  go_enter Tryd.func44, Tryd.ntmps44
  go_wp2
  go_loopg [5, 6, 7, 9] s.size (fun g _ _ _ _ wr => ∃ k : Nat, g + k = s.size ∧ Aside0 (wr.heap[w.heap.size]? = some (.stringIter s k)) ∧ Aside0 (AllIn s set k) ∧ Aside0 (Below w.heap.size w wr))
  case atStart => exact ⟨0, rfl, ⟨World.iter_heap w s 0⟩, ⟨fun j h hj => absurd hj (Nat.not_lt_zero j)⟩, ⟨(Below.refl _ _).alloc (Nat.le_refl _) _⟩⟩
  case round =>
    obtain ⟨k, hg, HI, HL, HB⟩ := hrel
    by_cases hlt : k < s.size
    · obtain ⟨w1, c, d, hn, hi1, hb1, hz1, ho1, hlo, hhi⟩ := next_rune wr w.heap.size s k hlt HI.out HB.out (Nat.le_refl _)
      have F := Aside0.mk (And.intro hi1 (And.intro hb1 (And.intro hz1 (And.intro ho1 (And.intro hlo hhi)))))
      clear hi1 hb1 hz1 ho1 hlo hhi
      go_wp2
      go_loopg [7, 9] set.size (fun g u7 _ w2 => ∃ m : Nat, g + m = set.size ∧ u7 = .bool (inUpto c set m) ∧ Aside0 (w2.heap[w1.heap.size]? = some (.stringIter set m)) ∧ Aside0 (Below w1.heap.size w1 w2))
      case atStart => exact ⟨0, rfl, by simp [inUpto], ⟨World.iter_heap w1 set 0⟩, ⟨(Below.refl _ _).alloc (Nat.le_refl _) _⟩⟩
      case round =>
        obtain ⟨m, hm, rfl, HI2, HB2⟩ := hrel
        by_cases hm2 : m < set.size
        · obtain ⟨w3, c3, d3, hn3, hi3, hb3, hz3, ho3, hlo3, _⟩ := next_rune wr w1.heap.size set m hm2 HI2.out HB2.out (Nat.le_refl _)
          obtain ⟨rfl, rfl⟩ := hlo3 (HZ.out m hm2)
          have F3 := Aside0.mk (And.intro hi3 (And.intro hb3 (And.intro hz3 ho3)))
          clear hi3 hb3 hz3 ho3
          cases hin : inUpto c set m with
          | true =>
            have E := Aside0.mk (inUpto_yes c set m hm2 hin)
            clear hin
            go_wp2
            go_roundg (set.size - (m + 1))
            case measure => omega
            case rel => exact ⟨m + 1, by omega, by rw [E.out], ⟨F3.out.1⟩, ⟨F3.out.2.1⟩⟩
          | false =>
            by_cases hcd : c = ((set[m]'hm2).toNat : Int)
            · have E := Aside0.mk (inUpto_eq c set m hm2 hcd)
              have hcd' : (c == ((set[m]'hm2).toNat : Int)) = true := beq_iff_eq.2 hcd
              clear hin hcd
              go_wp2
              go_roundg (set.size - (m + 1))
              case measure => omega
              case rel => exact ⟨m + 1, by omega, by rw [E.out], ⟨F3.out.1⟩, ⟨F3.out.2.1⟩⟩
            · have E := Aside0.mk (inUpto_no c set m hm2 hin hcd)
              have hcd' : (c == ((set[m]'hm2).toNat : Int)) = false := beq_eq_false_iff_ne.2 hcd
              clear hin hcd
              go_wp2
              go_roundg (set.size - (m + 1))
              case measure => omega
              case rel => exact ⟨m + 1, by omega, by rw [E.out], ⟨F3.out.1⟩, ⟨F3.out.2.1⟩⟩
        · have hn4 := next_none wr w1.heap.size set m hm2 HI2.out
          obtain rfl : m = set.size := by omega
          cases hin : inUpto c set set.size with
          | true =>
            have hlow : (s[k]'hlt).toNat < 128 := by
              rcases Nat.lt_or_ge (s[k]'hlt).toNat 128 with h | h
              · exact h
              · have := inSet_high HZ.out (F.out.2.2.2.2.2 h)
                rw [inSet, hin] at this
                cases this
            obtain ⟨hc, rfl⟩ := F.out.2.2.2.2.1 hlow
            have hL : AllIn s set (k + 1) := fun j h hj => by
              rcases Nat.lt_succ_iff_lt_or_eq.1 hj with hj | rfl
              · exact HL.out j h hj
              · rw [← hc]; exact hin
            have HL' := Aside0.mk hL
            have hwz : w.heap.size < w1.heap.size := (Array.getElem?_eq_some_iff.1 F.out.1).1
            clear hL hc hlow
            go_wp2
            go_roundg (s.size - (k + 1))
            case measure => omega
            case rel => exact ⟨k + 1, by omega, ⟨(HB2.out.block _ hwz).trans F.out.1⟩, HL', ⟨below_then F.out.2.1 (Nat.le_of_lt hwz) HB2.out⟩⟩
          | false =>
            have hno : inSet ((s[k]'hlt).toNat : Int) set = false := by
              rcases Nat.lt_or_ge (s[k]'hlt).toNat 128 with h | h
              · rw [← (F.out.2.2.2.2.1 h).1]; exact hin
              · exact inSet_high HZ.out (by omega)
            have HN := Aside0.mk hno
            have hwz : w.heap.size < w1.heap.size := (Array.getElem?_eq_some_iff.1 F.out.1).1
            clear hno
            go_wp2
            go_ret
            exact ⟨⟨_, .inr ⟨k, hlt, HL.out, HN.out, rfl⟩, rfl⟩, below_then F.out.2.1 (Nat.le_of_lt hwz) HB2.out⟩
    · have hn := next_none wr w.heap.size s k hlt HI.out
      obtain rfl : k = s.size := by omega
      go_wp2
      go_ret
      exact ⟨⟨_, .inl ⟨HL.out, rfl⟩, rfl⟩, HB.out⟩
theorem decode_empty : Utf8.decode ⟨#[]⟩ 0 = (0, 1) := by decide
theorem decodeL_cons (b : UInt8) (r : List UInt8) : (b.toNat < 128 → decodeL (b :: r) = (b.toNat, 1)) ∧ (128 ≤ b.toNat → 128 ≤ (decodeL (b :: r)).1) := by
  have hsz : 0 < (⟨(b :: r).toArray⟩ : ByteArray).size := by simp [ByteArray.size]
  have hb : (⟨(b :: r).toArray⟩ : ByteArray)[0]'hsz = b := rfl
  unfold decodeL
  exact ⟨fun h => by rw [decode_ascii _ 0 hsz (by rw [hb]; exact h), hb], fun h => (decode_high _ 0 hsz (by rw [hb]; exact h)).1⟩
theorem last_rune (l : List UInt8) (b : UInt8) (hb : l.getLast? = some b) : (b.toNat < 128 → decodeLastL l = (b.toNat, 1)) ∧ (128 ≤ b.toNat → 128 ≤ (decodeLastL l).1) := by
  have hne : l ≠ [] := by rintro rfl; cases hb
  have hlen : 0 < l.length := List.length_pos_iff.2 hne
  have hg : l.getD (l.length - 1) 0 = b := by
    rw [List.getD_eq_getElem?_getD, ← List.getLast?_eq_getElem?, hb]; rfl
  unfold decodeLastL
  rw [if_neg hne, hg]
  refine ⟨fun h => by rw [if_pos h], fun h => ?_⟩
  rw [if_neg (by omega)]
  simp only
  split
  · rename_i he
    cases hx : l.drop (lastStart l) with
    | nil =>
      rw [hx] at he
      have : (decodeL []).2 = 1 := by unfold decodeL; exact congrArg Prod.snd decode_empty
      rw [this] at he
      have := List.drop_eq_nil_iff.1 hx
      omega
    | cons c r =>
      rw [hx] at he
      rcases Nat.lt_or_ge c.toNat 128 with hc | hc
      · rw [(decodeL_cons c r).1 hc] at he
        have hr : r = [] := by
          have := congrArg List.length hx
          rw [List.length_drop, List.length_cons] at this
          exact List.eq_nil_of_length_eq_zero (by simp only at he; omega)
        have : l.getLast? = some c := by
          have h2 : l = l.take (lastStart l) ++ [c] := by rw [← hr, ← hx, List.take_append_drop]
          rw [h2]; simp
        rw [hb] at this
        obtain rfl := Option.some.inj this
        omega
      · exact (decodeL_cons c r).2 hc
  · decide
def RightOf (s set r : ByteArray) : Prop := (s.size = 0 → r = ⟨#[]⟩) ∧ ((∃ p, ∃ h : p < s.size, inSet ((s[p]'h).toNat : Int) set = false) → 0 < r.size)
def CutTo (s set x : ByteArray) : Prop := x.size ≤ s.size ∧ (∀ j (h : j < s.size) (h2 : j < x.size), x[j]'h2 = s[j]'h) ∧ ∀ j (h : j < s.size), x.size ≤ j → inSet ((s[j]'h).toNat : Int) set = true
theorem CutTo.less {s set x : ByteArray} (h : CutTo s set x) (hx : 0 < x.size) (hb : inSet ((x[x.size - 1]'(by omega)).toNat : Int) set = true) (y : ByteArray) (hy : y = x.extract 0 (x.size - 1)) : CutTo s set y ∧ y.size = x.size - 1 := by
  subst hy
  have hz : (x.extract 0 (x.size - 1)).size = x.size - 1 := by rw [ByteArray.size_extract]; omega
  refine ⟨⟨by have := h.1; omega, fun j h1 h2 => ?_, fun j h1 h2 => ?_⟩, hz⟩
  · rw [ByteArray.getElem_extract]
    simp only [Nat.zero_add]
    exact h.2.1 j h1 (by omega)
  · rw [hz] at h2
    by_cases hj : j = x.size - 1
    · subst hj
      rw [← h.2.1 _ h1 (by omega)]
      exact hb
    · exact h.2.2 j h1 (by omega)
theorem CutTo.keeps {s set x : ByteArray} (h : CutTo s set x) : (∃ p, ∃ h : p < s.size, inSet ((s[p]'h).toNat : Int) set = false) → 0 < x.size := by
  rintro ⟨p, hp, hn⟩
  rcases Nat.eq_zero_or_pos x.size with h0 | h0
  · rw [h.2.2 p hp (by omega)] at hn
    cases hn
  · exact h0
theorem byte_last (x : ByteArray) (h : 0 < x.size) : x.data.toList.getLast? = some (x[x.size - 1]'(by omega)) := by
  have hl : x.data.toList.length = x.size := data_length x
  rw [List.getLast?_eq_getElem?, hl, List.getElem?_eq_getElem (by omega)]
  rw [Array.getElem_toList]
  rfl
set_option maxHeartbeats 4000000 in
theorem cutRight_calls (s set : ByteArray) (w : World) (hs : s.size ≤ 140737488351232) (hz : set.size ≤ 140737488351232) (hA : Asc set) (hG : GlobOk w) :
    Calls Tryd.prog 43 #[.string s, .string set] w fun e w' => (∃ r, RightOf s set r ∧ e = .returned (.string r)) ∧ Below w.heap.size w w' := by
  have HZ := Aside0.mk hA
  clear hA
  go_enter Tryd.func43, Tryd.ntmps43
  go_wp2
  go_loopg [0, 5, 6, 7, 9] s.size (fun g u0 _ _ _ _ wr => ∃ x : ByteArray, x.size = g ∧ u0 = .string x ∧ Aside0 (CutTo s set x) ∧ Aside0 (Below w.heap.size w wr))
  case atStart => exact ⟨s, rfl, rfl, ⟨Nat.le_refl _, fun _ _ _ => rfl, fun j h1 h2 => absurd h1 (by omega)⟩, ⟨Below.refl _ _⟩⟩
  case round =>
    obtain ⟨x, rfl, rfl, HX, HB⟩ := hrel
    have hxs : x.size ≤ 140737488351232 := by have := HX.out.1; omega
    by_cases hlt : 0 < x.size
    · have HT := hG.of_below HB.out
      have hlast := last_rune _ _ (byte_last x hlt)
      obtain ⟨c, n, hcn⟩ : ∃ c n, decodeLastL x.data.toList = (c, n) := ⟨_, _, rfl⟩
      have HC := Aside0.mk (Tryd.utf8_DecodeLastRuneInString x wr (by omega) HT.utf8)
      rw [hcn] at hlast HC
      have HL := Aside0.mk hlast
      clear hlast hcn HT
      go_wp2_with (go_at_call 75; refine HC.out.mono ?_; rintro e w1 ⟨rfl, hb1⟩)
      have HB1 := Aside0.mk (below_then HB.out HB.out.size hb1)
      clear hb1
      go_wp2
      go_loopg [7, 9] set.size (fun g u7 _ w2 => ∃ m : Nat, g + m = set.size ∧ u7 = .bool (inUpto (c : Int) set m) ∧ Aside0 (w2.heap[w1.heap.size]? = some (.stringIter set m)) ∧ Aside0 (Below w1.heap.size w1 w2))
      case atStart => exact ⟨0, rfl, by simp [inUpto], ⟨World.iter_heap w1 set 0⟩, ⟨(Below.refl _ _).alloc (Nat.le_refl _) _⟩⟩
      case round =>
        obtain ⟨m, hm, rfl, HI2, HB2⟩ := hrel
        by_cases hm2 : m < set.size
        · obtain ⟨w3, c3, d3, hn3, hi3, hb3, hz3, ho3, hlo3, _⟩ := next_rune wr w1.heap.size set m hm2 HI2.out HB2.out (Nat.le_refl _)
          obtain ⟨rfl, rfl⟩ := hlo3 (HZ.out m hm2)
          have F3 := Aside0.mk (And.intro hi3 (And.intro hb3 (And.intro hz3 ho3)))
          clear hi3 hb3 hz3 ho3
          cases hin : inUpto (c : Int) set m with
          | true =>
            have E := Aside0.mk (inUpto_yes c set m hm2 hin)
            clear hin
            go_wp2
            go_roundg (set.size - (m + 1))
            case measure => omega
            case rel => exact ⟨m + 1, by omega, by rw [E.out], ⟨F3.out.1⟩, ⟨F3.out.2.1⟩⟩
          | false =>
            by_cases hcd : (c : Int) = ((set[m]'hm2).toNat : Int)
            · have E := Aside0.mk (inUpto_eq c set m hm2 hcd)
              have hcd' : ((c : Int) == ((set[m]'hm2).toNat : Int)) = true := beq_iff_eq.2 hcd
              have hcd2 : (c == ((set[m]'hm2).toNat)) = true := beq_iff_eq.2 (by omega)
              clear hin hcd
              go_wp2
              go_roundg (set.size - (m + 1))
              case measure => omega
              case rel => exact ⟨m + 1, by omega, by rw [E.out], ⟨F3.out.1⟩, ⟨F3.out.2.1⟩⟩
            · have E := Aside0.mk (inUpto_no c set m hm2 hin hcd)
              have hcd' : ((c : Int) == ((set[m]'hm2).toNat : Int)) = false := beq_eq_false_iff_ne.2 hcd
              have hcd2 : (c == ((set[m]'hm2).toNat)) = false := beq_eq_false_iff_ne.2 (by omega)
              clear hin hcd
              go_wp2
              go_roundg (set.size - (m + 1))
              case measure => omega
              case rel => exact ⟨m + 1, by omega, by rw [E.out], ⟨F3.out.1⟩, ⟨F3.out.2.1⟩⟩
        · have hn4 := next_none wr w1.heap.size set m hm2 HI2.out
          obtain rfl : m = set.size := by omega
          have hB2 := Aside0.mk (below_then HB1.out HB1.out.size HB2.out)
          cases hin : inUpto (c : Int) set set.size with
          | true =>
            have hlow : (x[x.size - 1]'(by omega)).toNat < 128 := by
              rcases Nat.lt_or_ge (x[x.size - 1]'(by omega)).toNat 128 with h | h
              · exact h
              · have := inSet_high HZ.out (c := (c : Int)) (by have := HL.out.2 h; omega)
                rw [inSet, hin] at this
                cases this
            have h1 := HL.out.1 hlow
            simp only [Prod.mk.injEq] at h1
            obtain ⟨rfl, rfl⟩ := h1
            have HL' := Aside0.mk (HX.out.less hlt hin _ rfl)
            clear hlow hin
            go_wp2
            go_roundg (x.size - 1)
            case measure => omega
            case rel => exact ⟨_, HL'.out.2, rfl, ⟨HL'.out.1⟩, hB2⟩
          | false =>
            go_wp2
            go_ret
            exact ⟨⟨_, ⟨fun h0 => absurd HX.out.1 (by omega), HX.out.keeps⟩, rfl⟩, hB2.out⟩
    · have hx0 : x.size = 0 := by omega
      have HE := Aside0.mk (show x = ⟨#[]⟩ from by
        obtain ⟨⟨l⟩⟩ := x
        have : l.length = 0 := hx0
        rw [List.eq_nil_of_length_eq_zero this])
      clear hx0
      go_wp2
      go_ret
      exact ⟨⟨_, ⟨fun _ => HE.out, HX.out.keeps⟩, rfl⟩, HB.out⟩
end Go.Proofs.YtaoajlaocphgdaaDoor.PA
end
section
namespace Go.Proofs.YtaoajlaocphgdaaDoor.PA
open Go.RowKit Go.Lib Go.Proofs.YtaoajlaocphgdaaDoorW.PrintWords Go.Proofs.YtaoajlaocphgdaaDoorW.PrintLast Go.Proofs.YtaoajlaocphgdaaDoorW.PrintMore
set_option linter.unusedVariables false
def isLetter (c : Nat) : Bool := (97 ≤ c && c ≤ 122) || c == 95
def isCh (c : Nat) : Bool := isLetter c || (48 ≤ c && c ≤ 57)
def nameB (l : List UInt8) : Bool := decide (1 ≤ l.length) && decide (l.length ≤ 24) && isLetter (l.getD 0 0).toNat && l.all fun c => isCh c.toNat
def obj_Name.f (a0 : ByteArray) : Option Bool := if a0.size ≤ 140737488351232 then some (nameB a0.data.toList) else none
def lettersS : ByteArray := ⟨#[97, 98, 99, 100, 101, 102, 103, 104, 105, 106, 107, 108, 109, 110, 111, 112, 113, 114, 115, 116, 117, 118, 119, 120, 121, 122, 95]⟩
def charsS : ByteArray := ⟨#[97, 98, 99, 100, 101, 102, 103, 104, 105, 106, 107, 108, 109, 110, 111, 112, 113, 114, 115, 116, 117, 118, 119, 120, 121, 122, 95, 48, 49, 50, 51, 52, 53, 54, 55, 56, 57]⟩
theorem letters_at : ∀ n : Nat, n < 256 → decide (0 ≤ Lib.indexByte lettersS.data.toList (UInt8.ofNat n)) = isLetter n := by decide +kernel
theorem chars_at : ∀ n : Nat, n < 256 → inSet (n : Int) charsS = isCh n := by decide +kernel
theorem chars_asc : Asc charsS := by unfold Asc; decide +kernel
theorem extract_one (s : ByteArray) (hs : 1 ≤ s.size) : s.extract 0 1 = ⟨#[s[0]'hs]⟩ := by
  apply ByteArray.ext
  apply Array.ext'
  rw [Lib.extract_data]
  obtain ⟨⟨l⟩⟩ := s
  cases l with
  | nil => exact absurd hs (by decide)
  | cons b r => rfl
theorem contains_calls (s : ByteArray) (hs : 1 ≤ s.size) (w : World) :
    Calls Tryd.prog 42 #[.string lettersS, .string (s.extract 0 1)] w fun e w' => e = .returned (.bool (isLetter (s[0]'hs).toNat)) ∧ w' = w := by
  rw [extract_one s hs, ← letters_at _ (s[0]'hs).toNat_lt, UInt8.ofNat_toNat]
  exact Tryd.strings_Contains_one lettersS (s[0]'hs) w
theorem chars_eq : ((⟨#[97, 98, 99, 100, 101, 102, 103, 104, 105, 106, 107, 108, 109, 110, 111, 112, 113, 114, 115, 116, 117, 118, 119, 120, 121, 122, 95]⟩ : ByteArray) ++ ⟨#[48, 49, 50, 51, 52, 53, 54, 55, 56, 57]⟩) = charsS := by decide +kernel
theorem chars_in (b : UInt8) : inSet (b.toNat : Int) charsS = isCh b.toNat := chars_at _ b.toNat_lt
theorem nameB_all {l : List UInt8} (h : nameB l = true) : ∀ c ∈ l, isCh c.toNat = true := by
  unfold nameB at h
  rw [Bool.and_eq_true] at h
  exact fun c hc => List.all_eq_true.1 h.2 c hc
theorem getD_zero (s : ByteArray) (hs : 1 ≤ s.size) : s.data.toList.getD 0 0 = s[0]'hs := by
  obtain ⟨⟨l⟩⟩ := s
  cases l with
  | nil => exact absurd hs (by decide)
  | cons b r => rfl
theorem mem_data {s : ByteArray} {c : UInt8} (h : c ∈ s.data.toList) : ∃ j, ∃ hj : j < s.size, s[j]'hj = c := by
  obtain ⟨j, hj, rfl⟩ := List.getElem_of_mem h
  exact ⟨j, by rw [← data_length]; exact hj, by rw [Array.getElem_toList]; rfl⟩
theorem data_mem (s : ByteArray) (j : Nat) (h : j < s.size) : s[j]'h ∈ s.data.toList := by
  have : s.data.toList[j]'(by rw [data_length]; exact h) = s[j]'h := by rw [Array.getElem_toList]; rfl
  rw [← this]
  exact List.getElem_mem _
theorem left_name (s r : ByteArray) (hs : 1 ≤ s.size) (hs2 : s.size ≤ 24) (hl : isLetter (s[0]'hs).toNat = true) (h : LeftOf s charsS r) :
    (nameB s.data.toList = true ∧ r.size = 0) ∨ (nameB s.data.toList = false ∧ ∃ p, ∃ h : p < r.size, inSet ((r[p]'h).toNat : Int) charsS = false) := by
  rcases h with ⟨ha, rfl⟩ | ⟨p, hp, _, hn, rfl⟩
  · left
    refine ⟨?_, rfl⟩
    unfold nameB
    rw [data_length, getD_zero s hs, hl, decide_eq_true hs, decide_eq_true hs2]
    simp only [Bool.and_true, Bool.true_and, List.all_eq_true]
    intro c hc
    obtain ⟨j, hj, rfl⟩ := mem_data hc
    rw [← chars_in]
    exact ha j hj hj
  · right
    refine ⟨?_, 0, ?_, ?_⟩
    · cases hb : nameB s.data.toList with
      | false => rfl
      | true =>
        have := nameB_all hb _ (data_mem s p hp)
        rw [← chars_in, hn] at this
        cases this
    · rw [ByteArray.size_extract]; omega
    · rw [ByteArray.getElem_extract]
      exact hn
theorem ascii_loop (s : ByteArray) (ha : ∀ c ∈ s.data.toList, c.toNat < 128) (hz : s.size ≤ 24) : ∀ (d : Nat) (i : Int), 0 ≤ i → i ≤ s.size → (s.size : Int) - i = d → obj_onlyASCII.l0 (d + 1) s (s.size : Int) i = some true := by
  intro d
  induction d with
  | zero =>
    intro i h0 h1 hd
    simp only [obj_onlyASCII.l0]
    rw [if_neg (by omega)]
  | succ d ih =>
    intro i h0 h1 hd
    have hlt : i < (s.size : Int) := by omega
    simp only [obj_onlyASCII.l0]
    rw [if_pos hlt, if_pos h0, if_pos hlt]
    have hw : wrap64 (i + 1) = i + 1 := by unfold wrap64; omega
    have hb : ¬ bt s i ≥ 128 := by
      obtain ⟨n, rfl⟩ := Int.eq_ofNat_of_zero_le h0
      have hn : n < s.size := by omega
      have := ha _ (data_mem s n hn)
      unfold bt
      rw [dif_pos (by simpa using hn)]
      simp only [Int.toNat_natCast]
      omega
    rw [if_neg hb, hw]
    exact ih (i + 1) (by omega) (by omega) (by omega)
theorem name_ascii (s : ByteArray) (hs2 : s.size ≤ 24) (h : nameB s.data.toList = true) : obj_onlyASCII.f (s.size + 1) s = some true := by
  unfold obj_onlyASCII.f
  refine ascii_loop s (fun c hc => ?_) hs2 s.size 0 (by omega) (by omega) (by omega)
  have := nameB_all h c hc
  unfold isCh isLetter at this
  simp at this
  omega
theorem name_calls (s : ByteArray) (w : World) (hs : 1 ≤ s.size) (hs2 : s.size ≤ 24) (hl : isLetter (s[0]'hs).toNat = true) (hG : GlobOk w) :
    Calls Tryd.prog 23 #[.string s] w fun e w' => e = .returned (.bool (nameB s.data.toList)) ∧ Below w.heap.size w w' := by
  have HC := Aside0.mk (contains_calls s hs)
  rw [hl] at HC
  have HG := Aside0.mk hG
  obtain ⟨b, hb⟩ : ∃ b, nameB s.data.toList = b := ⟨_, rfl⟩
  rw [hb]
  have HY := Aside0.mk hb
  clear hb
  have i1 : (1 : Int) ≤ (s.size : Int) := by omega
  have i2 : (s.size : Int) ≤ 24 := by omega
  have HL := Aside0.mk (fun r => left_name s r hs hs2 hl)
  have HN := Aside0.mk (name_ascii s hs2)
  clear hG hl
  go_enter Tryd.func23, Tryd.ntmps23
  go_wp2_with (go_at_call 42; refine (HC.out _).mono ?_; rintro e w1 ⟨rfl, rfl⟩)
  go_wp2_with fail
  simp only [chars_eq]
  refine (cutLeft_calls s charsS _ (by omega) (by decide) chars_asc).mono ?_
  rintro e w2 ⟨⟨r, hr, rfl⟩, hb⟩
  have HB := Aside0.mk hb
  have HR := Aside0.mk (HL.out r hr)
  have hrs : r.size ≤ s.size := by
    rcases hr with ⟨_, rfl⟩ | ⟨p, hp, _, _, rfl⟩
    · exact Nat.zero_le _
    · rw [ByteArray.size_extract]; omega
  clear hb hr
  go_wp2_with fail
  simp only [chars_eq]
  refine (cutRight_calls r charsS _ (by omega) (by decide) chars_asc (HG.out.of_below HB.out)).mono ?_
  rintro e w3 ⟨⟨x, hx, rfl⟩, hb⟩
  have HB3 := Aside0.mk (below_then HB.out HB.out.size hb)
  clear hb
  rcases HR.out with ⟨hn, h0⟩ | ⟨hn, hp⟩
  · have hx0 : x = ⟨#[]⟩ := hx.1 h0
    have HO := HN.out hn
    obtain rfl : b = true := HY.out.symm.trans hn
    clear hn h0 hx
    subst hx0
    go_wp2_with (go_at_call 45; refine (obj_onlyASCII.calls _ s true _ HO).mono ?_; rintro e w' ⟨rfl, ⟨nd, rfl⟩⟩)
    go_ret
    exact ⟨rfl, pw_below_drewN HB3.out _⟩
  · have hx0 : 0 < x.size := hx.2 hp
    have hxn : ¬ x.toList = [] := by
      intro e
      rw [toList_data] at e
      have := data_length x
      rw [e] at this
      simp at this
      omega
    obtain rfl : b = false := HY.out.symm.trans hn
    clear hn hp hx
    go_wp2_with fail
    go_ret
    exact ⟨rfl, HB3.out⟩
theorem name_short (s : ByteArray) (w : World) (hs : s.size < 1 ∨ 24 < s.size) (hz : s.size ≤ 140737488351232) :
    Calls Tryd.prog 23 #[.string s] w fun e w' => e = .returned (.bool false) ∧ Below w.heap.size w w' := by
  rcases hs with h | h
  · have i1 : (s.size : Int) < 1 := by omega
    go_enter Tryd.func23, Tryd.ntmps23
    go_wp2_with fail
    go_ret
    exact ⟨rfl, Below.refl _ _⟩
  · have i1 : ¬ (s.size : Int) < 1 := by omega
    have i2 : (24 : Int) < (s.size : Int) := by omega
    go_enter Tryd.func23, Tryd.ntmps23
    go_wp2_with fail
    go_ret
    exact ⟨rfl, Below.refl _ _⟩
theorem name_first (s : ByteArray) (w : World) (hs : 1 ≤ s.size) (hs2 : s.size ≤ 24) (hl : isLetter (s[0]'hs).toNat = false) :
    Calls Tryd.prog 23 #[.string s] w fun e w' => e = .returned (.bool false) ∧ Below w.heap.size w w' := by
  have HC := Aside0.mk (contains_calls s hs)
  rw [hl] at HC
  have i1 : (1 : Int) ≤ (s.size : Int) := by omega
  have i2 : (s.size : Int) ≤ 24 := by omega
  clear hl
  go_enter Tryd.func23, Tryd.ntmps23
  go_wp2_with (go_at_call 42; refine (HC.out _).mono ?_; rintro e w1 ⟨rfl, rfl⟩)
  go_ret
  exact ⟨rfl, Below.refl _ _⟩
theorem obj_Name.calls (a0 : ByteArray) (r : Bool) (w : World) (h : obj_Name.f a0 = some r) (hG : GlobOk w) :
    Calls Tryd.prog 23 #[.string a0] w fun e w' => e = .returned (.bool r) ∧ Below w.heap.size w w' := by
  unfold obj_Name.f at h
  split at h
  · rename_i hz
    obtain rfl := Option.some.inj h
    by_cases hs : 1 ≤ a0.size
    · by_cases hs2 : a0.size ≤ 24
      · cases hl : isLetter (a0[0]'hs).toNat with
        | true => exact name_calls a0 w hs hs2 hl hG
        | false =>
          have : nameB a0.data.toList = false := by
            unfold nameB
            rw [getD_zero a0 hs, hl]
            simp
          rw [this]
          exact name_first a0 w hs hs2 hl
      · have : nameB a0.data.toList = false := by
          unfold nameB
          rw [data_length, decide_eq_false hs2]
          simp
        rw [this]
        exact name_short a0 w (.inr (by omega)) hz
    · have : nameB a0.data.toList = false := by
        unfold nameB
        rw [data_length, decide_eq_false hs]
        rfl
      rw [this]
      exact name_short a0 w (.inl (by omega)) hz
  · cases h
end Go.Proofs.YtaoajlaocphgdaaDoor.PA
end
section
namespace Go.Proofs.YtaoajlaocphgdaaDoor.PA
open Go.RowKit Go.Proofs.YtaoajlaocphgdaaDoorW.PrintWords Go.Proofs.YtaoajlaocphgdaaDoorW.PrintLast Go.Proofs.YtaoajlaocphgdaaDoorW.PrintMore
set_option linter.unusedVariables false
structure Sets (w w1 : World) (g : Nat) (t : TypeId) (cs : Array Value) : Prop where
  at_ : w1.heap[g]? = some (.cells cs t (0, 0))
  other : ∀ k, k ≠ g → w1.heap[k]? = w.heap[k]?
  size : w1.heap.size = w.heap.size
  os : w1.os = w.os
  tape : w1.tape = w.tape
  output : w1.output = w.output
theorem Sets.below {w w1 a : World} {g B : Nat} {t : TypeId} {cs : Array Value} (h : Sets w w1 g t cs) (hB : Below B a w) (hg : B ≤ g) : Below B a w1 :=
  hB.trans ⟨h.os, h.tape, h.output, by rw [h.size]; exact Nat.le_refl _, fun i hi => h.other i (by omega)⟩
theorem Sets.row {α : Type} {d : Kd α} {e base : Nat} {v : Value} {xs : List α} {w w1 : World} {g : Nat} {t : TypeId} {cs cs' : Array Value} (hs : Sets w w1 g t cs') (h : d.R e w base (fun _ => True) v xs) (hb : w.heap[g]? = some (.cells cs t (0, 0))) (ht : ∀ q, q ∈ e :: d.E → q ≠ t) : d.R e w1 base (fun _ => True) v xs :=
  Kd.R_mono (Kd.R_step (Kd.R_types h hb ht) (fun k ho _ => hs.other k ho.2)) (fun _ _ => trivial)
theorem Sets.blk {w w1 : World} {g g' : Nat} {t : TypeId} {cs : Array Value} {o : Obj} (hs : Sets w w1 g t cs) (h : w.heap[g']? = some o) (hne : g' ≠ g) : w1.heap[g']? = some o := (hs.other g' hne).trans h
section
variable {P : Program} {ops : Array Oper} {Q : Exit → Act → World → Prop} {rest : List Oper} {o : Oper} {a : Act} {W : World}
theorem run_store_row (g : Nat) (t ty : TypeId) (cs cs' : Array Value) (hb : W.heap[g]? = some (.cells cs t (0, 0))) (hi : (P.info? ty).map (·.size) = some cs'.size) (hsz : cs.size = cs'.size) (h1 : cs'.all (·.oneCell') = true) :
    (Instr.storeAt ty (.pointer (some ⟨g, 0, none⟩)) (.agg cs')).run P W = .ok () (W.setRow g cs') := by
  simp only [Instr.storeAt, Instr.sureAddr, Sem.run_bind, Sem.run_pure, Result.andThen_ok]
  exact run_storeVar_row W g t ty cs cs' hb hi hsz h1
theorem sets_row (g : Nat) (t : TypeId) (cs cs' : Array Value) (hb : W.heap[g]? = some (.cells cs t (0, 0))) : Sets W (W.setRow g cs') g t cs' := by
  refine ⟨?_, ?_, ?_, rfl, rfl, rfl⟩
  · simp [World.setRow, Array.getElem?_modify, hb]
  · intro k hk
    simp [World.setRow, Array.getElem?_modify, Ne.symm hk]
  · simp [World.setRow]
theorem store_event {ty : TypeId} {x y : Operand} (hgd : o.guard = none) (ho : o.op = .store ty x y) (g : Nat) (t : TypeId) (cs cs' : Array Value) (hx : a.eval x = .pointer (some ⟨g, 0, none⟩)) (hy : a.eval y = .agg cs')
    (hb : W.heap[g]? = some (.cells cs t (0, 0))) (hi : (P.info? ty).map (·.size) = some cs'.size) (hsz : cs.size = cs'.size) (h1 : cs'.all (·.oneCell') = true)
    (h : ∀ w1, Sets W w1 g t cs' → wpList P ops Q rest (a.put o.dst undef) w1) : wpList P ops Q (o :: rest) a W := by
  refine wpList_plain hgd fun K hK => ?_
  unfold Oper.wp execOp
  simp only [ho, hx, hy, Sem.run_bind, run_store_row g t ty cs cs' hb hi hsz h1, Result.andThen_ok, Sem.run_pure]
  exact hK _ _ (h _ (sets_row g t cs cs' hb))
end
end Go.Proofs.YtaoajlaocphgdaaDoor.PA
end
section
namespace Go.Proofs.YtaoajlaocphgdaaDoor.PA
open Go.RowKit Go.Proofs.YtaoajlaocphgdaaDoorW.PrintWords Go.Proofs.YtaoajlaocphgdaaDoorW.PrintLast Go.Proofs.YtaoajlaocphgdaaDoorW.PrintMore
set_option linter.unusedVariables false
set_option linter.unusedSimpArgs false
def codeL (ps : List Int) (l : LayV) : List S43 := finalL (placeOf l ps) (allP l ps) 0
def wordsL (ps : List Int) (l : LayV) : List Int := (codeL ps l).map fun x => (encP x).1
def relsL (name : ByteArray) (ps : List Int) (l : LayV) : List S49 := [⟨4 * ((preP l ps).length : Int), 2, name, 0⟩]
def noCells : Array Value := #[.slice none 0 0, .slice none 0 0, .slice none 0 0, .slice none 0 0, .slice none 0 0]
def objCells (u v : Value) : Array Value := #[u, .slice none 0 0, .slice none 0 0, v, .slice none 0 0]
theorem code_length (ps : List Int) (l : LayV) : (codeL ps l).length = (allP l ps).length := finalL_length _ _ _
theorem pre_length (l : LayV) (ps : List Int) (h : ps.length ≤ 6) : (preP l ps).length ≤ 100 := by
  have := all_length l ps h
  simp only [allP, noP, leftP, midP, List.length_append] at this
  omega
theorem bad_range {ps : List Int} (h : ps.any badN = false) : ∀ n ∈ ps, 0 ≤ n ∧ n ≤ 64 := by
  intro n hn
  have := List.any_eq_false.1 h n hn
  simp [badN] at this
  omega
set_option maxHeartbeats 16000000 in
set_option maxRecDepth 100000 in
theorem cap_no (name : ByteArray) (A1 : Option Addr) (c1 : Nat) (ps : List Int) (l : LayV) (w : World) (hr : Kd.C (Kd.int .i64) w A1 ps.length ps) (hc : ps.length ≤ c1) (hG : GlobOk w) (hsz : name.size ≤ 140737488351232)
    (hno : (mayL l && nameB name.data.toList && !decide ((6 : Int) < (ps.length : Int)) && !ps.any badN) = false) :
    Calls Tryd.prog 10 #[.string name, .slice A1 ps.length c1, .agg (layArr l)] w fun e w' => e = .returned (.tuple #[.agg noCells, .int .i64 1]) ∧ Below w.heap.size w w' := by
  have HR := Aside0.mk hr
  have HC := Aside0.mk hc
  have HG := Aside0.mk hG
  have HB := Aside0.mk (Below.refl w.heap.size w)
  obtain ⟨m, hm⟩ : ∃ m, m = mayL l := ⟨_, rfl⟩
  obtain ⟨nm, hnm⟩ : ∃ m, m = nameB name.data.toList := ⟨_, rfl⟩
  obtain ⟨bd, hbd⟩ : ∃ m, m = ps.any badN := ⟨_, rfl⟩
  obtain ⟨lg, hlg⟩ : ∃ m, m = decide ((6 : Int) < (ps.length : Int)) := ⟨_, rfl⟩
  rw [← hm, ← hnm, ← hbd, ← hlg] at hno
  have HM := Aside0.mk (show wrap_May.f 6 l.a0 l.a1 l.a2 l.a3 l.a4 l.a5 l.a6 l.a7 l.a8 l.a9 l.a10 l.a11 l.a12 l.a13 l.a14 l.a15 l.a16 l.a17 l.a18 l.a19 = some m from hm ▸ may_f l 6 (Nat.le_refl _))
  have HN := Aside0.mk (show obj_Name.f name = some nm from by unfold obj_Name.f; rw [if_pos hsz, hnm])
  have HF := Aside0.mk (show slices_ContainsFunc_int_int__22.f ps = some bd from by rw [hbd]; rfl)
  replace hlg := hlg.symm
  clear hr hc hG hm hnm hbd hsz
  go_enter Tryd.func10, Tryd.ntmps10
  go_wp2_with (first | ((with_reducible refine gate_dst (N := 5) rfl ?_); refine box_event ?hg (N := 5) ?hd (cs := layArr l) (t := 27) ?hr ?_; (case hd => rfl); (case hg => rfl); (case hr => (refine exec_box (by rfl) (by rfl) (run_boxL l _))); intro g5 hg5 w1 B5 hb1; have HB1 := Aside0.mk (below_step HB.out hb1); have HG1 := Aside0.mk (HG.out.of_below hb1); have HR1 := Aside0.mk (Kd.C_below HR.out hb1); have HK5 := Aside0.mk B5; have HE5 := Aside0.mk (show w.heap.size ≤ g5 by rw [hg5]; exact HB.out.size); clear HB hb1 B5 hg5) | ((with_reducible refine gate_dst (N := 6) rfl ?_); refine box_event ?hg (N := 6) ?hd (cs := noCells) (t := 35) ?hr ?_; (case hd => rfl); (case hg => rfl); (case hr => first | (go_simp; done) | (go_simp; rfl)); intro g6 hg6 w2 B6 hb2; have HB2 := Aside0.mk (below_step HB1.out hb2); have HG2 := Aside0.mk (HG1.out.of_below hb2); have HR2 := Aside0.mk (Kd.C_below HR1.out hb2); have HK52 := Aside0.mk (blk_below HK5.out hb2); have HE6 := Aside0.mk (show w.heap.size ≤ g6 by rw [hg6]; exact HB1.out.size); have HK6 := Aside0.mk B6; clear HB1 HG1 HR1 HK5 hb2 B6 hg6))
  refine (slices_ContainsFunc_int_int__22.calls _ _ ps bd _ HR2.out HC.out HF.out).mono ?_
  rintro e w3 ⟨rfl, hb3⟩
  have HB3 := Aside0.mk (below_step HB2.out hb3)
  have HG3 := Aside0.mk (HG2.out.of_below hb3)
  have HK53 := Aside0.mk (blk_below HK52.out hb3)
  have HK63 := Aside0.mk (blk_below HK6.out hb3)
  clear hb3 HB2 HG2 HK52 HK6
  go_wp2_with (first | ((with_reducible refine gate_dst (N := 18) rfl ?_); refine wpList_load_row (by rfl) 27 _ (by rfl) g5 (by rfl) 27 (layArr l) (0, 0) _ HK53.out Tryd.underlying27 rfl (by kernel_rfl) ?_))
  refine (wrap_May.calls 6 l.a0 l.a1 l.a2 l.a3 l.a4 l.a5 l.a6 l.a7 l.a8 l.a9 l.a10 l.a11 l.a12 l.a13 l.a14 l.a15 l.a16 l.a17 l.a18 l.a19 m _ HM.out).mono ?_
  rintro e w4 ⟨rfl, hb4⟩
  have HB4 := Aside0.mk (below_step HB3.out hb4)
  have HG4 := Aside0.mk (HG3.out.of_below hb4)
  have HK64 := Aside0.mk (blk_below HK63.out hb4)
  clear hb4 HB3 HG3 HK53 HK63
  cases m with
  | false =>
    go_wp2_with (first | (refine store_event (by rfl) (ty := 35) (by rfl) g6 35 noCells noCells (by rfl) (by rfl) HK64.out (by kernel_rfl) rfl (by kernel_rfl) ?_; intro w9 hs9; have HK9 := Aside0.mk hs9.at_; have HB9 := Aside0.mk (hs9.below HB4.out HE6.out); clear hs9))
    refine bodyPost_ret (results_ct rfl _ _ g6 35 noCells (0, 0) _ rfl HK9.out Tryd.underlying35 rfl (by kernel_rfl)) rfl ?_
    exact ⟨rfl, HB9.out⟩
  | true =>
    go_wp2_with fail
    refine (obj_Name.calls name nm _ HN.out HG4.out).mono ?_
    rintro e w5 ⟨rfl, hb5⟩
    have HB5 := Aside0.mk (below_step HB4.out hb5)
    have HK65 := Aside0.mk (blk_below HK64.out hb5)
    clear hb5 HB4 HG4 HK64
    cases nm with
    | false =>
      go_wp2_with (first | (refine store_event (by rfl) (ty := 35) (by rfl) g6 35 noCells noCells (by rfl) (by rfl) HK65.out (by kernel_rfl) rfl (by kernel_rfl) ?_; intro w9 hs9; have HK9 := Aside0.mk hs9.at_; have HB9 := Aside0.mk (hs9.below HB5.out HE6.out); clear hs9))
      refine bodyPost_ret (results_ct rfl _ _ g6 35 noCells (0, 0) _ rfl HK9.out Tryd.underlying35 rfl (by kernel_rfl)) rfl ?_
      exact ⟨rfl, HB9.out⟩
    | true =>
      cases lg with
      | true =>
        go_wp2_with (first | (refine store_event (by rfl) (ty := 35) (by rfl) g6 35 noCells noCells (by rfl) (by rfl) HK65.out (by kernel_rfl) rfl (by kernel_rfl) ?_; intro w9 hs9; have HK9 := Aside0.mk hs9.at_; have HB9 := Aside0.mk (hs9.below HB5.out HE6.out); clear hs9))
        refine bodyPost_ret (results_ct rfl _ _ g6 35 noCells (0, 0) _ rfl HK9.out Tryd.underlying35 rfl (by kernel_rfl)) rfl ?_
        exact ⟨rfl, HB9.out⟩
      | false =>
        cases bd with
        | true =>
          go_wp2_with (first | (refine store_event (by rfl) (ty := 35) (by rfl) g6 35 noCells noCells (by rfl) (by rfl) HK65.out (by kernel_rfl) rfl (by kernel_rfl) ?_; intro w9 hs9; have HK9 := Aside0.mk hs9.at_; have HB9 := Aside0.mk (hs9.below HB5.out HE6.out); clear hs9))
          refine bodyPost_ret (results_ct rfl _ _ g6 35 noCells (0, 0) _ rfl HK9.out Tryd.underlying35 rfl (by kernel_rfl)) rfl ?_
          exact ⟨rfl, HB9.out⟩
        | false => simp at hno
set_option maxHeartbeats 16000000 in
set_option maxRecDepth 100000 in
theorem cap_yes (name : ByteArray) (A1 : Option Addr) (c1 : Nat) (ps : List Int) (l : LayV) (w : World) (hr : Kd.C (Kd.int .i64) w A1 ps.length ps) (hc : ps.length ≤ c1) (hG : GlobOk w) (hsz : name.size ≤ 140737488351232)
    (hm : mayL l = true) (hn : nameB name.data.toList = true) (hp : ps.length ≤ 6) (hbad : ps.any badN = false) :
    Calls Tryd.prog 10 #[.string name, .slice A1 ps.length c1, .agg (layArr l)] w fun e w' => ∃ u v : Value, e = .returned (.tuple #[.agg (objCells u v), .int .i64 0]) ∧ Kd.R (Kd.int .u32) 46 w' w.heap.size (fun _ => True) u (wordsL ps l) ∧ Kd.R k49 49 w' w.heap.size (fun _ => True) v (relsL name ps l) ∧ Below w.heap.size w w' := by
  have HR := Aside0.mk hr
  have HC := Aside0.mk hc
  have HG := Aside0.mk hG
  have HB := Aside0.mk (Below.refl w.heap.size w)
  have HM := Aside0.mk (show wrap_May.f 6 l.a0 l.a1 l.a2 l.a3 l.a4 l.a5 l.a6 l.a7 l.a8 l.a9 l.a10 l.a11 l.a12 l.a13 l.a14 l.a15 l.a16 l.a17 l.a18 l.a19 = some true from hm ▸ may_f l 6 (Nat.le_refl _))
  have HN := Aside0.mk (show obj_Name.f name = some true from by unfold obj_Name.f; rw [if_pos hsz, hn])
  have HF := Aside0.mk (show slices_ContainsFunc_int_int__22.f ps = some false from by rw [← hbad]; rfl)
  have hlg : decide ((6 : Int) < (ps.length : Int)) = false := decide_eq_false (by omega)
  obtain ⟨code, hcode⟩ : ∃ c, c = codeL ps l := ⟨_, rfl⟩
  obtain ⟨pn, hpn⟩ : ∃ c, c = (preP l ps).length := ⟨_, rfl⟩
  have hW : ∀ W : World, Kd.C (Kd.int .i64) W A1 ps.length ps → Calls Tryd.prog 24 #[.slice A1 ps.length c1, .agg (layArr l)] W fun e w' => ∃ v0_ : Value, e = .returned (.tuple #[v0_, .int .i64 (pn : Int)]) ∧ k43.R 43 w' W.heap.size (fun _ => True) v0_ code ∧ Below W.heap.size W w' := by
    intro W hW
    rw [hcode, hpn]
    exact wrapper_calls A1 c1 ps l W hW (mayL_ok hm).1 hp (bad_range hbad)
  have HW := Aside0.mk hW
  have hpl : pn ≤ 100 := hpn ▸ pre_length l ps hp
  have hcl : code.length ≤ 100 := by rw [hcode, code_length]; exact all_length l ps hp
  have HWD := Aside0.mk (show wordsL ps l = code.map fun x => (encP x).1 from by rw [hcode]; rfl)
  have HRL := Aside0.mk (show relsL name ps l = [⟨4 * (pn : Int), 2, name, 0⟩] from by rw [hpn]; rfl)
  clear hr hc hG hm hn hbad hsz hcode hpn hW
  go_enter Tryd.func10, Tryd.ntmps10
  go_wp2_with (first | ((with_reducible refine gate_dst (N := 5) rfl ?_); refine box_event ?hg (N := 5) ?hd (cs := layArr l) (t := 27) ?hr ?_; (case hd => rfl); (case hg => rfl); (case hr => (refine exec_box (by rfl) (by rfl) (run_boxL l _))); intro g5 hg5 w1 B5 hb1; have HB1 := Aside0.mk (below_step HB.out hb1); have HG1 := Aside0.mk (HG.out.of_below hb1); have HR1 := Aside0.mk (Kd.C_below HR.out hb1); have HK5 := Aside0.mk B5; have HE5 := Aside0.mk (show w.heap.size ≤ g5 by rw [hg5]; exact HB.out.size); clear HB hb1 B5 hg5) | ((with_reducible refine gate_dst (N := 6) rfl ?_); refine box_event ?hg (N := 6) ?hd (cs := noCells) (t := 35) ?hr ?_; (case hd => rfl); (case hg => rfl); (case hr => first | (go_simp; done) | (go_simp; rfl)); intro g6 hg6 w2 B6 hb2; have HB2 := Aside0.mk (below_step HB1.out hb2); have HG2 := Aside0.mk (HG1.out.of_below hb2); have HR2 := Aside0.mk (Kd.C_below HR1.out hb2); have HK52 := Aside0.mk (blk_below HK5.out hb2); have HE6 := Aside0.mk (show w.heap.size ≤ g6 by rw [hg6]; exact HB1.out.size); have HK6 := Aside0.mk B6; clear HB1 HG1 HR1 HK5 hb2 B6 hg6))
  refine (slices_ContainsFunc_int_int__22.calls _ _ ps false _ HR2.out HC.out HF.out).mono ?_
  rintro e w3 ⟨rfl, hb3⟩
  have HB3 := Aside0.mk (below_step HB2.out hb3)
  have HG3 := Aside0.mk (HG2.out.of_below hb3)
  have HK53 := Aside0.mk (blk_below HK52.out hb3)
  have HK63 := Aside0.mk (blk_below HK6.out hb3)
  have HR3 := Aside0.mk (Kd.C_below HR2.out hb3)
  clear hb3 HB2 HG2 HK52 HK6 HR2
  go_wp2_with (first | ((with_reducible refine gate_dst (N := 18) rfl ?_); refine wpList_load_row (by rfl) 27 _ (by rfl) g5 (by rfl) 27 (layArr l) (0, 0) _ HK53.out Tryd.underlying27 rfl (by kernel_rfl) ?_))
  refine (wrap_May.calls 6 l.a0 l.a1 l.a2 l.a3 l.a4 l.a5 l.a6 l.a7 l.a8 l.a9 l.a10 l.a11 l.a12 l.a13 l.a14 l.a15 l.a16 l.a17 l.a18 l.a19 true _ HM.out).mono ?_
  rintro e w4 ⟨rfl, hb4⟩
  have HB4 := Aside0.mk (below_step HB3.out hb4)
  have HG4 := Aside0.mk (HG3.out.of_below hb4)
  have HK64 := Aside0.mk (blk_below HK63.out hb4)
  have HR4 := Aside0.mk (Kd.C_below HR3.out hb4)
  have HK54 := Aside0.mk (blk_below HK53.out hb4)
  clear hb4 HB3 HG3 HK53 HK63 HR3
  go_wp2_with fail
  refine (obj_Name.calls name true _ HN.out HG4.out).mono ?_
  rintro e w5 ⟨rfl, hb5⟩
  have HB5 := Aside0.mk (below_step HB4.out hb5)
  have HG5 := Aside0.mk (HG4.out.of_below hb5)
  have HK65 := Aside0.mk (blk_below HK64.out hb5)
  have HK55 := Aside0.mk (blk_below HK54.out hb5)
  have HR5 := Aside0.mk (Kd.C_below HR4.out hb5)
  clear hb5 HB4 HG4 HK64 HK54 HR4
  go_wp2_with (first | ((with_reducible refine gate_dst (N := 37) rfl ?_); refine wpList_load_row (by rfl) 27 _ (by rfl) g5 (by rfl) 27 (layArr l) (0, 0) _ HK55.out Tryd.underlying27 rfl (by kernel_rfl) ?_))
  refine (HW.out _ HR5.out).mono ?_
  rintro e w6 ⟨v9, rfl, hR9, hb6⟩
  have HB6 := Aside0.mk (below_step HB5.out hb6)
  have HG6 := Aside0.mk (HG5.out.of_below hb6)
  have HK66 := Aside0.mk (blk_below HK65.out hb6)
  have HC6 := Aside0.mk (Kd.R_lower hR9 HB5.out.size)
  obtain ⟨Ac, cc, rfl⟩ := Kd.R_slice hR9
  clear hb6 HB5 HG5 HK65 HK55 HR5 hR9
  have hw4 : IntKind.i64.wrap (4 * (pn : Int)) = 4 * pn := IntWalk.i64_in _ (by omega)
  have hcc : code.length ≤ 9223372036854775807 := by omega
  go_wp2_with (first | ((with_reducible refine gate_dst (N := 45) rfl ?_); refine Kd.R_lit k49 (w0 := w) w.heap.size 49 ?hg (N := 45) ?hd (xs := [(⟨4 * (pn : Int), 2, name, 0⟩ : S49)]) (inner := [.int .i64 (4 * (pn : Int)), .int .i64 2, .string name, .int .i64 0]) (ok := fun _ => True) (okp := fun _ => True) ?hr ?hp (fun _ hk => hk) trivial HB6.out HB6.out.size (by simp) ?_; (case hd => rfl); (case hg => rfl); (case hr => first | (go_simp; done) | (go_simp; rfl)); (case hp => exact (Reps.c4 (show Kd.M k49 _ _ _ (⟨4 * (pn : Int), 2, name, 0⟩ : S49) [.int .i64 (4 * (pn : Int)), .int .i64 2, .string name, .int .i64 0] from (k49_mkM _ _ _ (⟨4 * (pn : Int), 2, name, 0⟩ : S49) )) (Reps.none _ _))); intro v3 w7 ho7 hb7 hg7 hnew7; obtain ⟨A3, c3, hv3⟩ := Kd.R_slice ho7; replace hv3 : v3 = .slice A3 1 c3 := hv3; subst hv3; have HR7 := Aside0.mk ho7; have HB7 := Aside0.mk hb7; have HG7 := Aside0.mk hg7; clear ho7 hb7 hg7 hnew7; have HK67 := Aside0.mk (blk_grown HK66.out HG7.out (by intro e; cases e))) | ((with_reducible refine gate_dst (N := 11) rfl ?_); refine box_event ?hg (N := 11) ?hd (cs := noCells) (t := 35) ?hr ?_; (case hd => rfl); (case hg => rfl); (case hr => first | (go_simp; done) | (go_simp; rfl)); intro g11 hg11 w8 B11 hb8; have HS8 := Aside0.mk hb8; have HE11 := Aside0.mk hg11; have HK11 := Aside0.mk B11; clear hb8 hg11 B11) | (refine store_event (by rfl) (ty := 35) (by rfl) g11 35 noCells (objCells (.slice none 0 0) (.slice A3 1 c3)) (by rfl) (by rfl) HK11.out (by kernel_rfl) rfl (by kernel_rfl) ?_; intro w9 hs9; have HS9 := Aside0.mk hs9; clear hs9))
  have HB9 := Aside0.mk (HS9.out.below (below_step HB7.out HS8.out) (by rw [HE11.out]; exact HB7.out.size))
  have hlt6 := blk_lt HK67.out
  have hne6 : g6 ≠ g11 := by have := HE11.out; omega
  have HC9 := Aside0.mk (HS9.out.row (Kd.R_below (Kd.R_grown HC6.out HG7.out (by intro k _ e; cases e)) HS8.out) HK11.out (by decide))
  have HR9 := Aside0.mk (HS9.out.row (Kd.R_below HR7.out HS8.out) HK11.out (by decide))
  have HK69 := Aside0.mk (HS9.out.blk (blk_below HK67.out HS8.out) hne6)
  have HK119 := Aside0.mk HS9.out.at_
  have HN6 := Aside0.mk hne6
  have HE11' := Aside0.mk (show w.heap.size ≤ g11 by rw [HE11.out]; exact HB7.out.size)
  clear HS9 HS8 HK11 HE11 HG7 HK67 HK66 HC6 HR7 HB7 hlt6 hne6 HB6
  go_loopg [49] code.length (fun k v49 w' => ∃ (i : Nat) (u : Value), v49 = .int .i64 i ∧ Aside0 (i + k = code.length) ∧ Aside0 (Kd.R k43 43 w' w.heap.size (fun _ => True) (.slice Ac code.length cc) code) ∧ Aside0 (Kd.R (Kd.int .u32) 46 w' w.heap.size (fun _ => True) u ((code.take i).map fun x => (encP x).1)) ∧
    Aside0 (Kd.R k49 49 w' w.heap.size (fun _ => True) (.slice A3 1 c3) [(⟨4 * (pn : Int), 2, name, 0⟩ : S49)]) ∧ Aside0 (w'.heap[g6]? = some (.cells noCells 35 (0, 0))) ∧ Aside0 (w'.heap[g11]? = some (.cells (objCells u (.slice A3 1 c3)) 35 (0, 0))) ∧ Aside0 (Below w.heap.size w w'))
  case atStart => exact ⟨0, _, rfl, ⟨Nat.zero_add _⟩, HC9, ⟨by rw [List.take_zero]; exact Kd.R_nil _ _ _ _ _⟩, HR9, HK69, HK119, HB9⟩
  case round =>
    clear HC9 HR9 HK69 HK119 HB9
    obtain ⟨i, u, rfl, HI, HC9, HU9, HR9, HK69, HK119, HB9⟩ := hrel
    have HGr := Aside0.mk (HG.out.of_below HB9.out)
    by_cases hlt : i < code.length
    · obtain ⟨x, hx⟩ : ∃ x, x = rd_T43 code i := ⟨_, rfl⟩
      obtain ⟨ad, e51, x0, x1, x2, x3, x4⟩ := at_T43 (Kd.R_reads' HC9.out).2.2 i (by omega) (by omega)
      cases e51
      rw [← hx] at x0 x1 x2 x3 x4
      simp only [Int.toNat_natCast] at x0 x1 x2 x3 x4
      have HX := Aside0.mk hx
      clear hx
      have HEN := Aside0.mk (encode_f x)
      go_wp2_with (first | ((with_reducible refine gate_dst (N := 13) rfl ?_); refine box_event ?hg (N := 13) ?hd (cs := #[.int .i64 0, .int .i64 0, .int .i64 0, .int .i64 0, .int .i64 0]) (t := 43) ?hr ?_; (case hd => rfl); (case hg => rfl); (case hr => first | (go_simp; done) | (go_simp; rfl)); intro g13 hg13 w10 B13 hb10; have HS10 := Aside0.mk hb10; have HE13 := Aside0.mk hg13; have HK13 := Aside0.mk B13; clear hb10 hg13 B13) | (refine store_event (by rfl) (ty := 43) (by rfl) g13 43 #[.int .i64 0, .int .i64 0, .int .i64 0, .int .i64 0, .int .i64 0] #[.int .i64 x.f0, .int .i64 x.f1, .int .i64 x.f2, .int .i64 x.f3, .int .i64 x.f4] (by rfl) (by rfl) HK13.out (by kernel_rfl) rfl (by kernel_rfl) ?_; intro w11 hs11; have HS11 := Aside0.mk hs11; clear hs11) | ((with_reducible refine gate_dst (N := 54) rfl ?_); refine wpList_load_row (by rfl) 43 _ (by rfl) g13 (by rfl) 43 #[.int .i64 x.f0, .int .i64 x.f1, .int .i64 x.f2, .int .i64 x.f3, .int .i64 x.f4] (0, 0) _ HS11.out.at_ Tryd.underlying43 rfl (by kernel_rfl) ?_))
      have hb11 := HS11.out.below HS10.out (by rw [HE13.out]; exact Nat.le_refl _)
      refine (ins_Encode.calls 20 x.f0 x.f1 x.f2 x.f3 x.f4 (encP x).1 (encP x).2 _ HEN.out (HGr.out.of_below hb11)).mono ?_
      rintro e w12 ⟨rfl, hb12⟩
      have hbb := below_step hb11 hb12
      have HC12 := Aside0.mk (Kd.R_below HC9.out hbb)
      have HU12 := Aside0.mk (Kd.R_below HU9.out hbb)
      have HR12 := Aside0.mk (Kd.R_below HR9.out hbb)
      have HK612 := Aside0.mk (blk_below HK69.out hbb)
      have HK1112 := Aside0.mk (blk_below HK119.out hbb)
      have HB12 := Aside0.mk (below_step HB9.out hbb)
      have c0 : w12.cell? ⟨g11, 0, none⟩ = some u := (blk_cell HK1112.out 0).trans rfl
      clear hb11 hb12 hbb HC9 HU9 HR9 HK69 HK119 HB9 HS11 HS10 HE13 HK13 x0 x1 x2 x3 x4 HGr
      obtain ⟨y, hy⟩ : ∃ y, y = (encP x).1 := ⟨_, rfl⟩
      rw [← hy]
      obtain ⟨us, hus⟩ : ∃ us, us = (code.take i).map fun x => (encP x).1 := ⟨_, rfl⟩
      rw [← hus] at HU12
      have hul : us.length ≤ 100 := by rw [hus, List.length_map, List.length_take]; omega
      have HUS := Aside0.mk (show (code.take (i + 1)).map (fun x => (encP x).1) = us ++ [y] from by
        rw [hus, List.take_succ_eq_append_getElem hlt, List.map_append, hy, HX.out]
        simp [rd_T43, List.getD_eq_getElem?_getD, List.getElem?_eq_getElem hlt])
      clear hy hus HEN
      go_wp2_with (at_builtin; refine Kd.R_append (Kd.int .u32) (w0 := w) w.heap.size rfl (.tmp 59) (.tmp 61) 29 46 (.int .u32 0) 4 rfl Tryd.underlying29 info46 rfl (by decide) (by omega) u us y [.int .u32 y] (fun _ => True) (fun _ => False) rfl rfl ?aP (fun _ hk => hk.elim) ?aF ?aO ?aB ?aS ?aL ?_; (case aP => exact rfl); (case aB => exact HB12.out); (case aF => exact (fun _ _ => trivial)); (case aO => exact HU12.out); (case aS => exact HB12.out.size); (case aL => omega))
      intro v13 w13 ho hb hg hat
      have HB13 := Aside0.mk hb
      have HU13 := Aside0.mk ho
      have HC13 := Aside0.mk (Kd.R_over' HC12.out (Kd.R_typed HU12.out) (by decide) hg)
      have HR13 := Aside0.mk (Kd.R_over' HR12.out (Kd.R_typed HU12.out) (by decide) hg)
      have HK613 := Aside0.mk (blk_grown HK612.out hg (Kd.R_ne HU12.out HK612.out (by decide)))
      have HK1113 := Aside0.mk (blk_grown HK1112.out hg (Kd.R_ne HU12.out HK1112.out (by decide)))
      have c13 : w13.cell? ⟨g11, 0, none⟩ = some u := (blk_cell HK1113.out 0).trans rfl
      have f13 : w13.frozen? ⟨g11, 0, none⟩ = false := blk_frozen HK1113.out 0
      obtain ⟨Av, cv, hv⟩ := Kd.R_slice ho
      have hv1 : v13.oneCell' = true := by rw [hv]; rfl
      have HV := Aside0.mk hv
      clear hb ho hg hat c0 HC12 HU12 HR12 HK612 HK1112 HB12 hv
      rw [show (us ++ [y]).length = us.length + 1 from by simp] at HV
      obtain rfl := HV.out
      clear HV hv1
      go_wp2_with fail
      have hi1 : wrap64 ((i : Int) + 1) = ((i + 1 : Nat) : Int) := IntWalk.wrap64_in _ (by omega)
      go_roundg (code.length - (i + 1))
      case measure => have := HI.out; omega
      case rel => exact ⟨i + 1, _, by go_num, ⟨by omega⟩, ⟨Kd.R_set HC13.out HK1113.out (by decide) 0 _⟩, ⟨by rw [HUS.out]; exact Kd.R_set HU13.out HK1113.out (by decide) 0 _⟩, ⟨Kd.R_set HR13.out HK1113.out (by decide) 0 _⟩, ⟨blk_far HK613.out HN6.out _⟩, ⟨blk_put HK1113.out 0 _ rfl⟩, ⟨below_set HB13.out HE11'.out⟩⟩
    · obtain rfl : i = code.length := by have := HI.out; omega
      rw [List.take_length] at HU9
      have HO1 := Aside0.mk (show (objCells u (.slice A3 1 c3)).all (·.oneCell') = true from by obtain ⟨Au, cu, hu⟩ := Kd.R_slice HU9.out; rw [hu]; simp [objCells, Value.oneCell'])
      go_wp2_with (first | ((with_reducible refine gate_dst (N := 65) rfl ?_); refine wpList_load_row (by rfl) 35 _ (by rfl) g11 (by rfl) 35 (objCells u (.slice A3 1 c3)) (0, 0) _ HK119.out Tryd.underlying35 rfl (by kernel_rfl) ?_) | (refine store_event (by rfl) (ty := 35) (by rfl) g6 35 noCells (objCells u (.slice A3 1 c3)) (by rfl) (by rfl) HK69.out (by kernel_rfl) rfl (HO1.out) ?_; intro w14 hs14; have HS14 := Aside0.mk hs14; clear hs14))
      refine bodyPost_ret (results_ct rfl _ _ g6 35 (objCells u (.slice A3 1 c3)) (0, 0) _ rfl HS14.out.at_ Tryd.underlying35 rfl (by kernel_rfl)) rfl ?_
      exact ⟨u, _, rfl, by rw [HWD.out]; exact HS14.out.row HU9.out HK69.out (by decide), by rw [HRL.out]; exact HS14.out.row HR9.out HK69.out (by decide), HS14.out.below HB9.out HE6.out⟩
end Go.Proofs.YtaoajlaocphgdaaDoor.PA
end
section
namespace Go.Proofs.YtaoajlaocphgdaaDoor.PA
open Go.RowKit Go.Proofs.YtaoajlaocphgdaaDoorW.PrintWords Go.Proofs.YtaoajlaocphgdaaDoorW.PrintLast Go.Proofs.YtaoajlaocphgdaaDoorW.PrintMore
set_option linter.unusedVariables false
set_option linter.unusedSimpArgs false
abbrev InsS := S43
def HasW (x : InsS) : Prop := ∃ (op rd rs1 rs2 : Nat) (imm : Int) (w : Nat), x = ⟨(op : Int), (rd : Int), (rs1 : Int), (rs2 : Int), imm⟩ ∧ Both op rd rs1 rs2 imm w
theorem hasI (op rd rs1 : Nat) (imm : Int) (hop : op < 43) (hf : fm op = .I) (hs : shiftN op = false) (hu : uniqN op = true) (b1 : rd < 32) (b2 : rs1 < 32) (hi : -2048 ≤ imm ∧ imm ≤ 2047) : HasW ⟨(op : Int), (rd : Int), (rs1 : Int), ((0 : Nat) : Int), imm⟩ :=
  ⟨op, rd, rs1, 0, imm, _, rfl, both_I op rd rs1 imm hop hf hs hu b1 b2 hi⟩
theorem hasB (op rs1 rs2 : Nat) (imm : Int) (h : op = 33 ∨ op = 36 ∨ op = 37) (b1 : rs1 < 32) (b2 : rs2 < 32) (hi : -4096 ≤ imm ∧ imm ≤ 4094) (h2 : imm % 2 = 0) : HasW ⟨(op : Int), ((0 : Nat) : Int), (rs1 : Int), (rs2 : Int), imm⟩ := by
  rcases h with rfl | rfl | rfl
  · exact ⟨33, 0, rs1, rs2, imm, _, rfl, both_B 33 rs1 rs2 imm (by decide) rfl rfl (by decide +kernel) b1 b2 hi h2⟩
  · exact ⟨36, 0, rs1, rs2, imm, _, rfl, both_B 36 rs1 rs2 imm (by decide) rfl rfl (by decide +kernel) b1 b2 hi h2⟩
  · exact ⟨37, 0, rs1, rs2, imm, _, rfl, both_B 37 rs1 rs2 imm (by decide) rfl rfl (by decide +kernel) b1 b2 hi h2⟩
theorem hasJ (rd : Nat) (imm : Int) (b1 : rd < 32) (hi : -1048576 ≤ imm ∧ imm ≤ 1048574) (h2 : imm % 2 = 0) : HasW ⟨((40 : Nat) : Int), (rd : Int), ((0 : Nat) : Int), ((0 : Nat) : Int), imm⟩ :=
  ⟨40, rd, 0, 0, imm, _, rfl, both_J 40 rd imm (by decide) rfl rfl (by decide +kernel) b1 hi h2⟩
theorem hasU (rd : Nat) (imm : Int) (b1 : rd < 32) (hi : -2147483648 ≤ imm ∧ imm ≤ 2147483647) (h2 : imm % 4096 = 0) : HasW ⟨((38 : Nat) : Int), (rd : Int), ((0 : Nat) : Int), ((0 : Nat) : Int), imm⟩ :=
  ⟨38, rd, 0, 0, imm, _, rfl, both_U 38 rd imm (by decide) rfl rfl (by decide +kernel) b1 hi h2⟩
theorem hasS (rs1 rs2 : Nat) (imm : Int) (b2 : rs1 < 32) (b3 : rs2 < 32) (hi : -2048 ≤ imm ∧ imm ≤ 2047) : HasW ⟨((31 : Nat) : Int), ((0 : Nat) : Int), (rs1 : Int), (rs2 : Int), imm⟩ :=
  ⟨31, 0, rs1, rs2, imm, _, rfl, both_S 31 rs1 rs2 imm (by decide) rfl rfl (by decide +kernel) b2 b3 hi⟩
theorem hasE : HasW ⟨((42 : Nat) : Int), ((0 : Nat) : Int), ((0 : Nat) : Int), ((0 : Nat) : Int), 0⟩ := ⟨42, 0, 0, 0, 0, _, rfl, both_E⟩
theorem sg_range (v : Int) (h : 0 ≤ v) : -2048 ≤ sg v ∧ sg v ≤ 2047 := by
  obtain ⟨n, rfl⟩ := Int.eq_ofNat_of_zero_le h
  have h1 := sign_some (n : Int)
  have h2 := sign_f n 12 (by decide) (by decide)
  have h3 : sg (n : Int) = sgn n 12 := Option.some.inj (h1.symm.trans h2)
  rw [h3]
  have hm : n % 2 ^ 12 < 2 ^ 12 := Nat.mod_lt _ (by decide)
  unfold sgn
  rw [show (2 : Nat) ^ 12 = 4096 from rfl, show (2 : Nat) ^ (12 - 1) = 2048 from rfl] at *
  split <;> omega
theorem num_has (d : Nat) (hd : d < 32) (v : Int) (h : 0 ≤ v ∧ v ≤ 1073741824) : HasW ⟨38, (d : Int), 0, 0, (v + 2048) / 4096 * 4096⟩ ∧ HasW ⟨16, (d : Int), (d : Int), 0, sg v⟩ :=
  ⟨hasU d _ hd (by omega) (by omega), hasI 16 d d (sg v) (by decide) rfl rfl (by decide +kernel) hd hd (sg_range v h.1)⟩
inductive Chk : InsP → Prop
  | none (x : InsS) : (x.f0 = 16 ∨ x.f0 = 21 ∨ x.f0 = 38) → HasW x → Chk (x, 0)
  | br (op rs1 rs2 : Nat) (t : Int) : (op = 33 ∨ op = 36 ∨ op = 37) → rs1 < 32 → rs2 < 32 → (t = 1 ∨ t = 3) → Chk (⟨(op : Int), ((0 : Nat) : Int), (rs1 : Int), (rs2 : Int), 0⟩, t)
  | jl : Chk (⟨40, 0, 0, 0, 0⟩, 1)
theorem chk_num (d : Nat) (hd : d < 32) (v : Int) (h : 0 ≤ v ∧ v ≤ 1073741824) : ∀ x ∈ num (d : Int) v, Chk x := by
  intro x hx
  obtain ⟨h1, h2⟩ := num_has d hd v h
  simp only [num, noneGo, numIns, List.map_cons, List.map_nil, List.mem_cons, List.not_mem_nil, or_false] at hx
  rcases hx with rfl | rfl
  · exact .none _ (Or.inr (Or.inr rfl)) h1
  · exact .none _ (Or.inl rfl) h2
theorem chk_back (l : LayV) (hO : LayOk l) : ∀ x ∈ backP l, Chk x := by
  intro x hx
  unfold backP at hx
  simp only [List.mem_append, List.mem_singleton] at hx
  rcases hx with hx | rfl | hx | rfl | hx | rfl
  · exact chk_num 5 (by decide) _ hO.h16 x hx
  · exact .br 36 1 5 3 (by decide) (by decide) (by decide) (Or.inr rfl)
  · exact chk_num 5 (by decide) _ hO.h17 x hx
  · exact .br 37 1 5 3 (by decide) (by decide) (by decide) (Or.inr rfl)
  · simp only [noneGo, List.map_cons, List.map_nil, List.mem_singleton] at hx
    subst hx
    exact .none _ (Or.inr (Or.inl rfl)) (hasI 21 5 1 3 (by decide) rfl rfl (by decide +kernel) (by decide) (by decide) (by decide))
  · exact .br 33 5 0 3 (by decide) (by decide) (by decide) (Or.inr rfl)
theorem chk_ptr (l : LayV) (hO : LayOk l) (r : Nat) (hr : r < 32) (n : Int) (hn : 0 ≤ n ∧ n ≤ 64) : ∀ x ∈ ptrP l (r : Int) n, Chk x := by
  intro x hx
  have o12 := hO.h12
  have o13 := hO.h13
  unfold ptrP at hx
  split at hx
  · simp only [List.mem_singleton] at hx
    subst hx
    exact .jl
  · simp only [List.mem_append, List.mem_singleton] at hx
    rcases hx with hx | rfl | hx | rfl | hx | rfl
    · simp only [noneGo, List.map_cons, List.map_nil, List.mem_singleton] at hx
      subst hx
      exact .none _ (Or.inr (Or.inl rfl)) (hasI 21 5 r 7 (by decide) rfl rfl (by decide +kernel) (by decide) hr (by decide))
    · exact .br 33 5 0 1 (by decide) (by decide) (by decide) (Or.inl rfl)
    · exact chk_num 5 (by decide) _ hO.h12 x hx
    · exact .br 36 r 5 1 (by decide) hr (by decide) (Or.inl rfl)
    · exact chk_num 5 (by decide) _ (by omega) x hx
    · exact .br 36 5 r 1 (by decide) (by decide) hr (Or.inl rfl)
theorem chk_params (l : LayV) (hO : LayOk l) (ps : List Int) (hps : ∀ n ∈ ps, 0 ≤ n ∧ n ≤ 64) : ∀ i : Nat, 10 + i + ps.length ≤ 31 → ∀ x ∈ paramsP l ps (i : Int), Chk x := by
  induction ps with
  | nil => intro i _ x hx; cases hx
  | cons n r ih =>
    intro i hi x hx
    rw [List.length_cons] at hi
    simp only [paramsP, List.mem_append] at hx
    rcases hx with hx | hx
    · split at hx
      · exact chk_ptr l hO (10 + i) (by omega) n (hps n List.mem_cons_self) x (by rw [show ((10 + i : Nat) : Int) = 10 + (i : Int) from by omega]; exact hx)
      · cases hx
    · exact ih (fun m hm => hps m (List.mem_cons_of_mem _ hm)) (i + 1) (by omega) x (by rw [show ((i + 1 : Nat) : Int) = (i : Int) + 1 from by omega]; exact hx)
theorem chk_all (l : LayV) (hO : LayOk l) (ps : List Int) (h6 : ps.length ≤ 6) (hps : ∀ n ∈ ps, 0 ≤ n ∧ n ≤ 64) : ∀ x ∈ checksP l ps, Chk x := by
  intro x hx
  unfold checksP at hx
  rcases List.mem_append.1 hx with hx | hx
  · exact chk_back l hO x hx
  · exact chk_params l hO ps hps 0 (by omega) x hx
def restP (l : LayV) : List InsP := [(⟨38, 5, 0, 0, (l.a5 - 16 + 2048) / 4096 * 4096⟩, 0), (⟨16, 5, 5, 0, sg (l.a5 - 16)⟩, 0), (⟨31, 0, 5, 1, 0⟩, 0), (⟨31, 0, 5, 2, 8⟩, 0), (⟨38, 2, 0, 0, (l.a9 + 2048) / 4096 * 4096⟩, 0), (⟨16, 2, 2, 0, sg (l.a9)⟩, 0), (⟨40, 1, 0, 0, 0⟩, 0), (⟨38, 5, 0, 0, (l.a5 - 16 + 2048) / 4096 * 4096⟩, 0), (⟨16, 5, 5, 0, sg (l.a5 - 16)⟩, 0), (⟨28, 1, 5, 0, 0⟩, 0), (⟨28, 2, 5, 0, 8⟩, 0), (⟨16, 11, 0, 0, 0⟩, 0), (⟨16, 5, 0, 0, 0⟩, 0), (⟨16, 6, 0, 0, 0⟩, 0), (⟨16, 7, 0, 0, 0⟩, 0), (⟨16, 12, 0, 0, 0⟩, 0), (⟨16, 13, 0, 0, 0⟩, 0), (⟨16, 14, 0, 0, 0⟩, 0), (⟨16, 15, 0, 0, 0⟩, 0), (⟨16, 16, 0, 0, 0⟩, 0), (⟨16, 17, 0, 0, 0⟩, 0), (⟨16, 28, 0, 0, 0⟩, 0), (⟨16, 29, 0, 0, 0⟩, 0), (⟨16, 30, 0, 0, 0⟩, 0), (⟨16, 31, 0, 0, 0⟩, 0), (⟨41, 0, 1, 0, 0⟩, 0), (⟨16, 10, 0, 0, 0⟩, 0), (⟨16, 11, 0, 0, 1⟩, 0), (⟨40, 0, 0, 0, 0⟩, 2), (⟨42, 0, 0, 0, 0⟩, 0)]
theorem all_split (l : LayV) (ps : List Int) : allP l ps = checksP l ps ++ restP l := by
  simp only [allP, noP, leftP, midP, preP, List.append_assoc]
  rfl
theorem pre_len (l : LayV) (ps : List Int) : (preP l ps).length = (checksP l ps).length + 6 := by
  simp only [preP, List.length_append, num_length, noneGo_length, List.length_cons, List.length_nil]
theorem place2 (l : LayV) (ps : List Int) : placeOf l ps 2 = (((checksP l ps).length + 12 : Nat) : Int) := by
  show ((midP l ps).length : Int) = _
  simp only [midP, List.length_append, num_length, noneGo_length, List.length_cons, List.length_nil, pre_len]
theorem place1 (l : LayV) (ps : List Int) : placeOf l ps 1 = (((checksP l ps).length + 26 : Nat) : Int) := by
  show ((leftP l ps).length : Int) = _
  simp only [leftP, midP, List.length_append, num_length, noneGo_length, clean_length, List.length_cons, List.length_nil, pre_len]
theorem place3 (l : LayV) (ps : List Int) : placeOf l ps 3 = (((checksP l ps).length + 29 : Nat) : Int) := by
  show ((noP l ps).length : Int) = _
  simp only [noP, leftP, midP, List.length_append, num_length, noneGo_length, clean_length, List.length_cons, List.length_nil, pre_len]
theorem all_len (l : LayV) (ps : List Int) : (codeL ps l).length = (checksP l ps).length + 30 := by
  rw [code_length, all_split, List.length_append]
  rfl
inductive LeafK (c i : Nat) (x : InsS) : Prop
  | plain : (x.f0 = 16 ∨ x.f0 = 21 ∨ x.f0 = 38 ∨ x.f0 = 42) → i ≠ c + 25 → LeafK c i x
  | branch (q : Int) : (x.f0 = 33 ∨ x.f0 = 36 ∨ x.f0 = 37) → i ≠ c + 6 → i ≠ c + 25 → x.f4 = 4 * q → 0 < q → (i : Int) + q < c + 30 → LeafK c i x
  | call : x.f0 = 40 → i = c + 6 → x.f4 = 0 → LeafK c i x
  | jump (q : Int) : x.f0 = 40 → i ≠ c + 6 → i ≠ c + 25 → x.f4 = 4 * q → 0 ≤ (i : Int) + q → (i : Int) + q < c + 30 → LeafK c i x
  | store : x.f0 = 31 → i ≠ c + 25 → x.f2 = 5 → (x.f4 = 0 ∨ x.f4 = 8) → LeafK c i x
  | load : x.f0 = 28 → i ≠ c + 25 → x.f2 = 5 → (x.f4 = 0 ∨ x.f4 = 8) → LeafK c i x
  | back : x.f0 = 41 → i = c + 25 → x.f2 = 1 → x.f1 = 0 → x.f4 = 0 → LeafK c i x
theorem leaf_chk (l : LayV) (hO : LayOk l) (ps : List Int) (h6 : ps.length ≤ 6) (hps : ∀ n ∈ ps, 0 ≤ n ∧ n ≤ 64) (i : Nat) (hi : i < (checksP l ps).length) :
    ∃ x, (codeL ps l)[i]? = some x ∧ HasW x ∧ LeafK (checksP l ps).length i x := by
  obtain ⟨c, hc⟩ : ∃ c, c = (checksP l ps).length := ⟨_, rfl⟩
  have hc6 := checks_length l ps h6
  rw [← hc] at hi hc6 ⊢
  obtain ⟨y, hy⟩ : ∃ y, (checksP l ps)[i]? = some y := ⟨_, List.getElem?_eq_getElem (by omega)⟩
  have hk := chk_all l hO ps h6 hps y (List.mem_of_getElem? hy)
  have hg : (codeL ps l)[i]? = some (patchI (placeOf l ps) (0 + (i : Int)) y) := by
    rw [codeL, finalL_get, all_split, List.getElem?_append_left (by omega), hy]
    rfl
  refine ⟨_, hg, ?_⟩
  have p1 := place1 l ps
  have p3 := place3 l ps
  rw [← hc] at p1 p3
  cases hk with
  | none x h hw => exact ⟨hw, .plain (by rcases h with h | h | h; exact Or.inl h; exact Or.inr (Or.inl h); exact Or.inr (Or.inr (Or.inl h))) (by omega)⟩
  | br op rs1 rs2 t h b1 b2 ht =>
    have hq : ∃ q : Int, placeOf l ps t - (0 + (i : Int)) = q ∧ 0 < q ∧ (i : Int) + q < (c : Int) + 30 ∧ q ≤ 100 := by
      rcases ht with rfl | rfl
      · exact ⟨_, rfl, by rw [p1]; omega, by rw [p1]; omega, by rw [p1]; omega⟩
      · exact ⟨_, rfl, by rw [p3]; omega, by rw [p3]; omega, by rw [p3]; omega⟩
    obtain ⟨q, e, q0, q1, q2⟩ := hq
    have hp : patchI (placeOf l ps) (0 + (i : Int)) (⟨(op : Int), ((0 : Nat) : Int), (rs1 : Int), (rs2 : Int), 0⟩, t) = ⟨(op : Int), ((0 : Nat) : Int), (rs1 : Int), (rs2 : Int), 4 * q⟩ := by
      unfold patchI
      rw [if_neg (by rcases ht with rfl | rfl <;> (dsimp only; decide))]
      dsimp only
      rw [e]
    rw [hp]
    exact ⟨hasB op rs1 rs2 (4 * q) h b1 b2 (by omega) (by omega), .branch q (by rcases h with rfl | rfl | rfl; exact Or.inl rfl; exact Or.inr (Or.inl rfl); exact Or.inr (Or.inr rfl)) (by omega) (by omega) rfl q0 q1⟩
  | jl =>
    have hp : patchI (placeOf l ps) (0 + (i : Int)) (⟨40, 0, 0, 0, 0⟩, 1) = ⟨((40 : Nat) : Int), ((0 : Nat) : Int), ((0 : Nat) : Int), ((0 : Nat) : Int), 4 * ((c : Int) + 26 - i)⟩ := by
      unfold patchI
      rw [if_neg (by decide)]
      dsimp only
      rw [p1]
      congr 1
      omega
    rw [hp]
    exact ⟨hasJ 0 _ (by decide) (by omega) (by omega), .jump ((c : Int) + 26 - i) rfl (by omega) (by omega) rfl (by omega) (by omega)⟩
theorem leaf_rest (l : LayV) (hO : LayOk l) (ps : List Int) (j : Nat) (hj : j < 30) :
    ∃ x, (codeL ps l)[(checksP l ps).length + j]? = some x ∧ HasW x ∧ LeafK (checksP l ps).length ((checksP l ps).length + j) x := by
  obtain ⟨c, hc⟩ : ∃ c, c = (checksP l ps).length := ⟨_, rfl⟩
  rw [← hc]
  have o5 := hO.h5
  have hg : ∀ y, (restP l)[j]? = some y → (codeL ps l)[c + j]? = some (patchI (placeOf l ps) (0 + ((c + j : Nat) : Int)) y) := by
    intro y hy
    rw [codeL, finalL_get, all_split, List.getElem?_append_right (by omega), show c + j - (checksP l ps).length = j from by omega, hy]
    rfl
  have p2 := place2 l ps
  rw [← hc] at p2
  have hcase : j = 0 ∨ j = 1 ∨ j = 2 ∨ j = 3 ∨ j = 4 ∨ j = 5 ∨ j = 6 ∨ j = 7 ∨ j = 8 ∨ j = 9 ∨ j = 10 ∨ j = 11 ∨ j = 12 ∨ j = 13 ∨ j = 14 ∨ j = 15 ∨ j = 16 ∨ j = 17 ∨ j = 18 ∨ j = 19 ∨ j = 20 ∨ j = 21 ∨ j = 22 ∨ j = 23 ∨ j = 24 ∨ j = 25 ∨ j = 26 ∨ j = 27 ∨ j = 28 ∨ j = 29 := by omega
  rcases hcase with rfl | rfl | rfl | rfl | rfl | rfl | rfl | rfl | rfl | rfl | rfl | rfl | rfl | rfl | rfl | rfl | rfl | rfl | rfl | rfl | rfl | rfl | rfl | rfl | rfl | rfl | rfl | rfl | rfl | rfl
  · exact ⟨_, hg _ rfl, (num_has 5 (by decide) (l.a5 - 16) (by omega)).1, .plain (Or.inr (Or.inr (Or.inl rfl))) (by omega)⟩
  · exact ⟨_, hg _ rfl, (num_has 5 (by decide) (l.a5 - 16) (by omega)).2, .plain (Or.inl rfl) (by omega)⟩
  · exact ⟨_, hg _ rfl, hasS 5 1 0 (by decide) (by decide) (by decide), .store rfl (by omega) rfl (Or.inl rfl)⟩
  · exact ⟨_, hg _ rfl, hasS 5 2 8 (by decide) (by decide) (by decide), .store rfl (by omega) rfl (Or.inr rfl)⟩
  · exact ⟨_, hg _ rfl, (num_has 2 (by decide) (l.a9) hO.h9).1, .plain (Or.inr (Or.inr (Or.inl rfl))) (by omega)⟩
  · exact ⟨_, hg _ rfl, (num_has 2 (by decide) (l.a9) hO.h9).2, .plain (Or.inl rfl) (by omega)⟩
  · exact ⟨_, hg _ rfl, hasJ 1 0 (by decide) (by decide) (by decide), .call rfl rfl rfl⟩
  · exact ⟨_, hg _ rfl, (num_has 5 (by decide) (l.a5 - 16) (by omega)).1, .plain (Or.inr (Or.inr (Or.inl rfl))) (by omega)⟩
  · exact ⟨_, hg _ rfl, (num_has 5 (by decide) (l.a5 - 16) (by omega)).2, .plain (Or.inl rfl) (by omega)⟩
  · exact ⟨_, hg _ rfl, hasI 28 1 5 0 (by decide) rfl rfl (by decide +kernel) (by decide) (by decide) (by decide), .load rfl (by omega) rfl (Or.inl rfl)⟩
  · exact ⟨_, hg _ rfl, hasI 28 2 5 8 (by decide) rfl rfl (by decide +kernel) (by decide) (by decide) (by decide), .load rfl (by omega) rfl (Or.inr rfl)⟩
  · exact ⟨_, hg _ rfl, hasI 16 11 0 0 (by decide) rfl rfl (by decide +kernel) (by decide) (by decide) (by decide), .plain (Or.inl rfl) (by omega)⟩
  · exact ⟨_, hg _ rfl, hasI 16 5 0 0 (by decide) rfl rfl (by decide +kernel) (by decide) (by decide) (by decide), .plain (Or.inl rfl) (by omega)⟩
  · exact ⟨_, hg _ rfl, hasI 16 6 0 0 (by decide) rfl rfl (by decide +kernel) (by decide) (by decide) (by decide), .plain (Or.inl rfl) (by omega)⟩
  · exact ⟨_, hg _ rfl, hasI 16 7 0 0 (by decide) rfl rfl (by decide +kernel) (by decide) (by decide) (by decide), .plain (Or.inl rfl) (by omega)⟩
  · exact ⟨_, hg _ rfl, hasI 16 12 0 0 (by decide) rfl rfl (by decide +kernel) (by decide) (by decide) (by decide), .plain (Or.inl rfl) (by omega)⟩
  · exact ⟨_, hg _ rfl, hasI 16 13 0 0 (by decide) rfl rfl (by decide +kernel) (by decide) (by decide) (by decide), .plain (Or.inl rfl) (by omega)⟩
  · exact ⟨_, hg _ rfl, hasI 16 14 0 0 (by decide) rfl rfl (by decide +kernel) (by decide) (by decide) (by decide), .plain (Or.inl rfl) (by omega)⟩
  · exact ⟨_, hg _ rfl, hasI 16 15 0 0 (by decide) rfl rfl (by decide +kernel) (by decide) (by decide) (by decide), .plain (Or.inl rfl) (by omega)⟩
  · exact ⟨_, hg _ rfl, hasI 16 16 0 0 (by decide) rfl rfl (by decide +kernel) (by decide) (by decide) (by decide), .plain (Or.inl rfl) (by omega)⟩
  · exact ⟨_, hg _ rfl, hasI 16 17 0 0 (by decide) rfl rfl (by decide +kernel) (by decide) (by decide) (by decide), .plain (Or.inl rfl) (by omega)⟩
  · exact ⟨_, hg _ rfl, hasI 16 28 0 0 (by decide) rfl rfl (by decide +kernel) (by decide) (by decide) (by decide), .plain (Or.inl rfl) (by omega)⟩
  · exact ⟨_, hg _ rfl, hasI 16 29 0 0 (by decide) rfl rfl (by decide +kernel) (by decide) (by decide) (by decide), .plain (Or.inl rfl) (by omega)⟩
  · exact ⟨_, hg _ rfl, hasI 16 30 0 0 (by decide) rfl rfl (by decide +kernel) (by decide) (by decide) (by decide), .plain (Or.inl rfl) (by omega)⟩
  · exact ⟨_, hg _ rfl, hasI 16 31 0 0 (by decide) rfl rfl (by decide +kernel) (by decide) (by decide) (by decide), .plain (Or.inl rfl) (by omega)⟩
  · exact ⟨_, hg _ rfl, hasI 41 0 1 0 (by decide) rfl rfl (by decide +kernel) (by decide) (by decide) (by decide), .back rfl rfl rfl rfl rfl⟩
  · exact ⟨_, hg _ rfl, hasI 16 10 0 0 (by decide) rfl rfl (by decide +kernel) (by decide) (by decide) (by decide), .plain (Or.inl rfl) (by omega)⟩
  · exact ⟨_, hg _ rfl, hasI 16 11 0 1 (by decide) rfl rfl (by decide +kernel) (by decide) (by decide) (by decide), .plain (Or.inl rfl) (by omega)⟩
  · have hp : patchI (placeOf l ps) (0 + ((c + 28 : Nat) : Int)) (⟨40, 0, 0, 0, 0⟩, 2) = ⟨((40 : Nat) : Int), ((0 : Nat) : Int), ((0 : Nat) : Int), ((0 : Nat) : Int), 4 * (-16)⟩ := by
      unfold patchI
      rw [if_neg (by decide)]
      dsimp only
      rw [p2]
      congr 1
      omega
    refine ⟨_, hg _ rfl, ?_⟩
    rw [hp]
    exact ⟨hasJ 0 _ (by decide) (by decide) (by decide), .jump (-16) rfl (by omega) (by omega) rfl (by omega) (by omega)⟩
  · exact ⟨_, hg _ rfl, hasE, .plain (Or.inr (Or.inr (Or.inr rfl))) (by omega)⟩
theorem leaf_at (l : LayV) (hO : LayOk l) (ps : List Int) (h6 : ps.length ≤ 6) (hps : ∀ n ∈ ps, 0 ≤ n ∧ n ≤ 64) (i : Nat) (hi : i < (checksP l ps).length + 30) :
    ∃ x, (codeL ps l)[i]? = some x ∧ HasW x ∧ LeafK (checksP l ps).length i x := by
  by_cases h : i < (checksP l ps).length
  · exact leaf_chk l hO ps h6 hps i h
  · obtain ⟨j, rfl⟩ : ∃ j, i = (checksP l ps).length + j := ⟨i - (checksP l ps).length, by omega⟩
    exact leaf_rest l hO ps j (by omega)
theorem HasW.all {x : InsS} (h : HasW x) : ∃ w : Nat, encP x = ((w : Int), 0) ∧ w < 4294967296 ∧ (∀ k, caponierref02_Encode.f (k + 100) x.f0 x.f1 x.f2 x.f3 x.f4 = some ((w : Int), 0)) ∧ (∀ k, caponierref02_Decode.f (k + 200) (w : Int) = some (x.f0, x.f1, x.f2, x.f3, x.f4, 0)) := by
  obtain ⟨op, rd, rs1, rs2, imm, w, rfl, hb⟩ := h
  refine ⟨w, ?_, hb.lt, hb.enc, hb.dec⟩
  unfold encP
  rw [show ins_Encode.f 20 (op : Int) (rd : Int) (rs1 : Int) (rs2 : Int) imm = _ from hb.prog 10]
  rfl
end Go.Proofs.YtaoajlaocphgdaaDoor.PA
end
section
namespace Go.Proofs.YtaoajlaocphgdaaDoor.PA
open Go.RowKit Go.Proofs.YtaoajlaocphgdaaDoorW.PrintWords Go.Proofs.YtaoajlaocphgdaaDoorW.PrintLast Go.Proofs.YtaoajlaocphgdaaDoorW.PrintMore
set_option linter.unusedVariables false
set_option linter.unusedSimpArgs false
def markI (x : InsP) : InsS := if x.2 = 0 then x.1 else { x.1 with f4 := if x.2 = 3 then -2 else if x.2 = 2 then -64 else -1 }
theorem mark_none (xs : List InsS) : (noneGo xs).map markI = xs := by
  unfold noneGo
  rw [List.map_map]
  have : (markI ∘ fun x : InsS => (x, (0 : Int))) = id := by funext x; rfl
  rw [this, List.map_id]
theorem rnum_f (k : Nat) (hk : 67 < k) (d v : Int) (h : 0 ≤ v ∧ v ≤ 1073741824) : caponierref19_number.f k d v = some (numIns d v (sg v)) := by
  obtain ⟨n, rfl⟩ := Int.eq_ofNat_of_zero_le h.1
  have h1 := sign_some (n : Int)
  have h2 := sign_f n 12 (by decide) (by decide)
  have h3 : sg (n : Int) = sgn n 12 := Option.some.inj (h1.symm.trans h2)
  have e1 : Int.tmod (n : Int) 4096 = ((n % 4096 : Nat) : Int) := by rw [Int.tmod_eq_emod_of_nonneg (by omega)]; rfl
  have hs : caponierref01_Sign.f k ((n % 4096 : Nat) : Int) 12 = some (sgn n 12) := by
    have := rsign_f k (n % 4096) 12 hk (by decide) (by decide)
    rw [show (4096 : Nat) = 2 ^ 12 from rfl, sgn_mod] at this
    exact this
  have e2 : IntKind.u64.wrap ((n : Int) + 2048) = (n : Int) + 2048 := IntWalk.u64_in _ (by omega)
  have e3 : Int.tmod ((n : Int) + 2048) 4096 = ((n : Int) + 2048) % 4096 := Int.tmod_eq_emod_of_nonneg (by omega)
  have e4 : IntKind.u64.wrap ((n : Int) + 2048 - ((n : Int) + 2048) % 4096) = (n : Int) + 2048 - ((n : Int) + 2048) % 4096 := IntWalk.u64_in _ (by omega)
  unfold caponierref19_number.f numIns
  rw [e1, hs, Option.bind_some, e2, e3, e4, IntWalk.wrap64_in _ (by omega), h3, show (n : Int) + 2048 - ((n : Int) + 2048) % 4096 = ((n : Int) + 2048) / 4096 * 4096 from by omega]
theorem rpts_f (k : Nat) (hk : 67 < k) (l : LayV) (hO : LayOk l) (r n : Int) (hn : 0 ≤ n ∧ n ≤ 64) :
    caponierref19_points.f k r n l.a0 l.a1 l.a2 l.a3 l.a4 l.a5 l.a6 l.a7 l.a8 l.a9 l.a10 l.a11 l.a12 l.a13 l.a14 l.a15 l.a16 l.a17 l.a18 l.a19 = some ((ptrP l r n).map markI) := by
  have o12 := hO.h12
  have o13 := hO.h13
  have w1 : IntKind.u64.wrap n = n := IntWalk.u64_in _ (by omega)
  have w2 : IntKind.u64.wrap (8 * n) = 8 * n := IntWalk.u64_in _ (by omega)
  have w3 : IntKind.u64.wrap (l.a12 + 8 * n) = l.a12 + 8 * n := IntWalk.u64_in _ (by omega)
  unfold caponierref19_points.f ptrP
  rw [w1, w2, w3]
  by_cases hc : l.a12 + 8 * n > l.a13
  · rw [if_pos hc, if_pos (by omega)]
    rfl
  · have w4 : IntKind.u64.wrap (l.a13 - 8 * n) = l.a13 - 8 * n := IntWalk.u64_in _ (by omega)
    rw [if_neg hc, if_neg (by omega), w4, Option.bind_some, rnum_f k hk 5 l.a12 hO.h12, Option.bind_some, if_pos (by simp [numIns]), Option.bind_some, if_pos (by simp [numIns]), Option.bind_some, rnum_f k hk 5 (l.a13 - 8 * n) (by omega), Option.bind_some, if_pos (by simp [numIns]), Option.bind_some, if_pos (by simp [numIns])]
    simp only [num, List.map_append, mark_none]
    rfl
def rawL (l : LayV) (ps : List Int) : List InsS := (allP l ps).map markI
def rawChk (l : LayV) (ps : List Int) : List InsS := (backP l).map markI ++ (paramsP l ps 0).map markI
theorem rawChk_eq (l : LayV) (ps : List Int) : rawChk l ps = (checksP l ps).map markI := by unfold rawChk checksP; rw [List.map_append]
theorem rawChk_snoc (l : LayV) (ps : List Int) (k : Nat) (n : Int) (h : ps[k]? = some n) : rawChk l (ps.take (k + 1)) = rawChk l (ps.take k) ++ (if n > 0 then (ptrP l (10 + (k : Int)) n).map markI else []) := by
  have hlt := (List.getElem?_eq_some_iff.1 h).1
  have ht : ps.take (k + 1) = ps.take k ++ [n] := by
    rw [List.take_succ_eq_append_getElem hlt]
    rw [List.getElem?_eq_getElem hlt] at h
    rw [Option.some.inj h]
  unfold rawChk
  rw [ht, paramsP_snoc, List.length_take, Nat.min_eq_left (by omega), List.map_append, List.append_assoc, Int.zero_add]
  split <;> rfl
theorem rawChk_len (l : LayV) (ps : List Int) (h : ps.length ≤ 6) : (rawChk l ps).length ≤ 56 := by rw [rawChk_eq, List.length_map]; exact checks_length l ps h
theorem raw_split (l : LayV) (ps : List Int) : rawL l ps = rawChk l ps ++ (restP l).map markI := by rw [rawL, all_split, List.map_append, rawChk_eq]
theorem set_same (xs : List InsS) (i : Nat) (x : InsS) (h : xs[i]? = some x) : xs.set i x = xs := by
  have hlt := (List.getElem?_eq_some_iff.1 h).1
  have hx := (List.getElem?_eq_some_iff.1 h).2
  rw [← hx]
  exact List.set_getElem_self hlt
def fillL (l : LayV) (ps : List Int) (i : Nat) : List InsS := (codeL ps l).take i ++ (rawL l ps).drop i
theorem raw_length (l : LayV) (ps : List Int) : (rawL l ps).length = (codeL ps l).length := by rw [rawL, List.length_map, code_length]
theorem fill_zero (l : LayV) (ps : List Int) : fillL l ps 0 = rawL l ps := by simp [fillL]
theorem fill_get (l : LayV) (ps : List Int) (i : Nat) (y : InsP) (h : (allP l ps)[i]? = some y) : (fillL l ps i)[i]? = some (markI y) := by
  have hlt := (List.getElem?_eq_some_iff.1 h).1
  have hc : i < (codeL ps l).length := by rw [code_length]; exact hlt
  unfold fillL
  rw [List.getElem?_append_right (by rw [List.length_take]; omega), List.length_take, Nat.min_eq_left (by omega), Nat.sub_self, List.getElem?_drop, Nat.add_zero, rawL, List.getElem?_map, h]
  rfl
theorem fill_succ (l : LayV) (ps : List Int) (i : Nat) (y : InsP) (h : (allP l ps)[i]? = some y) : fillL l ps (i + 1) = (fillL l ps i).set i (patchI (placeOf l ps) (i : Int) y) := by
  have hlt := (List.getElem?_eq_some_iff.1 h).1
  have hc : i < (codeL ps l).length := by rw [code_length]; exact hlt
  have hr : i < (rawL l ps).length := by rw [raw_length]; exact hc
  have hg : (codeL ps l)[i]'hc = patchI (placeOf l ps) (i : Int) y := by
    have : (codeL ps l)[i]? = some (patchI (placeOf l ps) (0 + (i : Int)) y) := by rw [codeL, finalL_get, h]; rfl
    rw [List.getElem?_eq_getElem hc, Int.zero_add] at this
    exact Option.some.inj this
  unfold fillL
  rw [List.take_succ_eq_append_getElem hc, hg, List.set_append_right _ _ (by rw [List.length_take]; omega), List.length_take, Nat.min_eq_left (by omega), Nat.sub_self, List.drop_eq_getElem_cons hr, List.set_cons_zero, List.append_assoc]
  rfl
theorem rest_same (l : LayV) (ps : List Int) : fillL l ps (checksP l ps).length = codeL ps l := by
  have p2 := place2 l ps
  apply List.ext_getElem?
  intro n
  have hrest : ∀ j, j < 30 → ∀ y, (restP l)[j]? = some y → markI y = patchI (placeOf l ps) (((checksP l ps).length + j : Nat) : Int) y := by
    intro j hj y hy
    have hj2 : j = 28 ∨ j ≠ 28 := by omega
    rcases hj2 with rfl | hne
    · obtain rfl := Option.some.inj (show some _ = some y from hy)
      have m1 : markI ((⟨40, 0, 0, 0, 0⟩ : InsS), 2) = ⟨40, 0, 0, 0, -64⟩ := rfl
      have m2 : patchI (placeOf l ps) (((checksP l ps).length + 28 : Nat) : Int) ((⟨40, 0, 0, 0, 0⟩ : InsS), 2) = ⟨40, 0, 0, 0, 4 * (placeOf l ps 2 - (((checksP l ps).length + 28 : Nat) : Int))⟩ := rfl
      rw [m1, m2, p2]
      congr 1
      omega
    · have h0 : y.2 = 0 := by
        have hall : ∀ j : Fin 30, j.val ≠ 28 → ((restP l)[j.val]?.map (·.2)) = some 0 := by
          intro j hj
          have : j.val = 0 ∨ j.val = 1 ∨ j.val = 2 ∨ j.val = 3 ∨ j.val = 4 ∨ j.val = 5 ∨ j.val = 6 ∨ j.val = 7 ∨ j.val = 8 ∨ j.val = 9 ∨ j.val = 10 ∨ j.val = 11 ∨ j.val = 12 ∨ j.val = 13 ∨ j.val = 14 ∨ j.val = 15 ∨ j.val = 16 ∨ j.val = 17 ∨ j.val = 18 ∨ j.val = 19 ∨ j.val = 20 ∨ j.val = 21 ∨ j.val = 22 ∨ j.val = 23 ∨ j.val = 24 ∨ j.val = 25 ∨ j.val = 26 ∨ j.val = 27 ∨ j.val = 29 := by omega
          rcases this with h | h | h | h | h | h | h | h | h | h | h | h | h | h | h | h | h | h | h | h | h | h | h | h | h | h | h | h | h <;> rw [h] <;> rfl
        have := hall ⟨j, hj⟩ hne
        rw [hy] at this
        exact Option.some.inj this
      unfold markI patchI
      rw [if_pos h0, if_pos h0]
  unfold fillL
  have hl := all_len l ps
  rw [List.getElem?_append, List.length_take, Nat.min_eq_left (by omega)]
  split
  · rename_i hlt
    rw [List.getElem?_take, if_pos hlt]
  · rename_i hge
    rw [List.getElem?_drop, show (checksP l ps).length + (n - (checksP l ps).length) = n from by omega, rawL, List.getElem?_map, codeL, finalL_get, all_split]
    by_cases hn : n < (checksP l ps).length + 30
    · have hx : (checksP l ps ++ restP l)[n]? = (restP l)[n - (checksP l ps).length]? := List.getElem?_append_right (by omega)
      rw [hx]
      obtain ⟨y, hy⟩ : ∃ y, (restP l)[n - (checksP l ps).length]? = some y := ⟨_, List.getElem?_eq_getElem (by show _ < 30; omega)⟩
      rw [hy, Option.map_some, Option.map_some, hrest _ (by omega) y hy, Int.zero_add, show (checksP l ps).length + (n - (checksP l ps).length) = n from by omega]
    · have hx : (checksP l ps ++ restP l)[n]? = none := List.getElem?_eq_none (by rw [List.length_append]; show _ + 30 ≤ n; omega)
      rw [hx]
      rfl
theorem chk_patch (l : LayV) (ps : List Int) (i : Nat) (y : InsP) (hy : Chk y) :
    (markI y = patchI (placeOf l ps) (i : Int) y ∧ ((markI y).f0 = 16 ∨ (markI y).f0 = 21 ∨ (markI y).f0 = 38)) ∨
    (((markI y).f0 = 33 ∨ (markI y).f0 = 36 ∨ (markI y).f0 = 37 ∨ (markI y).f0 = 40) ∧ (((markI y).f4 = -2 ∧ patchI (placeOf l ps) (i : Int) y = { markI y with f4 := 4 * (placeOf l ps 3 - (i : Int)) }) ∨ ((markI y).f4 = -1 ∧ patchI (placeOf l ps) (i : Int) y = { markI y with f4 := 4 * (placeOf l ps 1 - (i : Int)) }))) := by
  cases hy with
  | none x h hw => exact Or.inl ⟨rfl, h⟩
  | br op rs1 rs2 t h b1 b2 ht =>
    right
    have hop : (op : Int) = 33 ∨ (op : Int) = 36 ∨ (op : Int) = 37 := by omega
    rcases ht with rfl | rfl
    · refine ⟨?_, Or.inr ⟨rfl, rfl⟩⟩
      rcases hop with h | h | h
      · exact Or.inl h
      · exact Or.inr (Or.inl h)
      · exact Or.inr (Or.inr (Or.inl h))
    · refine ⟨?_, Or.inl ⟨rfl, rfl⟩⟩
      rcases hop with h | h | h
      · exact Or.inl h
      · exact Or.inr (Or.inl h)
      · exact Or.inr (Or.inr (Or.inl h))
  | jl => exact Or.inr ⟨Or.inr (Or.inr (Or.inr rfl)), Or.inr ⟨rfl, rfl⟩⟩
theorem row_imm {base : Nat} {w : World} {v : Value} {code : List InsS} (h : k43.R 43 w base (fun _ => True) v code) (at_ : Nat) (c : InsS) (hc : code[at_]? = some c) (n : Int) :
    ∃ gv cap cells, v = .slice (some ⟨gv, 0, none⟩) code.length cap ∧ w.cell? ⟨gv, at_ * 5, none⟩ = some (.int .i64 c.f0) ∧ w.cell? ⟨gv, at_ * 5 + 4, none⟩ = some (.int .i64 c.f4) ∧ w.frozen? ⟨gv, at_ * 5 + 4, none⟩ = false ∧ w.heap[gv]? = some (.cells cells 43 (0, 0)) ∧ base ≤ gv ∧
      k43.R 43 (w.setCell ⟨gv, at_ * 5 + 4, none⟩ (.int .i64 n)) base (fun _ => True) v (code.set at_ { c with f4 := n }) := by
  have hlt : at_ < code.length := (List.getElem?_eq_some_iff.1 hc).1
  obtain ⟨gv, cap, hv, hb, hl, cells, hcells⟩ := Kd.R_form h (by omega)
  subst hv
  obtain ⟨ad, cc, he, hcl, hK, hcc⟩ := Kd.C_get (Kd.R_reads' h).2.2 (⟨0, 0, 0, 0, 0⟩ : InsS) (at_ : Int) (by omega) (by omega)
  obtain rfl := Option.some.inj he
  have hg : code.getD (at_ : Int).toNat ⟨0, 0, 0, 0, 0⟩ = c := by rw [Int.toNat_natCast, List.getD_eq_getElem?_getD, hc]; rfl
  rw [hg] at hK
  have hcc2 : ∀ j u, cc[j]? = some u → w.cell? ⟨gv, (at_ : Int).toNat * k43.sz + j, none⟩ = some u := fun j u hu => by
    have := hcc j u hu
    rwa [add_plain] at this
  have hcs := k43_open hK
  subst hcs
  have h4 := hcc2 4 _ rfl
  have h0 := hcc2 0 _ rfl
  have hsz : k43.sz = 5 := rfl
  rw [Int.toNat_natCast, hsz] at h4 h0
  have hrow := (Kd.R_seg (okp := fun _ => False) h (at_ : Int) (by omega) (by omega) (c := _) (seg := [.int .i64 n]) (j := 4) hcl hcc2 (by rw [hsz]; exact Nat.le_refl 5) (x' := { c with f4 := n }) (k43_mkM w base (fun _ => False) { c with f4 := n }) (fun _ hk => hk.elim)).1
  rw [Int.toNat_natCast, hsz] at hrow
  exact ⟨gv, cap, cells, rfl, h0, h4, by simp [World.frozen?, hcells], hcells, hb, hrow⟩
end Go.Proofs.YtaoajlaocphgdaaDoor.PA
end
