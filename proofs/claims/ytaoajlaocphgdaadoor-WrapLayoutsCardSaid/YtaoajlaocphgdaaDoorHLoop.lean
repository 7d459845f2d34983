/-
The loop of wrap.wrapper that fills in how far each instruction goes: what one store does.
-/
import Derived.Test.YtaoajlaocphgdaaDoorHPatch
import Derived.Test.YtaoajlaocphgdaaDoorMapI
namespace Go.Proofs.YtaoajlaocphgdaaDoor.PA
open Go.RowKit Go.Proofs.YtaoajlaocphgdaaDoorW.PrintWords Go.Proofs.YtaoajlaocphgdaaDoorW.PrintLast Go.Proofs.YtaoajlaocphgdaaDoorW.PrintMore
set_option linter.unusedVariables false
set_option linter.unusedSimpArgs false

theorem MKat.setIns {w0 w : World} {g : Nat} {l : LayV} {code : List S43} {es place : List (Int × Int)} {v : Value} {rg rp : Nat} (h : MKat w0 w g l code es place v rg rp) (at_ : Nat) (c : S43) (hc : code[at_]? = some c) (n : Int) :
    ∃ gv cap cells, v = .slice (some ⟨gv, 0, none⟩) code.length cap ∧ w.cell? ⟨gv, at_ * 5 + 4, none⟩ = some (.int .i64 c.f4) ∧ w.frozen? ⟨gv, at_ * 5 + 4, none⟩ = false ∧ w.heap[gv]? = some (.cells cells 43 (0, 0)) ∧ w0.heap.size ≤ gv ∧
      MKat w0 (w.setCell ⟨gv, at_ * 5 + 4, none⟩ (.int .i64 n)) g l (code.set at_ { c with f4 := n }) es place v rg rp := by
  have hlt : at_ < code.length := (List.getElem?_eq_some_iff.1 hc).1
  obtain ⟨gv, cap, hv, hb, hl, cells, hcells⟩ := Kd.R_form h.row (by omega)
  subst hv
  obtain ⟨ad, cc, he, hcl, hK, hcc⟩ := Kd.C_get (Kd.R_reads' h.row).2.2 (⟨0, 0, 0, 0, 0⟩ : S43) (at_ : Int) (by omega) (by omega)
  obtain rfl := Option.some.inj he
  have hg : code.getD (at_ : Int).toNat ⟨0, 0, 0, 0, 0⟩ = c := by rw [Int.toNat_natCast, List.getD_eq_getElem?_getD, hc]; rfl
  rw [hg] at hK
  have hcc2 : ∀ j u, cc[j]? = some u → w.cell? ⟨gv, (at_ : Int).toNat * k43.sz + j, none⟩ = some u := fun j u hu => by
    have := hcc j u hu
    rwa [add_plain] at this
  have hcs := k43_open hK
  subst hcs
  have h4 := hcc2 4 _ rfl
  have hsz : k43.sz = 5 := rfl
  rw [Int.toNat_natCast, hsz] at h4
  have hrow := (Kd.R_seg (okp := fun _ => False) h.row (at_ : Int) (by omega) (by omega) (c := _) (seg := [.int .i64 n]) (j := 4) hcl hcc2 (by rw [hsz]; exact Nat.le_refl 5) (x' := { c with f4 := n }) (k43_mkM w w0.heap.size (fun _ => False) { c with f4 := n }) (fun _ hk => hk.elim)).1
  rw [Int.toNat_natCast, hsz] at hrow
  have hne : gv ≠ g := by
    rintro rfl
    exact h.v_ne rfl
  refine ⟨gv, cap, cells, rfl, h4, by simp [World.frozen?, hcells], hcells, hb, ⟨?_, hrow, ?_, ?_, h.hg, h.hrg, h.hrp, h.hne⟩⟩
  · exact (Below.heap_setCell _ _ _ _ (by exact hne.symm)).trans h.blk
  · exact h.gm.move (Below.heap_setCell _ _ _ _ (by intro e; exact h.v_ne_map h.gm (by rw [e]; rfl)))
  · exact h.pm.move (Below.heap_setCell _ _ _ _ (by intro e; exact h.v_ne_map h.pm (by rw [e]; rfl)))

theorem MKat.drewN {w0 w : World} {g : Nat} {l : LayV} {code : List S43} {es place : List (Int × Int)} {v : Value} {rg rp : Nat} (h : MKat w0 w g l code es place v rg rp) (m : Nat) : MKat w0 (w.drewN m) g l code es place v rg rp := h.below (pw_below_drewN (Below.refl _ _) m)
theorem MKat.iter {w0 w w1 : World} {g : Nat} {l : LayV} {code : List S43} {es place fs : List (Int × Int)} {v : Value} {rg rp b r : Nat} {seen seen' : List Nat} (h : MKat w0 w g l code es place v rg rp) (hi : IterIs w b r fs seen') (hs : IterStep w w1 b r fs seen) (h1 : b ≠ g) (h2 : b ≠ rg) (h3 : b ≠ rp) : MKat w0 w1 g l code es place v rg rp := by
  refine ⟨(hs.other g (Ne.symm h1)).trans h.blk, ?_, h.gm.move (hs.other rg (Ne.symm h2)), h.pm.move (hs.other rp (Ne.symm h3)), h.hg, h.hrg, h.hrp, h.hne⟩
  refine Kd.R_mono (ok := fun k => ∃ cells q, w.heap[k]? = some (.cells cells q (0, 0))) (Kd.R_move (Kd.R_mono (Kd.R_bound h.row) fun k hk => ?_) fun k hk => ?_) fun _ _ => trivial
  · obtain ⟨_, _, _, q, _, cells, hc⟩ := hk
    exact ⟨cells, q, hc⟩
  · obtain ⟨cells, q, hc⟩ := hk
    refine hs.other k ?_
    rintro rfl
    rw [show w.heap[k]? = _ from hi] at hc
    cases hc
/-- Some are filled in, k are not. -/
def Fill (w0 w : World) (g : Nat) (l : LayV) (st : List InsP) (pl : List (Int × Int)) (P : Int → Int) (b rg rp k : Nat) : Prop :=
  ∃ (seen : List Nat) (code : List S43) (v : Value), MKat w0 w g l code (goesOf st 0) pl v rg rp ∧ IterIs w b rg (goesOf st 0) seen ∧ seen.Nodup ∧ (∀ n ∈ seen, n < (goesOf st 0).length) ∧ Patched st P seen code ∧ Below w0.heap.size w0 w ∧ (b ≠ g ∧ b ≠ rg ∧ b ≠ rp ∧ w0.heap.size ≤ b) ∧ k = (goesOf st 0).length - seen.length
theorem nodup_length {seen : List Nat} {n : Nat} (h : seen.Nodup) (hb : ∀ x ∈ seen, x < n) : seen.length ≤ n := by
  have := List.Nodup.length_le_of_subset h (l₂ := List.range n) (fun x hx => List.mem_range.2 (hb x hx))
  rwa [List.length_range] at this
theorem Fill.start {w0 w : World} {g : Nat} {l : LayV} {st : List InsP} {pl : List (Int × Int)} (P : Int → Int) {v : Value} {rg rp : Nat} (h : MKat w0 w g l (st.map (·.1)) (goesOf st 0) pl v rg rp) (hB : Below w0.heap.size w0 w) :
    Fill w0 (w.alloc (.mapIter (some rg) (goesOf st 0).length #[] (goesOf st 0).length)) g l st pl P w.heap.size rg rp (goesOf st 0).length := by
  have hb : Below w.heap.size w (w.alloc (.mapIter (some rg) (goesOf st 0).length #[] (goesOf st 0).length)) := (Below.refl _ _).alloc (Nat.le_refl _) _
  refine ⟨[], _, v, h.below hb, heap_alloc_new w _, List.nodup_nil, by simp, Patched.start st P, below_then hB hB.size hb, ⟨?_, ?_, ?_, hB.size⟩, by simp⟩
  · have := h.lt; omega
  · have := h.gm.lt; omega
  · have := h.pm.lt; omega
theorem Fill.round {w0 w : World} {g : Nat} {l : LayV} {st : List InsP} {pl : List (Int × Int)} {P : Int → Int} {b rg rp k : Nat} (h : Fill w0 w g l st pl P b rg rp k) (hpl : (pl.map (·.1)).Nodup) (hP : ∀ x ∈ st, x.2 ≠ 0 → (x.2, P x.2) ∈ pl) (hPb : ∀ x ∈ pl, 0 ≤ x.2 ∧ x.2 ≤ 1000) (hlen : st.length ≤ 1000) :
    (∃ v, (∀ ty, (Instr.next (.pointer (some ⟨b, 0, none⟩)) false ty).run Tryd.prog w = .ok (.tuple #[.bool false]) w) ∧ w.cell? ⟨g, 20, none⟩ = some v ∧ k43.R 43 w w0.heap.size (fun _ => True) v (finalL P st 0) ∧ Below w0.heap.size w0 w) ∨
    (∃ (i : Nat) (q : Int) (w1 : World) (gv n cap : Nat) (k' : Nat) (old : Int), (∀ ty, (Instr.next (.pointer (some ⟨b, 0, none⟩)) false ty).run Tryd.prog w = .ok (.tuple #[.bool true, .int .i64 i, .int .i64 q]) w1) ∧
      (Instr.entry (.pointer (some ⟨b, 0, none⟩))).run Tryd.prog w1 = .ok (.tuple #[.int .i64 i, .int .i64 q]) w1 ∧
      w1.cell? ⟨g, 20, none⟩ = some (.slice (some ⟨gv, 0, none⟩) n cap) ∧ w1.cell? ⟨g, 22, none⟩ = some (.map (some rp)) ∧ i < n ∧ n ≤ 1000 ∧ 0 ≤ P q ∧ P q ≤ 1000 ∧ k' < k ∧
      (∀ m, (Instr.lookup 86 (.map (some rp)) (.int .i64 q) false).run Tryd.prog (w1.drewN m) = .ok (.int .i64 (P q)) (w1.drewN m)) ∧
      w1.cell? ⟨gv, i * 5 + 4, none⟩ = some (.int .i64 old) ∧ w1.frozen? ⟨gv, i * 5 + 4, none⟩ = false ∧
      ∀ m, Fill w0 ((w1.drewN m).setCell ⟨gv, i * 5 + 4, none⟩ (.int .i64 (4 * (P q - i)))) g l st pl P b rg rp k') := by
  obtain ⟨seen, code, v, hM, hI, hnd, hsb, hpt, hB, ⟨b1, b2, b3, b4⟩, hk⟩ := h
  rcases run_nextI (P := Tryd.prog) w b rg (goesOf st 0) seen hM.gm hI hsb with ⟨hall, hnext⟩ | ⟨j, x, w1, hx, hns, hst, hnext⟩
  · left
    refine ⟨v, hnext, hM.cell 20 v (by simp [mkCells]), ?_, hB⟩
    rw [← hpt.done hall]
    exact hM.row
  · right
    obtain ⟨x0, x1, x2, y, hy⟩ := hpt.at_ hx
    have hM1 := hM.iter hI hst b1 b2 b3
    have hent := run_entryI (P := Tryd.prog) w1 b rg (goesOf st 0) seen j x hM1.gm hst.at_ hx
    have hc : code[x.1.toNat]? = some code[x.1.toNat] := List.getElem?_eq_getElem (by omega)
    have hxi : ((x.1.toNat : Nat) : Int) = x.1 := by omega
    have hpm : (x.2, P x.2) ∈ pl := hP _ (List.mem_of_getElem? hy) x2
    obtain ⟨gv, cap, cells, hv, hcell, hfz, hcells, hge, hM2⟩ := (hM1.drewN 0).setIns x.1.toNat _ hc (4 * (P x.2 - x.1))
    have hlc : code.length = st.length := hpt.1
    refine ⟨x.1.toNat, x.2, w1, gv, code.length, cap, (goesOf st 0).length - (seen ++ [j]).length, code[x.1.toNat].f4, by rw [hxi]; exact hnext, by rw [hxi]; exact hent, ?_, ?_, by omega, by omega, (hPb _ hpm).1, (hPb _ hpm).2, ?_, ?_, hcell, hfz, ?_⟩
    · rw [← hv]
      exact hM1.cell 20 v (by simp [mkCells])
    · exact hM1.cell 22 _ (by simp [mkCells])
    · have h1 : seen.length < (goesOf st 0).length := by
        have := nodup_length (seen := seen ++ [j]) (n := (goesOf st 0).length) (by rw [List.nodup_append]; exact ⟨hnd, by simp, by intro a ha c hc; obtain rfl := List.mem_singleton.1 hc; rintro rfl; exact hns ha⟩) (by
          intro a ha
          rcases List.mem_append.1 ha with ha | ha
          · exact hsb a ha
          · obtain rfl := List.mem_singleton.1 ha
            exact (List.getElem?_eq_some_iff.1 hx).1)
        rw [List.length_append] at this
        simp at this
        omega
      rw [List.length_append]
      simp
      omega
    · intro m
      exact run_find (P := Tryd.prog) Tryd.underlying86 Tryd.underlying3 (w1.drewN m) rp pl x.2 (P x.2) (hM1.drewN m).pm hpl hpm
    · intro m
      rw [hxi]
      obtain ⟨gv', cap', cells', hv', hcell', hfz', hcells', hge', hM2'⟩ := (hM1.drewN m).setIns x.1.toNat _ hc (4 * (P x.2 - x.1))
      rw [hv] at hv'
      injection hv' with e1 e2 e3
      injection e1 with e1
      injection e1 with e1
      subst e1
      have hbne : b ≠ gv := by
        rintro rfl
        have h1 : (w1.drewN m).heap[b]? = w1.heap[b]? := (pw_below_drewN (Below.refl _ _) m).block b (Array.getElem?_eq_some_iff.1 hst.at_).1
        rw [h1, show w1.heap[b]? = _ from hst.at_] at hcells'
        cases hcells'
      have hbd : Below w0.heap.size w0 ((w1.drewN m).setCell ⟨gv, x.1.toNat * 5 + 4, none⟩ (.int .i64 (4 * (P x.2 - x.1)))) := by
        refine (pw_below_drewN (hst.below hB b4) m).setCell ?_ _
        exact hge
      refine ⟨seen ++ [j], _, v, hM2', ?_, ?_, ?_, hpt.step hx hns _ hc, hbd, ⟨b1, b2, b3, b4⟩, rfl⟩
      · show (World.setCell _ _ _).heap[b]? = _
        rw [Below.heap_setCell _ _ _ _ (by exact hbne)]
        exact ((pw_below_drewN (Below.refl _ _) m).block b (Array.getElem?_eq_some_iff.1 hst.at_).1).trans hst.at_
      · rw [List.nodup_append]
        exact ⟨hnd, by simp, by intro a ha c hc; obtain rfl := List.mem_singleton.1 hc; rintro rfl; exact hns ha⟩
      · intro a ha
        rcases List.mem_append.1 ha with ha | ha
        · exact hsb a ha
        · obtain rfl := List.mem_singleton.1 ha
          exact (List.getElem?_eq_some_iff.1 hx).1
end Go.Proofs.YtaoajlaocphgdaaDoor.PA
