/-
Contract of wrap.Wrapper.
-/
import Derived.Test.YtaoajlaocphgdaaDoorHEnc
import Derived.Test.YtaoajlaocphgdaaDoorHFun
import Derived.Test.YtaoajlaocphgdaaDoorHName
import Derived.Test.YtaoajlaocphgdaaDoorEv
import Derived.Test.YtaoajlaocphgdaaDoorPAxwrapMay
import Derived.Test.YtaoajlaocphgdaaDoorPAxinsEncode
namespace Go.Proofs.YtaoajlaocphgdaaDoor.PA
open Go.RowKit Go.Proofs.YtaoajlaocphgdaaDoorW.PrintWords Go.Proofs.YtaoajlaocphgdaaDoorW.PrintLast Go.Proofs.YtaoajlaocphgdaaDoorW.PrintMore
set_option linter.unusedVariables false
set_option linter.unusedSimpArgs false

/-- The wrapper's code, and what wrap.Wrapper gives. -/
def codeL (ps : List Int) (l : LayV) : List S43 := finalL (placeOf l ps) (allP l ps) 0
def wordsL (ps : List Int) (l : LayV) : List Int := (codeL ps l).map fun x => (encP x).1
def relsL (name : ByteArray) (ps : List Int) (l : LayV) : List S49 := [⟨4 * ((preP l ps).length : Int), 2, name, 0⟩]
def noCells : Array Value := #[.slice none 0 0, .slice none 0 0, .slice none 0 0, .slice none 0 0, .slice none 0 0]
def objCells (u v : Value) : Array Value := #[u, .slice none 0 0, .slice none 0 0, v, .slice none 0 0]
theorem code_length (ps : List Int) (l : LayV) : (codeL ps l).length = (allP l ps).length := finalL_length _ _ _
theorem pre_length (l : LayV) (ps : List Int) (h : ps.length ≤ 6) : (preP l ps).length ≤ 100 := by
  have := all_length l ps h
  simp only [allP, noP, leftP, midP, List.length_append] at this
  omega

theorem bad_range {ps : List Int} (h : ps.any badN = false) : ∀ n ∈ ps, 0 ≤ n ∧ n ≤ 64 := by
  intro n hn
  have := List.any_eq_false.1 h n hn
  simp [badN] at this
  omega

set_option maxHeartbeats 16000000 in
set_option maxRecDepth 100000 in
theorem cap_no (name : ByteArray) (A1 : Option Addr) (c1 : Nat) (ps : List Int) (l : LayV) (w : World) (hr : Kd.C (Kd.int .i64) w A1 ps.length ps) (hc : ps.length ≤ c1) (hG : GlobOk w) (hsz : name.size ≤ 140737488351232)
    (hno : (mayL l && nameB name.data.toList && !decide ((6 : Int) < (ps.length : Int)) && !ps.any badN) = false) :
    Calls Tryd.prog 10 #[.string name, .slice A1 ps.length c1, .agg (layArr l)] w fun e w' => e = .returned (.tuple #[.agg noCells, .int .i64 1]) ∧ Below w.heap.size w w' := by
  have HR := Aside0.mk hr
  have HC := Aside0.mk hc
  have HG := Aside0.mk hG
  have HB := Aside0.mk (Below.refl w.heap.size w)
  obtain ⟨m, hm⟩ : ∃ m, m = mayL l := ⟨_, rfl⟩
  obtain ⟨nm, hnm⟩ : ∃ m, m = nameB name.data.toList := ⟨_, rfl⟩
  obtain ⟨bd, hbd⟩ : ∃ m, m = ps.any badN := ⟨_, rfl⟩
  obtain ⟨lg, hlg⟩ : ∃ m, m = decide ((6 : Int) < (ps.length : Int)) := ⟨_, rfl⟩
  rw [← hm, ← hnm, ← hbd, ← hlg] at hno
  have HM := Aside0.mk (show wrap_May.f 6 l.a0 l.a1 l.a2 l.a3 l.a4 l.a5 l.a6 l.a7 l.a8 l.a9 l.a10 l.a11 l.a12 l.a13 l.a14 l.a15 l.a16 l.a17 l.a18 l.a19 = some m from hm ▸ may_f l 6 (Nat.le_refl _))
  have HN := Aside0.mk (show obj_Name.f name = some nm from by unfold obj_Name.f; rw [if_pos hsz, hnm])
  have HF := Aside0.mk (show slices_ContainsFunc_int_int__22.f ps = some bd from by rw [hbd]; rfl)
  replace hlg := hlg.symm
  clear hr hc hG hm hnm hbd hsz
  go_enter Tryd.func10, Tryd.ntmps10
  go_wp2_with (first | ((with_reducible refine gate_dst (N := 5) rfl ?_); refine box_event ?hg (N := 5) ?hd (cs := layArr l) (t := 27) ?hr ?_; (case hd => rfl); (case hg => rfl); (case hr => (refine exec_box (by rfl) (by rfl) (run_boxL l _))); intro g5 hg5 w1 B5 hb1; have HB1 := Aside0.mk (below_step HB.out hb1); have HG1 := Aside0.mk (HG.out.of_below hb1); have HR1 := Aside0.mk (Kd.C_below HR.out hb1); have HK5 := Aside0.mk B5; have HE5 := Aside0.mk (show w.heap.size ≤ g5 by rw [hg5]; exact HB.out.size); clear HB hb1 B5 hg5) | ((with_reducible refine gate_dst (N := 6) rfl ?_); refine box_event ?hg (N := 6) ?hd (cs := noCells) (t := 35) ?hr ?_; (case hd => rfl); (case hg => rfl); (case hr => first | (go_simp; done) | (go_simp; rfl)); intro g6 hg6 w2 B6 hb2; have HB2 := Aside0.mk (below_step HB1.out hb2); have HG2 := Aside0.mk (HG1.out.of_below hb2); have HR2 := Aside0.mk (Kd.C_below HR1.out hb2); have HK52 := Aside0.mk (blk_below HK5.out hb2); have HE6 := Aside0.mk (show w.heap.size ≤ g6 by rw [hg6]; exact HB1.out.size); have HK6 := Aside0.mk B6; clear HB1 HG1 HR1 HK5 hb2 B6 hg6))
  refine (slices_ContainsFunc_int_int__22.calls _ _ ps bd _ HR2.out HC.out HF.out).mono ?_
  rintro e w3 ⟨rfl, hb3⟩
  have HB3 := Aside0.mk (below_step HB2.out hb3)
  have HG3 := Aside0.mk (HG2.out.of_below hb3)
  have HK53 := Aside0.mk (blk_below HK52.out hb3)
  have HK63 := Aside0.mk (blk_below HK6.out hb3)
  clear hb3 HB2 HG2 HK52 HK6
  go_wp2_with (first | ((with_reducible refine gate_dst (N := 18) rfl ?_); refine wpList_load_row (by rfl) 27 _ (by rfl) g5 (by rfl) 27 (layArr l) (0, 0) _ HK53.out Tryd.underlying27 rfl (by kernel_rfl) ?_))
  refine (wrap_May.calls 6 l.a0 l.a1 l.a2 l.a3 l.a4 l.a5 l.a6 l.a7 l.a8 l.a9 l.a10 l.a11 l.a12 l.a13 l.a14 l.a15 l.a16 l.a17 l.a18 l.a19 m _ HM.out).mono ?_
  rintro e w4 ⟨rfl, hb4⟩
  have HB4 := Aside0.mk (below_step HB3.out hb4)
  have HG4 := Aside0.mk (HG3.out.of_below hb4)
  have HK64 := Aside0.mk (blk_below HK63.out hb4)
  clear hb4 HB3 HG3 HK53 HK63
  cases m with
  | false =>
    go_wp2_with (first | (refine store_event (by rfl) (ty := 35) (by rfl) g6 35 noCells noCells (by rfl) (by rfl) HK64.out (by kernel_rfl) rfl (by kernel_rfl) ?_; intro w9 hs9; have HK9 := Aside0.mk hs9.at_; have HB9 := Aside0.mk (hs9.below HB4.out HE6.out); clear hs9))
    refine bodyPost_ret (results_ct rfl _ _ g6 35 noCells (0, 0) _ rfl HK9.out Tryd.underlying35 rfl (by kernel_rfl)) rfl ?_
    exact ⟨rfl, HB9.out⟩
  | true =>
    go_wp2_with fail
    refine (obj_Name.calls name nm _ HN.out HG4.out).mono ?_
    rintro e w5 ⟨rfl, hb5⟩
    have HB5 := Aside0.mk (below_step HB4.out hb5)
    have HK65 := Aside0.mk (blk_below HK64.out hb5)
    clear hb5 HB4 HG4 HK64
    cases nm with
    | false =>
      go_wp2_with (first | (refine store_event (by rfl) (ty := 35) (by rfl) g6 35 noCells noCells (by rfl) (by rfl) HK65.out (by kernel_rfl) rfl (by kernel_rfl) ?_; intro w9 hs9; have HK9 := Aside0.mk hs9.at_; have HB9 := Aside0.mk (hs9.below HB5.out HE6.out); clear hs9))
      refine bodyPost_ret (results_ct rfl _ _ g6 35 noCells (0, 0) _ rfl HK9.out Tryd.underlying35 rfl (by kernel_rfl)) rfl ?_
      exact ⟨rfl, HB9.out⟩
    | true =>
      cases lg with
      | true =>
        go_wp2_with (first | (refine store_event (by rfl) (ty := 35) (by rfl) g6 35 noCells noCells (by rfl) (by rfl) HK65.out (by kernel_rfl) rfl (by kernel_rfl) ?_; intro w9 hs9; have HK9 := Aside0.mk hs9.at_; have HB9 := Aside0.mk (hs9.below HB5.out HE6.out); clear hs9))
        refine bodyPost_ret (results_ct rfl _ _ g6 35 noCells (0, 0) _ rfl HK9.out Tryd.underlying35 rfl (by kernel_rfl)) rfl ?_
        exact ⟨rfl, HB9.out⟩
      | false =>
        cases bd with
        | true =>
          go_wp2_with (first | (refine store_event (by rfl) (ty := 35) (by rfl) g6 35 noCells noCells (by rfl) (by rfl) HK65.out (by kernel_rfl) rfl (by kernel_rfl) ?_; intro w9 hs9; have HK9 := Aside0.mk hs9.at_; have HB9 := Aside0.mk (hs9.below HB5.out HE6.out); clear hs9))
          refine bodyPost_ret (results_ct rfl _ _ g6 35 noCells (0, 0) _ rfl HK9.out Tryd.underlying35 rfl (by kernel_rfl)) rfl ?_
          exact ⟨rfl, HB9.out⟩
        | false => simp at hno
set_option maxHeartbeats 16000000 in
set_option maxRecDepth 100000 in
theorem cap_yes (name : ByteArray) (A1 : Option Addr) (c1 : Nat) (ps : List Int) (l : LayV) (w : World) (hr : Kd.C (Kd.int .i64) w A1 ps.length ps) (hc : ps.length ≤ c1) (hG : GlobOk w) (hsz : name.size ≤ 140737488351232)
    (hm : mayL l = true) (hn : nameB name.data.toList = true) (hp : ps.length ≤ 6) (hbad : ps.any badN = false) :
    Calls Tryd.prog 10 #[.string name, .slice A1 ps.length c1, .agg (layArr l)] w fun e w' => ∃ u v : Value, e = .returned (.tuple #[.agg (objCells u v), .int .i64 0]) ∧ Kd.R (Kd.int .u32) 46 w' w.heap.size (fun _ => True) u (wordsL ps l) ∧ Kd.R k49 49 w' w.heap.size (fun _ => True) v (relsL name ps l) ∧ Below w.heap.size w w' := by
  have HR := Aside0.mk hr
  have HC := Aside0.mk hc
  have HG := Aside0.mk hG
  have HB := Aside0.mk (Below.refl w.heap.size w)
  have HM := Aside0.mk (show wrap_May.f 6 l.a0 l.a1 l.a2 l.a3 l.a4 l.a5 l.a6 l.a7 l.a8 l.a9 l.a10 l.a11 l.a12 l.a13 l.a14 l.a15 l.a16 l.a17 l.a18 l.a19 = some true from hm ▸ may_f l 6 (Nat.le_refl _))
  have HN := Aside0.mk (show obj_Name.f name = some true from by unfold obj_Name.f; rw [if_pos hsz, hn])
  have HF := Aside0.mk (show slices_ContainsFunc_int_int__22.f ps = some false from by rw [← hbad]; rfl)
  have hlg : decide ((6 : Int) < (ps.length : Int)) = false := decide_eq_false (by omega)
  obtain ⟨code, hcode⟩ : ∃ c, c = codeL ps l := ⟨_, rfl⟩
  obtain ⟨pn, hpn⟩ : ∃ c, c = (preP l ps).length := ⟨_, rfl⟩
  have hW : ∀ W : World, Kd.C (Kd.int .i64) W A1 ps.length ps → Calls Tryd.prog 24 #[.slice A1 ps.length c1, .agg (layArr l)] W fun e w' => ∃ v0_ : Value, e = .returned (.tuple #[v0_, .int .i64 (pn : Int)]) ∧ k43.R 43 w' W.heap.size (fun _ => True) v0_ code ∧ Below W.heap.size W w' := by
    intro W hW
    rw [hcode, hpn]
    exact wrapper_calls A1 c1 ps l W hW (mayL_ok hm).1 hp (bad_range hbad)
  have HW := Aside0.mk hW
  have hpl : pn ≤ 100 := hpn ▸ pre_length l ps hp
  have hcl : code.length ≤ 100 := by rw [hcode, code_length]; exact all_length l ps hp
  have HWD := Aside0.mk (show wordsL ps l = code.map fun x => (encP x).1 from by rw [hcode]; rfl)
  have HRL := Aside0.mk (show relsL name ps l = [⟨4 * (pn : Int), 2, name, 0⟩] from by rw [hpn]; rfl)
  clear hr hc hG hm hn hbad hsz hcode hpn hW
  go_enter Tryd.func10, Tryd.ntmps10
  go_wp2_with (first | ((with_reducible refine gate_dst (N := 5) rfl ?_); refine box_event ?hg (N := 5) ?hd (cs := layArr l) (t := 27) ?hr ?_; (case hd => rfl); (case hg => rfl); (case hr => (refine exec_box (by rfl) (by rfl) (run_boxL l _))); intro g5 hg5 w1 B5 hb1; have HB1 := Aside0.mk (below_step HB.out hb1); have HG1 := Aside0.mk (HG.out.of_below hb1); have HR1 := Aside0.mk (Kd.C_below HR.out hb1); have HK5 := Aside0.mk B5; have HE5 := Aside0.mk (show w.heap.size ≤ g5 by rw [hg5]; exact HB.out.size); clear HB hb1 B5 hg5) | ((with_reducible refine gate_dst (N := 6) rfl ?_); refine box_event ?hg (N := 6) ?hd (cs := noCells) (t := 35) ?hr ?_; (case hd => rfl); (case hg => rfl); (case hr => first | (go_simp; done) | (go_simp; rfl)); intro g6 hg6 w2 B6 hb2; have HB2 := Aside0.mk (below_step HB1.out hb2); have HG2 := Aside0.mk (HG1.out.of_below hb2); have HR2 := Aside0.mk (Kd.C_below HR1.out hb2); have HK52 := Aside0.mk (blk_below HK5.out hb2); have HE6 := Aside0.mk (show w.heap.size ≤ g6 by rw [hg6]; exact HB1.out.size); have HK6 := Aside0.mk B6; clear HB1 HG1 HR1 HK5 hb2 B6 hg6))
  refine (slices_ContainsFunc_int_int__22.calls _ _ ps false _ HR2.out HC.out HF.out).mono ?_
  rintro e w3 ⟨rfl, hb3⟩
  have HB3 := Aside0.mk (below_step HB2.out hb3)
  have HG3 := Aside0.mk (HG2.out.of_below hb3)
  have HK53 := Aside0.mk (blk_below HK52.out hb3)
  have HK63 := Aside0.mk (blk_below HK6.out hb3)
  have HR3 := Aside0.mk (Kd.C_below HR2.out hb3)
  clear hb3 HB2 HG2 HK52 HK6 HR2
  go_wp2_with (first | ((with_reducible refine gate_dst (N := 18) rfl ?_); refine wpList_load_row (by rfl) 27 _ (by rfl) g5 (by rfl) 27 (layArr l) (0, 0) _ HK53.out Tryd.underlying27 rfl (by kernel_rfl) ?_))
  refine (wrap_May.calls 6 l.a0 l.a1 l.a2 l.a3 l.a4 l.a5 l.a6 l.a7 l.a8 l.a9 l.a10 l.a11 l.a12 l.a13 l.a14 l.a15 l.a16 l.a17 l.a18 l.a19 true _ HM.out).mono ?_
  rintro e w4 ⟨rfl, hb4⟩
  have HB4 := Aside0.mk (below_step HB3.out hb4)
  have HG4 := Aside0.mk (HG3.out.of_below hb4)
  have HK64 := Aside0.mk (blk_below HK63.out hb4)
  have HR4 := Aside0.mk (Kd.C_below HR3.out hb4)
  have HK54 := Aside0.mk (blk_below HK53.out hb4)
  clear hb4 HB3 HG3 HK53 HK63 HR3
  go_wp2_with fail
  refine (obj_Name.calls name true _ HN.out HG4.out).mono ?_
  rintro e w5 ⟨rfl, hb5⟩
  have HB5 := Aside0.mk (below_step HB4.out hb5)
  have HG5 := Aside0.mk (HG4.out.of_below hb5)
  have HK65 := Aside0.mk (blk_below HK64.out hb5)
  have HK55 := Aside0.mk (blk_below HK54.out hb5)
  have HR5 := Aside0.mk (Kd.C_below HR4.out hb5)
  clear hb5 HB4 HG4 HK64 HK54 HR4
  go_wp2_with (first | ((with_reducible refine gate_dst (N := 37) rfl ?_); refine wpList_load_row (by rfl) 27 _ (by rfl) g5 (by rfl) 27 (layArr l) (0, 0) _ HK55.out Tryd.underlying27 rfl (by kernel_rfl) ?_))
  refine (HW.out _ HR5.out).mono ?_
  rintro e w6 ⟨v9, rfl, hR9, hb6⟩
  have HB6 := Aside0.mk (below_step HB5.out hb6)
  have HG6 := Aside0.mk (HG5.out.of_below hb6)
  have HK66 := Aside0.mk (blk_below HK65.out hb6)
  have HC6 := Aside0.mk (Kd.R_lower hR9 HB5.out.size)
  obtain ⟨Ac, cc, rfl⟩ := Kd.R_slice hR9
  clear hb6 HB5 HG5 HK65 HK55 HR5 hR9
  have hw4 : IntKind.i64.wrap (4 * (pn : Int)) = 4 * pn := IntWalk.i64_in _ (by omega)
  have hcc : code.length ≤ 9223372036854775807 := by omega
  go_wp2_with (first | ((with_reducible refine gate_dst (N := 45) rfl ?_); refine Kd.R_lit k49 (w0 := w) w.heap.size 49 ?hg (N := 45) ?hd (xs := [(⟨4 * (pn : Int), 2, name, 0⟩ : S49)]) (inner := [.int .i64 (4 * (pn : Int)), .int .i64 2, .string name, .int .i64 0]) (ok := fun _ => True) (okp := fun _ => True) ?hr ?hp (fun _ hk => hk) trivial HB6.out HB6.out.size (by simp) ?_; (case hd => rfl); (case hg => rfl); (case hr => first | (go_simp; done) | (go_simp; rfl)); (case hp => exact (Reps.c4 (show Kd.M k49 _ _ _ (⟨4 * (pn : Int), 2, name, 0⟩ : S49) [.int .i64 (4 * (pn : Int)), .int .i64 2, .string name, .int .i64 0] from (k49_mkM _ _ _ (⟨4 * (pn : Int), 2, name, 0⟩ : S49) )) (Reps.none _ _))); intro v3 w7 ho7 hb7 hg7 hnew7; obtain ⟨A3, c3, hv3⟩ := Kd.R_slice ho7; replace hv3 : v3 = .slice A3 1 c3 := hv3; subst hv3; have HR7 := Aside0.mk ho7; have HB7 := Aside0.mk hb7; have HG7 := Aside0.mk hg7; clear ho7 hb7 hg7 hnew7; have HK67 := Aside0.mk (blk_grown HK66.out HG7.out (by intro e; cases e))) | ((with_reducible refine gate_dst (N := 11) rfl ?_); refine box_event ?hg (N := 11) ?hd (cs := noCells) (t := 35) ?hr ?_; (case hd => rfl); (case hg => rfl); (case hr => first | (go_simp; done) | (go_simp; rfl)); intro g11 hg11 w8 B11 hb8; have HS8 := Aside0.mk hb8; have HE11 := Aside0.mk hg11; have HK11 := Aside0.mk B11; clear hb8 hg11 B11) | (refine store_event (by rfl) (ty := 35) (by rfl) g11 35 noCells (objCells (.slice none 0 0) (.slice A3 1 c3)) (by rfl) (by rfl) HK11.out (by kernel_rfl) rfl (by kernel_rfl) ?_; intro w9 hs9; have HS9 := Aside0.mk hs9; clear hs9))
  have HB9 := Aside0.mk (HS9.out.below (below_step HB7.out HS8.out) (by rw [HE11.out]; exact HB7.out.size))
  have hlt6 := blk_lt HK67.out
  have hne6 : g6 ≠ g11 := by have := HE11.out; omega
  have HC9 := Aside0.mk (HS9.out.row (Kd.R_below (Kd.R_grown HC6.out HG7.out (by intro k _ e; cases e)) HS8.out) HK11.out (by decide))
  have HR9 := Aside0.mk (HS9.out.row (Kd.R_below HR7.out HS8.out) HK11.out (by decide))
  have HK69 := Aside0.mk (HS9.out.blk (blk_below HK67.out HS8.out) hne6)
  have HK119 := Aside0.mk HS9.out.at_
  have HN6 := Aside0.mk hne6
  have HE11' := Aside0.mk (show w.heap.size ≤ g11 by rw [HE11.out]; exact HB7.out.size)
  clear HS9 HS8 HK11 HE11 HG7 HK67 HK66 HC6 HR7 HB7 hlt6 hne6 HB6
  go_loopg [49] code.length (fun k v49 w' => ∃ (i : Nat) (u : Value), v49 = .int .i64 i ∧ Aside0 (i + k = code.length) ∧ Aside0 (Kd.R k43 43 w' w.heap.size (fun _ => True) (.slice Ac code.length cc) code) ∧ Aside0 (Kd.R (Kd.int .u32) 46 w' w.heap.size (fun _ => True) u ((code.take i).map fun x => (encP x).1)) ∧
    Aside0 (Kd.R k49 49 w' w.heap.size (fun _ => True) (.slice A3 1 c3) [(⟨4 * (pn : Int), 2, name, 0⟩ : S49)]) ∧ Aside0 (w'.heap[g6]? = some (.cells noCells 35 (0, 0))) ∧ Aside0 (w'.heap[g11]? = some (.cells (objCells u (.slice A3 1 c3)) 35 (0, 0))) ∧ Aside0 (Below w.heap.size w w'))
  case atStart => exact ⟨0, _, rfl, ⟨Nat.zero_add _⟩, HC9, ⟨by rw [List.take_zero]; exact Kd.R_nil _ _ _ _ _⟩, HR9, HK69, HK119, HB9⟩
  case round =>
    clear HC9 HR9 HK69 HK119 HB9
    obtain ⟨i, u, rfl, HI, HC9, HU9, HR9, HK69, HK119, HB9⟩ := hrel
    have HGr := Aside0.mk (HG.out.of_below HB9.out)
    by_cases hlt : i < code.length
    · obtain ⟨x, hx⟩ : ∃ x, x = rd_T43 code i := ⟨_, rfl⟩
      obtain ⟨ad, e51, x0, x1, x2, x3, x4⟩ := at_T43 (Kd.R_reads' HC9.out).2.2 i (by omega) (by omega)
      cases e51
      rw [← hx] at x0 x1 x2 x3 x4
      simp only [Int.toNat_natCast] at x0 x1 x2 x3 x4
      have HX := Aside0.mk hx
      clear hx
      have HEN := Aside0.mk (encode_f x)
      go_wp2_with (first | ((with_reducible refine gate_dst (N := 13) rfl ?_); refine box_event ?hg (N := 13) ?hd (cs := #[.int .i64 0, .int .i64 0, .int .i64 0, .int .i64 0, .int .i64 0]) (t := 43) ?hr ?_; (case hd => rfl); (case hg => rfl); (case hr => first | (go_simp; done) | (go_simp; rfl)); intro g13 hg13 w10 B13 hb10; have HS10 := Aside0.mk hb10; have HE13 := Aside0.mk hg13; have HK13 := Aside0.mk B13; clear hb10 hg13 B13) | (refine store_event (by rfl) (ty := 43) (by rfl) g13 43 #[.int .i64 0, .int .i64 0, .int .i64 0, .int .i64 0, .int .i64 0] #[.int .i64 x.f0, .int .i64 x.f1, .int .i64 x.f2, .int .i64 x.f3, .int .i64 x.f4] (by rfl) (by rfl) HK13.out (by kernel_rfl) rfl (by kernel_rfl) ?_; intro w11 hs11; have HS11 := Aside0.mk hs11; clear hs11) | ((with_reducible refine gate_dst (N := 54) rfl ?_); refine wpList_load_row (by rfl) 43 _ (by rfl) g13 (by rfl) 43 #[.int .i64 x.f0, .int .i64 x.f1, .int .i64 x.f2, .int .i64 x.f3, .int .i64 x.f4] (0, 0) _ HS11.out.at_ Tryd.underlying43 rfl (by kernel_rfl) ?_))
      have hb11 := HS11.out.below HS10.out (by rw [HE13.out]; exact Nat.le_refl _)
      refine (ins_Encode.calls 20 x.f0 x.f1 x.f2 x.f3 x.f4 (encP x).1 (encP x).2 _ HEN.out (HGr.out.of_below hb11)).mono ?_
      rintro e w12 ⟨rfl, hb12⟩
      have hbb := below_step hb11 hb12
      have HC12 := Aside0.mk (Kd.R_below HC9.out hbb)
      have HU12 := Aside0.mk (Kd.R_below HU9.out hbb)
      have HR12 := Aside0.mk (Kd.R_below HR9.out hbb)
      have HK612 := Aside0.mk (blk_below HK69.out hbb)
      have HK1112 := Aside0.mk (blk_below HK119.out hbb)
      have HB12 := Aside0.mk (below_step HB9.out hbb)
      have c0 : w12.cell? ⟨g11, 0, none⟩ = some u := (blk_cell HK1112.out 0).trans rfl
      clear hb11 hb12 hbb HC9 HU9 HR9 HK69 HK119 HB9 HS11 HS10 HE13 HK13 x0 x1 x2 x3 x4 HGr
      obtain ⟨y, hy⟩ : ∃ y, y = (encP x).1 := ⟨_, rfl⟩
      rw [← hy]
      obtain ⟨us, hus⟩ : ∃ us, us = (code.take i).map fun x => (encP x).1 := ⟨_, rfl⟩
      rw [← hus] at HU12
      have hul : us.length ≤ 100 := by rw [hus, List.length_map, List.length_take]; omega
      have HUS := Aside0.mk (show (code.take (i + 1)).map (fun x => (encP x).1) = us ++ [y] from by
        rw [hus, List.take_succ_eq_append_getElem hlt, List.map_append, hy, HX.out]
        simp [rd_T43, List.getD_eq_getElem?_getD, List.getElem?_eq_getElem hlt])
      clear hy hus HEN
      go_wp2_with (at_builtin; refine Kd.R_append (Kd.int .u32) (w0 := w) w.heap.size rfl (.tmp 59) (.tmp 61) 29 46 (.int .u32 0) 4 rfl Tryd.underlying29 info46 rfl (by decide) (by omega) u us y [.int .u32 y] (fun _ => True) (fun _ => False) rfl rfl ?aP (fun _ hk => hk.elim) ?aF ?aO ?aB ?aS ?aL ?_; (case aP => exact rfl); (case aB => exact HB12.out); (case aF => exact (fun _ _ => trivial)); (case aO => exact HU12.out); (case aS => exact HB12.out.size); (case aL => omega))
      intro v13 w13 ho hb hg hat
      have HB13 := Aside0.mk hb
      have HU13 := Aside0.mk ho
      have HC13 := Aside0.mk (Kd.R_over' HC12.out (Kd.R_typed HU12.out) (by decide) hg)
      have HR13 := Aside0.mk (Kd.R_over' HR12.out (Kd.R_typed HU12.out) (by decide) hg)
      have HK613 := Aside0.mk (blk_grown HK612.out hg (Kd.R_ne HU12.out HK612.out (by decide)))
      have HK1113 := Aside0.mk (blk_grown HK1112.out hg (Kd.R_ne HU12.out HK1112.out (by decide)))
      have c13 : w13.cell? ⟨g11, 0, none⟩ = some u := (blk_cell HK1113.out 0).trans rfl
      have f13 : w13.frozen? ⟨g11, 0, none⟩ = false := blk_frozen HK1113.out 0
      obtain ⟨Av, cv, hv⟩ := Kd.R_slice ho
      have hv1 : v13.oneCell' = true := by rw [hv]; rfl
      have HV := Aside0.mk hv
      clear hb ho hg hat c0 HC12 HU12 HR12 HK612 HK1112 HB12 hv
      rw [show (us ++ [y]).length = us.length + 1 from by simp] at HV
      obtain rfl := HV.out
      clear HV hv1
      go_wp2_with fail
      have hi1 : wrap64 ((i : Int) + 1) = ((i + 1 : Nat) : Int) := IntWalk.wrap64_in _ (by omega)
      go_roundg (code.length - (i + 1))
      case measure => have := HI.out; omega
      case rel => exact ⟨i + 1, _, by go_num, ⟨by omega⟩, ⟨Kd.R_set HC13.out HK1113.out (by decide) 0 _⟩, ⟨by rw [HUS.out]; exact Kd.R_set HU13.out HK1113.out (by decide) 0 _⟩, ⟨Kd.R_set HR13.out HK1113.out (by decide) 0 _⟩, ⟨blk_far HK613.out HN6.out _⟩, ⟨blk_put HK1113.out 0 _ rfl⟩, ⟨below_set HB13.out HE11'.out⟩⟩
    · obtain rfl : i = code.length := by have := HI.out; omega
      rw [List.take_length] at HU9
      have HO1 := Aside0.mk (show (objCells u (.slice A3 1 c3)).all (·.oneCell') = true from by obtain ⟨Au, cu, hu⟩ := Kd.R_slice HU9.out; rw [hu]; simp [objCells, Value.oneCell'])
      go_wp2_with (first | ((with_reducible refine gate_dst (N := 65) rfl ?_); refine wpList_load_row (by rfl) 35 _ (by rfl) g11 (by rfl) 35 (objCells u (.slice A3 1 c3)) (0, 0) _ HK119.out Tryd.underlying35 rfl (by kernel_rfl) ?_) | (refine store_event (by rfl) (ty := 35) (by rfl) g6 35 noCells (objCells u (.slice A3 1 c3)) (by rfl) (by rfl) HK69.out (by kernel_rfl) rfl (HO1.out) ?_; intro w14 hs14; have HS14 := Aside0.mk hs14; clear hs14))
      refine bodyPost_ret (results_ct rfl _ _ g6 35 (objCells u (.slice A3 1 c3)) (0, 0) _ rfl HS14.out.at_ Tryd.underlying35 rfl (by kernel_rfl)) rfl ?_
      exact ⟨u, _, rfl, by rw [HWD.out]; exact HS14.out.row HU9.out HK69.out (by decide), by rw [HRL.out]; exact HS14.out.row HR9.out HK69.out (by decide), HS14.out.below HB9.out HE6.out⟩
end Go.Proofs.YtaoajlaocphgdaaDoor.PA
