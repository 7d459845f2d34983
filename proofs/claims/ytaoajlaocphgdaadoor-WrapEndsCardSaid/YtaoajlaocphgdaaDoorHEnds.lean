/-
The law WrapEnds: it says true.
-/
import Derived.Test.YtaoajlaocphgdaaDoorHAwake
import Derived.KernelRfl
import Derived.Test.YtaoajlaocphgdaaDoorPAxcaponierref02Encode
namespace Go.Proofs.YtaoajlaocphgdaaDoor.PA
open Go.RowKit Go.Proofs.YtaoajlaocphgdaaDoorW.PrintWords Go.Proofs.YtaoajlaocphgdaaDoorW.PrintLast Go.Proofs.YtaoajlaocphgdaaDoorW.PrintMore
set_option linter.unusedVariables false
set_option linter.unusedSimpArgs false

/-- The last five. -/
def fiveP : List InsP := [(⟨41, 0, 1, 0, 0⟩, 0), (⟨16, 10, 0, 0, 0⟩, 0), (⟨16, 11, 0, 0, 1⟩, 0), (⟨40, 0, 0, 0, 0⟩, 2), (⟨42, 0, 0, 0, 0⟩, 0)]
def fiveI : List S43 := [⟨41, 0, 1, 0, 0⟩, ⟨16, 10, 0, 0, 0⟩, ⟨16, 11, 0, 0, 1⟩, ⟨40, 0, 0, 0, -64⟩, ⟨42, 0, 0, 0, 0⟩]
theorem all_five (l : LayV) (ps : List Int) : allP l ps = (midP l ps ++ cleanP) ++ fiveP := by
  simp [allP, noP, leftP, fiveP, noneGo]
theorem code_five (l : LayV) (ps : List Int) (j : Nat) (hj : j < 5) : (codeL ps l)[(codeL ps l).length - 5 + j]? = fiveI[j]? := by
  have hlen : (allP l ps).length = (midP l ps).length + 13 + 5 := by
    rw [all_five, List.length_append, List.length_append, clean_length]
    rfl
  rw [code_length, codeL, finalL_get, hlen]
  have hget : (allP l ps)[(midP l ps).length + 13 + 5 - 5 + j]? = fiveP[j]? := by
    rw [all_five, List.getElem?_append_right (by rw [List.length_append, clean_length]; omega), List.length_append, clean_length]
    congr 1
    omega
  rw [hget]
  have hp : ∀ (x : S43) (P : Int → Int) (i : Int), patchI P i (x, 0) = x := fun x P i => by simp [patchI]
  have hm : 0 + (((midP l ps).length + 13 + 5 - 5 + 3 : Nat) : Int) = ((midP l ps).length : Int) + 16 := by omega
  have hq : placeOf l ps 2 = ((midP l ps).length : Int) := rfl
  obtain ⟨M, hM⟩ : ∃ M, M = (midP l ps).length := ⟨_, rfl⟩
  rw [← hM] at hm hq ⊢
  obtain ⟨P, hP⟩ : ∃ P, P = placeOf l ps := ⟨_, rfl⟩
  rw [← hP] at hq ⊢
  clear hget hlen hM hP
  have hj5 : j = 0 ∨ j = 1 ∨ j = 2 ∨ j = 3 ∨ j = 4 := by omega
  rcases hj5 with rfl | rfl | rfl | rfl | rfl
  · simp only [fiveP, fiveI, List.getElem?_cons_zero, Option.map_some, hp]
  · simp only [fiveP, fiveI, List.getElem?_cons_succ, List.getElem?_cons_zero, Option.map_some, hp]
  · simp only [fiveP, fiveI, List.getElem?_cons_succ, List.getElem?_cons_zero, Option.map_some, hp]
  · rw [hm]
    simp only [fiveP, fiveI, List.getElem?_cons_succ, List.getElem?_cons_zero, Option.map_some, patchI, hq, Option.some.injEq]
    rw [if_neg (by decide)]
    congr 1
    omega
  · simp only [fiveP, fiveI, List.getElem?_cons_succ, List.getElem?_cons_zero, Option.map_some, hp]
theorem five_reps (w : World) (base : Nat) : Reps (k43.M w base (fun _ => True)) k43.sz fiveI (fiveI.flatMap insCells) := by
  have one : ∀ x : S43, Kd.M k43 w base (fun _ => True) x (insCells x) := fun x => k43_mkM _ _ _ x
  exact Reps.c5 (one _) (Reps.c5 (one _) (Reps.c5 (one _) (Reps.c5 (one _) (Reps.c5 (one _) (Reps.none _ _)))))
theorem words_five (l : LayV) (ps : List Int) (j m : Nat) (hj : j < 5) (hm : m = (wordsL ps l).length - 5 + j) : rd (wordsL ps l) (m : Int) = (encP (rd_T43 fiveI (j : Int))).1 := by
  have h := code_five l ps j hj
  have hl : (wordsL ps l).length = (codeL ps l).length := by rw [wordsL, List.length_map]
  rw [hl] at hm
  rw [← hm] at h
  have hj' : j < fiveI.length := hj
  simp only [rd, rd_T43, Int.toNat_natCast, wordsL, List.getD_eq_getElem?_getD, List.getElem?_map, h, List.getElem?_eq_getElem hj', Option.map_some, Option.getD_some]
theorem words_ge (l : LayV) (ps : List Int) : 5 ≤ (wordsL ps l).length := by
  rw [wordsL, List.length_map, code_length, all_five, List.length_append]
  show 5 ≤ _ + 5
  omega
theorem ref5_0 : caponierref02_Encode.f 40 41 0 1 0 0 = some ((encP ⟨41, 0, 1, 0, 0⟩).1, (encP ⟨41, 0, 1, 0, 0⟩).2) := by kernel_rfl
theorem ref5_1 : caponierref02_Encode.f 40 16 10 0 0 0 = some ((encP ⟨16, 10, 0, 0, 0⟩).1, (encP ⟨16, 10, 0, 0, 0⟩).2) := by kernel_rfl
theorem ref5_2 : caponierref02_Encode.f 40 16 11 0 0 1 = some ((encP ⟨16, 11, 0, 0, 1⟩).1, (encP ⟨16, 11, 0, 0, 1⟩).2) := by kernel_rfl
theorem ref5_3 : caponierref02_Encode.f 40 40 0 0 0 (-64) = some ((encP ⟨40, 0, 0, 0, -64⟩).1, (encP ⟨40, 0, 0, 0, -64⟩).2) := by kernel_rfl
theorem ref5_4 : caponierref02_Encode.f 40 42 0 0 0 0 = some ((encP ⟨42, 0, 0, 0, 0⟩).1, (encP ⟨42, 0, 0, 0, 0⟩).2) := by kernel_rfl
theorem rd5 (j : Nat) (hj : j < 5) : rd_T43 fiveI (j : Int) = fiveI[j]'hj := by
  have hj' : j < fiveI.length := hj
  simp only [rd_T43, Int.toNat_natCast, List.getD_eq_getElem?_getD, List.getElem?_eq_getElem hj', Option.getD_some]
  rfl
theorem ref_five (j : Nat) (hj : j < 5) : caponierref02_Encode.f 40 (rd_T43 fiveI (j : Int)).f0 (rd_T43 fiveI (j : Int)).f1 (rd_T43 fiveI (j : Int)).f2 (rd_T43 fiveI (j : Int)).f3 (rd_T43 fiveI (j : Int)).f4 = some ((encP (rd_T43 fiveI (j : Int))).1, (encP (rd_T43 fiveI (j : Int))).2) := by
  rw [rd5 j hj]
  have hj5 : j = 0 ∨ j = 1 ∨ j = 2 ∨ j = 3 ∨ j = 4 := by omega
  rcases hj5 with rfl | rfl | rfl | rfl | rfl
  · exact ref5_0
  · exact ref5_1
  · exact ref5_2
  · exact ref5_3
  · exact ref5_4

set_option maxHeartbeats 16000000 in
set_option maxRecDepth 100000 in
theorem ends_calls (A0 : Option Addr) (c0 : Nat) (ps : List Int) (l : LayV) (w : World) (hr : Kd.C (Kd.int .i64) w A0 ps.length ps) (hc : ps.length ≤ c0) (hG : GlobOk w) :
    Calls Tryd.prog 7 #[.slice A0 ps.length c0, .agg (layArr l)] w fun e w' => e = .returned (.bool true) ∧ Below w.heap.size w w' := by
  have HR := Aside0.mk hr
  have HC := Aside0.mk hc
  have HG := Aside0.mk hG
  have HB := Aside0.mk (Below.refl w.heap.size w)
  clear hr hc hG
  go_enter Tryd.func7, Tryd.ntmps7
  go_wp2_with (first | ((with_reducible refine gate_dst (N := 3) rfl ?_); refine box_event ?hg (N := 3) ?hd (cs := layArr l) (t := 27) ?hr ?_; (case hd => rfl); (case hg => rfl); (case hr => (refine exec_box (by rfl) (by rfl) (run_boxL l _))); intro g3 hg3 w1 B3 hb1; have HB1 := Aside0.mk hb1; have HK3 := Aside0.mk B3; clear hb1 B3 hg3))
  refine (caponierlaw19_awake.calls true _ rfl (HG.out.of_below HB1.out)).mono ?_
  rintro e w2 ⟨rfl, hb2⟩
  have HB2 := Aside0.mk (below_step HB1.out hb2)
  have HK32 := Aside0.mk (blk_below HK3.out hb2)
  have HR2 := Aside0.mk (Kd.C_below HR.out (below_step HB1.out hb2))
  clear hb2 HB1 HK3
  by_cases hl : (100 : Int) < (ps.length : Int)
  · go_wp2_with fail
    go_ret
    exact ⟨rfl, HB2.out⟩
  · go_wp2_with (first | ((with_reducible refine gate_dst (N := 19) rfl ?_); refine wpList_load_row (by rfl) 27 _ (by rfl) g3 (by rfl) 27 (layArr l) (0, 0) _ HK32.out Tryd.underlying27 rfl (by kernel_rfl) ?_))
    by_cases hok : (mayL l && nameB (⟨#[102]⟩ : ByteArray).data.toList && !decide ((6 : Int) < (ps.length : Int)) && !ps.any badN) = true
    · simp only [Bool.and_eq_true, Bool.not_eq_true', decide_eq_false_iff_not] at hok
      obtain ⟨⟨⟨hm, hn⟩, h6⟩, hbad⟩ := hok
      refine (cap_yes ⟨#[102]⟩ A0 c0 ps l _ HR2.out HC.out (HG.out.of_below HB2.out) (by decide) hm hn (by omega) hbad).mono ?_
      rintro e w3 ⟨u3, v3, rfl, hu3, hv3, hb3⟩
      obtain ⟨Au, cu, hu⟩ := Kd.R_slice hu3
      obtain ⟨wl, hwl⟩ : ∃ n, n = (wordsL ps l).length := ⟨_, rfl⟩
      rw [← hwl] at hu
      subst hu
      obtain ⟨Av, cv, hv⟩ := Kd.R_slice hv3
      replace hv : v3 = .slice Av 1 cv := hv
      subst hv
      have h5 : 5 ≤ wl := by rw [hwl]; exact words_ge l ps
      have HWL := Aside0.mk hwl
      have HU3 := Aside0.mk (Kd.R_lower hu3 HB2.out.size)
      have hwb : wl ≤ 100 := by rw [hwl, wordsL, List.length_map, code_length]; exact all_length l ps (by omega)
      have HB3 := Aside0.mk (below_step HB2.out hb3)
      have HK33 := Aside0.mk (blk_below HK32.out hb3)
      have HR3 := Aside0.mk (Kd.C_below HR2.out hb3)
      clear hu3 hv3 hb3 hwl hm hn h6 hbad hl HB2 HK32 HR2 HR
      go_wp2_with (first | ((with_reducible refine gate_dst (N := 5) rfl ?_); refine box_event ?hg (N := 5) ?hd (cs := noCells) (t := 35) ?hr ?_; (case hd => rfl); (case hg => rfl); (case hr => first | (go_simp; done) | (go_simp; rfl)); intro g5 hg5 w4 B5 hb4; have HA5 := Aside0.mk hb4; have HE5 := Aside0.mk hg5; have HK5 := Aside0.mk B5; clear hb4 hg5 B5) | (refine store_event (by rfl) (ty := 35) (by rfl) g5 35 noCells (objCells (.slice Au wl cu) (.slice Av 1 cv)) (by rfl) (by rfl) HK5.out (by kernel_rfl) rfl (by kernel_rfl) ?_; intro w5 hs5; have hX := hs5.below HA5.out (by rw [HE5.out]; exact Nat.le_refl _); have HB5 := Aside0.mk (below_step HB3.out hX); have HK55 := Aside0.mk hs5.at_; have HU5 := Aside0.mk (Kd.R_below HU3.out hX); have q50 : w5.cell? ⟨g5, 0, none⟩ = some (.slice Au wl cu) := (blk_cell hs5.at_ 0).trans rfl; clear hX hs5 HA5 HE5 HK5) | ((with_reducible refine gate_dst (N := 34) rfl ?_); refine Kd.R_lit k43 (w0 := w) w.heap.size 43 ?hg (N := 34) ?hd (xs := [(⟨41, 0, 1, 0, 0⟩ : S43), (⟨16, 10, 0, 0, 0⟩ : S43), (⟨16, 11, 0, 0, 1⟩ : S43), (⟨40, 0, 0, 0, (-64)⟩ : S43), (⟨42, 0, 0, 0, 0⟩ : S43)]) (inner := [.int .i64 41, .int .i64 0, .int .i64 1, .int .i64 0, .int .i64 0, .int .i64 16, .int .i64 10, .int .i64 0, .int .i64 0, .int .i64 0, .int .i64 16, .int .i64 11, .int .i64 0, .int .i64 0, .int .i64 1, .int .i64 40, .int .i64 0, .int .i64 0, .int .i64 0, .int .i64 (-64), .int .i64 42, .int .i64 0, .int .i64 0, .int .i64 0, .int .i64 0]) (ok := fun _ => True) (okp := fun _ => True) ?hr ?hp (fun _ hk => hk) trivial HB5.out HB5.out.size (by simp) ?_; (case hd => rfl); (case hg => rfl); (case hr => first | (go_simp; done) | (go_simp; rfl)); (case hp => exact five_reps _ _); intro v7 w6 ho7 hb6 hg6 hn6; replace ho7 : Kd.R k43 43 w6 w.heap.size (fun _ => True) v7 fiveI := ho7; obtain ⟨A7, c7, hv7⟩ := Kd.R_slice ho7; replace hv7 : v7 = .slice A7 5 c7 := hv7; subst hv7; have HW6 := Aside0.mk ho7; have HB6 := Aside0.mk hb6; have HU6 := Aside0.mk (Kd.R_grown HU5.out hg6 (by intro k _ e; cases e)); have HK56 := Aside0.mk (blk_grown HK55.out hg6 (by intro e; cases e)); have q60 : w6.cell? ⟨g5, 0, none⟩ = some (.slice Au wl cu) := (blk_cell HK56.out 0).trans rfl; clear ho7 hb6 hg6 hn6))
      go_loopg [9] 5 (fun g s9 w' => ∃ i : Nat, s9 = .int .i64 i ∧ i ≤ 5 ∧ g = 5 - i ∧ Aside0 (Below w6.heap.size w6 w'))
      case atStart => exact ⟨0, rfl, by omega, rfl, ⟨Below.refl _ _⟩⟩
      case round =>
        obtain ⟨i, rfl, hi, rfl, hbx⟩ := hrel
        by_cases hlt : i < 5
        · obtain ⟨x, hx⟩ : ∃ x, x = rd_T43 fiveI (i : Int) := ⟨_, rfl⟩
          obtain ⟨ad, e1, x0, x1, x2, x3, x4⟩ := at_T43 (Kd.R_reads' (Kd.R_below HW6.out hbx.out)).2.2 (i : Int) (by omega) (by show (i : Int) < 5; omega)
          cases e1
          rw [← hx] at x0 x1 x2 x3 x4
          simp only [Int.toNat_natCast] at x0 x1 x2 x3 x4
          have HE := ref_five i hlt
          rw [← hx] at HE
          have HE := Aside0.mk HE
          have HX := Aside0.mk hx
          clear hx
          have hlt' : (i : Int) < 5 := by omega
          go_wp2_with fail
          refine (caponierref02_Encode.calls 40 x.f0 x.f1 x.f2 x.f3 x.f4 (encP x).1 (encP x).2 _ HE.out).mono ?_
          rintro e w7 ⟨rfl, hb7⟩
          have hb67 := below_step hbx.out hb7
          clear x0 x1 x2 x3 x4
          obtain ⟨m, hm⟩ : ∃ m : Nat, m = wl - 5 + i := ⟨_, rfl⟩
          have hmw : m < wl := by omega
          obtain ⟨adu, eu, qu⟩ := Kd.at_int (Kd.R_reads' (Kd.R_below HU6.out hb67)).2.2 (m : Int) (by omega) (by rw [← HWL.out]; omega)
          cases eu
          rw [Int.toNat_natCast, words_five l ps i m hlt (by rw [← HWL.out]; exact hm), ← HX.out] at qu
          have q5 : w7.cell? ⟨g5, 0, none⟩ = some (.slice (some adu) wl cu) := (blk_cell (blk_below HK56.out hb67) 0).trans rfl
          have s1 : IntKind.i64.wrap ((wl : Int) - 5) = (wl : Int) - 5 := IntWalk.i64_in _ (by omega)
          have s2 : IntKind.i64.wrap ((wl : Int) - 5 + i) = (m : Int) := by rw [IntWalk.i64_in _ (by omega)]; omega
          have d5 : decide ((wl : Int) < 5) = false := decide_eq_false (by omega)
          have HB67 := Aside0.mk hb67
          clear hb67 hb7 hm
          go_wp2_with fail
          go_roundg (5 - (i + 1))
          case measure => omega
          case rel => exact ⟨i + 1, by go_num, by omega, rfl, HB67⟩
        · obtain rfl : i = 5 := by omega
          go_wp2_with fail
          go_ret
          exact ⟨rfl, below_step HB6.out hbx.out⟩
    · replace hok : (mayL l && nameB (⟨#[102]⟩ : ByteArray).data.toList && !decide ((6 : Int) < (ps.length : Int)) && !ps.any badN) = false := by simpa using hok
      refine (cap_no ⟨#[102]⟩ A0 c0 ps l _ HR2.out HC.out (HG.out.of_below HB2.out) (by decide) hok).mono ?_
      rintro e w3 ⟨rfl, hb3⟩
      have HB3 := Aside0.mk (below_step HB2.out hb3)
      clear hb3 hok
      go_upto_region 6 with (first | ((with_reducible refine gate_dst (N := 5) rfl ?_); refine box_event ?hg (N := 5) ?hd (cs := noCells) (t := 35) ?hr ?_; (case hd => rfl); (case hg => rfl); (case hr => first | (go_simp; done) | (go_simp; rfl)); intro g5 hg5 w4 B5 hb4; have HA5 := Aside0.mk hb4; have HE5 := Aside0.mk hg5; have HK5 := Aside0.mk B5; clear hb4 hg5 B5) | (refine store_event (by rfl) (ty := 35) (by rfl) g5 35 noCells noCells (by rfl) (by rfl) HK5.out (by kernel_rfl) rfl (by kernel_rfl) ?_; intro w5 hs5; have HS5 := Aside0.mk hs5; clear hs5))
      have HB5 := Aside0.mk (HS5.out.below (below_step HB3.out HA5.out) (by rw [HE5.out]; exact HB3.out.size))
      have q50 : w5.cell? ⟨g5, 0, none⟩ = some (.slice none 0 0) := (blk_cell HS5.out.at_ 0).trans rfl
      go_wp2_with fail
      go_ret
      exact ⟨rfl, HB5.out⟩
end Go.Proofs.YtaoajlaocphgdaaDoor.PA
