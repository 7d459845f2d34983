/-
The law WrapSizes: it says true.
-/
import Derived.Test.YtaoajlaocphgdaaDoorHAwake
namespace Go.Proofs.YtaoajlaocphgdaaDoor.PA
open Go.RowKit Go.Proofs.YtaoajlaocphgdaaDoorW.PrintWords Go.Proofs.YtaoajlaocphgdaaDoorW.PrintLast Go.Proofs.YtaoajlaocphgdaaDoorW.PrintMore
set_option linter.unusedVariables false
set_option linter.unusedSimpArgs false

/-- How many instructions a wrapper has. -/
def sizeS (l : LayV) : List Int → Int
  | [] => 38
  | n :: r => (if n > 0 then (if l.a12 + 8 * n ≤ l.a13 then 8 else 1) else 0) + sizeS l r
theorem ptrP_size (l : LayV) (r n : Int) : ((ptrP l r n).length : Int) = if l.a12 + 8 * n ≤ l.a13 then 8 else 1 := by
  unfold ptrP
  split
  · rw [if_neg (by omega)]; rfl
  · rw [if_pos (by omega)]
    simp [num, noneGo, numIns]
theorem paramsP_size (l : LayV) (ps : List Int) (i : Int) : ((paramsP l ps i).length : Int) + 38 = sizeS l ps := by
  induction ps generalizing i with
  | nil => rfl
  | cons n r ih =>
    have h := ih (i + 1)
    simp only [paramsP, sizeS, List.length_append, Int.natCast_add]
    split
    · rw [ptrP_size]; omega
    · simp; omega
theorem all_size (l : LayV) (ps : List Int) : ((allP l ps).length : Int) = sizeS l ps := by
  have := paramsP_size l ps 0
  have hb : (backP l).length = 8 := by simp [backP, num, noneGo, numIns]
  simp only [allP, noP, leftP, midP, preP, checksP, List.length_append, num_length, noneGo_length, clean_length, List.length_cons, List.length_nil, hb]
  omega
theorem words_size (l : LayV) (ps : List Int) : ((wordsL ps l).length : Int) = sizeS l ps := by
  rw [wordsL, List.length_map, code_length, all_size]
theorem size_take (l : LayV) (ps : List Int) (k : Nat) (n : Int) (h : ps[k]? = some n) : sizeS l (ps.take (k + 1)) = sizeS l (ps.take k) + (if n > 0 then (if l.a12 + 8 * n ≤ l.a13 then 8 else 1) else 0) := by
  induction ps generalizing k with
  | nil => cases h
  | cons x r ih =>
    cases k with
    | zero =>
      obtain rfl := Option.some.inj h
      simp only [List.take_succ_cons, List.take_zero, sizeS]
      omega
    | succ k =>
      have := ih k (by simpa using h)
      simp only [List.take_succ_cons, sizeS]
      omega
theorem size_bound (l : LayV) (ps : List Int) : 38 ≤ sizeS l ps ∧ sizeS l ps ≤ 38 + 8 * ps.length := by
  induction ps with
  | nil => simp [sizeS]
  | cons n r ih =>
    simp only [sizeS, List.length_cons]
    split
    · split <;> omega
    · omega

set_option maxHeartbeats 16000000 in
set_option maxRecDepth 100000 in
theorem sizes_calls (A0 : Option Addr) (c0 : Nat) (ps : List Int) (l : LayV) (w : World) (hr : Kd.C (Kd.int .i64) w A0 ps.length ps) (hc : ps.length ≤ c0) (hG : GlobOk w) :
    Calls Tryd.prog 5 #[.slice A0 ps.length c0, .agg (layArr l)] w fun e w' => e = .returned (.bool true) ∧ Below w.heap.size w w' := by
  have HR := Aside0.mk hr
  have HC := Aside0.mk hc
  have HG := Aside0.mk hG
  have HB := Aside0.mk (Below.refl w.heap.size w)
  clear hr hc hG
  go_enter Tryd.func5, Tryd.ntmps5
  go_wp2_with (first | ((with_reducible refine gate_dst (N := 3) rfl ?_); refine box_event ?hg (N := 3) ?hd (cs := layArr l) (t := 27) ?hr ?_; (case hd => rfl); (case hg => rfl); (case hr => (refine exec_box (by rfl) (by rfl) (run_boxL l _))); intro g3 hg3 w1 B3 hb1; have HB1 := Aside0.mk hb1; have HK3 := Aside0.mk B3; clear hb1 B3 hg3))
  refine (caponierlaw19_awake.calls true _ rfl (HG.out.of_below HB1.out)).mono ?_
  rintro e w2 ⟨rfl, hb2⟩
  have HB2 := Aside0.mk (below_step HB1.out hb2)
  have HK32 := Aside0.mk (blk_below HK3.out hb2)
  have HR2 := Aside0.mk (Kd.C_below HR.out (below_step HB1.out hb2))
  clear hb2 HB1 HK3
  by_cases hl : (100 : Int) < (ps.length : Int)
  · go_wp2_with fail
    go_ret
    exact ⟨rfl, HB2.out⟩
  · go_wp2_with (first | ((with_reducible refine gate_dst (N := 16) rfl ?_); refine wpList_load_row (by rfl) 27 _ (by rfl) g3 (by rfl) 27 (layArr l) (0, 0) _ HK32.out Tryd.underlying27 rfl (by kernel_rfl) ?_))
    by_cases hok : (mayL l && nameB (⟨#[102]⟩ : ByteArray).data.toList && !decide ((6 : Int) < (ps.length : Int)) && !ps.any badN) = true
    · simp only [Bool.and_eq_true, Bool.not_eq_true', decide_eq_false_iff_not] at hok
      obtain ⟨⟨⟨hm, hn⟩, h6⟩, hbad⟩ := hok
      refine (cap_yes ⟨#[102]⟩ A0 c0 ps l _ HR2.out HC.out (HG.out.of_below HB2.out) (by decide) hm hn (by omega) hbad).mono ?_
      rintro e w3 ⟨u3, v3, rfl, hu3, hv3, hb3⟩
      obtain ⟨Au, cu, hu⟩ := Kd.R_slice hu3
      obtain ⟨wl, hwl⟩ : ∃ n, n = (wordsL ps l).length := ⟨_, rfl⟩
      rw [← hwl] at hu
      subst hu
      obtain ⟨Av, cv, hv⟩ := Kd.R_slice hv3
      replace hv : v3 = .slice Av 1 cv := hv
      subst hv
      have hws : (wl : Int) = sizeS l ps := by rw [hwl]; exact words_size l ps
      have HWS := Aside0.mk hws
      have HB3 := Aside0.mk (below_step HB2.out hb3)
      have HK33 := Aside0.mk (blk_below HK32.out hb3)
      have HR3 := Aside0.mk (Kd.C_below HR2.out hb3)
      have HO := Aside0.mk (mayL_ok hm)
      have HP := Aside0.mk (bad_range hbad)
      have h6' : ps.length ≤ 6 := by omega
      clear hu3 hv3 hb3 hwl hws hm hn h6 hbad hl HB2 HK32 HR2 HR
      go_wp2_with (first | ((with_reducible refine gate_dst (N := 5) rfl ?_); refine box_event ?hg (N := 5) ?hd (cs := noCells) (t := 35) ?hr ?_; (case hd => rfl); (case hg => rfl); (case hr => first | (go_simp; done) | (go_simp; rfl)); intro g5 hg5 w4 B5 hb4; have HA5 := Aside0.mk hb4; have HE5 := Aside0.mk hg5; have HK5 := Aside0.mk B5; clear hb4 hg5 B5) | (refine store_event (by rfl) (ty := 35) (by rfl) g5 35 noCells (objCells (.slice Au wl cu) (.slice Av 1 cv)) (by rfl) (by rfl) HK5.out (by kernel_rfl) rfl (by kernel_rfl) ?_; intro w5 hs5; have HS5 := Aside0.mk hs5; clear hs5))
      have hX := HS5.out.below HA5.out (by rw [HE5.out]; exact Nat.le_refl _)
      have HB5 := Aside0.mk (below_step HB3.out hX)
      have HK35 := Aside0.mk (blk_below HK33.out hX)
      have HR5 := Aside0.mk (Kd.C_below HR3.out hX)
      have HK55 := Aside0.mk HS5.out.at_
      clear hX HS5 HA5 HE5 HK5 HB3 HK33 HR3
      go_loopg [7, 8] ps.length (fun g s7 s8 w' => ∃ k : Nat, s7 = .int .i64 (sizeS l (ps.take k)) ∧ s8 = .int .i64 k ∧ k ≤ ps.length ∧ g = ps.length - k ∧ Aside0 (Below w5.heap.size w5 w'))
      case atStart => exact ⟨0, rfl, rfl, Nat.zero_le _, rfl, ⟨Below.refl _ _⟩⟩
      case round =>
        obtain ⟨k, rfl, rfl, hk, rfl, hbx⟩ := hrel
        obtain ⟨sz, hsz⟩ : ∃ z, z = sizeS l (ps.take k) := ⟨_, rfl⟩
        have hsb := size_bound l (ps.take k)
        rw [List.length_take] at hsb
        rw [← hsz] at hsb ⊢
        have HSZ := Aside0.mk hsz
        clear hsz
        by_cases hlt : k < ps.length
        · obtain ⟨ad, e1, hcell⟩ := Kd.at_int (Kd.C_below HR5.out hbx.out) (k : Int) (by omega) (by omega)
          cases e1
          rw [Int.toNat_natCast] at hcell
          obtain ⟨n, hn⟩ : ∃ n, rd ps (k : Int) = n := ⟨_, rfl⟩
          have hget : ps[k]? = some n := by
            rw [List.getElem?_eq_getElem hlt, ← hn]
            simp [rd, List.getD_eq_getElem?_getD, List.getElem?_eq_getElem hlt]
          obtain ⟨n0, n1⟩ := HP.out n (List.mem_of_getElem? hget)
          have HT := Aside0.mk (size_take l ps k n hget)
          rw [hn] at hcell
          have hK3 := blk_below HK35.out hbx.out
          have q12 : wr.cell? ⟨g3, 12, none⟩ = some (.int .u64 l.a12) := (blk_cell hK3 12).trans rfl
          have q13 : wr.cell? ⟨g3, 13, none⟩ = some (.int .u64 l.a13) := (blk_cell hK3 13).trans rfl
          have o12 := HO.out.1.h12
          have o13 := HO.out.1.h13
          have s1 : IntKind.i64.wrap (8 * n) = 8 * n := IntWalk.i64_in _ (by omega)
          have s2 : IntKind.u64.wrap (8 * n) = 8 * n := IntWalk.u64_in _ (by omega)
          have s3 : IntKind.u64.wrap (l.a12 + 8 * n) = l.a12 + 8 * n := IntWalk.u64_in _ (by omega)
          clear hn hget hK3
          by_cases hp : n > 0
          · by_cases hf : l.a12 + 8 * n ≤ l.a13
            · rw [if_pos hp, if_pos hf] at HT
              have d1 : decide (0 < n) = true := decide_eq_true hp
              have d2 : decide (l.a12 + 8 * n ≤ l.a13) = true := decide_eq_true hf
              have s4 : IntKind.i64.wrap (sz + 8) = sz + 8 := IntWalk.i64_in _ (by omega)
              go_wp2_with fail
              go_quiet (fail)
              go_wp2_with fail
              go_roundg (ps.length - (k + 1))
              case measure => omega
              case rel => exact ⟨k + 1, by rw [HT.out, ← HSZ.out], by go_num, by omega, rfl, ⟨pw_below_drewN hbx.out _⟩⟩
            · rw [if_pos hp, if_neg hf] at HT
              have d1 : decide (0 < n) = true := decide_eq_true hp
              have d2 : decide (l.a12 + 8 * n ≤ l.a13) = false := decide_eq_false hf
              have s4 : IntKind.i64.wrap (sz + 1) = sz + 1 := IntWalk.i64_in _ (by omega)
              go_wp2_with fail
              go_quiet (fail)
              go_wp2_with fail
              go_roundg (ps.length - (k + 1))
              case measure => omega
              case rel => exact ⟨k + 1, by rw [HT.out, ← HSZ.out], by go_num, by omega, rfl, ⟨pw_below_drewN hbx.out _⟩⟩
          · rw [if_neg hp] at HT
            have d1 : decide (0 < n) = false := decide_eq_false hp
            go_wp2_with fail
            go_quiet (fail)
            go_wp2_with fail
            go_roundg (ps.length - (k + 1))
            case measure => omega
            case rel => exact ⟨k + 1, by rw [HT.out, ← HSZ.out, Int.add_zero], by go_num, by omega, rfl, ⟨pw_below_drewN hbx.out _⟩⟩
        · obtain rfl : k = ps.length := by omega
          rw [List.take_length] at HSZ
          obtain rfl : sz = (wl : Int) := by rw [HSZ.out, HWS.out]
          have hK5 := blk_below HK55.out hbx.out
          have q0 : wr.cell? ⟨g5, 0, none⟩ = some (.slice Au wl cu) := (blk_cell hK5 0).trans rfl
          have q1 : wr.cell? ⟨g5, 1, none⟩ = some (.slice none 0 0) := (blk_cell hK5 1).trans rfl
          have q2 : wr.cell? ⟨g5, 2, none⟩ = some (.slice none 0 0) := (blk_cell hK5 2).trans rfl
          have q3 : wr.cell? ⟨g5, 3, none⟩ = some (.slice Av 1 cv) := (blk_cell hK5 3).trans rfl
          have q4 : wr.cell? ⟨g5, 4, none⟩ = some (.slice none 0 0) := (blk_cell hK5 4).trans rfl
          clear hK5
          go_wp2_with fail
          go_ret
          exact ⟨rfl, below_step HB5.out hbx.out⟩
    · replace hok : (mayL l && nameB (⟨#[102]⟩ : ByteArray).data.toList && !decide ((6 : Int) < (ps.length : Int)) && !ps.any badN) = false := by simpa using hok
      refine (cap_no ⟨#[102]⟩ A0 c0 ps l _ HR2.out HC.out (HG.out.of_below HB2.out) (by decide) hok).mono ?_
      rintro e w3 ⟨rfl, hb3⟩
      have HB3 := Aside0.mk (below_step HB2.out hb3)
      clear hb3 hok
      go_upto_region 6 with (first | ((with_reducible refine gate_dst (N := 5) rfl ?_); refine box_event ?hg (N := 5) ?hd (cs := noCells) (t := 35) ?hr ?_; (case hd => rfl); (case hg => rfl); (case hr => first | (go_simp; done) | (go_simp; rfl)); intro g5 hg5 w4 B5 hb4; have HA5 := Aside0.mk hb4; have HE5 := Aside0.mk hg5; have HK5 := Aside0.mk B5; clear hb4 hg5 B5) | (refine store_event (by rfl) (ty := 35) (by rfl) g5 35 noCells noCells (by rfl) (by rfl) HK5.out (by kernel_rfl) rfl (by kernel_rfl) ?_; intro w5 hs5; have HS5 := Aside0.mk hs5; clear hs5))
      have HB5 := Aside0.mk (HS5.out.below (below_step HB3.out HA5.out) (by rw [HE5.out]; exact HB3.out.size))
      have q50 : w5.cell? ⟨g5, 0, none⟩ = some (.slice none 0 0) := (blk_cell HS5.out.at_ 0).trans rfl
      go_wp2_with fail
      go_ret
      exact ⟨rfl, HB5.out⟩
end Go.Proofs.YtaoajlaocphgdaaDoor.PA
