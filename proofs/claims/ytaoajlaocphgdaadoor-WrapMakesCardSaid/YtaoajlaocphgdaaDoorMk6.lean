/-
WrapMakes: for every name, every list of parameters and every layout the law says true: whether a layout may be, and an entry's wrapper, is what the document says, or refused; the card with its listed variables tied to the program's text. Nothing is asked of the input.
-/
import Derived.Test.YtaoajlaocphgdaaDoorMk5
import Derived.Deep.RegionHeld3
import Derived.ChangeKeysEq
import Derived.Test.YtaoajlaocphgdaaDoorRows
import Derived.ProofKit
import Derived.LaidMore
import Derived.OpenShut
import Derived.Stop.Joined
import Derived.Lib.LaidU8
import Derived.Lib.SmallJoins
import Derived.Test.YtaoajlaocphgdaaDoorCards
import Derived.Test.YtaoajlaocphgdaaDoorTie
import Derived.WalkKit
import Derived.Lay
import Derived.SevenTiedAt
import Derived.Below

section
namespace Go.Proofs.YtaoajlaocphgdaaDoor.PA
open Go.RowKit Go.Proofs.YtaoajlaocphgdaaDoorW.PrintWords Go.Proofs.YtaoajlaocphgdaaDoorW.PrintLast Go.Proofs.YtaoajlaocphgdaaDoorW.PrintMore
set_option linter.unusedVariables false
set_option linter.unusedSimpArgs false
def rT9 : Bool × List (List Nat × List Nat) := (true, [([], []), ([], []), ([1], [1]), ([], []), ([], []), ([3, 4], [3, 4]), ([5], [5]), ([], []), ([2, 6, 7], [2, 6, 7]), ([0, 8, 8], [0, 8]), ([9, 9, 0, 1, 2, 3, 4, 5, 6, 7, 8, 9], [0, 9])])
def rB9 : List Nat := [0, 0, 2, 0, 0, 24, 56, 0, 254, 511, 1023]
theorem rtab9 : rtab .any (opsOf Tryd.f27 9) = rT9 := by kernel_rfl
theorem rbits9 : waitsOk rT9.2 rB9 = true := by kernel_rfl
set_option maxHeartbeats 16000000 in
set_option maxRecDepth 100000 in
theorem rcode_calls (A0 : Option Addr) (c0 : Nat) (ps : List Int) (l : LayV) (w : World) (hr : Kd.C (Kd.int .i64) w A0 ps.length ps) (hc : ps.length ≤ c0) (hO : LayOk l) (h6 : ps.length ≤ 6) (hpn : ∀ n ∈ ps, 0 ≤ n ∧ n ≤ 64) :
    Calls Tryd.prog 27 #[.slice A0 ps.length c0, .agg (layArr l)] w fun e w' => ∃ v, e = .returned (.tuple #[v, .int .i64 ((preP l ps).length : Int)]) ∧ Kd.R k43 43 w' w.heap.size (fun _ => True) v (codeL ps l) ∧ Below w.heap.size w w' := by
  have HR := Aside0.mk hr
  have HPN := Aside0.mk hpn
  have HO := Aside0.mk hO
  have HB := Aside0.mk (Below.refl w.heap.size w)
  have o5 := hO.h5
  clear hr hpn
  have sa : IntKind.u64.wrap (l.a5 - 16) = l.a5 - 16 := IntWalk.u64_in _ (by omega)
  go_enter Tryd.func27, Tryd.ntmps27
  go_upto_region 1 with (first | ((with_reducible refine gate_dst (N := 3) rfl ?_); refine box_event ?hg (N := 3) ?hd (cs := layArr l) (t := 27) ?hr ?_; (case hd => rfl); (case hg => rfl); (case hr => (refine exec_box (by rfl) (by rfl) (run_boxL l _))); intro g3 hg3 w1 B3 hb1; have HB1 := Aside0.mk hb1; have HE3 := Aside0.mk hg3; have HK1 := Aside0.mk B3; clear hb1 B3 hg3))
  have c5 : w1.cell? ⟨g3, 5, none⟩ = some (.int .u64 l.a5) := (blk_cell HK1.out 5).trans rfl
  have c16 : w1.cell? ⟨g3, 16, none⟩ = some (.int .u64 l.a16) := (blk_cell HK1.out 16).trans rfl
  go_wp2_with fail
  refine (caponierref19_number.calls 100 5 (l.a16) _ _ (rnum_f 100 (by decide) 5 (l.a16) hO.h16)).mono ?_
  rintro e w2 ⟨v2, rfl, ho2, hb2⟩
  obtain ⟨A2, q2, hv2⟩ := Kd.R_slice ho2
  replace hv2 : v2 = .slice A2 2 q2 := hv2
  subst hv2
  have HS2 := Aside0.mk (Kd.R_lower ho2 HB1.out.size)
  have HB2 := Aside0.mk (below_step HB1.out hb2)
  have HK2 := Aside0.mk (blk_below HK1.out hb2)
  clear ho2 hb2
  clear c5 c16
  go_wp2_with (first | ((with_reducible refine gate_dst (N := 25) rfl ?_); refine Kd.R_lit k43 (w0 := w) w.heap.size 43 ?hg (N := 25) ?hd (xs := [(⟨36, 0, 1, 5, (-2)⟩ : S43)]) (inner := [.int .i64 36, .int .i64 0, .int .i64 1, .int .i64 5, .int .i64 (-2)]) (ok := fun _ => True) (okp := fun _ => True) ?hr ?hp (fun _ hk => hk) trivial HB2.out HB2.out.size (by simp) ?_; (case hd => rfl); (case hg => rfl); (case hr => first | (go_simp; done) | (go_simp; rfl)); (case hp => exact (Reps.c5 (show Kd.M k43 _ _ _ (⟨36, 0, 1, 5, (-2)⟩ : S43) [.int .i64 36, .int .i64 0, .int .i64 1, .int .i64 5, .int .i64 (-2)] from (k43_mkM _ _ _ (⟨36, 0, 1, 5, (-2)⟩ : S43) )) (Reps.none _ _))); intro v3 w3 ho3 hb3 hg3 hn3; obtain ⟨A3, q3, hv3⟩ := Kd.R_slice ho3; replace hv3 : v3 = .slice A3 1 q3 := hv3; subst hv3; have HX3 := Aside0.mk ho3; have HB3 := Aside0.mk hb3; have HS3 := Aside0.mk (Kd.R_grown HS2.out hg3 (by intro k _ e; cases e)); have HK3 := Aside0.mk (blk_grown HK2.out hg3 (by intro e; cases e)); clear ho3 hb3 hg3 hn3) | (at_builtin; refine Kd.R_append_rows k43 (w0 := w) w.heap.size rfl (.tmp 23) (.tmp 25) 56 43 (.agg #[(.int .i64 0), (.int .i64 0), (.int .i64 0), (.int .i64 0), (.int .i64 0)]) 40 rfl Tryd.underlying56 info43 rfl (by decide) (by omega) _ (numIns 5 (l.a16) (sg (l.a16))) [(⟨36, 0, 1, 5, (-2)⟩ : S43)] _ _ _ (fun _ => True) (fun _ => False) rfl rfl ?aO ?aR (fun _ _ h => h) (fun _ h => h.elim) (fun _ _ => trivial) ?aB ?aS ?aL ?_; (case aR => exact (Kd.R_reads' HX3.out).2.2); (case aB => exact HB3.out); (case aO => exact HS3.out); (case aS => exact HB3.out.size); (case aL => simp [numIns]); intro v4 w4 ho4 hb4 hg4 hat4; have HS4 := Aside0.mk ho4; have HB4 := Aside0.mk hb4; have HK4 := Aside0.mk (blk_grown HK3.out hg4 (Kd.R_ne HS3.out HK3.out (by decide))); clear ho4 hb4 hg4 hat4; have c17 : w4.cell? ⟨g3, 17, none⟩ = some (.int .u64 l.a17) := (blk_cell HK4.out 17).trans rfl))
  refine (caponierref19_number.calls 100 5 (l.a17) _ _ (rnum_f 100 (by decide) 5 (l.a17) hO.h17)).mono ?_
  rintro e w5 ⟨v5, rfl, ho5, hb5⟩
  obtain ⟨A5, q5, hv5⟩ := Kd.R_slice ho5
  replace hv5 : v5 = .slice A5 2 q5 := hv5
  subst hv5
  have HX5 := Aside0.mk (Kd.R_lower ho5 HB4.out.size)
  have HB5 := Aside0.mk (below_step HB4.out hb5)
  have HK5 := Aside0.mk (blk_below HK4.out hb5)
  have HS5 := Aside0.mk (Kd.R_below HS4.out hb5)
  clear ho5 hb5
  clear c17
  go_wp2_with (first | (at_builtin; refine Kd.R_append_rows k43 (w0 := w) w.heap.size rfl (.tmp 27) (.tmp 31) 56 43 (.agg #[(.int .i64 0), (.int .i64 0), (.int .i64 0), (.int .i64 0), (.int .i64 0)]) 40 rfl Tryd.underlying56 info43 rfl (by decide) (by omega) _ ((numIns 5 (l.a16) (sg (l.a16))) ++ [(⟨36, 0, 1, 5, (-2)⟩ : S43)]) (numIns 5 (l.a17) (sg (l.a17))) _ _ _ (fun _ => True) (fun _ => False) rfl rfl ?aO ?aR (fun _ _ h => h) (fun _ h => h.elim) (fun _ _ => trivial) ?aB ?aS ?aL ?_; (case aR => exact (Kd.R_reads' HX5.out).2.2); (case aB => exact HB5.out); (case aO => exact HS5.out); (case aS => exact HB5.out.size); (case aL => simp [numIns]); intro v6 w6 ho6 hb6 hg6 hat6; have HS6 := Aside0.mk ho6; have HB6 := Aside0.mk hb6; have HK6 := Aside0.mk (blk_grown HK5.out hg6 (Kd.R_ne HS5.out HK5.out (by decide))); clear ho6 hb6 hg6 hat6) | ((with_reducible refine gate_dst (N := 34) rfl ?_); refine Kd.R_lit k43 (w0 := w) w.heap.size 43 ?hg (N := 34) ?hd (xs := [(⟨37, 0, 1, 5, (-2)⟩ : S43)]) (inner := [.int .i64 37, .int .i64 0, .int .i64 1, .int .i64 5, .int .i64 (-2)]) (ok := fun _ => True) (okp := fun _ => True) ?hr ?hp (fun _ hk => hk) trivial HB6.out HB6.out.size (by simp) ?_; (case hd => rfl); (case hg => rfl); (case hr => first | (go_simp; done) | (go_simp; rfl)); (case hp => exact (Reps.c5 (show Kd.M k43 _ _ _ (⟨37, 0, 1, 5, (-2)⟩ : S43) [.int .i64 37, .int .i64 0, .int .i64 1, .int .i64 5, .int .i64 (-2)] from (k43_mkM _ _ _ (⟨37, 0, 1, 5, (-2)⟩ : S43) )) (Reps.none _ _))); intro v7 w7 ho7 hb7 hg7 hn7; obtain ⟨A7, q7, hv7⟩ := Kd.R_slice ho7; replace hv7 : v7 = .slice A7 1 q7 := hv7; subst hv7; have HX7 := Aside0.mk ho7; have HB7 := Aside0.mk hb7; have HS7 := Aside0.mk (Kd.R_grown HS6.out hg7 (by intro k _ e; cases e)); have HK7 := Aside0.mk (blk_grown HK6.out hg7 (by intro e; cases e)); clear ho7 hb7 hg7 hn7) | (at_builtin; refine Kd.R_append_rows k43 (w0 := w) w.heap.size rfl (.tmp 32) (.tmp 34) 56 43 (.agg #[(.int .i64 0), (.int .i64 0), (.int .i64 0), (.int .i64 0), (.int .i64 0)]) 40 rfl Tryd.underlying56 info43 rfl (by decide) (by omega) _ (((numIns 5 (l.a16) (sg (l.a16))) ++ [(⟨36, 0, 1, 5, (-2)⟩ : S43)]) ++ (numIns 5 (l.a17) (sg (l.a17)))) [(⟨37, 0, 1, 5, (-2)⟩ : S43)] _ _ _ (fun _ => True) (fun _ => False) rfl rfl ?aO ?aR (fun _ _ h => h) (fun _ h => h.elim) (fun _ _ => trivial) ?aB ?aS ?aL ?_; (case aR => exact (Kd.R_reads' HX7.out).2.2); (case aB => exact HB7.out); (case aO => exact HS7.out); (case aS => exact HB7.out.size); (case aL => simp [numIns]); intro v8 w8 ho8 hb8 hg8 hat8; have HS8 := Aside0.mk ho8; have HB8 := Aside0.mk hb8; have HK8 := Aside0.mk (blk_grown HK7.out hg8 (Kd.R_ne HS7.out HK7.out (by decide))); clear ho8 hb8 hg8 hat8) | ((with_reducible refine gate_dst (N := 39) rfl ?_); refine Kd.R_lit k43 (w0 := w) w.heap.size 43 ?hg (N := 39) ?hd (xs := [(⟨21, 5, 1, 0, 3⟩ : S43), (⟨33, 0, 5, 0, (-2)⟩ : S43)]) (inner := [.int .i64 21, .int .i64 5, .int .i64 1, .int .i64 0, .int .i64 3, .int .i64 33, .int .i64 0, .int .i64 5, .int .i64 0, .int .i64 (-2)]) (ok := fun _ => True) (okp := fun _ => True) ?hr ?hp (fun _ hk => hk) trivial HB8.out HB8.out.size (by simp) ?_; (case hd => rfl); (case hg => rfl); (case hr => first | (go_simp; done) | (go_simp; rfl)); (case hp => exact (Reps.c5 (show Kd.M k43 _ _ _ (⟨21, 5, 1, 0, 3⟩ : S43) [.int .i64 21, .int .i64 5, .int .i64 1, .int .i64 0, .int .i64 3] from (k43_mkM _ _ _ (⟨21, 5, 1, 0, 3⟩ : S43) )) (Reps.c5 (show Kd.M k43 _ _ _ (⟨33, 0, 5, 0, (-2)⟩ : S43) [.int .i64 33, .int .i64 0, .int .i64 5, .int .i64 0, .int .i64 (-2)] from (k43_mkM _ _ _ (⟨33, 0, 5, 0, (-2)⟩ : S43) )) (Reps.none _ _)))); intro v9 w9 ho9 hb9 hg9 hn9; obtain ⟨A9, q9, hv9⟩ := Kd.R_slice ho9; replace hv9 : v9 = .slice A9 2 q9 := hv9; subst hv9; have HX9 := Aside0.mk ho9; have HB9 := Aside0.mk hb9; have HS9 := Aside0.mk (Kd.R_grown HS8.out hg9 (by intro k _ e; cases e)); have HK9 := Aside0.mk (blk_grown HK8.out hg9 (by intro e; cases e)); clear ho9 hb9 hg9 hn9) | (at_builtin; refine Kd.R_append_rows k43 (w0 := w) w.heap.size rfl (.tmp 36) (.tmp 39) 56 43 (.agg #[(.int .i64 0), (.int .i64 0), (.int .i64 0), (.int .i64 0), (.int .i64 0)]) 40 rfl Tryd.underlying56 info43 rfl (by decide) (by omega) _ ((((numIns 5 (l.a16) (sg (l.a16))) ++ [(⟨36, 0, 1, 5, (-2)⟩ : S43)]) ++ (numIns 5 (l.a17) (sg (l.a17)))) ++ [(⟨37, 0, 1, 5, (-2)⟩ : S43)]) [(⟨21, 5, 1, 0, 3⟩ : S43), (⟨33, 0, 5, 0, (-2)⟩ : S43)] _ _ _ (fun _ => True) (fun _ => False) rfl rfl ?aO ?aR (fun _ _ h => h) (fun _ h => h.elim) (fun _ _ => trivial) ?aB ?aS ?aL ?_; (case aR => exact (Kd.R_reads' HX9.out).2.2); (case aB => exact HB9.out); (case aO => exact HS9.out); (case aS => exact HB9.out.size); (case aL => simp [numIns]); intro v10 w10 ho10 hb10 hg10 hat10; have HS10 := Aside0.mk ho10; have HB10 := Aside0.mk hb10; have HK10 := Aside0.mk (blk_grown HK9.out hg10 (Kd.R_ne HS9.out HK9.out (by decide))); clear ho10 hb10 hg10 hat10))
  have HS := Aside0.mk (show Kd.R k43 43 w10 w.heap.size (fun _ => True) v10 (rawChk l (ps.take 0)) from HS10.out)
  have HR10 := Aside0.mk (Kd.C_below HR.out HB10.out)
  clear HS10 HR10
  go_loopg [7, 8] ps.length (fun g s7 s8 w' => ∃ (i : Nat), s8 = .int .i64 i ∧ i ≤ ps.length ∧ g = ps.length - i ∧ Aside0 (Kd.R k43 43 w' w.heap.size (fun _ => True) s7 (rawChk l (ps.take i))) ∧ Aside0 (w'.heap[g3]? = some (.cells (layArr l) 27 (0, 0))) ∧ Aside0 (Below w.heap.size w w'))
  case atStart => exact ⟨0, rfl, Nat.zero_le _, rfl, HS, HK10, HB10⟩
  case round =>
    clear HS HK10 HB10
    obtain ⟨i, rfl, hi, rfl, HS, HK, HB⟩ := hrel
    by_cases hlt : i < ps.length
    · obtain ⟨ad, e1, hcell⟩ := Kd.at_int (Kd.C_below HR.out HB.out) (i : Int) (by omega) (by omega)
      cases e1
      obtain ⟨ad0, e0, hcell0⟩ := Kd.at_int HR.out (i : Int) (by omega) (by omega)
      cases e0
      rw [Int.toNat_natCast] at hcell hcell0
      obtain ⟨n, hn⟩ : ∃ n, rd ps (i : Int) = n := ⟨_, rfl⟩
      have hget : ps[i]? = some n := by
        rw [List.getElem?_eq_getElem hlt, ← hn]
        simp [rd, List.getD_eq_getElem?_getD, List.getElem?_eq_getElem hlt]
      have hnn := HPN.out n (List.mem_of_getElem? hget)
      have hT := rawChk_snoc l ps i n hget
      rw [hn] at hcell hcell0
      clear hn hget
      have hlti : (i : Int) < (ps.length : Int) := by omega
      have si : IntKind.i64.wrap ((i : Int) + 1) = (i : Int) + 1 := IntWalk.i64_in _ (by omega)
      by_cases hp : n > 0
      · rw [if_pos hp] at hT
        have HT := Aside0.mk hT
        clear hT
        have d1 : decide (n > 0) = true := decide_eq_true hp
        have s1 : IntKind.i64.wrap (10 + (i : Int)) = 10 + (i : Int) := IntWalk.i64_in _ (by omega)
        go_wp2_with fail
        refine start_ (n := 11) (S := fun w' => w'.cell? (ad.add i) = some (.int .i64 n) ∧ w'.heap[g3]? = some (.cells (layArr l) 27 (0, 0))) (ds := []) #[false, false, false, false, false, false, false, false, false, false, false] (by kernel_rfl) rfl rfl ⟨hcell, blk_drew HK.out⟩ (fun hHeld => ?_)
        refine with_tabW rtab9 rbits9 (fun HT_ HW_ => ?_)
        have HS1 := Aside0.mk (Kd.R_drew HS.out)
        have HK1 := Aside0.mk (blk_drew HK.out)
        have HB1 := Aside0.mk (below_drew1 HB.out)
        clear HS HK HB hcell
        generalize wr.drew = w1 at HS1 HK1 HB1 hHeld ⊢
        refine pure_ (i := 0) (N := some 52) (v := ?_) (a' := ?_) #[true, false, false, false, false, false, false, false, false, false, false] rfl rfl (any_of HT_.out (by kernel_rfl)) (fun _ _ _ h => h) (Or.inl ⟨by rfl, ?_⟩) ?_ ?_
        rotate_left
        · intro w'
          go_simp
          with_reducible rfl
        rotate_left
        · simp only [Act.put, List.setIfInBounds_toArray, List.set_cons_zero, List.set_cons_succ, i64_w, i32_w]
          rfl
        refine pure_ (i := 1) (N := some 53) (v := ?_) (a' := ?_) #[true, true, false, false, false, false, false, false, false, false, false] rfl rfl (any_of HT_.out (by kernel_rfl)) (fun _ _ _ h => h) (Or.inl ⟨by rfl, ?_⟩) ?_ ?_
        rotate_left
        · intro w'
          go_simp
          with_reducible rfl
        rotate_left
        · simp only [Act.put, List.setIfInBounds_toArray, List.set_cons_zero, List.set_cons_succ, i64_w, i32_w]
          rfl
        refine pure_ (i := 2) (N := some 54) (v := ?_) (a' := ?_) #[true, true, true, false, false, false, false, false, false, false, false] rfl rfl (any_of HT_.out (by kernel_rfl)) (fun _ _ _ h => h) (Or.inl ⟨by rfl, ?_⟩) ?_ ?_
        rotate_left
        · intro w'
          go_simp
          with_reducible rfl
        rotate_left
        · simp only [Act.put, List.setIfInBounds_toArray, List.set_cons_zero, List.set_cons_succ, i64_w, i32_w]
          rfl
        refine pure_ (i := 3) (N := some 55) (v := ?_) (a' := ?_) #[true, true, true, true, false, false, false, false, false, false, false] rfl rfl (any_of HT_.out (by kernel_rfl)) (fun _ _ _ h => h) (Or.inl ⟨by rfl, ?_⟩) ?_ ?_
        rotate_left
        · intro w'
          go_simp
          with_reducible rfl
        rotate_left
        · simp only [Act.put, List.setIfInBounds_toArray, List.set_cons_zero, List.set_cons_succ, i64_w, i32_w]
          rfl
        refine pure_ (i := 4) (N := some 56) (v := ?_) (a' := ?_) #[true, true, true, true, true, false, false, false, false, false, false] rfl rfl (any_of HT_.out (by kernel_rfl)) (fun _ _ _ h => h) (Or.inl ⟨by rfl, ?_⟩) ?_ ?_
        rotate_left
        · intro w'
          go_simp
          with_reducible rfl
        rotate_left
        · simp only [Act.put, List.setIfInBounds_toArray, List.set_cons_zero, List.set_cons_succ, i64_w, i32_w]
          rfl
        refine pure_ (i := 5) (N := some 57) (v := ?_) (a' := ?_) #[true, true, true, true, true, true, false, false, false, false, false] rfl rfl (any_of HT_.out (by kernel_rfl)) (fun _ _ _ h => h) (Or.inl ⟨by rfl, ?_⟩) ?_ ?_
        rotate_left
        · intro w'
          go_simp
          with_reducible rfl
        rotate_left
        · simp only [Act.put, List.setIfInBounds_toArray, List.set_cons_zero, List.set_cons_succ, i64_w, i32_w]
          rfl
        refine take_ (i := 6) (N := some 58) (v := ?_) (a' := ?_) #[true, true, true, true, true, true, true, false, false, false, false] rfl rfl (take_ofW HT_.out HW_.out (by kernel_rfl)) (fun _ _ _ h => h) (Or.inl ⟨by rfl, ?_⟩) hHeld ?_ ?_
        rotate_left
        · rintro w' ⟨s0, s1⟩
          go_simp
          with_reducible rfl
        rotate_left
        · simp only [Act.put, List.setIfInBounds_toArray, List.set_cons_zero, List.set_cons_succ, i64_w, i32_w]
          rfl
        refine take_ (i := 7) (N := some 59) (v := .agg (layArr l)) (a' := ?_) #[true, true, true, true, true, true, true, true, false, false, false] rfl rfl (take_ofW HT_.out HW_.out (by kernel_rfl)) (fun _ _ _ h => h) (Or.inl ⟨by rfl, ?_⟩) hHeld ?_ ?_
        · rintro w' ⟨s0, s1⟩
          exact exec_load (v := .pointer (some ⟨g3, 0, none⟩)) (by rfl) (by rfl) (run_loadL l w' g3 s1)
        rotate_left
        · simp only [Act.put, List.setIfInBounds_toArray, List.set_cons_zero, List.set_cons_succ, i64_w, i32_w]
          rfl
        refine one_ (i := 8) (N := some 60) #[true, true, true, true, true, true, true, true, true, false, false] rfl rfl (one_of HT_.out (by kernel_rfl)) (by decide) (fun K hK => ?_)
        refine goes_ Tryd.func59 (by kernel_rfl) rfl #[.int .i64 (10 + (i : Int)), .int .i64 n, .agg (layArr l)] (by rfl) rfl rfl (by (try simp only [List.map_toArray, List.map_cons, List.map_nil]); first | done | rfl) ?_
        refine (caponierref19_points.calls 100 (10 + (i : Int)) n l.a0 l.a1 l.a2 l.a3 l.a4 l.a5 l.a6 l.a7 l.a8 l.a9 l.a10 l.a11 l.a12 l.a13 l.a14 l.a15 l.a16 l.a17 l.a18 l.a19 _ _ (rpts_f 100 (by decide) l HO.out (10 + (i : Int)) n hnn)).mono ?_
        rintro e w2 ⟨v2, rfl, ho2, hb2⟩
        refine ⟨_, rfl, ?_⟩
        obtain ⟨A2, q2, hv2⟩ := Kd.R_slice ho2
        subst hv2
        have HX2 := Aside0.mk (Kd.R_lower ho2 HB1.out.size)
        have hcell2 := (hb2.cell (World.block_lt_of_cell? w1 _ hHeld.1)).trans hHeld.1
        have HS2 := Aside0.mk (Kd.R_below HS1.out hb2)
        have HK2 := Aside0.mk (blk_below HK1.out hb2)
        have HB2 := Aside0.mk (below_step HB1.out hb2)
        clear ho2 hb2 HS1 HK1 HB1
        refine hK.out _ _ ⟨hcell2, HK2.out⟩ (fun hHeld => ?_)
        clear hK K
        refine norm_ (a' := ?_) ?_ ?_
        rotate_left
        · show Act.put _ (some 60) _ = _
          simp only [Act.put, List.setIfInBounds_toArray, List.set_cons_zero, List.set_cons_succ, i64_w, i32_w]
          rfl
        refine one_ (i := 9) (N := some 61) #[true, true, true, true, true, true, true, true, true, true, false] rfl rfl (one_of HT_.out (by kernel_rfl)) (by decide) (fun K hK => ?_)
        have hlen := rawChk_len l (ps.take i) (by rw [List.length_take]; omega)
        have hlen2 := ptrP_length l (10 + (i : Int)) n
        refine Kd.R_append_rows_step k43 (w0 := w) w.heap.size (by rfl) (.tmp 52) (.tmp 60) 56 43 (.agg #[(.int .i64 0), (.int .i64 0), (.int .i64 0), (.int .i64 0), (.int .i64 0)]) 40 rfl Tryd.underlying56 info43 rfl (by decide) (by omega) _ (rawChk l (ps.take i)) ((ptrP l (10 + (i : Int)) n).map markI) _ _ _ (fun _ => True) (fun _ => False) rfl rfl ?aO ?aR (fun _ _ h => h) (fun _ h => h.elim) (fun _ _ => trivial) ?aB ?aS ?aL ?_
        (case aR => exact (Kd.R_reads' HX2.out).2.2)
        (case aB => exact HB2.out)
        (case aO => exact HS2.out)
        (case aS => exact HB2.out.size)
        (case aL => rw [List.length_map]; omega)
        intro v3 w3 ho3 hb3 hg3 hat3
        have HK3 := Aside0.mk (blk_grown HK2.out hg3 (Kd.R_ne HS2.out HK2.out (by decide)))
        have HS3 := Aside0.mk ho3
        have HB3 := Aside0.mk hb3
        have hcell3 := (HB3.out.cell (World.block_lt_of_cell? w _ hcell0)).trans hcell0
        clear ho3 hb3 hg3 hat3
        refine hK.out _ _ ⟨hcell3, HK3.out⟩ (fun hHeld => ?_)
        clear hK K
        refine norm_ (a' := ?_) ?_ ?_
        rotate_left
        · show Act.put _ (some 61) _ = _
          simp only [Act.put, List.setIfInBounds_toArray, List.set_cons_zero, List.set_cons_succ, i64_w, i32_w]
          rfl
        refine pure_ (i := 10) (N := some 7) (v := ?_) (a' := ?_) #[true, true, true, true, true, true, true, true, true, true, true] rfl rfl (any_of HT_.out (by kernel_rfl)) (fun _ _ _ h => h) (Or.inl ⟨by rfl, ?_⟩) ?_ ?_
        rotate_left
        · intro w'
          go_simp
          with_reducible rfl
        rotate_left
        · simp only [Act.put, List.setIfInBounds_toArray, List.set_cons_zero, List.set_cons_succ, i64_w, i32_w]
          rfl
        refine done_ (done_of HT_.out (by kernel_rfl)) ?_
        go_wp2_with fail
        go_roundg (ps.length - (i + 1))
        case measure => omega
        case rel => exact ⟨i + 1, by go_num, by omega, rfl, ⟨by rw [HT.out]; exact HS3.out⟩, HK3, HB3⟩
      · rw [if_neg hp, List.append_nil] at hT
        have HT := Aside0.mk hT
        clear hT
        have d1 : decide (n > 0) = false := decide_eq_false hp
        go_wp2_with fail
        go_roundg (ps.length - (i + 1))
        case measure => omega
        case rel => exact ⟨i + 1, by go_num, by omega, rfl, ⟨by rw [HT.out]; exact HS.out⟩, HK, HB⟩
    · obtain rfl : i = ps.length := by omega
      rw [List.take_length] at HS
      have hcl := rawChk_len l ps h6
      have HC := Aside0.mk (show (rawChk l ps).length = (checksP l ps).length by rw [rawChk_eq, List.length_map])
      obtain ⟨RC, hRC⟩ : ∃ z, z = rawChk l ps := ⟨_, rfl⟩
      rw [← hRC] at HS hcl HC
      have HRC := Aside0.mk hRC
      clear hRC
      obtain ⟨cn, hcn⟩ : ∃ z, RC.length = z := ⟨_, rfl⟩
      rw [hcn] at hcl
      obtain ⟨AV, qV, hV⟩ := Kd.R_slice HS.out
      rw [hcn] at hV
      subst hV
      have c5 : wr.cell? ⟨g3, 5, none⟩ = some (.int .u64 l.a5) := (blk_cell HK.out 5).trans rfl
      go_wp2_with fail
      refine (caponierref19_number.calls 100 5 (l.a5 - 16) _ _ (rnum_f 100 (by decide) 5 (l.a5 - 16) (by have := HO.out.h5; omega))).mono ?_
      rintro e w20 ⟨v20, rfl, ho20, hb20⟩
      obtain ⟨A20, q20, hv20⟩ := Kd.R_slice ho20
      replace hv20 : v20 = .slice A20 2 q20 := hv20
      subst hv20
      have HX20 := Aside0.mk (Kd.R_lower ho20 HB.out.size)
      have HB20 := Aside0.mk (below_step HB.out hb20)
      have HK20 := Aside0.mk (blk_below HK.out hb20)
      have HS20 := Aside0.mk (Kd.R_below HS.out hb20)
      clear ho20 hb20
      go_wp2_with (first | (at_builtin; refine Kd.R_append_rows k43 (w0 := w) w.heap.size rfl (.tmp 64) (.tmp 66) 56 43 (.agg #[(.int .i64 0), (.int .i64 0), (.int .i64 0), (.int .i64 0), (.int .i64 0)]) 40 rfl Tryd.underlying56 info43 rfl (by decide) (by omega) _ RC (numIns 5 (l.a5 - 16) (sg (l.a5 - 16))) _ _ _ (fun _ => True) (fun _ => False) rfl rfl ?aO ?aR (fun _ _ h => h) (fun _ h => h.elim) (fun _ _ => trivial) ?aB ?aS ?aL ?_; (case aR => exact (Kd.R_reads' HX20.out).2.2); (case aB => exact HB20.out); (case aO => exact HS20.out); (case aS => exact HB20.out.size); (case aL => (simp [numIns, hcn]; omega)); intro v21 w21 ho21 hb21 hg21 hat21; have HS21 := Aside0.mk ho21; have HB21 := Aside0.mk hb21; have HK21 := Aside0.mk (blk_grown HK20.out hg21 (Kd.R_ne HS20.out HK20.out (by decide))); clear ho21 hb21 hg21 hat21) | ((with_reducible refine gate_dst (N := 70) rfl ?_); refine Kd.R_lit k43 (w0 := w) w.heap.size 43 ?hg (N := 70) ?hd (xs := [(⟨31, 0, 5, 1, 0⟩ : S43), (⟨31, 0, 5, 2, 8⟩ : S43)]) (inner := [.int .i64 31, .int .i64 0, .int .i64 5, .int .i64 1, .int .i64 0, .int .i64 31, .int .i64 0, .int .i64 5, .int .i64 2, .int .i64 8]) (ok := fun _ => True) (okp := fun _ => True) ?hr ?hp (fun _ hk => hk) trivial HB21.out HB21.out.size (by simp) ?_; (case hd => rfl); (case hg => rfl); (case hr => first | (go_simp; done) | (go_simp; rfl)); (case hp => exact (Reps.c5 (show Kd.M k43 _ _ _ (⟨31, 0, 5, 1, 0⟩ : S43) [.int .i64 31, .int .i64 0, .int .i64 5, .int .i64 1, .int .i64 0] from (k43_mkM _ _ _ (⟨31, 0, 5, 1, 0⟩ : S43) )) (Reps.c5 (show Kd.M k43 _ _ _ (⟨31, 0, 5, 2, 8⟩ : S43) [.int .i64 31, .int .i64 0, .int .i64 5, .int .i64 2, .int .i64 8] from (k43_mkM _ _ _ (⟨31, 0, 5, 2, 8⟩ : S43) )) (Reps.none _ _)))); intro v22 w22 ho22 hb22 hg22 hn22; obtain ⟨A22, q22, hv22⟩ := Kd.R_slice ho22; replace hv22 : v22 = .slice A22 2 q22 := hv22; subst hv22; have HX22 := Aside0.mk ho22; have HB22 := Aside0.mk hb22; have HS22 := Aside0.mk (Kd.R_grown HS21.out hg22 (by intro k _ e; cases e)); have HK22 := Aside0.mk (blk_grown HK21.out hg22 (by intro e; cases e)); clear ho22 hb22 hg22 hn22) | (at_builtin; refine Kd.R_append_rows k43 (w0 := w) w.heap.size rfl (.tmp 67) (.tmp 70) 56 43 (.agg #[(.int .i64 0), (.int .i64 0), (.int .i64 0), (.int .i64 0), (.int .i64 0)]) 40 rfl Tryd.underlying56 info43 rfl (by decide) (by omega) _ (RC ++ (numIns 5 (l.a5 - 16) (sg (l.a5 - 16)))) [(⟨31, 0, 5, 1, 0⟩ : S43), (⟨31, 0, 5, 2, 8⟩ : S43)] _ _ _ (fun _ => True) (fun _ => False) rfl rfl ?aO ?aR (fun _ _ h => h) (fun _ h => h.elim) (fun _ _ => trivial) ?aB ?aS ?aL ?_; (case aR => exact (Kd.R_reads' HX22.out).2.2); (case aB => exact HB22.out); (case aO => exact HS22.out); (case aS => exact HB22.out.size); (case aL => (simp [numIns, hcn]; omega)); intro v23 w23 ho23 hb23 hg23 hat23; have HS23 := Aside0.mk ho23; have HB23 := Aside0.mk hb23; have HK23 := Aside0.mk (blk_grown HK22.out hg23 (Kd.R_ne HS22.out HK22.out (by decide))); clear ho23 hb23 hg23 hat23; have c9 : w23.cell? ⟨g3, 9, none⟩ = some (.int .u64 l.a9) := (blk_cell HK23.out 9).trans rfl))
      refine (caponierref19_number.calls 100 2 (l.a9) _ _ (rnum_f 100 (by decide) 2 (l.a9) HO.out.h9)).mono ?_
      rintro e w24 ⟨v24, rfl, ho24, hb24⟩
      obtain ⟨A24, q24, hv24⟩ := Kd.R_slice ho24
      replace hv24 : v24 = .slice A24 2 q24 := hv24
      subst hv24
      have HX24 := Aside0.mk (Kd.R_lower ho24 HB23.out.size)
      have HB24 := Aside0.mk (below_step HB23.out hb24)
      have HK24 := Aside0.mk (blk_below HK23.out hb24)
      have HS24 := Aside0.mk (Kd.R_below HS23.out hb24)
      clear ho24 hb24
      go_wp2_with (first | (at_builtin; refine Kd.R_append_rows k43 (w0 := w) w.heap.size rfl (.tmp 72) (.tmp 76) 56 43 (.agg #[(.int .i64 0), (.int .i64 0), (.int .i64 0), (.int .i64 0), (.int .i64 0)]) 40 rfl Tryd.underlying56 info43 rfl (by decide) (by omega) _ ((RC ++ (numIns 5 (l.a5 - 16) (sg (l.a5 - 16)))) ++ [(⟨31, 0, 5, 1, 0⟩ : S43), (⟨31, 0, 5, 2, 8⟩ : S43)]) (numIns 2 (l.a9) (sg (l.a9))) _ _ _ (fun _ => True) (fun _ => False) rfl rfl ?aO ?aR (fun _ _ h => h) (fun _ h => h.elim) (fun _ _ => trivial) ?aB ?aS ?aL ?_; (case aR => exact (Kd.R_reads' HX24.out).2.2); (case aB => exact HB24.out); (case aO => exact HS24.out); (case aS => exact HB24.out.size); (case aL => (simp [numIns, hcn]; omega)); intro v25 w25 ho25 hb25 hg25 hat25; have HS25 := Aside0.mk ho25; have HB25 := Aside0.mk hb25; have HK25 := Aside0.mk (blk_grown HK24.out hg25 (Kd.R_ne HS24.out HK24.out (by decide))); clear ho25 hb25 hg25 hat25; obtain ⟨A25, q25, hv25⟩ := Kd.R_slice HS25.out; rw [show (((RC ++ (numIns 5 (l.a5 - 16) (sg (l.a5 - 16)))) ++ [(⟨31, 0, 5, 1, 0⟩ : S43), (⟨31, 0, 5, 2, 8⟩ : S43)]) ++ (numIns 2 (l.a9) (sg (l.a9)))).length = cn + 6 from by simp [numIns, hcn]] at hv25; subst hv25) | ((with_reducible refine gate_dst (N := 82) rfl ?_); refine Kd.R_lit k43 (w0 := w) w.heap.size 43 ?hg (N := 82) ?hd (xs := [(⟨40, 1, 0, 0, 0⟩ : S43)]) (inner := [.int .i64 40, .int .i64 1, .int .i64 0, .int .i64 0, .int .i64 0]) (ok := fun _ => True) (okp := fun _ => True) ?hr ?hp (fun _ hk => hk) trivial HB25.out HB25.out.size (by simp) ?_; (case hd => rfl); (case hg => rfl); (case hr => first | (go_simp; done) | (go_simp; rfl)); (case hp => exact (Reps.c5 (show Kd.M k43 _ _ _ (⟨40, 1, 0, 0, 0⟩ : S43) [.int .i64 40, .int .i64 1, .int .i64 0, .int .i64 0, .int .i64 0] from (k43_mkM _ _ _ (⟨40, 1, 0, 0, 0⟩ : S43) )) (Reps.none _ _))); intro v26 w26 ho26 hb26 hg26 hn26; obtain ⟨A26, q26, hv26⟩ := Kd.R_slice ho26; replace hv26 : v26 = .slice A26 1 q26 := hv26; subst hv26; have HX26 := Aside0.mk ho26; have HB26 := Aside0.mk hb26; have HS26 := Aside0.mk (Kd.R_grown HS25.out hg26 (by intro k _ e; cases e)); have HK26 := Aside0.mk (blk_grown HK25.out hg26 (by intro e; cases e)); clear ho26 hb26 hg26 hn26) | (at_builtin; refine Kd.R_append_rows k43 (w0 := w) w.heap.size rfl (.tmp 80) (.tmp 82) 56 43 (.agg #[(.int .i64 0), (.int .i64 0), (.int .i64 0), (.int .i64 0), (.int .i64 0)]) 40 rfl Tryd.underlying56 info43 rfl (by decide) (by omega) _ (((RC ++ (numIns 5 (l.a5 - 16) (sg (l.a5 - 16)))) ++ [(⟨31, 0, 5, 1, 0⟩ : S43), (⟨31, 0, 5, 2, 8⟩ : S43)]) ++ (numIns 2 (l.a9) (sg (l.a9)))) [(⟨40, 1, 0, 0, 0⟩ : S43)] _ _ _ (fun _ => True) (fun _ => False) rfl rfl ?aO ?aR (fun _ _ h => h) (fun _ h => h.elim) (fun _ _ => trivial) ?aB ?aS ?aL ?_; (case aR => exact (Kd.R_reads' HX26.out).2.2); (case aB => exact HB26.out); (case aO => exact HS26.out); (case aS => exact HB26.out.size); (case aL => (simp [numIns, hcn]; omega)); intro v27 w27 ho27 hb27 hg27 hat27; have HS27 := Aside0.mk ho27; have HB27 := Aside0.mk hb27; have HK27 := Aside0.mk (blk_grown HK26.out hg27 (Kd.R_ne HS26.out HK26.out (by decide))); clear ho27 hb27 hg27 hat27))
      refine (caponierref19_number.calls 100 5 (l.a5 - 16) _ _ (rnum_f 100 (by decide) 5 (l.a5 - 16) (by have := HO.out.h5; omega))).mono ?_
      rintro e w28 ⟨v28, rfl, ho28, hb28⟩
      obtain ⟨A28, q28, hv28⟩ := Kd.R_slice ho28
      replace hv28 : v28 = .slice A28 2 q28 := hv28
      subst hv28
      have HX28 := Aside0.mk (Kd.R_lower ho28 HB27.out.size)
      have HB28 := Aside0.mk (below_step HB27.out hb28)
      have HK28 := Aside0.mk (blk_below HK27.out hb28)
      have HS28 := Aside0.mk (Kd.R_below HS27.out hb28)
      clear ho28 hb28
      go_wp2_with (first | (at_builtin; refine Kd.R_append_rows k43 (w0 := w) w.heap.size rfl (.tmp 83) (.tmp 85) 56 43 (.agg #[(.int .i64 0), (.int .i64 0), (.int .i64 0), (.int .i64 0), (.int .i64 0)]) 40 rfl Tryd.underlying56 info43 rfl (by decide) (by omega) _ ((((RC ++ (numIns 5 (l.a5 - 16) (sg (l.a5 - 16)))) ++ [(⟨31, 0, 5, 1, 0⟩ : S43), (⟨31, 0, 5, 2, 8⟩ : S43)]) ++ (numIns 2 (l.a9) (sg (l.a9)))) ++ [(⟨40, 1, 0, 0, 0⟩ : S43)]) (numIns 5 (l.a5 - 16) (sg (l.a5 - 16))) _ _ _ (fun _ => True) (fun _ => False) rfl rfl ?aO ?aR (fun _ _ h => h) (fun _ h => h.elim) (fun _ _ => trivial) ?aB ?aS ?aL ?_; (case aR => exact (Kd.R_reads' HX28.out).2.2); (case aB => exact HB28.out); (case aO => exact HS28.out); (case aS => exact HB28.out.size); (case aL => (simp [numIns, hcn]; omega)); intro v29 w29 ho29 hb29 hg29 hat29; have HS29 := Aside0.mk ho29; have HB29 := Aside0.mk hb29; have HK29 := Aside0.mk (blk_grown HK28.out hg29 (Kd.R_ne HS28.out HK28.out (by decide))); clear ho29 hb29 hg29 hat29) | ((with_reducible refine gate_dst (N := 91) rfl ?_); refine Kd.R_lit k43 (w0 := w) w.heap.size 43 ?hg (N := 91) ?hd (xs := [(⟨28, 1, 5, 0, 0⟩ : S43), (⟨28, 2, 5, 0, 8⟩ : S43), (⟨16, 11, 0, 0, 0⟩ : S43)]) (inner := [.int .i64 28, .int .i64 1, .int .i64 5, .int .i64 0, .int .i64 0, .int .i64 28, .int .i64 2, .int .i64 5, .int .i64 0, .int .i64 8, .int .i64 16, .int .i64 11, .int .i64 0, .int .i64 0, .int .i64 0]) (ok := fun _ => True) (okp := fun _ => True) ?hr ?hp (fun _ hk => hk) trivial HB29.out HB29.out.size (by simp) ?_; (case hd => rfl); (case hg => rfl); (case hr => first | (go_simp; done) | (go_simp; rfl)); (case hp => exact (Reps.c5 (show Kd.M k43 _ _ _ (⟨28, 1, 5, 0, 0⟩ : S43) [.int .i64 28, .int .i64 1, .int .i64 5, .int .i64 0, .int .i64 0] from (k43_mkM _ _ _ (⟨28, 1, 5, 0, 0⟩ : S43) )) (Reps.c5 (show Kd.M k43 _ _ _ (⟨28, 2, 5, 0, 8⟩ : S43) [.int .i64 28, .int .i64 2, .int .i64 5, .int .i64 0, .int .i64 8] from (k43_mkM _ _ _ (⟨28, 2, 5, 0, 8⟩ : S43) )) (Reps.c5 (show Kd.M k43 _ _ _ (⟨16, 11, 0, 0, 0⟩ : S43) [.int .i64 16, .int .i64 11, .int .i64 0, .int .i64 0, .int .i64 0] from (k43_mkM _ _ _ (⟨16, 11, 0, 0, 0⟩ : S43) )) (Reps.none _ _))))); intro v30 w30 ho30 hb30 hg30 hn30; obtain ⟨A30, q30, hv30⟩ := Kd.R_slice ho30; replace hv30 : v30 = .slice A30 3 q30 := hv30; subst hv30; have HX30 := Aside0.mk ho30; have HB30 := Aside0.mk hb30; have HS30 := Aside0.mk (Kd.R_grown HS29.out hg30 (by intro k _ e; cases e)); have HK30 := Aside0.mk (blk_grown HK29.out hg30 (by intro e; cases e)); clear ho30 hb30 hg30 hn30) | (at_builtin; refine Kd.R_append_rows k43 (w0 := w) w.heap.size rfl (.tmp 87) (.tmp 91) 56 43 (.agg #[(.int .i64 0), (.int .i64 0), (.int .i64 0), (.int .i64 0), (.int .i64 0)]) 40 rfl Tryd.underlying56 info43 rfl (by decide) (by omega) _ (((((RC ++ (numIns 5 (l.a5 - 16) (sg (l.a5 - 16)))) ++ [(⟨31, 0, 5, 1, 0⟩ : S43), (⟨31, 0, 5, 2, 8⟩ : S43)]) ++ (numIns 2 (l.a9) (sg (l.a9)))) ++ [(⟨40, 1, 0, 0, 0⟩ : S43)]) ++ (numIns 5 (l.a5 - 16) (sg (l.a5 - 16)))) [(⟨28, 1, 5, 0, 0⟩ : S43), (⟨28, 2, 5, 0, 8⟩ : S43), (⟨16, 11, 0, 0, 0⟩ : S43)] _ _ _ (fun _ => True) (fun _ => False) rfl rfl ?aO ?aR (fun _ _ h => h) (fun _ h => h.elim) (fun _ _ => trivial) ?aB ?aS ?aL ?_; (case aR => exact (Kd.R_reads' HX30.out).2.2); (case aB => exact HB30.out); (case aO => exact HS30.out); (case aS => exact HB30.out.size); (case aL => (simp [numIns, hcn]; omega)); intro v31 w31 ho31 hb31 hg31 hat31; have HS31 := Aside0.mk ho31; have HB31 := Aside0.mk hb31; have HK31 := Aside0.mk (blk_grown HK30.out hg31 (Kd.R_ne HS30.out HK30.out (by decide))); clear ho31 hb31 hg31 hat31) | ((with_reducible refine gate_dst (N := 93) rfl ?_); refine Kd.R_lit (Kd.int .i64) (w0 := w) w.heap.size 3 ?hg (N := 93) ?hd (xs := cleanRegs) (inner := [.int .i64 5, .int .i64 6, .int .i64 7, .int .i64 12, .int .i64 13, .int .i64 14, .int .i64 15, .int .i64 16, .int .i64 17, .int .i64 28, .int .i64 29, .int .i64 30, .int .i64 31]) (ok := fun _ => True) (okp := fun _ => True) ?hr ?hp (fun _ hk => hk) trivial HB31.out HB31.out.size (by decide) ?_; (case hd => rfl); (case hg => rfl); (case hr => first | (go_simp; done) | (go_simp; rfl)); (case hp => exact (Reps.one (show Kd.M (Kd.int .i64) _ _ _ 5 [.int .i64 5] from rfl) (Reps.one (show Kd.M (Kd.int .i64) _ _ _ 6 [.int .i64 6] from rfl) (Reps.one (show Kd.M (Kd.int .i64) _ _ _ 7 [.int .i64 7] from rfl) (Reps.one (show Kd.M (Kd.int .i64) _ _ _ 12 [.int .i64 12] from rfl) (Reps.one (show Kd.M (Kd.int .i64) _ _ _ 13 [.int .i64 13] from rfl) (Reps.one (show Kd.M (Kd.int .i64) _ _ _ 14 [.int .i64 14] from rfl) (Reps.one (show Kd.M (Kd.int .i64) _ _ _ 15 [.int .i64 15] from rfl) (Reps.one (show Kd.M (Kd.int .i64) _ _ _ 16 [.int .i64 16] from rfl) (Reps.one (show Kd.M (Kd.int .i64) _ _ _ 17 [.int .i64 17] from rfl) (Reps.one (show Kd.M (Kd.int .i64) _ _ _ 28 [.int .i64 28] from rfl) (Reps.one (show Kd.M (Kd.int .i64) _ _ _ 29 [.int .i64 29] from rfl) (Reps.one (show Kd.M (Kd.int .i64) _ _ _ 30 [.int .i64 30] from rfl) (Reps.one (show Kd.M (Kd.int .i64) _ _ _ 31 [.int .i64 31] from rfl) (Reps.none _ _))))))))))))))); intro v32 w32 ho32 hb32 hg32 hn32; obtain ⟨A32, q32, hv32⟩ := Kd.R_slice ho32; replace hv32 : v32 = .slice A32 13 q32 := hv32; subst hv32; have HG32 := Aside0.mk ho32; have HB32 := Aside0.mk hb32; have HS32 := Aside0.mk (Kd.R_grown HS31.out hg32 (by intro k _ e; cases e)); clear ho32 hb32 hg32 hn32))
      obtain ⟨BL, hBL⟩ : ∃ z, z = ((((((RC ++ (numIns 5 (l.a5 - 16) (sg (l.a5 - 16)))) ++ [(⟨31, 0, 5, 1, 0⟩ : S43), (⟨31, 0, 5, 2, 8⟩ : S43)]) ++ (numIns 2 (l.a9) (sg (l.a9)))) ++ [(⟨40, 1, 0, 0, 0⟩ : S43)]) ++ (numIns 5 (l.a5 - 16) (sg (l.a5 - 16)))) ++ [(⟨28, 1, 5, 0, 0⟩ : S43), (⟨28, 2, 5, 0, 8⟩ : S43), (⟨16, 11, 0, 0, 0⟩ : S43)]) := ⟨_, rfl⟩
      rw [← hBL] at HS32
      have hbl : BL.length = cn + 12 := by rw [hBL]; simp [numIns, hcn]
      have HBL := Aside0.mk hBL
      clear hBL HS20 HS21 HS22 HS23 HS24 HS25 HS26 HS27 HS28 HS29 HS30 HS31 HX20 HX22 HX24 HX26 HX28 HX30 HB20 HB21 HB22 HB23 HB24 HB25 HB26 HB27 HB28 HB29 HB30 HB31 HK20 HK21 HK22 HK23 HK24 HK25 HK26 HK27 HK28 HK29 HK30 HK31 HS HK HB
      go_loopg [7, 95] 13 (fun g s7 s95 w' => ∃ (j : Nat), s95 = .int .i64 j ∧ j ≤ 13 ∧ g = 13 - j ∧ Aside0 (Kd.R k43 43 w' w.heap.size (fun _ => True) s7 (BL ++ (cleanRegs.take j).map fun r => (⟨16, r, 0, 0, 0⟩ : S43))) ∧ Aside0 (Kd.R (Kd.int .i64) 3 w' w.heap.size (fun _ => True) (.slice A32 13 q32) cleanRegs) ∧ Aside0 (Below w.heap.size w w'))
      case atStart => exact ⟨0, rfl, by omega, rfl, ⟨by rw [List.take_zero, List.map_nil, List.append_nil]; exact HS32.out⟩, HG32, HB32⟩
      case round =>
        clear HS32 HG32 HB32
        obtain ⟨j, rfl, hj, rfl, HS, HG, HB⟩ := hrel
        by_cases hlt2 : j < 13
        · obtain ⟨ad2, e2, hcell2⟩ := Kd.at_int (Kd.R_reads' HG.out).2.2 (j : Int) (by omega) (by show (j : Int) < 13; omega)
          cases e2
          rw [Int.toNat_natCast] at hcell2
          obtain ⟨rg, hrg⟩ : ∃ z, rd cleanRegs (j : Int) = z := ⟨_, rfl⟩
          rw [hrg] at hcell2
          have HT := Aside0.mk (show (cleanRegs.take (j + 1)).map (fun r => (⟨16, r, 0, 0, 0⟩ : S43)) = (cleanRegs.take j).map (fun r => (⟨16, r, 0, 0, 0⟩ : S43)) ++ [⟨16, rg, 0, 0, 0⟩] from take_map_succ cleanRegs _ j rg (by
            have hjl : j < cleanRegs.length := hlt2
            rw [List.getElem?_eq_getElem hjl, ← hrg]
            simp [rd, List.getD_eq_getElem?_getD, List.getElem?_eq_getElem hjl]))
          have hjI : (j : Int) < 13 := by omega
          have sj : IntKind.i64.wrap ((j : Int) + 1) = (j : Int) + 1 := IntWalk.i64_in _ (by omega)
          clear hrg
          have hjm : j ≤ 13 := hj
          have hll : (BL ++ (cleanRegs.take j).map fun r => (⟨16, r, 0, 0, 0⟩ : S43)).length ≤ 100 := by rw [List.length_append, hbl, List.length_map, List.length_take]; omega
          obtain ⟨CL, hCL⟩ : ∃ z, z = BL ++ (cleanRegs.take j).map fun r => (⟨16, r, 0, 0, 0⟩ : S43) := ⟨_, rfl⟩
          rw [← hCL] at HS hll
          have HCL := Aside0.mk hCL
          clear hCL
          go_wp2_with (first | ((with_reducible refine gate_dst (N := 102) rfl ?_); refine Kd.R_lit k43 (w0 := w) w.heap.size 43 ?hg (N := 102) ?hd (xs := [(⟨16, rg, 0, 0, 0⟩ : S43)]) (inner := [.int .i64 16, .int .i64 rg, .int .i64 0, .int .i64 0, .int .i64 0]) (ok := fun _ => True) (okp := fun _ => True) ?hr ?hp (fun _ hk => hk) trivial HB.out HB.out.size (by simp) ?_; (case hd => rfl); (case hg => rfl); (case hr => first | (go_simp; done) | (go_simp; rfl)); (case hp => exact (Reps.c5 (show Kd.M k43 _ _ _ (⟨16, rg, 0, 0, 0⟩ : S43) [.int .i64 16, .int .i64 rg, .int .i64 0, .int .i64 0, .int .i64 0] from (k43_mkM _ _ _ (⟨16, rg, 0, 0, 0⟩ : S43) )) (Reps.none _ _))); intro v40 w40 ho40 hb40 hg40 hn40; obtain ⟨A40, q40, hv40⟩ := Kd.R_slice ho40; replace hv40 : v40 = .slice A40 1 q40 := hv40; subst hv40; have HX40 := Aside0.mk ho40; have HB40 := Aside0.mk hb40; have HS40 := Aside0.mk (Kd.R_grown HS.out hg40 (by intro k _ e; cases e)); have HG40 := Aside0.mk (Kd.R_grown HG.out hg40 (by intro k _ e; cases e)); clear ho40 hb40 hg40 hn40) | (at_builtin; refine Kd.R_append_rows k43 (w0 := w) w.heap.size rfl (.tmp 99) (.tmp 102) 56 43 (.agg #[(.int .i64 0), (.int .i64 0), (.int .i64 0), (.int .i64 0), (.int .i64 0)]) 40 rfl Tryd.underlying56 info43 rfl (by decide) (by omega) _ CL [(⟨16, rg, 0, 0, 0⟩ : S43)] _ _ _ (fun _ => True) (fun _ => False) rfl rfl ?aO ?aR (fun _ _ h => h) (fun _ h => h.elim) (fun _ _ => trivial) ?aB ?aS ?aL ?_; (case aR => exact (Kd.R_reads' HX40.out).2.2); (case aB => exact HB40.out); (case aO => exact HS40.out); (case aS => exact HB40.out.size); (case aL => (show (CL.length + 1) * 40 ≤ _; omega)); intro v41 w41 ho41 hb41 hg41 hat41; have HS41 := Aside0.mk ho41; have HB41 := Aside0.mk hb41; have HG41 := Aside0.mk (Kd.R_over' HG40.out (Kd.R_typed HS40.out) (by decide) hg41); clear ho41 hb41 hg41 hat41))
          go_roundg (13 - (j + 1))
          case measure => omega
          case rel => exact ⟨j + 1, by go_num, by omega, rfl, ⟨by rw [HT.out, ← List.append_assoc, ← HCL.out]; exact HS41.out⟩, HG41, HB41⟩
        · obtain rfl : j = 13 := by omega
          rw [show cleanRegs.take 13 = cleanRegs from rfl] at HS
          obtain ⟨CL, hCL⟩ : ∃ z, z = BL ++ cleanRegs.map fun r => (⟨16, r, 0, 0, 0⟩ : S43) := ⟨_, rfl⟩
          rw [← hCL] at HS
          obtain ⟨m25, hm25⟩ : ∃ z, CL.length = z := ⟨_, rfl⟩
          have hmc : m25 = cn + 25 := by rw [← hm25, hCL, List.length_append, hbl]; rfl
          have HCL := Aside0.mk hCL
          obtain ⟨AC, qC, hvC⟩ := Kd.R_slice HS.out
          rw [hm25] at hvC
          subst hvC
          obtain ⟨no, hno⟩ : ∃ z : Nat, z = cn + 26 := ⟨_, rfl⟩
          have s13 : IntKind.i64.wrap ((m25 : Int) + 1) = (no : Int) := by rw [IntWalk.i64_in _ (by omega)]; omega
          have HNO := Aside0.mk hno
          have HMC := Aside0.mk hmc
          have hm100 : m25 ≤ 100 := by omega
          clear hCL hno hmc
          go_wp2_with (first | ((with_reducible refine gate_dst (N := 114) rfl ?_); refine Kd.R_lit k43 (w0 := w) w.heap.size 43 ?hg (N := 114) ?hd (xs := [(⟨41, 0, 1, 0, 0⟩ : S43), (⟨16, 10, 0, 0, 0⟩ : S43), (⟨16, 11, 0, 0, 1⟩ : S43), (⟨40, 0, 0, 0, (-64)⟩ : S43), (⟨42, 0, 0, 0, 0⟩ : S43)]) (inner := [.int .i64 41, .int .i64 0, .int .i64 1, .int .i64 0, .int .i64 0, .int .i64 16, .int .i64 10, .int .i64 0, .int .i64 0, .int .i64 0, .int .i64 16, .int .i64 11, .int .i64 0, .int .i64 0, .int .i64 1, .int .i64 40, .int .i64 0, .int .i64 0, .int .i64 0, .int .i64 (-64), .int .i64 42, .int .i64 0, .int .i64 0, .int .i64 0, .int .i64 0]) (ok := fun _ => True) (okp := fun _ => True) ?hr ?hp (fun _ hk => hk) trivial HB.out HB.out.size (by simp) ?_; (case hd => rfl); (case hg => rfl); (case hr => first | (go_simp; done) | (go_simp; rfl)); (case hp => exact (Reps.c5 (show Kd.M k43 _ _ _ (⟨41, 0, 1, 0, 0⟩ : S43) [.int .i64 41, .int .i64 0, .int .i64 1, .int .i64 0, .int .i64 0] from (k43_mkM _ _ _ (⟨41, 0, 1, 0, 0⟩ : S43) )) (Reps.c5 (show Kd.M k43 _ _ _ (⟨16, 10, 0, 0, 0⟩ : S43) [.int .i64 16, .int .i64 10, .int .i64 0, .int .i64 0, .int .i64 0] from (k43_mkM _ _ _ (⟨16, 10, 0, 0, 0⟩ : S43) )) (Reps.c5 (show Kd.M k43 _ _ _ (⟨16, 11, 0, 0, 1⟩ : S43) [.int .i64 16, .int .i64 11, .int .i64 0, .int .i64 0, .int .i64 1] from (k43_mkM _ _ _ (⟨16, 11, 0, 0, 1⟩ : S43) )) (Reps.c5 (show Kd.M k43 _ _ _ (⟨40, 0, 0, 0, (-64)⟩ : S43) [.int .i64 40, .int .i64 0, .int .i64 0, .int .i64 0, .int .i64 (-64)] from (k43_mkM _ _ _ (⟨40, 0, 0, 0, (-64)⟩ : S43) )) (Reps.c5 (show Kd.M k43 _ _ _ (⟨42, 0, 0, 0, 0⟩ : S43) [.int .i64 42, .int .i64 0, .int .i64 0, .int .i64 0, .int .i64 0] from (k43_mkM _ _ _ (⟨42, 0, 0, 0, 0⟩ : S43) )) (Reps.none _ _))))))); intro v50 w50 ho50 hb50 hg50 hn50; obtain ⟨A50, q50, hv50⟩ := Kd.R_slice ho50; replace hv50 : v50 = .slice A50 5 q50 := hv50; subst hv50; have HX50 := Aside0.mk ho50; have HB50 := Aside0.mk hb50; have HS50 := Aside0.mk (Kd.R_grown HS.out hg50 (by intro k _ e; cases e)); clear ho50 hb50 hg50 hn50) | (at_builtin; refine Kd.R_append_rows k43 (w0 := w) w.heap.size rfl (.tmp 108) (.tmp 114) 56 43 (.agg #[(.int .i64 0), (.int .i64 0), (.int .i64 0), (.int .i64 0), (.int .i64 0)]) 40 rfl Tryd.underlying56 info43 rfl (by decide) (by omega) _ CL [(⟨41, 0, 1, 0, 0⟩ : S43), (⟨16, 10, 0, 0, 0⟩ : S43), (⟨16, 11, 0, 0, 1⟩ : S43), (⟨40, 0, 0, 0, (-64)⟩ : S43), (⟨42, 0, 0, 0, 0⟩ : S43)] _ _ _ (fun _ => True) (fun _ => False) rfl rfl ?aO ?aR (fun _ _ h => h) (fun _ h => h.elim) (fun _ _ => trivial) ?aB ?aS ?aL ?_; (case aR => exact (Kd.R_reads' HX50.out).2.2); (case aB => exact HB50.out); (case aO => exact HS50.out); (case aS => exact HB50.out.size); (case aL => (show (CL.length + 5) * 40 ≤ _; omega)); intro v51 w51 ho51 hb51 hg51 hat51; have HS51 := Aside0.mk ho51; have HB51 := Aside0.mk hb51; clear ho51 hb51 hg51 hat51))
          have HRAW := Aside0.mk (show CL ++ [(⟨41, 0, 1, 0, 0⟩ : S43), (⟨16, 10, 0, 0, 0⟩ : S43), (⟨16, 11, 0, 0, 1⟩ : S43), (⟨40, 0, 0, 0, (-64)⟩ : S43), (⟨42, 0, 0, 0, 0⟩ : S43)] = rawL l ps by
            rw [raw_split, HCL.out, HBL.out, HRC.out]
            simp only [List.append_assoc]
            rfl)
          rw [HRAW.out] at HS51
          have hrl : (rawL l ps).length = cn + 30 := by rw [raw_length, all_len, ← HC.out, hcn]
          obtain ⟨AF, qF, hvF⟩ := Kd.R_slice HS51.out
          obtain ⟨nl, hnl⟩ : ∃ z, z = (rawL l ps).length := ⟨_, rfl⟩
          rw [← hnl] at hvF
          subst hvF
          have HNL := Aside0.mk (show nl = cn + 30 by rw [hnl, hrl])
          obtain ⟨gv, cpv, hvv, _, _⟩ := Kd.R_form HS51.out (by rw [hrl]; omega)
          obtain rfl := (Value.slice.inj hvv).1
          clear hvv hnl hrl HS HG HB HS50 HX50 HB50
          go_loopg [14] cn (fun g s14 w' => ∃ (i : Nat), s14 = .int .i64 i ∧ i ≤ cn ∧ g = cn - i ∧ Aside0 (Kd.R k43 43 w' w.heap.size (fun _ => True) (.slice (some ⟨gv, 0, none⟩) nl qF) (fillL l ps i)) ∧ Aside0 (Below w.heap.size w w'))
          case atStart => exact ⟨0, rfl, Nat.zero_le _, rfl, ⟨by rw [fill_zero]; exact HS51.out⟩, HB51⟩
          case round =>
            clear HS51 HB51
            obtain ⟨i, rfl, hi3, rfl, HS, HB⟩ := hrel
            by_cases hlt3 : i < cn
            · obtain ⟨y, hy⟩ : ∃ y, (checksP l ps)[i]? = some y := ⟨_, List.getElem?_eq_getElem (by rw [← HC.out, hcn]; exact hlt3)⟩
              have hchk := chk_all l HO.out ps h6 HPN.out y (List.mem_of_getElem? hy)
              have hya : (allP l ps)[i]? = some y := by rw [all_split, List.getElem?_append_left (by rw [← HC.out, hcn]; exact hlt3)]; exact hy
              have hfg := fill_get l ps i y hya
              have hfs := fill_succ l ps i y hya
              have hpt := chk_patch l ps i y hchk
              rw [place1, place3, ← HC.out, hcn] at hpt
              obtain ⟨x, hx⟩ : ∃ z, z = markI y := ⟨_, rfl⟩
              obtain ⟨z, hz⟩ : ∃ z, z = patchI (placeOf l ps) (i : Int) y := ⟨_, rfl⟩
              rw [← hx] at hfg hpt
              rw [← hz] at hfs hpt
              clear hx hz hya hchk hy
              have hnl := HNL.out
              have hno := HNO.out
              have hi3I : (i : Int) < (nl : Int) := by omega
              have hi3c : (i : Int) < (cn : Int) := by omega
              have si3 : IntKind.i64.wrap ((i : Int) + 1) = (i : Int) + 1 := IntWalk.i64_in _ (by omega)
              rcases hpt with ⟨hsame, hop⟩ | ⟨hop, him⟩
              · obtain ⟨gw, cpw, cw, hvw, h0, h4, hfz, hbk, hge, hrow⟩ := row_imm HS.out i x hfg 0
                obtain rfl := (Addr.mk.inj (Option.some.inj (Value.slice.inj hvw).1)).1
                have HFS := Aside0.mk (show fillL l ps (i + 1) = fillL l ps i by rw [hfs, ← hsame]; exact set_same _ _ _ hfg)
                clear hvw hrow hfs hsame hfg hnl hno h4 hfz hbk hge
                rcases hop with hop | hop | hop
                all_goals
                  rw [hop] at h0
                  clear hop
                  go_wp2_with fail
                  go_roundg (cn - (i + 1))
                  case measure => omega
                  case rel => exact ⟨i + 1, by go_num, by omega, rfl, ⟨by rw [HFS.out]; exact HS.out⟩, HB⟩
              · rcases him with ⟨hf4, hzz⟩ | ⟨hf4, hzz⟩
                · obtain ⟨n3, hn3⟩ : ∃ z : Nat, z = cn + 29 := ⟨_, rfl⟩
                  have s3 : IntKind.i64.wrap ((no : Int) + 3) = (n3 : Int) := by rw [IntWalk.i64_in _ (by omega)]; omega
                  rw [← hn3] at hzz
                  have s4 : IntKind.i64.wrap ((n3 : Int) - (i : Int)) = (n3 : Int) - (i : Int) := IntWalk.i64_in _ (by omega)
                  have s5 : IntKind.i64.wrap (4 * ((n3 : Int) - (i : Int))) = 4 * ((n3 : Int) - (i : Int)) := IntWalk.i64_in _ (by omega)
                  obtain ⟨gw, cpw, cw, hvw, h0, h4, hfz, hbk, hge, hrow⟩ := row_imm HS.out i x hfg (4 * ((n3 : Int) - (i : Int)))
                  obtain rfl := (Addr.mk.inj (Option.some.inj (Value.slice.inj hvw).1)).1
                  rw [← hzz, ← hfs] at hrow
                  have HROW := Aside0.mk hrow
                  have HGE := Aside0.mk hge
                  rw [hf4] at h4
                  clear hvw hrow hfs hzz hfg hbk hge hf4 hn3 hnl hno
                  rcases hop with hop | hop | hop | hop
                  all_goals
                    rw [hop] at h0
                    clear hop
                    go_wp2_with fail
                    go_roundg (cn - (i + 1))
                    case measure => omega
                    case rel => exact ⟨i + 1, by go_num, by omega, rfl, HROW, ⟨below_set HB.out HGE.out⟩⟩
                · rw [← hno] at hzz
                  have s4 : IntKind.i64.wrap ((no : Int) - (i : Int)) = (no : Int) - (i : Int) := IntWalk.i64_in _ (by omega)
                  have s5 : IntKind.i64.wrap (4 * ((no : Int) - (i : Int))) = 4 * ((no : Int) - (i : Int)) := IntWalk.i64_in _ (by omega)
                  obtain ⟨gw, cpw, cw, hvw, h0, h4, hfz, hbk, hge, hrow⟩ := row_imm HS.out i x hfg (4 * ((no : Int) - (i : Int)))
                  obtain rfl := (Addr.mk.inj (Option.some.inj (Value.slice.inj hvw).1)).1
                  rw [← hzz, ← hfs] at hrow
                  have HROW := Aside0.mk hrow
                  have HGE := Aside0.mk hge
                  rw [hf4] at h4
                  clear hvw hrow hfs hzz hfg hbk hge hf4 hnl hno
                  rcases hop with hop | hop | hop | hop
                  all_goals
                    rw [hop] at h0
                    clear hop
                    go_wp2_with fail
                    go_roundg (cn - (i + 1))
                    case measure => omega
                    case rel => exact ⟨i + 1, by go_num, by omega, rfl, HROW, ⟨below_set HB.out HGE.out⟩⟩
            · obtain rfl : i = cn := by omega
              have HPRE := Aside0.mk (show ((preP l ps).length : Int) = ((i + 6 : Nat) : Int) by rw [pre_len, ← HC.out, hcn])
              have HFIN := Aside0.mk (show fillL l ps i = codeL ps l by rw [← hcn, HC.out]; exact rest_same l ps)
              rw [HFIN.out] at HS
              go_wp2_with fail
              go_ret2
              exact ⟨_, by rw [HPRE.out]; first | rfl | (simp; done), HS.out, HB.out⟩
end Go.Proofs.YtaoajlaocphgdaaDoor.PA
end
section
namespace Go.Proofs.YtaoajlaocphgdaaDoor.PA
open Go.RowKit Go.Proofs.YtaoajlaocphgdaaDoorW.PrintWords Go.Proofs.YtaoajlaocphgdaaDoorW.PrintLast Go.Proofs.YtaoajlaocphgdaaDoorW.PrintMore
set_option linter.unusedVariables false
set_option linter.unusedSimpArgs false
def layC : LayV := ⟨65536, 81920, 0, 0, 131072, 139280, 0, 0, 196608, 262144, 0, 0, 262144, 262208, 0, 0, 327680, 328704, 0, 0⟩
def lay0 : LayV := ⟨0, 0, 0, 0, 0, 0, 0, 0, 0, 0, 0, 0, 0, 0, 0, 0, 0, 0, 0, 0⟩
theorem run_build27 (W : World) : (Instr.build 27 #[(0, .agg #[.int .u64 65536, .int .u64 81920, .int .i64 0, .int .i64 0]), (1, .agg #[.int .u64 131072, .int .u64 139280, .int .i64 0, .int .i64 0]), (2, .agg #[.int .u64 196608, .int .u64 262144, .int .i64 0, .int .i64 0]), (3, .agg #[.int .u64 262144, .int .u64 262208, .int .i64 0, .int .i64 0]), (4, .agg #[.int .u64 327680, .int .u64 328704, .int .i64 0, .int .i64 0])]).run Tryd.prog W = .ok (.agg (layArr layC)) W := by kernel_rfl
set_option maxHeartbeats 4000000 in
set_option maxRecDepth 100000 in
theorem layout_calls (w : World) : Calls Tryd.prog 17 #[] w fun e w' => e = .returned (.agg (layArr layC)) ∧ Below w.heap.size w w' := by
  have HB := Aside0.mk (Below.refl w.heap.size w)
  go_enter Tryd.func17, Tryd.ntmps17
  go_wp2_with (first | ((with_reducible refine gate_dst (N := 0) rfl ?_); refine box_event ?hg (N := 0) ?hd (cs := layArr lay0) (t := 27) ?hr ?_; (case hd => rfl); (case hg => rfl); (case hr => kernel_rfl); intro g0 hg0 w1 B0 hb1; have HB1 := Aside0.mk hb1; have HE0 := Aside0.mk hg0; have HK0 := Aside0.mk B0; clear hb1 hg0 B0) | ((with_reducible refine gate_dst (N := 6) rfl ?_); refine Kd.event_run (v := .agg (layArr layC)) (w1 := w1) (by rfl) ?hrun ?_; (case hrun => refine exec_build (parts := #[(0, .tmp 1), (1, .tmp 2), (2, .tmp 3), (3, .tmp 4), (4, .tmp 5)]) (by rfl) ?_ (run_build27 _); simp [Act.eval])) | (refine store_event (by rfl) (ty := 27) (by rfl) g0 27 (layArr lay0) (layArr layC) (by rfl) (by rfl) HK0.out (by kernel_rfl) rfl (by kernel_rfl) ?_; intro w2 hs2; have HS2 := Aside0.mk hs2; clear hs2))
  refine bodyPost_ret (results_cell_row rfl _ _ g0 27 (layArr layC) (0, 0) _ rfl HS2.out.at_ Tryd.underlying27 rfl (by kernel_rfl)) rfl ?_
  exact ⟨rfl, HS2.out.below HB1.out (by rw [HE0.out]; exact Nat.le_refl _)⟩
end Go.Proofs.YtaoajlaocphgdaaDoor.PA
end
section
namespace Go.Proofs.YtaoajlaocphgdaaDoor.PA
open Go.RowKit Go.Proofs.YtaoajlaocphgdaaDoorW.PrintWords Go.Proofs.YtaoajlaocphgdaaDoorW.PrintLast Go.Proofs.YtaoajlaocphgdaaDoorW.PrintMore
set_option linter.unusedVariables false
set_option linter.unusedSimpArgs false
theorem may_layC : mayL layC = true := by decide
theorem may_lay0 : mayL lay0 = false := by decide
theorem name_f : nameB (⟨#[102]⟩ : ByteArray).data.toList = true := by decide
theorem name_F : nameB (⟨#[70]⟩ : ByteArray).data.toList = false := by decide
theorem len2 : (codeL [0, 2] layC).length = 46 := by decide
theorem len0 : (codeL [] layC).length = 38 := by decide
theorem last2 : (codeL [0, 2] layC)[45]? = some ⟨42, 0, 0, 0, 0⟩ := by rfl
theorem row42 : rd_T97 rowsL 42 = ⟨⟨#[69]⟩, ⟨115, 0, 0⟩⟩ := by rfl
theorem enc42 : encP ⟨42, 0, 0, 0, 0⟩ = (1048691, 0) := by
  simp [encP, ins_Encode.f, ins_May.f, ins_Form.f, row42, ByteArray.toList_eq, ins_has.f, ins_has.j0, ins_reg.f, ins_imm.f]
theorem word2 : rd (wordsL [0, 2] layC) 45 = 1048691 := by
  have h := last2
  simp only [rd, wordsL, List.getD_eq_getElem?_getD, List.getElem?_map]
  rw [show (45 : Int).toNat = 45 from rfl, h]
  simp [enc42]
theorem wlen2 : (wordsL [0, 2] layC).length = 46 := by rw [wordsL, List.length_map, len2]
theorem wlen0 : (wordsL [] layC).length = 38 := by rw [wordsL, List.length_map, len0]
theorem run_build0 (W : World) : (Instr.build 27 #[]).run Tryd.prog W = .ok (.agg (layArr lay0)) W := by kernel_rfl
theorem may_at (l : LayV) (b : Bool) (h : mayL l = b) (w : World) : Calls Tryd.prog 13 #[.agg (layArr l)] w fun e w' => e = .returned (.bool b) ∧ Below w.heap.size w w' :=
  wrap_May.calls 6 l.a0 l.a1 l.a2 l.a3 l.a4 l.a5 l.a6 l.a7 l.a8 l.a9 l.a10 l.a11 l.a12 l.a13 l.a14 l.a15 l.a16 l.a17 l.a18 l.a19 b w (h ▸ may_f l 6 (Nat.le_refl _))
def caponierlaw19_awake.f : Option Bool := some true
set_option maxHeartbeats 16000000 in
set_option maxRecDepth 100000 in
theorem caponierlaw19_awake.calls (r : Bool) (w : World) (h : caponierlaw19_awake.f = some r) (hG : GlobOk w) :
    Calls Tryd.prog 9 #[] w fun e w' => e = .returned (.bool r) ∧ Below w.heap.size w w' := by
  obtain rfl := Option.some.inj h
  clear h
  have HB := Aside0.mk (Below.refl w.heap.size w)
  have HG := Aside0.mk hG
  clear hG
  go_enter Tryd.func9, Tryd.ntmps9
  go_wp2_with (first | ((with_reducible refine gate_dst (N := 9) rfl ?_); refine Kd.R_lit (Kd.int .i64) (w0 := w) w.heap.size 3 ?hg (N := 9) ?hd (xs := ([0, 2] : List Int)) (inner := [.int .i64 0, .int .i64 2]) (ok := fun _ => True) (okp := fun _ => True) ?hr ?hp (fun _ hk => hk) trivial HB.out (Nat.le_refl _) (by simp) ?_; (case hd => rfl); (case hg => rfl); (case hr => first | (go_simp; done) | (go_simp; rfl)); (case hp => exact (Reps.one (show Kd.M (Kd.int .i64) _ _ _ 0 [.int .i64 0] from rfl) (Reps.one (show Kd.M (Kd.int .i64) _ _ _ 2 [.int .i64 2] from rfl) (Reps.none _ _)))); intro v9 w1 ho hb1 hg1 hn1; obtain ⟨A9, c9, hv9⟩ := Kd.R_slice ho; replace hv9 : v9 = .slice A9 2 c9 := hv9; subst hv9; have HR1 := Aside0.mk ho; have HB1 := Aside0.mk hb1; clear ho hb1 hg1 hn1))
  refine (layout_calls w1).mono ?_
  rintro e w2 ⟨rfl, hb2⟩
  have HB2 := Aside0.mk (below_step HB1.out hb2)
  have HR2 := Aside0.mk (Kd.R_below HR1.out hb2)
  clear hb2 HB1 HR1
  go_wp2_with fail
  refine (cap_yes ⟨#[102]⟩ A9 c9 [0, 2] layC w2 (Kd.R_reads' HR2.out).2.2 (Kd.R_reads' HR2.out).2.1 (HG.out.of_below HB2.out) (by decide) may_layC name_f (by decide) (by decide)).mono ?_
  rintro e w3 ⟨u3, v3, rfl, hu3, hv3, hb3⟩
  obtain ⟨Au, cu, hu⟩ := Kd.R_slice hu3
  rw [wlen2] at hu
  subst hu
  obtain ⟨Av, cv, hv⟩ := Kd.R_slice hv3
  replace hv : v3 = .slice Av 1 cv := hv
  subst hv
  have HB3 := Aside0.mk (below_step HB2.out hb3)
  have HU3 := Aside0.mk (Kd.R_lower hu3 HB2.out.size)
  have HV3 := Aside0.mk (Kd.R_lower hv3 HB2.out.size)
  clear hu3 hv3 hb3 HB2 HR2
  go_wp2_with (first | ((with_reducible refine gate_dst (N := 1) rfl ?_); refine box_event ?hg (N := 1) ?hd (cs := noCells) (t := 35) ?hr ?_; (case hd => rfl); (case hg => rfl); (case hr => first | (go_simp; done) | (go_simp; rfl)); intro g1 hg1 wa1 Ba1 hba1; have HA1 := Aside0.mk hba1; have HE1 := Aside0.mk hg1; have HK1 := Aside0.mk Ba1; clear hba1 hg1 Ba1) | (refine store_event (by rfl) (ty := 35) (by rfl) g1 35 noCells (objCells (.slice Au 46 cu) (.slice Av 1 cv)) (by rfl) (by rfl) HK1.out (by kernel_rfl) rfl (by kernel_rfl) ?_; intro wb1 hs1; have HS1 := Aside0.mk hs1; clear hs1))
  have hX1 := HS1.out.below HA1.out (by rw [HE1.out]; exact Nat.le_refl _)
  refine (layout_calls _).mono ?_
  rintro e w4 ⟨rfl, hb4⟩
  have hx4 := below_step hX1 hb4
  have HB4 := Aside0.mk (below_step HB3.out hx4)
  have HU4 := Aside0.mk (Kd.R_below HU3.out hx4)
  have HV4 := Aside0.mk (Kd.R_below HV3.out hx4)
  have HK14 := Aside0.mk (blk_below HS1.out.at_ hb4)
  clear hX1 hb4 hx4 HB3 HU3 HV3 HS1 HA1 HE1 HK1
  go_wp2_with fail
  refine (cap_yes ⟨#[102]⟩ none 0 [] layC w4 (Kd.R_reads' (Kd.R_nil (Kd.int .i64) 3 w4 0 (fun _ => True))).2.2 (Nat.le_refl 0) (HG.out.of_below HB4.out) (by decide) may_layC name_f (by decide) (by decide)).mono ?_
  rintro e w5 ⟨u5, v5, rfl, hu5, hv5, hb5⟩
  obtain ⟨Au5, cu5, hu⟩ := Kd.R_slice hu5
  rw [wlen0] at hu
  subst hu
  obtain ⟨Av5, cv5, hv⟩ := Kd.R_slice hv5
  replace hv : v5 = .slice Av5 1 cv5 := hv
  subst hv
  have HB5 := Aside0.mk (below_step HB4.out hb5)
  have HU5 := Aside0.mk (Kd.R_below HU4.out hb5)
  have HV5 := Aside0.mk (Kd.R_below HV4.out hb5)
  have HK15 := Aside0.mk (blk_below HK14.out hb5)
  clear hu5 hv5 hb5 HB4 HU4 HV4 HK14
  go_wp2_with (first | ((with_reducible refine gate_dst (N := 3) rfl ?_); refine box_event ?hg (N := 3) ?hd (cs := noCells) (t := 35) ?hr ?_; (case hd => rfl); (case hg => rfl); (case hr => first | (go_simp; done) | (go_simp; rfl)); intro g3 hg3 wa3 Ba3 hba3; have HA3 := Aside0.mk hba3; have HE3 := Aside0.mk hg3; have HK3 := Aside0.mk Ba3; clear hba3 hg3 Ba3) | (refine store_event (by rfl) (ty := 35) (by rfl) g3 35 noCells (objCells (.slice Au5 38 cu5) (.slice Av5 1 cv5)) (by rfl) (by rfl) HK3.out (by kernel_rfl) rfl (by kernel_rfl) ?_; intro wb3 hs3; have HS3 := Aside0.mk hs3; clear hs3))
  have hX1 := HS3.out.below HA3.out (by rw [HE3.out]; exact Nat.le_refl _)
  refine (layout_calls _).mono ?_
  rintro e w6 ⟨rfl, hb6⟩
  have hx6 := below_step hX1 hb6
  have HB6 := Aside0.mk (below_step HB5.out hx6)
  have HU6 := Aside0.mk (Kd.R_below HU5.out hx6)
  have HV6 := Aside0.mk (Kd.R_below HV5.out hx6)
  have HK16 := Aside0.mk (blk_below HK15.out hx6)
  have HK36 := Aside0.mk (blk_below HS3.out.at_ hb6)
  clear hX1 hb6 hx6 HB5 HU5 HV5 HS3 HA3 HE3 HK3 HK15
  go_wp2_with fail
  refine (cap_no ⟨#[70]⟩ none 0 [] layC w6 (Kd.R_reads' (Kd.R_nil (Kd.int .i64) 3 w6 0 (fun _ => True))).2.2 (Nat.le_refl 0) (HG.out.of_below HB6.out) (by decide) (by rw [name_F]; simp)).mono ?_
  rintro e w7 ⟨rfl, hb7⟩
  have HB7 := Aside0.mk (below_step HB6.out hb7)
  have HU7 := Aside0.mk (Kd.R_below HU6.out hb7)
  have HV7 := Aside0.mk (Kd.R_below HV6.out hb7)
  have HK17 := Aside0.mk (blk_below HK16.out hb7)
  have HK37 := Aside0.mk (blk_below HK36.out hb7)
  clear hb7 HB6 HU6 HV6 HK16 HK36
  go_upto_region 4 with (first | ((with_reducible refine gate_dst (N := 5) rfl ?_); refine box_event ?hg (N := 5) ?hd (cs := noCells) (t := 35) ?hr ?_; (case hd => rfl); (case hg => rfl); (case hr => first | (go_simp; done) | (go_simp; rfl)); intro g5 hg5 wa5 Ba5 hba5; have HA5 := Aside0.mk hba5; have HE5 := Aside0.mk hg5; have HK5 := Aside0.mk Ba5; clear hba5 hg5 Ba5) | (refine store_event (by rfl) (ty := 35) (by rfl) g5 35 noCells noCells (by rfl) (by rfl) HK5.out (by kernel_rfl) rfl (by kernel_rfl) ?_; intro w8 hs5; have HS5 := Aside0.mk hs5; clear hs5))
  have hX := HS5.out.below HA5.out (by rw [HE5.out]; exact Nat.le_refl _)
  have HB8 := Aside0.mk (below_step HB7.out hX)
  have HU8 := Aside0.mk (Kd.R_below HU7.out hX)
  have HV8 := Aside0.mk (Kd.R_below HV7.out hX)
  have HK18 := blk_below HK17.out hX
  have HK38 := blk_below HK37.out hX
  have q10 : w8.cell? ⟨g1, 0, none⟩ = some (.slice Au 46 cu) := (blk_cell HK18 0).trans rfl
  have q13 : w8.cell? ⟨g1, 3, none⟩ = some (.slice Av 1 cv) := (blk_cell HK18 3).trans rfl
  have q30 : w8.cell? ⟨g3, 0, none⟩ = some (.slice Au5 38 cu5) := (blk_cell HK38 0).trans rfl
  obtain ⟨gu, cpu, hvu, _, _⟩ := Kd.R_form HU8.out (by rw [wlen2]; decide)
  obtain rfl := (Value.slice.inj hvu).1
  clear hvu
  obtain ⟨adu, eu, qu⟩ := Kd.at_int (Kd.R_reads' HU8.out).2.2 45 (by decide) (by rw [wlen2]; decide)
  obtain rfl := Option.some.inj eu
  rw [word2] at qu
  replace qu : w8.cell? ((⟨gu, 0, none⟩ : Addr).add 45) = some (.int .u32 1048691) := qu
  rw [add_plain] at qu
  obtain ⟨gv, cpv, hvv, _, _⟩ := Kd.R_form HV8.out (by decide)
  obtain rfl := (Value.slice.inj hvv).1
  clear hvv
  obtain ⟨adv, ev, qv0, qv1, qv2, qv3⟩ := at_T49 (Kd.R_reads' HV8.out).2.2 0 (by decide) (by decide)
  obtain rfl := Option.some.inj ev
  rw [show (rd_T49 (relsL ⟨#[102]⟩ [0, 2] layC) 0).f2 = ⟨#[102]⟩ from rfl] at qv2
  replace qv2 : w8.cell? ⟨gv, 2, none⟩ = some (.string ⟨#[102]⟩) := qv2
  clear hX HB7 HU7 HV7 HK17 HK37 HS5 HA5 HE5 HK5 HK18 HK38 qv0 qv1 qv3
  go_wp2_with fail
  refine (layout_calls _).mono ?_
  rintro e w9 ⟨rfl, hb9⟩
  have HB9 := Aside0.mk (below_step HB8.out hb9)
  clear hb9 q10 q13 q30 qu qv2
  go_wp2_with fail
  refine (may_at layC true may_layC w9).mono ?_
  rintro e w10 ⟨rfl, hb10⟩
  have HB10 := Aside0.mk (below_step HB9.out hb10)
  clear hb10
  go_wp2_with (first | ((with_reducible refine gate_dst (N := 77) rfl ?_); (try (refine gate_guard (by rfl) ?_; dsimp only)); refine Kd.event_run (v := .agg (layArr lay0)) (w1 := w10) (by rfl) ?hrun ?_; (case hrun => refine exec_build (parts := #[]) (by rfl) ?_ (run_build0 _); rfl)))
  refine (may_at lay0 false may_lay0 w10).mono ?_
  rintro e w11 ⟨rfl, hb11⟩
  have HB11 := Aside0.mk (below_step HB10.out hb11)
  clear hb11
  go_wp2_with fail
  go_ret
  exact ⟨rfl, HB11.out⟩
end Go.Proofs.YtaoajlaocphgdaaDoor.PA
end
section
namespace Go.Proofs.YtaoajlaocphgdaaDoor.PA
open Go.RowKit Go.Proofs.YtaoajlaocphgdaaDoorW.PrintWords Go.Proofs.YtaoajlaocphgdaaDoorW.PrintLast Go.Proofs.YtaoajlaocphgdaaDoorW.PrintMore
set_option linter.unusedVariables false
set_option linter.unusedSimpArgs false
def LayB (l : LayV) : Prop := ∀ r ∈ l.regions, (0 ≤ r.f0 ∧ r.f0 ≤ 18446744073709551615) ∧ (0 ≤ r.f1 ∧ r.f1 ≤ 18446744073709551615)
def finR (l : LayV) : Bool := if IntKind.u64.wrap (l.a5 - l.a4) ≥ 16 then decide (IntKind.u64.wrap (l.a9 - l.a8) ≥ 16) else false
def lastR (l : LayV) (i : Nat) : Int := if i = 0 then 0 else (rd_T25 l.regions ((i - 1 : Nat) : Int)).f1
theorem or8_iff (x y : Int) (hx : 0 ≤ x ∧ x ≤ 18446744073709551615) (hy : 0 ≤ y ∧ y ≤ 18446744073709551615) : Int.tmod (Go.bits .or .u64 x y) 8 = 0 ↔ (x.tmod 8 = 0 ∧ y.tmod 8 = 0) := by
  obtain ⟨a, rfl⟩ := Int.eq_ofNat_of_zero_le hx.1
  obtain ⟨b, rfl⟩ := Int.eq_ofNat_of_zero_le hy.1
  have hm : (a ||| b) % 8 = (a % 8) ||| (b % 8) := Nat.or_mod_two_pow (a := a) (b := b) (n := 3)
  have hb : Go.bits .or .u64 ((a : Nat) : Int) ((b : Nat) : Int) = ((a ||| b : Nat) : Int) := by
    show IntKind.u64.wrap ((((BitVec.ofInt 64 (a : Int)) ||| (BitVec.ofInt 64 (b : Int)) : BitVec 64).toNat : Nat) : Int) = _
    rw [BitVec.toNat_or, BitVec.ofInt_natCast, BitVec.ofInt_natCast, BitVec.toNat_ofNat, BitVec.toNat_ofNat, Nat.mod_eq_of_lt (by omega), Nat.mod_eq_of_lt (by omega)]
    exact IntWalk.u64_in _ (by have := Nat.or_lt_two_pow (x := a) (y := b) (n := 64) (by omega) (by omega); omega)
  rw [hb, Int.tmod_eq_emod_of_nonneg (by omega), Int.tmod_eq_emod_of_nonneg (by omega), Int.tmod_eq_emod_of_nonneg (by omega)]
  have h8 : ∀ p q : Fin 8, (p.val ||| q.val) = 0 ↔ (p.val = 0 ∧ q.val = 0) := by decide
  have := h8 ⟨a % 8, Nat.mod_lt _ (by decide)⟩ ⟨b % 8, Nat.mod_lt _ (by decide)⟩
  simp only at this
  omega
theorem go_step (l : LayV) (hB : LayB l) (i : Nat) (h : i < 5) (b : Bool) (hb : b = mayGo (l.regions.drop i) (lastR l i) (finR l)) :
    ∃ r, r = rd_T25 l.regions (i : Int) ∧ r ∈ l.regions ∧
      (((r.f0 ≥ r.f1 ∨ r.f0.tmod 8 ≠ 0 ∨ r.f1.tmod 8 ≠ 0 ∨ r.f1 > 1073741824 ∨ IntKind.u64.wrap (r.f1 - r.f0) > 65536 ∨ (0 < i ∧ r.f0 < lastR l i)) → b = false) ∧
       (¬ (r.f0 ≥ r.f1 ∨ r.f0.tmod 8 ≠ 0 ∨ r.f1.tmod 8 ≠ 0 ∨ r.f1 > 1073741824 ∨ IntKind.u64.wrap (r.f1 - r.f0) > 65536 ∨ (0 < i ∧ r.f0 < lastR l i)) → b = mayGo (l.regions.drop (i + 1)) (lastR l (i + 1)) (finR l))) := by
  have hlen : l.regions.length = 5 := rfl
  obtain ⟨r, hr⟩ : ∃ r, r = rd_T25 l.regions (i : Int) := ⟨_, rfl⟩
  have hget : l.regions[i]? = some r := by
    rw [hr, List.getElem?_eq_getElem (by omega)]
    simp [rd_T25, List.getD_eq_getElem?_getD, List.getElem?_eq_getElem (show i < l.regions.length by omega)]
  have hmem := List.mem_of_getElem? hget
  have hd : l.regions.drop i = r :: l.regions.drop (i + 1) := by
    have hlt : i < l.regions.length := by omega
    rw [List.drop_eq_getElem_cons hlt]
    rw [List.getElem?_eq_getElem hlt] at hget
    rw [Option.some.inj hget]
  have hl1 : lastR l (i + 1) = r.f1 := by
    unfold lastR
    rw [if_neg (by omega), hr]
    rfl
  have hz : i = 0 → lastR l i = 0 := by intro h0; unfold lastR; rw [if_pos h0]
  have hbd := hB r hmem
  have hor := or8_iff r.f0 r.f1 hbd.1 hbd.2
  refine ⟨r, hr, hmem, ?_, ?_⟩
  · intro hbad
    rw [hb, hd]
    simp only [mayGo]
    repeat' split
    all_goals first | rfl | (exfalso; rename_i c0 c1 c2 c3 c4; have := hor.1 c2; rcases hbad with h | h | h | h | h | h <;> first | omega | exact absurd this.1 h | exact absurd this.2 h)
  · intro hok
    simp only [not_or, ne_eq, Decidable.not_not] at hok
    obtain ⟨k0, k1, k2, k3, k4, k5⟩ := hok
    rw [hb, hd, hl1]
    simp only [mayGo]
    rw [if_neg ?_, if_neg k0, if_pos (hor.2 ⟨k1, k2⟩), if_neg k3, if_neg k4]
    intro hc
    by_cases h0 : i = 0
    · rw [hz h0] at hc; omega
    · exact k5 ⟨by omega, hc⟩
set_option maxHeartbeats 16000000 in
set_option maxRecDepth 100000 in
theorem rmay_at (l : LayV) (hB : LayB l) (w : World) : Calls Tryd.prog 14 #[.agg (layArr l)] w fun e w' => e = .returned (.bool (mayL l)) ∧ Below w.heap.size w w' := by
  have HB := Aside0.mk (Below.refl w.heap.size w)
  have HLB := Aside0.mk hB
  obtain ⟨bm, hbm⟩ : ∃ b, b = mayL l := ⟨_, rfl⟩
  rw [← hbm]
  have HBM := Aside0.mk (show bm = mayGo (l.regions.drop 0) (lastR l 0) (finR l) from hbm)
  clear hbm hB
  go_enter Tryd.func14, Tryd.ntmps14
  go_upto_region 1 with (first | ((with_reducible refine gate_dst (N := 1) rfl ?_); refine box_event ?hg (N := 1) ?hd (cs := layArr l) (t := 27) ?hr ?_; (case hd => rfl); (case hg => rfl); (case hr => (refine exec_box (by rfl) (by rfl) (run_boxL l _))); intro g1 hg1 w1 B1 hb1; have HA1 := Aside0.mk hb1; have HE1 := Aside0.mk hg1; have HK1 := Aside0.mk B1; clear hb1 hg1 B1))
  have c0 : w1.cell? ⟨g1, 0, none⟩ = some (.int .u64 l.a0) := (blk_cell HK1.out 0).trans rfl
  have c1 : w1.cell? ⟨g1, 1, none⟩ = some (.int .u64 l.a1) := (blk_cell HK1.out 1).trans rfl
  have c2 : w1.cell? ⟨g1, 2, none⟩ = some (.int .i64 l.a2) := (blk_cell HK1.out 2).trans rfl
  have c3 : w1.cell? ⟨g1, 3, none⟩ = some (.int .i64 l.a3) := (blk_cell HK1.out 3).trans rfl
  have c4 : w1.cell? ⟨g1, 4, none⟩ = some (.int .u64 l.a4) := (blk_cell HK1.out 4).trans rfl
  have c5 : w1.cell? ⟨g1, 5, none⟩ = some (.int .u64 l.a5) := (blk_cell HK1.out 5).trans rfl
  have c6 : w1.cell? ⟨g1, 6, none⟩ = some (.int .i64 l.a6) := (blk_cell HK1.out 6).trans rfl
  have c7 : w1.cell? ⟨g1, 7, none⟩ = some (.int .i64 l.a7) := (blk_cell HK1.out 7).trans rfl
  have c8 : w1.cell? ⟨g1, 8, none⟩ = some (.int .u64 l.a8) := (blk_cell HK1.out 8).trans rfl
  have c9 : w1.cell? ⟨g1, 9, none⟩ = some (.int .u64 l.a9) := (blk_cell HK1.out 9).trans rfl
  have c10 : w1.cell? ⟨g1, 10, none⟩ = some (.int .i64 l.a10) := (blk_cell HK1.out 10).trans rfl
  have c11 : w1.cell? ⟨g1, 11, none⟩ = some (.int .i64 l.a11) := (blk_cell HK1.out 11).trans rfl
  have c12 : w1.cell? ⟨g1, 12, none⟩ = some (.int .u64 l.a12) := (blk_cell HK1.out 12).trans rfl
  have c13 : w1.cell? ⟨g1, 13, none⟩ = some (.int .u64 l.a13) := (blk_cell HK1.out 13).trans rfl
  have c14 : w1.cell? ⟨g1, 14, none⟩ = some (.int .i64 l.a14) := (blk_cell HK1.out 14).trans rfl
  have c15 : w1.cell? ⟨g1, 15, none⟩ = some (.int .i64 l.a15) := (blk_cell HK1.out 15).trans rfl
  have c16 : w1.cell? ⟨g1, 16, none⟩ = some (.int .u64 l.a16) := (blk_cell HK1.out 16).trans rfl
  have c17 : w1.cell? ⟨g1, 17, none⟩ = some (.int .u64 l.a17) := (blk_cell HK1.out 17).trans rfl
  have c18 : w1.cell? ⟨g1, 18, none⟩ = some (.int .i64 l.a18) := (blk_cell HK1.out 18).trans rfl
  have c19 : w1.cell? ⟨g1, 19, none⟩ = some (.int .i64 l.a19) := (blk_cell HK1.out 19).trans rfl
  go_wp2_with (first | ((with_reducible refine gate_dst (N := 16) rfl ?_); refine Kd.R_lit k25 (w0 := w) w.heap.size 25 ?hg (N := 16) ?hd (xs := [(⟨l.a0, l.a1, l.a2, l.a3⟩ : S25), (⟨l.a4, l.a5, l.a6, l.a7⟩ : S25), (⟨l.a8, l.a9, l.a10, l.a11⟩ : S25), (⟨l.a12, l.a13, l.a14, l.a15⟩ : S25), (⟨l.a16, l.a17, l.a18, l.a19⟩ : S25)]) (inner := [.int .u64 l.a0, .int .u64 l.a1, .int .i64 l.a2, .int .i64 l.a3, .int .u64 l.a4, .int .u64 l.a5, .int .i64 l.a6, .int .i64 l.a7, .int .u64 l.a8, .int .u64 l.a9, .int .i64 l.a10, .int .i64 l.a11, .int .u64 l.a12, .int .u64 l.a13, .int .i64 l.a14, .int .i64 l.a15, .int .u64 l.a16, .int .u64 l.a17, .int .i64 l.a18, .int .i64 l.a19]) (ok := fun _ => True) (okp := fun _ => True) ?hr ?hp (fun _ hk => hk) trivial HA1.out HA1.out.size (by simp) ?_; (case hd => rfl); (case hg => rfl); (case hr => first | (go_simp; done) | (go_simp; rfl)); (case hp => exact (Reps.c4 (show Kd.M k25 _ _ _ (⟨l.a0, l.a1, l.a2, l.a3⟩ : S25) [.int .u64 l.a0, .int .u64 l.a1, .int .i64 l.a2, .int .i64 l.a3] from (k25_mkM _ _ _ (⟨l.a0, l.a1, l.a2, l.a3⟩ : S25) )) (Reps.c4 (show Kd.M k25 _ _ _ (⟨l.a4, l.a5, l.a6, l.a7⟩ : S25) [.int .u64 l.a4, .int .u64 l.a5, .int .i64 l.a6, .int .i64 l.a7] from (k25_mkM _ _ _ (⟨l.a4, l.a5, l.a6, l.a7⟩ : S25) )) (Reps.c4 (show Kd.M k25 _ _ _ (⟨l.a8, l.a9, l.a10, l.a11⟩ : S25) [.int .u64 l.a8, .int .u64 l.a9, .int .i64 l.a10, .int .i64 l.a11] from (k25_mkM _ _ _ (⟨l.a8, l.a9, l.a10, l.a11⟩ : S25) )) (Reps.c4 (show Kd.M k25 _ _ _ (⟨l.a12, l.a13, l.a14, l.a15⟩ : S25) [.int .u64 l.a12, .int .u64 l.a13, .int .i64 l.a14, .int .i64 l.a15] from (k25_mkM _ _ _ (⟨l.a12, l.a13, l.a14, l.a15⟩ : S25) )) (Reps.c4 (show Kd.M k25 _ _ _ (⟨l.a16, l.a17, l.a18, l.a19⟩ : S25) [.int .u64 l.a16, .int .u64 l.a17, .int .i64 l.a18, .int .i64 l.a19] from (k25_mkM _ _ _ (⟨l.a16, l.a17, l.a18, l.a19⟩ : S25) )) (Reps.none _ _))))))); intro v3 w2 ho2 hb2 hg2 hnew2; obtain ⟨A3, cp3, hv3⟩ := Kd.R_slice ho2; replace hv3 : v3 = .slice A3 5 cp3 := hv3; subst hv3; have HR2 := Aside0.mk (show Kd.R k25 25 w2 w.heap.size (fun _ => True) (.slice A3 5 cp3) l.regions from ho2); have HB2 := Aside0.mk hb2; have HG2 := Aside0.mk hg2; clear ho2 hb2 hg2 hnew2))
  have HK2 := Aside0.mk (blk_grown HK1.out HG2.out (by intro e; cases e))
  clear HG2 HK1 c0 c1 c2 c3 c4 c5 c6 c7 c8 c9 c10 c11 c12 c13 c14 c15 c16 c17 c18 c19
  go_loopg [4] 5 (fun g s4 w' => ∃ i : Nat, s4 = .int .i64 i ∧ i ≤ 5 ∧ g = 5 - i ∧ Aside0 (bm = mayGo (l.regions.drop i) (lastR l i) (finR l)) ∧ Aside0 (Below w2.heap.size w2 w'))
  case atStart => exact ⟨0, rfl, by omega, rfl, HBM, ⟨Below.refl _ _⟩⟩
  case round =>
    obtain ⟨i, rfl, hi, rfl, HBI, HX⟩ := hrel
    by_cases h5 : i < 5
    · obtain ⟨r, hr, hmem, hbad, hok⟩ := go_step l HLB.out i h5 bm HBI.out
      have HBAD := Aside0.mk hbad
      have HOK := Aside0.mk hok
      obtain ⟨ad, ea, x0, x1, x2, x3⟩ := at_T25 (Kd.R_reads' (Kd.R_below HR2.out HX.out)).2.2 (i : Int) (by omega) (by show (i : Int) < 5; omega)
      cases ea
      rw [← hr] at x0 x1 x2 x3
      simp only [Int.toNat_natCast] at x0 x1 x2 x3
      have h5i : (i : Int) < 5 := by omega
      clear hbad hok hr hmem
      go_upto_region 6 with (first | ((with_reducible refine gate_dst (N := 5) rfl ?_); refine box_event ?hg (N := 5) ?hd (cs := #[.int .u64 0, .int .u64 0, .int .i64 0, .int .i64 0]) (t := 25) ?hr ?_; (case hd => rfl); (case hg => rfl); (case hr => first | (go_simp; done) | (go_simp; rfl)); intro g5 hg5 w3 B5 hb3; have HS3 := Aside0.mk hb3; have HE5 := Aside0.mk hg5; have HK5 := Aside0.mk B5; clear hb3 hg5 B5) | (refine store_event (by rfl) (ty := 25) (by rfl) g5 25 #[.int .u64 0, .int .u64 0, .int .i64 0, .int .i64 0] #[.int .u64 r.f0, .int .u64 r.f1, .int .i64 r.f2, .int .i64 r.f3] (by rfl) (by rfl) HK5.out (by kernel_rfl) rfl (by kernel_rfl) ?_; intro w4 hs4; have HS4 := Aside0.mk hs4; clear hs4))
      have HX4 := Aside0.mk (below_step HX.out (HS4.out.below HS3.out (by rw [HE5.out]; exact Nat.le_refl _)))
      have HB4 := Aside0.mk (below_step HB2.out HX4.out)
      have b0 : w4.cell? ⟨g5, 0, none⟩ = some (.int .u64 r.f0) := (blk_cell HS4.out.at_ 0).trans rfl
      have b1 : w4.cell? ⟨g5, 1, none⟩ = some (.int .u64 r.f1) := (blk_cell HS4.out.at_ 1).trans rfl
      clear x0 x1 x2 x3 HS4 HS3 HE5 HK5
      obtain ⟨m0, hm0⟩ : ∃ z, z = r.f0.tmod 8 := ⟨_, rfl⟩
      obtain ⟨m1, hm1⟩ : ∃ z, z = r.f1.tmod 8 := ⟨_, rfl⟩
      obtain ⟨sz, hsz⟩ : ∃ z, z = IntKind.u64.wrap (r.f1 - r.f0) := ⟨_, rfl⟩
      have e0 := hm0.symm
      have e1 := hm1.symm
      have e2 := hsz.symm
      rw [← hm0, ← hm1, ← hsz] at HBAD HOK
      clear hm0 hm1 hsz
      by_cases c0 : r.f0 ≥ r.f1
      · have d0 : decide (r.f0 ≥ r.f1) = true := decide_eq_true c0
        go_wp2_with fail
        try simp only [Act.put, List.setIfInBounds_toArray, List.set_cons_zero, List.set_cons_succ]
        go_quiet (fail)
        go_wp2_with fail
        go_ret
        exact ⟨by have hb := HBAD.out (Or.inl c0); subst hb; rfl, by first | exact pw_below_drewN HB4.out _ | exact HB4.out⟩
      have d0 : decide (r.f0 ≥ r.f1) = false := decide_eq_false c0
      by_cases c1 : m0 ≠ 0
      · have d1 : (m0 == 0) = false := beq_eq_false_iff_ne.2 c1
        have d1n : (m0 != 0) = true := bne_iff_ne.2 c1
        go_wp2_with fail
        try simp only [Act.put, List.setIfInBounds_toArray, List.set_cons_zero, List.set_cons_succ]
        go_quiet (fail)
        go_wp2_with fail
        go_ret
        exact ⟨by have hb := HBAD.out (Or.inr (Or.inl c1)); subst hb; rfl, by first | exact pw_below_drewN HB4.out _ | exact HB4.out⟩
      replace c1 : m0 = 0 := Decidable.not_not.1 c1
      have d1 : (m0 == 0) = true := beq_iff_eq.2 c1
      have d1n : (m0 != 0) = false := by rw [c1]; rfl
      by_cases c2 : m1 ≠ 0
      · have d2 : (m1 == 0) = false := beq_eq_false_iff_ne.2 c2
        have d2n : (m1 != 0) = true := bne_iff_ne.2 c2
        go_wp2_with fail
        try simp only [Act.put, List.setIfInBounds_toArray, List.set_cons_zero, List.set_cons_succ]
        go_quiet (fail)
        go_wp2_with fail
        go_ret
        exact ⟨by have hb := HBAD.out (Or.inr (Or.inr (Or.inl c2))); subst hb; rfl, by first | exact pw_below_drewN HB4.out _ | exact HB4.out⟩
      replace c2 : m1 = 0 := Decidable.not_not.1 c2
      have d2 : (m1 == 0) = true := beq_iff_eq.2 c2
      have d2n : (m1 != 0) = false := by rw [c2]; rfl
      by_cases c3 : r.f1 > 1073741824
      · have d3 : decide (r.f1 > 1073741824) = true := decide_eq_true c3
        go_wp2_with fail
        try simp only [Act.put, List.setIfInBounds_toArray, List.set_cons_zero, List.set_cons_succ]
        go_quiet (fail)
        go_wp2_with fail
        go_ret
        exact ⟨by have hb := HBAD.out (Or.inr (Or.inr (Or.inr (Or.inl c3)))); subst hb; rfl, by first | exact pw_below_drewN HB4.out _ | exact HB4.out⟩
      have d3 : decide (r.f1 > 1073741824) = false := decide_eq_false c3
      by_cases c4 : sz > 65536
      · have d4 : decide (sz > 65536) = true := decide_eq_true c4
        go_wp2_with fail
        try simp only [Act.put, List.setIfInBounds_toArray, List.set_cons_zero, List.set_cons_succ]
        go_quiet (fail)
        go_wp2_with fail
        go_ret
        exact ⟨by have hb := HBAD.out (Or.inr (Or.inr (Or.inr (Or.inr (Or.inl c4))))); subst hb; rfl, by first | exact pw_below_drewN HB4.out _ | exact HB4.out⟩
      have d4 : decide (sz > 65536) = false := decide_eq_false c4
      by_cases c5 : 0 < i
      · have d5 : decide ((i : Int) > 0) = true := decide_eq_true (by omega)
        obtain ⟨j, rfl⟩ : ∃ j, i = j + 1 := ⟨i - 1, by omega⟩
        obtain ⟨ad', ea', y0, y1, y2, y3⟩ := at_T25 (Kd.R_reads' (Kd.R_below HR2.out HX4.out)).2.2 (j : Int) (by omega) (by show (j : Int) < 5; omega)
        cases ea'
        replace y1 := y1.trans (show _ = some (Value.int .u64 (lastR l (j + 1))) by unfold lastR; rw [if_neg (by omega)]; rfl)
        simp only [Int.toNat_natCast] at y1
        clear y0 y2 y3
        have sj : IntKind.i64.wrap (((j + 1 : Nat) : Int) - 1) = (j : Int) := by rw [IntWalk.i64_in _ (by omega)]; omega
        have h5j : (j : Int) < 5 := by omega
        obtain ⟨la, hla⟩ : ∃ z, z = lastR l (j + 1) := ⟨_, rfl⟩
        rw [← hla] at y1 HBAD HOK
        clear hla
        by_cases c6 : r.f0 < la
        · have d6 : decide (r.f0 < la) = true := decide_eq_true c6
          go_wp2_with fail
          try simp only [Act.put, List.setIfInBounds_toArray, List.set_cons_zero, List.set_cons_succ]
          go_quiet (fail)
          go_wp2_with fail
          go_ret
          exact ⟨by have hb := HBAD.out (Or.inr (Or.inr (Or.inr (Or.inr (Or.inr ⟨c5, c6⟩))))); subst hb; rfl, by first | exact pw_below_drewN HB4.out _ | exact HB4.out⟩
        · have d6 : decide (r.f0 < la) = false := decide_eq_false c6
          go_wp2_with fail
          try simp only [Act.put, List.setIfInBounds_toArray, List.set_cons_zero, List.set_cons_succ]
          go_quiet (fail)
          go_wp2_with fail
          have hi1 : IntKind.i64.wrap (((j + 1 : Nat) : Int) + 1) = ((j + 1 : Nat) : Int) + 1 := IntWalk.i64_in _ (by omega)
          go_roundg (5 - (j + 1 + 1))
          case measure => omega
          case rel => exact ⟨j + 1 + 1, by go_num, by omega, rfl, ⟨HOK.out (by rintro (h | h | h | h | h | ⟨h, h'⟩) <;> first | omega | exact h c1 | exact h c2)⟩, ⟨by first | exact pw_below_drewN HX4.out _ | exact HX4.out⟩⟩
      · have d5 : decide ((i : Int) > 0) = false := decide_eq_false (by omega)
        go_wp2_with fail
        try simp only [Act.put, List.setIfInBounds_toArray, List.set_cons_zero, List.set_cons_succ]
        go_quiet (fail)
        go_wp2_with fail
        have hi1 : IntKind.i64.wrap ((i : Int) + 1) = (i : Int) + 1 := IntWalk.i64_in _ (by omega)
        go_roundg (5 - (i + 1))
        case measure => omega
        case rel => exact ⟨i + 1, by go_num, by omega, rfl, ⟨HOK.out (by rintro (h | h | h | h | h | ⟨h, h'⟩) <;> first | omega | exact h c1 | exact h c2)⟩, ⟨by first | exact pw_below_drewN HX4.out _ | exact HX4.out⟩⟩
    · obtain rfl : i = 5 := by omega
      have hK1 := blk_below HK2.out HX.out
      have q4 : wr.cell? ⟨g1, 4, none⟩ = some (.int .u64 l.a4) := (blk_cell hK1 4).trans rfl
      have q5 : wr.cell? ⟨g1, 5, none⟩ = some (.int .u64 l.a5) := (blk_cell hK1 5).trans rfl
      have q8 : wr.cell? ⟨g1, 8, none⟩ = some (.int .u64 l.a8) := (blk_cell hK1 8).trans rfl
      have q9 : wr.cell? ⟨g1, 9, none⟩ = some (.int .u64 l.a9) := (blk_cell hK1 9).trans rfl
      have HBF := Aside0.mk (show bm = finR l from HBI.out)
      have HBR := Aside0.mk (below_step HB2.out HX.out)
      clear hK1
      obtain ⟨s1, hs1⟩ : ∃ z, z = IntKind.u64.wrap (l.a5 - l.a4) := ⟨_, rfl⟩
      obtain ⟨s2, hs2⟩ : ∃ z, z = IntKind.u64.wrap (l.a9 - l.a8) := ⟨_, rfl⟩
      have e1 := hs1.symm
      have e2 := hs2.symm
      unfold finR at HBF
      rw [← hs1, ← hs2] at HBF
      clear hs1 hs2
      by_cases c1 : s1 ≥ 16
      · have d1 : decide (s1 ≥ 16) = true := decide_eq_true c1
        rw [if_pos c1] at HBF
        go_wp2_with fail
        go_ret
        exact ⟨by have hb := HBF.out; subst hb; rfl, by first | exact HBR.out | exact pw_below_drewN HBR.out _⟩
      · have d1 : decide (s1 ≥ 16) = false := decide_eq_false c1
        rw [if_neg c1] at HBF
        go_wp2_with fail
        go_ret
        exact ⟨by have hb := HBF.out; subst hb; rfl, by first | exact HBR.out | exact pw_below_drewN HBR.out _⟩
end Go.Proofs.YtaoajlaocphgdaaDoor.PA
end
section
namespace Go.Proofs.YtaoajlaocphgdaaDoor.PA
open Go.RowKit Go.Proofs.YtaoajlaocphgdaaDoorW.PrintWords Go.Proofs.YtaoajlaocphgdaaDoorW.PrintLast Go.Proofs.YtaoajlaocphgdaaDoorW.PrintMore
attribute [local go_sem] max2_int min2_int max_two min_two max_three min_three max_four min_four   -- for this text's walks alone
set_option linter.unusedVariables false
set_option linter.unusedSimpArgs false
mutual
def caponierref06_Name.j0 : Nat → ByteArray → Bool → Option (Bool)
  | 0, _, _ => none
  | k + 1, x0, x22 => if x22 = true then (some false) else (caponierref06_Name.l0 k x0 0)
def caponierref06_Name.l0 : Nat → ByteArray → Int → Option (Bool)
  | 0, _, _ => none
  | k + 1, x0, x3 => if x3 < (x0.size : Int) then (if 0 ≤ x3 then (if (bt x0 x3) ≥ 97 then (if (bt x0 x3) ≤ 122 then (caponierref06_Name.l0 k x0 (wrap64 (x3 + 1))) else (if (bt x0 x3) ≥ 48 then (if (bt x0 x3) ≤ 57 then (caponierref06_Name.l0 k x0 (wrap64 (x3 + 1))) else (if ((bt x0 x3) = 95) then (caponierref06_Name.l0 k x0 (wrap64 (x3 + 1))) else (some false))) else (if ((bt x0 x3) = 95) then (caponierref06_Name.l0 k x0 (wrap64 (x3 + 1))) else (some false)))) else (if (bt x0 x3) ≥ 48 then (if (bt x0 x3) ≤ 57 then (caponierref06_Name.l0 k x0 (wrap64 (x3 + 1))) else (if ((bt x0 x3) = 95) then (caponierref06_Name.l0 k x0 (wrap64 (x3 + 1))) else (some false))) else (if ((bt x0 x3) = 95) then (caponierref06_Name.l0 k x0 (wrap64 (x3 + 1))) else (some false)))) else (none)) else (some true)
end
def caponierref06_Name.f (k : Nat) (a0 : ByteArray) : Option (Bool) := if (a0.size : Int) < 1 then (caponierref06_Name.j0 k a0 true) else (if (a0.size : Int) > 24 then (caponierref06_Name.j0 k a0 true) else (if 0 < (a0.size : Int) then (if (bt a0 0) ≥ 48 then (caponierref06_Name.j0 k a0 (decide ((bt a0 0) ≤ 57))) else (caponierref06_Name.j0 k a0 false)) else (none)))
set_option maxHeartbeats 8000000 in
set_option maxRecDepth 100000 in
theorem caponierref06_Name.calls (k : Nat) (a0 : ByteArray) (r : Bool) (w : World) (h : caponierref06_Name.f k a0 = some r) :
    Calls Tryd.prog 26 #[.string a0] w fun e w' => e = .returned (.bool r) ∧ Drawn0 w w' := by
  have H : (if (a0.size : Int) < 1 then (caponierref06_Name.j0 k a0 true) else (if (a0.size : Int) > 24 then (caponierref06_Name.j0 k a0 true) else (if 0 < (a0.size : Int) then (if (bt a0 0) ≥ 48 then (caponierref06_Name.j0 k a0 (decide ((bt a0 0) ≤ 57))) else (caponierref06_Name.j0 k a0 false)) else (none)))) = some r := h
  clear h
  have HC2 := Aside0.mk H
  clear H
  go_enter Tryd.func26, Tryd.ntmps26
  go_upto_region 1 with (fail)
  go_cut [22] (fun v22 wc => ∃ (kq : Nat) (x22_1 : Bool), v22 = .bool x22_1 ∧ Aside0 (caponierref06_Name.j0 kq a0 x22_1 = some r) ∧ Aside0 (kq ≤ k) ∧ Drawn0 w wc)
  case first =>
    have H := HC2.out
    clear HC2
    by_cases c3 : (a0.size : Int) < 1
    · rw [if_pos c3] at H
      have c3b0 : decide ((a0.size : Int) < 1) = true := decide_eq_true c3
      have c3b1 : decide (a0.size < 1) = true := decide_eq_true (by omega)
      clear c3
      (first | rw [c3b0] | (simp only [i64_w, i32_w]; rw [c3b0]) | skip)
      have H' := Aside0.mk H
      clear H
      go_wp2
      go_meet
      case rel => exact ⟨_, (true), (by first | rfl | (simp; done) | (simp [*]; done)), H', ⟨by first | omega | exact Nat.le_refl _⟩, by repeat (first | exact Drawn0.refl _ | apply Drawn0.step)⟩
    · rw [if_neg c3] at H
      have c3b0 : decide ((a0.size : Int) < 1) = false := decide_eq_false c3
      have c3b1 : decide (a0.size < 1) = false := decide_eq_false (by omega)
      clear c3
      (first | rw [c3b0] | (simp only [i64_w, i32_w]; rw [c3b0]) | skip)
      by_cases c4 : (a0.size : Int) > 24
      · rw [if_pos c4] at H
        have c4b0 : decide (24 < (a0.size : Int)) = true := decide_eq_true c4
        have c4b1 : decide (24 < a0.size) = true := decide_eq_true (by omega)
        clear c4
        have H' := Aside0.mk H
        clear H
        go_wp2
        go_meet
        case rel => exact ⟨_, (true), (by first | rfl | (simp; done) | (simp [*]; done)), H', ⟨by first | omega | exact Nat.le_refl _⟩, by repeat (first | exact Drawn0.refl _ | apply Drawn0.step)⟩
      · rw [if_neg c4] at H
        have c4b0 : decide (24 < (a0.size : Int)) = false := decide_eq_false c4
        have c4b1 : decide (24 < a0.size) = false := decide_eq_false (by omega)
        clear c4
        by_cases c5 : 0 < (a0.size : Int)
        · rw [if_pos c5] at H
          have c5b0 : decide (0 < (a0.size : Int)) = true := decide_eq_true c5
          have c5b1 : decide (0 < a0.size) = true := decide_eq_true (by omega)
          clear c5
          by_cases c7 : (bt a0 0) ≥ 48
          · rw [if_pos c7] at H
            have c7b0 : decide (48 ≤ (bt a0 0)) = true := decide_eq_true c7
            clear c7
            have H' := Aside0.mk H
            clear H
            have p6 : 0 ≤ (0 : Int) := (by omega)
            have q6 : 0 < a0.size := (by have : (0 : Int) < (a0.size : Int) := of_decide_eq_true (by first | (with_reducible assumption) | assumption); omega)
            have hx6 : ∀ h : 0 < a0.size, ((a0[0]'h).toNat : Int) = bt a0 0 := bt_at a0 0
            clear p6
            have qi6 : (0 < (a0.size : Int)) = True := eq_true (of_decide_eq_true (by first | (with_reducible assumption) | assumption))
            replace q6 := eq_true q6
            have p8 : 0 ≤ (0 : Int) := (by omega)
            have q8 : 0 < a0.size := (by have : (0 : Int) < (a0.size : Int) := of_decide_eq_true (by first | (with_reducible assumption) | assumption); omega)
            have hx8 : ∀ h : 0 < a0.size, ((a0[0]'h).toNat : Int) = bt a0 0 := bt_at a0 0
            clear p8
            have qi8 : (0 < (a0.size : Int)) = True := eq_true (of_decide_eq_true (by first | (with_reducible assumption) | assumption))
            replace q8 := eq_true q8
            go_wp2
            go_meet
            case rel => exact ⟨_, (decide ((bt a0 0) ≤ 57)), (by first | rfl | (simp; done) | (simp [*]; done)), H', ⟨by first | omega | exact Nat.le_refl _⟩, by repeat (first | exact Drawn0.refl _ | apply Drawn0.step)⟩
          · rw [if_neg c7] at H
            have c7b0 : decide (48 ≤ (bt a0 0)) = false := decide_eq_false c7
            clear c7
            have H' := Aside0.mk H
            clear H
            have p6 : 0 ≤ (0 : Int) := (by omega)
            have q6 : 0 < a0.size := (by have : (0 : Int) < (a0.size : Int) := of_decide_eq_true (by first | (with_reducible assumption) | assumption); omega)
            have hx6 : ∀ h : 0 < a0.size, ((a0[0]'h).toNat : Int) = bt a0 0 := bt_at a0 0
            clear p6
            have qi6 : (0 < (a0.size : Int)) = True := eq_true (of_decide_eq_true (by first | (with_reducible assumption) | assumption))
            replace q6 := eq_true q6
            go_wp2
            go_meet
            case rel => exact ⟨_, (false), (by first | rfl | (simp; done) | (simp [*]; done)), H', ⟨by first | omega | exact Nat.le_refl _⟩, by repeat (first | exact Drawn0.refl _ | apply Drawn0.step)⟩
        · rw [if_neg c5] at H
          exact absurd H (by simp)
  case rest =>
    clear HC2
    try clear c2
    try clear p2
    try clear c3
    try clear c3b0
    try clear c3b1
    try clear c4
    try clear c4b0
    try clear c4b1
    try clear c5
    try clear c5b0
    try clear c5b1
    try clear p6
    try clear q6
    try clear hx6
    try clear qi6
    try clear c7
    try clear c7b0
    try clear p8
    try clear q8
    try clear hx8
    try clear qi8
    try clear p6
    try clear p8
    try clear q6
    try clear q8
    obtain ⟨kq, x22_1, rfl, HA, HJ1, ⟨mc1, rfl⟩⟩ := hcut
    cases kq with
    | zero => exact absurd HA.out (by simp [caponierref06_Name.j0])
    | succ kj1 =>
      have H := HA.out
      clear HA
      simp only [caponierref06_Name.j0] at H
      by_cases c9 : x22_1 = true
      · subst c9
        have H1 : (some false) = some r := by rw [if_pos rfl] at H; exact H
        clear H
        have H := H1
        clear H1
        obtain rfl := Option.some.inj H
        go_wp2
        go_ret
        exact ⟨by first | rfl | (simp; done) | (simp [*]; done), by repeat (first | exact Drawn0.refl _ | apply Drawn0.step)⟩
      · replace c9 := Bool.eq_false_iff.mpr c9
        subst c9
        have H1 : (caponierref06_Name.l0 kj1 a0 0) = some r := by rw [if_neg (show ¬ (false = true) by decide)] at H; exact H
        clear H
        have H := H1
        clear H1
        have H' := Aside0.mk H
        clear H
        go_wp2
        go_loopg [3] kj1 (fun kq v3 w' => ∃ (x3_2 : Int), v3 = .int .i64 x3_2 ∧ Aside0 (caponierref06_Name.l0 kq a0 x3_2 = some r) ∧ Aside0 (kq ≤ kj1) ∧ Drawn0 w w')
        case atStart => exact ⟨(0), (by first | rfl | (simp; done) | (simp [*]; done)), H', ⟨Nat.le_refl _⟩, by repeat (first | exact Drawn0.refl _ | apply Drawn0.step)⟩
        case round =>
          clear H'
          try clear c1
          try clear c2
          try clear p2
          try clear c3
          try clear c3b0
          try clear c3b1
          try clear c4
          try clear c4b0
          try clear c4b1
          try clear c5
          try clear c5b0
          try clear c5b1
          try clear p6
          try clear q6
          try clear hx6
          try clear qi6
          try clear c7
          try clear c7b0
          try clear p8
          try clear q8
          try clear hx8
          try clear qi8
          try clear c9
          try clear p2
          try clear p6
          try clear p8
          try clear q6
          try clear q8
          obtain ⟨x3_2, rfl, HA, HK2, ⟨m2, rfl⟩⟩ := hrel
          cases gk with
          | zero => exact absurd HA.out (by simp [caponierref06_Name.l0])
          | succ k2 =>
            have H := HA.out
            clear HA
            simp only [caponierref06_Name.l0] at H
            by_cases c10 : x3_2 < (a0.size : Int)
            · rw [if_pos c10] at H
              have c10b0 : decide (x3_2 < (a0.size : Int)) = true := decide_eq_true c10
              clear c10
              by_cases c11 : 0 ≤ x3_2
              · rw [if_pos c11] at H
                have c11b0 : decide (0 ≤ x3_2) = true := decide_eq_true c11
                clear c11
                by_cases c13 : (bt a0 x3_2) ≥ 97
                · rw [if_pos c13] at H
                  have c13b0 : decide (97 ≤ (bt a0 x3_2)) = true := decide_eq_true c13
                  clear c13
                  by_cases c14 : (bt a0 x3_2) ≤ 122
                  · rw [if_pos c14] at H
                    have c14b0 : decide ((bt a0 x3_2) ≤ 122) = true := decide_eq_true c14
                    clear c14
                    have H' := Aside0.mk H
                    clear H
                    have p12 : 0 ≤ (x3_2 : Int) := of_decide_eq_true (by first | (with_reducible assumption) | assumption)
                    have q12 : x3_2 < (a0.size : Int) := of_decide_eq_true (by first | (with_reducible assumption) | assumption)
                    have hx12 := bt_at a0 x3_2
                    replace p12 := eq_true p12
                    replace q12 := eq_true q12
                    go_wp2
                    go_roundg k2
                    case measure => have := HJ1.out; have := HK2.out; omega
                    case rel => exact ⟨(wrap64 (x3_2 + 1)), (by first | rfl | (simp; done) | (simp [*]; done)), H', ⟨by have := HJ1.out; have := HK2.out; omega⟩, by repeat (first | exact Drawn0.refl _ | apply Drawn0.step)⟩
                  · rw [if_neg c14] at H
                    have c14b0 : decide ((bt a0 x3_2) ≤ 122) = false := decide_eq_false c14
                    clear c14
                    by_cases c15 : (bt a0 x3_2) ≥ 48
                    · rw [if_pos c15] at H
                      have c15b0 : decide (48 ≤ (bt a0 x3_2)) = true := decide_eq_true c15
                      clear c15
                      by_cases c16 : (bt a0 x3_2) ≤ 57
                      · rw [if_pos c16] at H
                        have c16b0 : decide ((bt a0 x3_2) ≤ 57) = true := decide_eq_true c16
                        clear c16
                        have H' := Aside0.mk H
                        clear H
                        have p12 : 0 ≤ (x3_2 : Int) := of_decide_eq_true (by first | (with_reducible assumption) | assumption)
                        have q12 : x3_2 < (a0.size : Int) := of_decide_eq_true (by first | (with_reducible assumption) | assumption)
                        have hx12 := bt_at a0 x3_2
                        replace p12 := eq_true p12
                        replace q12 := eq_true q12
                        go_wp2
                        go_roundg k2
                        case measure => have := HJ1.out; have := HK2.out; omega
                        case rel => exact ⟨(wrap64 (x3_2 + 1)), (by first | rfl | (simp; done) | (simp [*]; done)), H', ⟨by have := HJ1.out; have := HK2.out; omega⟩, by repeat (first | exact Drawn0.refl _ | apply Drawn0.step)⟩
                      · rw [if_neg c16] at H
                        have c16b0 : decide ((bt a0 x3_2) ≤ 57) = false := decide_eq_false c16
                        clear c16
                        by_cases c17 : ((bt a0 x3_2) = 95)
                        · rw [if_pos c17] at H
                          have c17b0 : ((bt a0 x3_2) == 95) = true := beq_iff_eq.mpr c17
                          have c17b1 : ((bt a0 x3_2) != 95) = false := bne_eq_false_iff_eq.mpr c17
                          clear c17
                          have H' := Aside0.mk H
                          clear H
                          have p12 : 0 ≤ (x3_2 : Int) := of_decide_eq_true (by first | (with_reducible assumption) | assumption)
                          have q12 : x3_2 < (a0.size : Int) := of_decide_eq_true (by first | (with_reducible assumption) | assumption)
                          have hx12 := bt_at a0 x3_2
                          replace p12 := eq_true p12
                          replace q12 := eq_true q12
                          go_wp2
                          go_roundg k2
                          case measure => have := HJ1.out; have := HK2.out; omega
                          case rel => exact ⟨(wrap64 (x3_2 + 1)), (by first | rfl | (simp; done) | (simp [*]; done)), H', ⟨by have := HJ1.out; have := HK2.out; omega⟩, by repeat (first | exact Drawn0.refl _ | apply Drawn0.step)⟩
                        · rw [if_neg c17] at H
                          have c17b0 : ((bt a0 x3_2) == 95) = false := beq_eq_false_iff_ne.mpr c17
                          have c17b1 : ((bt a0 x3_2) != 95) = true := bne_iff_ne.mpr c17
                          obtain rfl := Option.some.inj H
                          have p12 : 0 ≤ (x3_2 : Int) := of_decide_eq_true (by first | (with_reducible assumption) | assumption)
                          have q12 : x3_2 < (a0.size : Int) := of_decide_eq_true (by first | (with_reducible assumption) | assumption)
                          have hx12 := bt_at a0 x3_2
                          replace p12 := eq_true p12
                          replace q12 := eq_true q12
                          go_wp2
                          go_ret
                          exact ⟨by first | rfl | (simp; done) | (simp [*]; done), by repeat (first | exact Drawn0.refl _ | apply Drawn0.step)⟩
                    · rw [if_neg c15] at H
                      have c15b0 : decide (48 ≤ (bt a0 x3_2)) = false := decide_eq_false c15
                      clear c15
                      by_cases c18 : ((bt a0 x3_2) = 95)
                      · rw [if_pos c18] at H
                        have c18b0 : ((bt a0 x3_2) == 95) = true := beq_iff_eq.mpr c18
                        have c18b1 : ((bt a0 x3_2) != 95) = false := bne_eq_false_iff_eq.mpr c18
                        clear c18
                        have H' := Aside0.mk H
                        clear H
                        have p12 : 0 ≤ (x3_2 : Int) := of_decide_eq_true (by first | (with_reducible assumption) | assumption)
                        have q12 : x3_2 < (a0.size : Int) := of_decide_eq_true (by first | (with_reducible assumption) | assumption)
                        have hx12 := bt_at a0 x3_2
                        replace p12 := eq_true p12
                        replace q12 := eq_true q12
                        go_wp2
                        go_roundg k2
                        case measure => have := HJ1.out; have := HK2.out; omega
                        case rel => exact ⟨(wrap64 (x3_2 + 1)), (by first | rfl | (simp; done) | (simp [*]; done)), H', ⟨by have := HJ1.out; have := HK2.out; omega⟩, by repeat (first | exact Drawn0.refl _ | apply Drawn0.step)⟩
                      · rw [if_neg c18] at H
                        have c18b0 : ((bt a0 x3_2) == 95) = false := beq_eq_false_iff_ne.mpr c18
                        have c18b1 : ((bt a0 x3_2) != 95) = true := bne_iff_ne.mpr c18
                        obtain rfl := Option.some.inj H
                        have p12 : 0 ≤ (x3_2 : Int) := of_decide_eq_true (by first | (with_reducible assumption) | assumption)
                        have q12 : x3_2 < (a0.size : Int) := of_decide_eq_true (by first | (with_reducible assumption) | assumption)
                        have hx12 := bt_at a0 x3_2
                        replace p12 := eq_true p12
                        replace q12 := eq_true q12
                        go_wp2
                        go_ret
                        exact ⟨by first | rfl | (simp; done) | (simp [*]; done), by repeat (first | exact Drawn0.refl _ | apply Drawn0.step)⟩
                · rw [if_neg c13] at H
                  have c13b0 : decide (97 ≤ (bt a0 x3_2)) = false := decide_eq_false c13
                  clear c13
                  by_cases c19 : (bt a0 x3_2) ≥ 48
                  · rw [if_pos c19] at H
                    have c19b0 : decide (48 ≤ (bt a0 x3_2)) = true := decide_eq_true c19
                    clear c19
                    by_cases c20 : (bt a0 x3_2) ≤ 57
                    · rw [if_pos c20] at H
                      have c20b0 : decide ((bt a0 x3_2) ≤ 57) = true := decide_eq_true c20
                      clear c20
                      have H' := Aside0.mk H
                      clear H
                      have p12 : 0 ≤ (x3_2 : Int) := of_decide_eq_true (by first | (with_reducible assumption) | assumption)
                      have q12 : x3_2 < (a0.size : Int) := of_decide_eq_true (by first | (with_reducible assumption) | assumption)
                      have hx12 := bt_at a0 x3_2
                      replace p12 := eq_true p12
                      replace q12 := eq_true q12
                      go_wp2
                      go_roundg k2
                      case measure => have := HJ1.out; have := HK2.out; omega
                      case rel => exact ⟨(wrap64 (x3_2 + 1)), (by first | rfl | (simp; done) | (simp [*]; done)), H', ⟨by have := HJ1.out; have := HK2.out; omega⟩, by repeat (first | exact Drawn0.refl _ | apply Drawn0.step)⟩
                    · rw [if_neg c20] at H
                      have c20b0 : decide ((bt a0 x3_2) ≤ 57) = false := decide_eq_false c20
                      clear c20
                      by_cases c21 : ((bt a0 x3_2) = 95)
                      · rw [if_pos c21] at H
                        have c21b0 : ((bt a0 x3_2) == 95) = true := beq_iff_eq.mpr c21
                        have c21b1 : ((bt a0 x3_2) != 95) = false := bne_eq_false_iff_eq.mpr c21
                        clear c21
                        have H' := Aside0.mk H
                        clear H
                        have p12 : 0 ≤ (x3_2 : Int) := of_decide_eq_true (by first | (with_reducible assumption) | assumption)
                        have q12 : x3_2 < (a0.size : Int) := of_decide_eq_true (by first | (with_reducible assumption) | assumption)
                        have hx12 := bt_at a0 x3_2
                        replace p12 := eq_true p12
                        replace q12 := eq_true q12
                        go_wp2
                        go_roundg k2
                        case measure => have := HJ1.out; have := HK2.out; omega
                        case rel => exact ⟨(wrap64 (x3_2 + 1)), (by first | rfl | (simp; done) | (simp [*]; done)), H', ⟨by have := HJ1.out; have := HK2.out; omega⟩, by repeat (first | exact Drawn0.refl _ | apply Drawn0.step)⟩
                      · rw [if_neg c21] at H
                        have c21b0 : ((bt a0 x3_2) == 95) = false := beq_eq_false_iff_ne.mpr c21
                        have c21b1 : ((bt a0 x3_2) != 95) = true := bne_iff_ne.mpr c21
                        obtain rfl := Option.some.inj H
                        have p12 : 0 ≤ (x3_2 : Int) := of_decide_eq_true (by first | (with_reducible assumption) | assumption)
                        have q12 : x3_2 < (a0.size : Int) := of_decide_eq_true (by first | (with_reducible assumption) | assumption)
                        have hx12 := bt_at a0 x3_2
                        replace p12 := eq_true p12
                        replace q12 := eq_true q12
                        go_wp2
                        go_ret
                        exact ⟨by first | rfl | (simp; done) | (simp [*]; done), by repeat (first | exact Drawn0.refl _ | apply Drawn0.step)⟩
                  · rw [if_neg c19] at H
                    have c19b0 : decide (48 ≤ (bt a0 x3_2)) = false := decide_eq_false c19
                    clear c19
                    by_cases c22 : ((bt a0 x3_2) = 95)
                    · rw [if_pos c22] at H
                      have c22b0 : ((bt a0 x3_2) == 95) = true := beq_iff_eq.mpr c22
                      have c22b1 : ((bt a0 x3_2) != 95) = false := bne_eq_false_iff_eq.mpr c22
                      clear c22
                      have H' := Aside0.mk H
                      clear H
                      have p12 : 0 ≤ (x3_2 : Int) := of_decide_eq_true (by first | (with_reducible assumption) | assumption)
                      have q12 : x3_2 < (a0.size : Int) := of_decide_eq_true (by first | (with_reducible assumption) | assumption)
                      have hx12 := bt_at a0 x3_2
                      replace p12 := eq_true p12
                      replace q12 := eq_true q12
                      go_wp2
                      go_roundg k2
                      case measure => have := HJ1.out; have := HK2.out; omega
                      case rel => exact ⟨(wrap64 (x3_2 + 1)), (by first | rfl | (simp; done) | (simp [*]; done)), H', ⟨by have := HJ1.out; have := HK2.out; omega⟩, by repeat (first | exact Drawn0.refl _ | apply Drawn0.step)⟩
                    · rw [if_neg c22] at H
                      have c22b0 : ((bt a0 x3_2) == 95) = false := beq_eq_false_iff_ne.mpr c22
                      have c22b1 : ((bt a0 x3_2) != 95) = true := bne_iff_ne.mpr c22
                      obtain rfl := Option.some.inj H
                      have p12 : 0 ≤ (x3_2 : Int) := of_decide_eq_true (by first | (with_reducible assumption) | assumption)
                      have q12 : x3_2 < (a0.size : Int) := of_decide_eq_true (by first | (with_reducible assumption) | assumption)
                      have hx12 := bt_at a0 x3_2
                      replace p12 := eq_true p12
                      replace q12 := eq_true q12
                      go_wp2
                      go_ret
                      exact ⟨by first | rfl | (simp; done) | (simp [*]; done), by repeat (first | exact Drawn0.refl _ | apply Drawn0.step)⟩
              · rw [if_neg c11] at H
                exact absurd H (by simp)
            · rw [if_neg c10] at H
              have c10b0 : decide (x3_2 < (a0.size : Int)) = false := decide_eq_false c10
              clear c10
              obtain rfl := Option.some.inj H
              go_wp2
              go_ret
              exact ⟨by first | rfl | (simp; done) | (simp [*]; done), by repeat (first | exact Drawn0.refl _ | apply Drawn0.step)⟩
end Go.Proofs.YtaoajlaocphgdaaDoor.PA
end
section
namespace Go.Proofs.YtaoajlaocphgdaaDoor.PA
open Go.RowKit Go.Proofs.YtaoajlaocphgdaaDoorW.PrintWords Go.Proofs.YtaoajlaocphgdaaDoorW.PrintLast Go.Proofs.YtaoajlaocphgdaaDoorW.PrintMore
set_option linter.unusedVariables false
set_option linter.unusedSimpArgs false
theorem bt_get (s : ByteArray) (i : Nat) (c : UInt8) (h : s.data.toList[i]? = some c) : bt s (i : Int) = (c.toNat : Int) := by
  have hlt : i < s.size := by
    have := (List.getElem?_eq_some_iff.1 h).1
    simpa using this
  have hx := (List.getElem?_eq_some_iff.1 h).2
  unfold bt
  rw [dif_pos (by simpa using hlt)]
  have e : s[(i : Int).toNat]'(by simpa using hlt) = c := by
    rw [← hx]
    simp [ByteArray.getElem_eq_getElem_data]
  rw [e]
theorem isCh_iff (n : Nat) : isCh n = true ↔ ((97 ≤ n ∧ n ≤ 122) ∨ n = 95 ∨ (48 ≤ n ∧ n ≤ 57)) := by
  unfold isCh isLetter
  simp only [Bool.or_eq_true, Bool.and_eq_true, decide_eq_true_eq, beq_iff_eq]
  omega
theorem isLetter_iff (n : Nat) : isLetter n = true ↔ ((97 ≤ n ∧ n ≤ 122) ∨ n = 95) := by
  unfold isLetter
  simp only [Bool.or_eq_true, Bool.and_eq_true, decide_eq_true_eq, beq_iff_eq]
theorem rname_l0 (s : ByteArray) (hs : s.size ≤ 1000) : ∀ (n i k : Nat), s.data.toList.length = i + n → n < k → caponierref06_Name.l0 k s (i : Int) = some ((s.data.toList.drop i).all fun c => isCh c.toNat) := by
  intro n
  have hsz : s.data.toList.length = s.size := by simp
  induction n with
  | zero =>
    intro i k hi hk
    obtain ⟨k, rfl⟩ : ∃ j, k = j + 1 := ⟨k - 1, by omega⟩
    rw [caponierref06_Name.l0, if_neg (by omega), List.drop_of_length_le (by omega)]
    rfl
  | succ n ih =>
    intro i k hi hk
    obtain ⟨k, rfl⟩ : ∃ j, k = j + 1 := ⟨k - 1, by omega⟩
    have hlt : i < s.data.toList.length := by omega
    obtain ⟨c, hc⟩ : ∃ c, s.data.toList[i]? = some c := ⟨_, List.getElem?_eq_getElem hlt⟩
    have hb := bt_get s i c hc
    have hd : s.data.toList.drop i = c :: s.data.toList.drop (i + 1) := by
      rw [List.drop_eq_getElem_cons hlt]
      rw [List.getElem?_eq_getElem hlt] at hc
      rw [Option.some.inj hc]
    have hr := ih (i + 1) k (by omega) (by omega)
    rw [caponierref06_Name.l0, if_pos (by omega), if_pos (by omega), hb, hd, IntWalk.wrap64_in _ (by omega), show (i : Int) + 1 = ((i + 1 : Nat) : Int) from by omega, hr, List.all_cons]
    cases hch : isCh c.toNat
    · have hno : ¬ ((97 ≤ c.toNat ∧ c.toNat ≤ 122) ∨ c.toNat = 95 ∨ (48 ≤ c.toNat ∧ c.toNat ≤ 57)) := fun h => by rw [(isCh_iff _).2 h] at hch; cases hch
      repeat' split
      all_goals first | rfl | (exfalso; omega)
    · have hyes := (isCh_iff _).1 hch
      repeat' split
      all_goals first | rfl | (exfalso; omega)
theorem rname_f (s : ByteArray) (hs : s.size ≤ 1000) (k : Nat) (hk : s.size + 2 ≤ k) : caponierref06_Name.f k s = some (nameB s.data.toList) := by
  have hsz : s.data.toList.length = s.size := by simp
  obtain ⟨k, rfl⟩ : ∃ j, k = j + 1 := ⟨k - 1, by omega⟩
  unfold caponierref06_Name.f nameB
  by_cases h1 : (s.size : Int) < 1
  · rw [if_pos h1, caponierref06_Name.j0, if_pos rfl, decide_eq_false (show ¬ (1 ≤ s.data.toList.length) by omega)]
    rfl
  by_cases h2 : (s.size : Int) > 24
  · rw [if_neg h1, if_pos h2, caponierref06_Name.j0, if_pos rfl, decide_eq_false (show ¬ (s.data.toList.length ≤ 24) by omega), Bool.and_false]
    rfl
  obtain ⟨c, hc⟩ : ∃ c, s.data.toList[0]? = some c := ⟨_, List.getElem?_eq_getElem (by omega)⟩
  have hb := bt_get s 0 c hc
  have hg : s.data.toList.getD 0 0 = c := by rw [List.getD_eq_getElem?_getD, hc]; rfl
  have hall := rname_l0 s hs s.data.toList.length 0 k (by omega) (by omega)
  rw [List.drop_zero] at hall
  have hb0 : bt s 0 = (c.toNat : Int) := hb
  rw [if_neg h1, if_neg h2, if_pos (by omega), hb0, hg, decide_eq_true (show 1 ≤ s.data.toList.length by omega), decide_eq_true (show s.data.toList.length ≤ 24 by omega)]
  have hmem : c ∈ s.data.toList := List.mem_of_getElem? hc
  have key : caponierref06_Name.l0 k s 0 = some (s.data.toList.all fun c => isCh c.toNat) := hall
  by_cases hd : 48 ≤ c.toNat ∧ c.toNat ≤ 57
  · have hl : isLetter c.toNat = false := by
      cases h : isLetter c.toNat
      · rfl
      · have := (isLetter_iff _).1 h; omega
    rw [if_pos (by omega), decide_eq_true (show (c.toNat : Int) ≤ 57 by omega), caponierref06_Name.j0, if_pos rfl, hl]
    rfl
  · have hfin : caponierref06_Name.j0 (k + 1) s false = some (true && true && isLetter c.toNat && s.data.toList.all fun c => isCh c.toNat) := by
      rw [caponierref06_Name.j0, if_neg (by decide), key]
      cases ha : s.data.toList.all fun c => isCh c.toNat
      · rw [Bool.and_false]
      · have hcc := List.all_eq_true.1 ha c hmem
        have := (isCh_iff _).1 hcc
        rw [(isLetter_iff _).2 (by omega)]
        rfl
    by_cases h48 : (c.toNat : Int) ≥ 48
    · rw [if_pos h48, decide_eq_false (show ¬ ((c.toNat : Int) ≤ 57) by omega)]
      exact hfin
    · rw [if_neg h48]
      exact hfin
end Go.Proofs.YtaoajlaocphgdaaDoor.PA
end
section
namespace Go.Proofs.YtaoajlaocphgdaaDoor.PA
open Go.RowKit Go.Proofs.YtaoajlaocphgdaaDoorW.PrintWords Go.Proofs.YtaoajlaocphgdaaDoorW.PrintLast Go.Proofs.YtaoajlaocphgdaaDoorW.PrintMore
set_option linter.unusedVariables false
set_option linter.unusedSimpArgs false
def okW (name : ByteArray) (ps : List Int) (l : LayV) : Bool := mayL l && nameB name.data.toList && !decide ((6 : Int) < (ps.length : Int)) && !ps.any badN
theorem any_take (ps : List Int) (i : Nat) (n : Int) (h : ps[i]? = some n) : (ps.take (i + 1)).any badN = ((ps.take i).any badN || badN n) := by
  have hlt := (List.getElem?_eq_some_iff.1 h).1
  rw [List.take_succ_eq_append_getElem hlt, List.any_append]
  rw [List.getElem?_eq_getElem hlt] at h
  rw [Option.some.inj h]
  simp
theorem any_of_at (ps : List Int) (i : Nat) (n : Int) (h : ps[i]? = some n) (hb : badN n = true) : ps.any badN = true := List.any_eq_true.2 ⟨n, List.mem_of_getElem? h, hb⟩
set_option maxHeartbeats 16000000 in
set_option maxRecDepth 100000 in
theorem rwrap_calls (name : ByteArray) (A1 : Option Addr) (c1 : Nat) (ps : List Int) (l : LayV) (w : World) (hr : Kd.C (Kd.int .i64) w A1 ps.length ps) (hc : ps.length ≤ c1) (hsz : name.size ≤ 1000) (hlen : ps.length ≤ 100) (hLB : LayB l) :
    Calls Tryd.prog 11 #[.string name, .slice A1 ps.length c1, .agg (layArr l)] w fun e w' => ((okW name ps l = false ∧ e = .returned (.tuple #[.agg noCells, .int .i64 1])) ∨
      (okW name ps l = true ∧ ∃ u v : Value, e = .returned (.tuple #[.agg (objCells u v), .int .i64 0]) ∧ Kd.R (Kd.int .u32) 46 w' w.heap.size (fun _ => True) u (wordsL ps l) ∧ Kd.R k49 49 w' w.heap.size (fun _ => True) v (relsL name ps l))) ∧ Below w.heap.size w w' := by
  have HR := Aside0.mk hr
  have HCC := Aside0.mk hc
  have HLB := Aside0.mk hLB
  have HB := Aside0.mk (Below.refl w.heap.size w)
  obtain ⟨ok, hok⟩ : ∃ b, b = okW name ps l := ⟨_, rfl⟩
  rw [← hok]
  have HOK := Aside0.mk hok
  clear hr hc hLB hok
  go_enter Tryd.func11, Tryd.ntmps11
  go_upto_region 1 with (first | ((with_reducible refine gate_dst (N := 5) rfl ?_); refine box_event ?hg (N := 5) ?hd (cs := layArr l) (t := 27) ?hr ?_; (case hd => rfl); (case hg => rfl); (case hr => (refine exec_box (by rfl) (by rfl) (run_boxL l _))); intro g5 hg5 w1 Bg5 hb1; have HB1 := Aside0.mk hb1; have HK51 := Aside0.mk Bg5; clear hb1 Bg5 hg5) | ((with_reducible refine gate_dst (N := 6) rfl ?_); refine box_event ?hg (N := 6) ?hd (cs := noCells) (t := 35) ?hr ?_; (case hd => rfl); (case hg => rfl); (case hr => first | (go_simp; done) | (go_simp; rfl)); intro g6 hg6 w2 Bg6 hb2; have HB2 := Aside0.mk (below_step HB1.out hb2); have HK52 := Aside0.mk (blk_below HK51.out hb2); have HK62 := Aside0.mk Bg6; have HE6 := Aside0.mk (show w.heap.size ≤ g6 by rw [hg6]; exact HB1.out.size); clear hb2 Bg6 hg6))
  have HR2 := Aside0.mk (Kd.C_below HR.out HB2.out)
  clear HR HB1 HK51
  go_wp2_with fail
  go_loopg [8] ps.length (fun g s8 w' => ∃ i : Nat, s8 = .int .i64 i ∧ i ≤ ps.length ∧ g = ps.length - i ∧ Aside0 ((ps.take i).any badN = false) ∧ Aside0 (Below w2.heap.size w2 w'))
  case atStart => exact ⟨0, rfl, Nat.zero_le _, rfl, ⟨rfl⟩, ⟨Below.refl _ _⟩⟩
  case round =>
    obtain ⟨i, rfl, hi, rfl, HNB, HX⟩ := hrel
    have HKr6 := Aside0.mk (blk_below HK62.out HX.out)
    have HBr := Aside0.mk (below_step HB2.out HX.out)
    by_cases hlt : i < ps.length
    · obtain ⟨ad, e1, hcell⟩ := Kd.at_int (Kd.C_below HR2.out HX.out) (i : Int) (by omega) (by omega)
      cases e1
      rw [Int.toNat_natCast] at hcell
      obtain ⟨n, hn⟩ : ∃ n, rd ps (i : Int) = n := ⟨_, rfl⟩
      have hget : ps[i]? = some n := by
        rw [List.getElem?_eq_getElem hlt, ← hn]
        simp [rd, List.getD_eq_getElem?_getD, List.getElem?_eq_getElem hlt]
      rw [hn] at hcell
      have HGET := Aside0.mk hget
      clear hn hget
      have hltI : (i : Int) < (ps.length : Int) := by omega
      have si : IntKind.i64.wrap ((i : Int) + 1) = (i : Int) + 1 := IntWalk.i64_in _ (by omega)
      by_cases h0 : n < 0
      · have d0 : decide (n < 0) = true := decide_eq_true h0
        have HBAD := Aside0.mk (any_of_at ps i n HGET.out (by simp [badN]; omega))
        go_wp2_with (first | (refine store_event (by rfl) (ty := 35) (by rfl) g6 35 noCells noCells (by rfl) (by rfl) HKr6.out (by kernel_rfl) rfl (by kernel_rfl) ?_; intro ws hss; have HSS := Aside0.mk hss; clear hss))
        refine bodyPost_ret (results_ct rfl _ _ g6 35 noCells (0, 0) _ rfl HSS.out.at_ Tryd.underlying35 rfl (by kernel_rfl)) rfl ?_
        exact ⟨Or.inl ⟨by rw [HOK.out]; unfold okW; rw [HBAD.out]; simp, rfl⟩, HSS.out.below HBr.out HE6.out⟩
      have d0 : decide (n < 0) = false := decide_eq_false h0
      by_cases h64 : n > 64
      · have d1 : decide (n > 64) = true := decide_eq_true h64
        have HBAD := Aside0.mk (any_of_at ps i n HGET.out (by simp [badN]; omega))
        go_wp2_with (first | (refine store_event (by rfl) (ty := 35) (by rfl) g6 35 noCells noCells (by rfl) (by rfl) HKr6.out (by kernel_rfl) rfl (by kernel_rfl) ?_; intro ws hss; have HSS := Aside0.mk hss; clear hss))
        refine bodyPost_ret (results_ct rfl _ _ g6 35 noCells (0, 0) _ rfl HSS.out.at_ Tryd.underlying35 rfl (by kernel_rfl)) rfl ?_
        exact ⟨Or.inl ⟨by rw [HOK.out]; unfold okW; rw [HBAD.out]; simp, rfl⟩, HSS.out.below HBr.out HE6.out⟩
      have d1 : decide (n > 64) = false := decide_eq_false h64
      have HNX := Aside0.mk (show (ps.take (i + 1)).any badN = false by rw [any_take ps i n HGET.out, HNB.out]; simp [badN]; omega)
      go_wp2_with fail
      go_roundg (ps.length - (i + 1))
      case measure => omega
      case rel => exact ⟨i + 1, by go_num, by omega, rfl, HNX, HX⟩
    · obtain rfl : i = ps.length := by omega
      rw [List.take_length] at HNB
      have HKr5 := Aside0.mk (blk_below HK52.out HX.out)
      have HRr := Aside0.mk (Kd.C_below HR2.out HX.out)
      go_wp2_with (first | ((with_reducible refine gate_dst (N := 34) rfl ?_); refine wpList_load_row (by rfl) 27 _ (by rfl) g5 (by rfl) 27 (layArr l) (0, 0) _ HKr5.out Tryd.underlying27 rfl (by kernel_rfl) ?_))
      refine (rmay_at l HLB.out _).mono ?_
      rintro e w3 ⟨rfl, hb3⟩
      have HB3 := Aside0.mk (below_step HBr.out hb3)
      have HK53 := Aside0.mk (blk_below HKr5.out hb3)
      have HK63 := Aside0.mk (blk_below HKr6.out hb3)
      have HR3 := Aside0.mk (Kd.C_below HRr.out hb3)
      clear hb3 HX HKr5 HKr6 HBr HRr HK52 HK62 HR2 HB2
      cases hm : mayL l
      · have HOKF := Aside0.mk (show ok = false by rw [HOK.out]; unfold okW; rw [hm]; rfl)
        clear hm
        go_wp2_with (first | (refine store_event (by rfl) (ty := 35) (by rfl) g6 35 noCells noCells (by rfl) (by rfl) HK63.out (by kernel_rfl) rfl (by kernel_rfl) ?_; intro ws hss; have HSS := Aside0.mk hss; clear hss))
        refine bodyPost_ret (results_ct rfl _ _ g6 35 noCells (0, 0) _ rfl HSS.out.at_ Tryd.underlying35 rfl (by kernel_rfl)) rfl ?_
        exact ⟨Or.inl ⟨HOKF.out, rfl⟩, HSS.out.below HB3.out HE6.out⟩
      · have HM := Aside0.mk hm
        clear hm
        go_wp2_with fail
        refine (caponierref06_Name.calls 2000 name (nameB name.data.toList) _ (rname_f name hsz 2000 (by omega))).mono ?_
        rintro e w4 ⟨rfl, hd4⟩
        have HB4 := Aside0.mk (below_step HB3.out hd4.below)
        have HK54 := Aside0.mk (blk_below HK53.out hd4.below)
        have HK64 := Aside0.mk (blk_below HK63.out hd4.below)
        have HR4 := Aside0.mk (Kd.C_below HR3.out hd4.below)
        clear hd4 HB3 HK53 HK63 HR3
        cases hnm : nameB name.data.toList
        · have HOKF := Aside0.mk (show ok = false by rw [HOK.out]; unfold okW; rw [hnm, Bool.and_false]; rfl)
          clear hnm
          go_wp2_with (first | (refine store_event (by rfl) (ty := 35) (by rfl) g6 35 noCells noCells (by rfl) (by rfl) HK64.out (by kernel_rfl) rfl (by kernel_rfl) ?_; intro ws hss; have HSS := Aside0.mk hss; clear hss))
          refine bodyPost_ret (results_ct rfl _ _ g6 35 noCells (0, 0) _ rfl HSS.out.at_ Tryd.underlying35 rfl (by kernel_rfl)) rfl ?_
          exact ⟨Or.inl ⟨HOKF.out, rfl⟩, HSS.out.below HB4.out HE6.out⟩
        · have HNM := Aside0.mk hnm
          clear hnm
          by_cases h6 : (6 : Int) < (ps.length : Int)
          · have d6 : decide ((6 : Int) < (ps.length : Int)) = true := decide_eq_true h6
            have HOKF := Aside0.mk (show ok = false by rw [HOK.out]; unfold okW; rw [d6]; simp)
            go_wp2_with (first | (refine store_event (by rfl) (ty := 35) (by rfl) g6 35 noCells noCells (by rfl) (by rfl) HK64.out (by kernel_rfl) rfl (by kernel_rfl) ?_; intro ws hss; have HSS := Aside0.mk hss; clear hss))
            refine bodyPost_ret (results_ct rfl _ _ g6 35 noCells (0, 0) _ rfl HSS.out.at_ Tryd.underlying35 rfl (by kernel_rfl)) rfl ?_
            exact ⟨Or.inl ⟨HOKF.out, rfl⟩, HSS.out.below HB4.out HE6.out⟩
          · have d6 : decide ((6 : Int) < (ps.length : Int)) = false := decide_eq_false h6
            have HOKT := Aside0.mk (show ok = true by rw [HOK.out]; unfold okW; rw [d6, HM.out, HNM.out, HNB.out]; rfl)
            go_wp2_with (first | ((with_reducible refine gate_dst (N := 50) rfl ?_); refine wpList_load_row (by rfl) 27 _ (by rfl) g5 (by rfl) 27 (layArr l) (0, 0) _ HK54.out Tryd.underlying27 rfl (by kernel_rfl) ?_))
            refine (rcode_calls A1 c1 ps l _ HR4.out HCC.out (mayL_ok HM.out).1 (by omega) (bad_range HNB.out)).mono ?_
            rintro e w6 ⟨v9, rfl, hR9, hb6⟩
            obtain ⟨code, hcode⟩ : ∃ z, z = codeL ps l := ⟨_, rfl⟩
            obtain ⟨pn, hpn⟩ : ∃ z, z = (preP l ps).length := ⟨_, rfl⟩
            have hcl : code.length ≤ 100 := by rw [hcode, code_length]; exact all_length l ps (by omega)
            have hpl : pn ≤ 100 := by rw [hpn]; exact pre_length l ps (by omega)
            have HLEAF := Aside0.mk (show ∀ i, i < code.length → ∃ x, code[i]? = some x ∧ HasW x ∧ LeafK (checksP l ps).length i x by
              intro i hi
              rw [hcode, all_len] at hi
              rw [hcode]
              exact leaf_at l (mayL_ok HM.out).1 ps (by omega) (bad_range HNB.out) i hi)
            have HWD := Aside0.mk (show wordsL ps l = code.map fun x => (encP x).1 by rw [hcode]; rfl)
            have HRL := Aside0.mk (show relsL name ps l = [(⟨4 * (pn : Int), 2, name, 0⟩ : S49)] by rw [hpn]; rfl)
            rw [← hcode] at hR9
            rw [← hpn]
            have HB6 := Aside0.mk (below_step HB4.out hb6)
            have HK66 := Aside0.mk (blk_below HK64.out hb6)
            have HC6 := Aside0.mk (Kd.R_lower hR9 HB4.out.size)
            obtain ⟨Ac, cc, rfl⟩ := Kd.R_slice hR9
            clear hb6 HB4 HK64 HK54 HR4 hR9 hcode hpn
            have hw4 : IntKind.i64.wrap (4 * (pn : Int)) = 4 * pn := IntWalk.i64_in _ (by omega)
            have hcc : code.length ≤ 9223372036854775807 := by omega
            go_wp2_with (first | ((with_reducible refine gate_dst (N := 58) rfl ?_); refine Kd.R_lit k49 (w0 := w) w.heap.size 49 ?hg (N := 58) ?hd (xs := [(⟨4 * (pn : Int), 2, name, 0⟩ : S49)]) (inner := [.int .i64 (4 * (pn : Int)), .int .i64 2, .string name, .int .i64 0]) (ok := fun _ => True) (okp := fun _ => True) ?hr ?hp (fun _ hk => hk) trivial HB6.out HB6.out.size (by simp) ?_; (case hd => rfl); (case hg => rfl); (case hr => first | (go_simp; done) | (go_simp; rfl)); (case hp => exact (Reps.c4 (show Kd.M k49 _ _ _ (⟨4 * (pn : Int), 2, name, 0⟩ : S49) [.int .i64 (4 * (pn : Int)), .int .i64 2, .string name, .int .i64 0] from (k49_mkM _ _ _ (⟨4 * (pn : Int), 2, name, 0⟩ : S49) )) (Reps.none _ _))); intro v3 w7 ho7 hb7 hg7 hnew7; obtain ⟨A3, c3, hv3⟩ := Kd.R_slice ho7; replace hv3 : v3 = .slice A3 1 c3 := hv3; subst hv3; have HR7 := Aside0.mk ho7; have HB7 := Aside0.mk hb7; have HG7 := Aside0.mk hg7; clear ho7 hb7 hg7 hnew7; have HK67 := Aside0.mk (blk_grown HK66.out HG7.out (by intro e; cases e))) | ((with_reducible refine gate_dst (N := 11) rfl ?_); refine box_event ?hg (N := 11) ?hd (cs := noCells) (t := 35) ?hr ?_; (case hd => rfl); (case hg => rfl); (case hr => first | (go_simp; done) | (go_simp; rfl)); intro g11 hg11 w8 B11 hb8; have HS8 := Aside0.mk hb8; have HE11 := Aside0.mk hg11; have HK11 := Aside0.mk B11; clear hb8 hg11 B11) | (refine store_event (by rfl) (ty := 35) (by rfl) g11 35 noCells (objCells (.slice none 0 0) (.slice A3 1 c3)) (by rfl) (by rfl) HK11.out (by kernel_rfl) rfl (by kernel_rfl) ?_; intro w9 hs9; have HS9 := Aside0.mk hs9; clear hs9))
            have HB9 := Aside0.mk (HS9.out.below (below_step HB7.out HS8.out) (by rw [HE11.out]; exact HB7.out.size))
            have hlt6 := blk_lt HK67.out
            have hne6 : g6 ≠ g11 := by have := HE11.out; omega
            have HC9 := Aside0.mk (HS9.out.row (Kd.R_below (Kd.R_grown HC6.out HG7.out (by intro k _ e; cases e)) HS8.out) HK11.out (by decide))
            have HR9 := Aside0.mk (HS9.out.row (Kd.R_below HR7.out HS8.out) HK11.out (by decide))
            have HK69 := Aside0.mk (HS9.out.blk (blk_below HK67.out HS8.out) hne6)
            have HK119 := Aside0.mk HS9.out.at_
            have HN6 := Aside0.mk hne6
            have HE11' := Aside0.mk (show w.heap.size ≤ g11 by rw [HE11.out]; exact HB7.out.size)
            clear HS9 HS8 HK11 HE11 HG7 HK67 HK66 HC6 HR7 HB7 hlt6 hne6 HB6
            go_loopg [12] code.length (fun k v49 w' => ∃ (i : Nat) (u : Value), v49 = .int .i64 i ∧ Aside0 (i + k = code.length) ∧ Aside0 (Kd.R k43 43 w' w.heap.size (fun _ => True) (.slice Ac code.length cc) code) ∧ Aside0 (Kd.R (Kd.int .u32) 46 w' w.heap.size (fun _ => True) u ((code.take i).map fun x => (encP x).1)) ∧
              Aside0 (Kd.R k49 49 w' w.heap.size (fun _ => True) (.slice A3 1 c3) [(⟨4 * (pn : Int), 2, name, 0⟩ : S49)]) ∧ Aside0 (w'.heap[g6]? = some (.cells noCells 35 (0, 0))) ∧ Aside0 (w'.heap[g11]? = some (.cells (objCells u (.slice A3 1 c3)) 35 (0, 0))) ∧ Aside0 (Below w.heap.size w w'))
            case atStart => exact ⟨0, _, rfl, ⟨Nat.zero_add _⟩, HC9, ⟨by rw [List.take_zero]; exact Kd.R_nil _ _ _ _ _⟩, HR9, HK69, HK119, HB9⟩
            case round =>
              clear HC9 HR9 HK69 HK119 HB9
              obtain ⟨i, u, rfl, HI, HC9, HU9, HR9, HK69, HK119, HB9⟩ := hrel
              by_cases hlt : i < code.length
              · obtain ⟨x, hx⟩ : ∃ x, x = rd_T43 code i := ⟨_, rfl⟩
                obtain ⟨ad, e51, x0, x1, x2, x3, x4⟩ := at_T43 (Kd.R_reads' HC9.out).2.2 i (by omega) (by omega)
                cases e51
                rw [← hx] at x0 x1 x2 x3 x4
                simp only [Int.toNat_natCast] at x0 x1 x2 x3 x4
                have HX := Aside0.mk hx
                clear hx
                have HEN := Aside0.mk (show caponierref02_Encode.f 100 x.f0 x.f1 x.f2 x.f3 x.f4 = some ((encP x).1, 0) by
                  obtain ⟨x', hx', hw', _⟩ := HLEAF.out i hlt
                  have hxx : x = x' := by
                    rw [HX.out]
                    simp [rd_T43, List.getD_eq_getElem?_getD, hx']
                  rw [hxx]
                  obtain ⟨wd, e1, _, e3, _⟩ := hw'.all
                  rw [e1]
                  exact e3 0)
                have hltI : (i : Int) < (code.length : Int) := by omega
                go_wp2_with fail
                refine (caponierref02_Encode.calls 100 x.f0 x.f1 x.f2 x.f3 x.f4 (encP x).1 0 _ HEN.out).mono ?_
                rintro e w12 ⟨rfl, hb12⟩
                have hbb := hb12
                have HC12 := Aside0.mk (Kd.R_below HC9.out hbb)
                have HU12 := Aside0.mk (Kd.R_below HU9.out hbb)
                have HR12 := Aside0.mk (Kd.R_below HR9.out hbb)
                have HK612 := Aside0.mk (blk_below HK69.out hbb)
                have HK1112 := Aside0.mk (blk_below HK119.out hbb)
                have HB12 := Aside0.mk (below_step HB9.out hbb)
                have c0 : w12.cell? ⟨g11, 0, none⟩ = some u := (blk_cell HK1112.out 0).trans rfl
                clear hb12 hbb HC9 HU9 HR9 HK69 HK119 HB9 x0 x1 x2 x3 x4
                obtain ⟨y, hy⟩ : ∃ y, y = (encP x).1 := ⟨_, rfl⟩
                rw [← hy]
                obtain ⟨us, hus⟩ : ∃ us, us = (code.take i).map fun x => (encP x).1 := ⟨_, rfl⟩
                rw [← hus] at HU12
                have hul : us.length ≤ 100 := by rw [hus, List.length_map, List.length_take]; omega
                have HUS := Aside0.mk (show (code.take (i + 1)).map (fun x => (encP x).1) = us ++ [y] from by
                  rw [hus, List.take_succ_eq_append_getElem hlt, List.map_append, hy, HX.out]
                  simp [rd_T43, List.getD_eq_getElem?_getD, List.getElem?_eq_getElem hlt])
                clear hy hus HEN
                go_wp2_with (at_builtin; refine Kd.R_append (Kd.int .u32) (w0 := w) w.heap.size rfl (.tmp 75) (.tmp 77) 29 46 (.int .u32 0) 4 rfl Tryd.underlying29 info46 rfl (by decide) (by omega) u us y [.int .u32 y] (fun _ => True) (fun _ => False) rfl rfl ?aP (fun _ hk => hk.elim) ?aF ?aO ?aB ?aS ?aL ?_; (case aP => exact rfl); (case aB => exact HB12.out); (case aF => exact (fun _ _ => trivial)); (case aO => exact HU12.out); (case aS => exact HB12.out.size); (case aL => omega))
                intro v13 w13 ho hb hg hat
                have HB13 := Aside0.mk hb
                have HU13 := Aside0.mk ho
                have HC13 := Aside0.mk (Kd.R_over' HC12.out (Kd.R_typed HU12.out) (by decide) hg)
                have HR13 := Aside0.mk (Kd.R_over' HR12.out (Kd.R_typed HU12.out) (by decide) hg)
                have HK613 := Aside0.mk (blk_grown HK612.out hg (Kd.R_ne HU12.out HK612.out (by decide)))
                have HK1113 := Aside0.mk (blk_grown HK1112.out hg (Kd.R_ne HU12.out HK1112.out (by decide)))
                have c13 : w13.cell? ⟨g11, 0, none⟩ = some u := (blk_cell HK1113.out 0).trans rfl
                have f13 : w13.frozen? ⟨g11, 0, none⟩ = false := blk_frozen HK1113.out 0
                obtain ⟨Av, cv, hv⟩ := Kd.R_slice ho
                have hv1 : v13.oneCell' = true := by rw [hv]; rfl
                have HV := Aside0.mk hv
                clear hb ho hg hat c0 HC12 HU12 HR12 HK612 HK1112 HB12 hv
                rw [show (us ++ [y]).length = us.length + 1 from by simp] at HV
                obtain rfl := HV.out
                clear HV hv1
                go_wp2_with fail
                have hi1 : wrap64 ((i : Int) + 1) = ((i + 1 : Nat) : Int) := IntWalk.wrap64_in _ (by omega)
                go_roundg (code.length - (i + 1))
                case measure => have := HI.out; omega
                case rel => exact ⟨i + 1, _, by go_num, ⟨by omega⟩, ⟨Kd.R_set HC13.out HK1113.out (by decide) 0 _⟩, ⟨by rw [HUS.out]; exact Kd.R_set HU13.out HK1113.out (by decide) 0 _⟩, ⟨Kd.R_set HR13.out HK1113.out (by decide) 0 _⟩, ⟨blk_far HK613.out HN6.out _⟩, ⟨blk_put HK1113.out 0 _ rfl⟩, ⟨below_set HB13.out HE11'.out⟩⟩
              · obtain rfl : i = code.length := by have := HI.out; omega
                rw [List.take_length] at HU9
                have HO1 := Aside0.mk (show (objCells u (.slice A3 1 c3)).all (·.oneCell') = true from by obtain ⟨Au, cu, hu⟩ := Kd.R_slice HU9.out; rw [hu]; simp [objCells, Value.oneCell'])
                go_wp2_with (first | ((with_reducible refine gate_dst (N := 80) rfl ?_); refine wpList_load_row (by rfl) 35 _ (by rfl) g11 (by rfl) 35 (objCells u (.slice A3 1 c3)) (0, 0) _ HK119.out Tryd.underlying35 rfl (by kernel_rfl) ?_) | (refine store_event (by rfl) (ty := 35) (by rfl) g6 35 noCells (objCells u (.slice A3 1 c3)) (by rfl) (by rfl) HK69.out (by kernel_rfl) rfl (HO1.out) ?_; intro w14 hs14; have HS14 := Aside0.mk hs14; clear hs14))
                refine bodyPost_ret (results_ct rfl _ _ g6 35 (objCells u (.slice A3 1 c3)) (0, 0) _ rfl HS14.out.at_ Tryd.underlying35 rfl (by kernel_rfl)) rfl ?_
                exact ⟨Or.inr ⟨HOKT.out, u, _, rfl, by rw [HWD.out]; exact HS14.out.row HU9.out HK69.out (by decide), by rw [HRL.out]; exact HS14.out.row HR9.out HK69.out (by decide)⟩, HS14.out.below HB9.out HE6.out⟩
end Go.Proofs.YtaoajlaocphgdaaDoor.PA
end
section
namespace Go.Proofs.YtaoajlaocphgdaaDoor.PA
open Go.RowKit Go.Proofs.YtaoajlaocphgdaaDoorW.PrintWords Go.Proofs.YtaoajlaocphgdaaDoorW.PrintLast Go.Proofs.YtaoajlaocphgdaaDoorW.PrintMore
set_option linter.unusedVariables false
set_option linter.unusedSimpArgs false
def sizesArr (n m : Nat) : Array Value := #[.int .i64 (n : Int), .int .i64 0, .int .i64 0, .int .i64 (m : Int), .int .i64 0]
set_option maxHeartbeats 16000000 in
set_option maxRecDepth 100000 in
theorem rsizes_calls (A B : Option Addr) (n cn m cm : Nat) (w : World) (hn : n ≤ 1000) (hm : m ≤ 1000) :
    Calls Tryd.prog 60 #[.agg (objCells (.slice A n cn) (.slice B m cm))] w fun e w' => e = .returned (.agg (sizesArr n m)) ∧ Below w.heap.size w w' := by
  have HB := Aside0.mk (Below.refl w.heap.size w)
  go_enter Tryd.func60, Tryd.ntmps60
  go_upto_region 1 with (first | ((with_reducible refine gate_dst (N := 1) rfl ?_); refine box_event ?hg (N := 1) ?hd (cs := objCells (.slice A n cn) (.slice B m cm)) (t := 35) ?hr ?_; (case hd => rfl); (case hg => rfl); (case hr => first | (go_simp; done) | (go_simp; rfl) | (refine exec_box (by rfl) (by rfl) ?_; kernel_rfl)); intro g1 hg1 w1 B1 hb1; have HB1 := Aside0.mk hb1; have HK1 := Aside0.mk B1; clear hb1 hg1 B1) | ((with_reducible refine gate_dst (N := 2) rfl ?_); refine box_event ?hg (N := 2) ?hd (cs := #[.int .i64 0, .int .i64 0, .int .i64 0, .int .i64 0, .int .i64 0]) (t := 109) ?hr ?_; (case hd => rfl); (case hg => rfl); (case hr => first | (go_simp; done) | (go_simp; rfl)); intro g2 hg2 w2 B2 hb2; have HB2 := Aside0.mk (below_step HB1.out hb2); have HK12 := Aside0.mk (blk_below HK1.out hb2); have HK22 := Aside0.mk B2; have HE2 := Aside0.mk (show w.heap.size ≤ g2 by rw [hg2]; exact HB1.out.size); clear hb2 hg2 B2))
  have c0 : w2.cell? ⟨g1, 0, none⟩ = some (.slice A n cn) := (blk_cell HK12.out 0).trans rfl
  have c1 : w2.cell? ⟨g1, 1, none⟩ = some (.slice none 0 0) := (blk_cell HK12.out 1).trans rfl
  have c2 : w2.cell? ⟨g1, 2, none⟩ = some (.slice none 0 0) := (blk_cell HK12.out 2).trans rfl
  have c3 : w2.cell? ⟨g1, 3, none⟩ = some (.slice B m cm) := (blk_cell HK12.out 3).trans rfl
  have c4 : w2.cell? ⟨g1, 4, none⟩ = some (.slice none 0 0) := (blk_cell HK12.out 4).trans rfl
  go_wp2_with (first | (refine store_event (by rfl) (ty := 109) (by rfl) g2 109 #[.int .i64 0, .int .i64 0, .int .i64 0, .int .i64 0, .int .i64 0] (sizesArr n m) (by rfl) (by rfl) HK22.out (by kernel_rfl) rfl (by kernel_rfl) ?_; intro w3 hs3; have HS3 := Aside0.mk hs3; clear hs3))
  refine bodyPost_ret (results_cell_row rfl _ _ g2 109 (sizesArr n m) (0, 0) _ rfl HS3.out.at_ Tryd.underlying109 rfl (by kernel_rfl)) rfl ?_
  exact ⟨rfl, HS3.out.below HB2.out HE2.out⟩
end Go.Proofs.YtaoajlaocphgdaaDoor.PA
end
section
namespace Go.Proofs.YtaoajlaocphgdaaDoor.PA
open Go.RowKit Go.Proofs.YtaoajlaocphgdaaDoorW.PrintWords Go.Proofs.YtaoajlaocphgdaaDoorW.PrintLast Go.Proofs.YtaoajlaocphgdaaDoorW.PrintMore
set_option linter.unusedVariables false
set_option linter.unusedSimpArgs false
def SX (A B A' B' : Option Addr) (n cn m cm cn' cm' g2 g3 : Nat) (w0 : World) (w' : World) : Prop := w'.cell? ⟨g2, 0, none⟩ = some (.slice A n cn) ∧ w'.cell? ⟨g2, 1, none⟩ = some (.slice none 0 0) ∧ w'.cell? ⟨g2, 2, none⟩ = some (.slice none 0 0) ∧ w'.cell? ⟨g2, 3, none⟩ = some (.slice B m cm) ∧ w'.cell? ⟨g2, 4, none⟩ = some (.slice none 0 0) ∧ w'.cell? ⟨g3, 0, none⟩ = some (.slice A' n cn') ∧ w'.cell? ⟨g3, 1, none⟩ = some (.slice none 0 0) ∧ w'.cell? ⟨g3, 2, none⟩ = some (.slice none 0 0) ∧ w'.cell? ⟨g3, 3, none⟩ = some (.slice B' m cm') ∧ w'.cell? ⟨g3, 4, none⟩ = some (.slice none 0 0) ∧ Below w0.heap.size w0 w'
theorem SX.keep {A B A' B' : Option Addr} {n cn m cm cn' cm' g2 g3 : Nat} {w0 W w' : World} (h : SX A B A' B' n cn m cm cn' cm' g2 g3 w0 W) (hb : Below W.heap.size W w') : SX A B A' B' n cn m cm cn' cm' g2 g3 w0 w' :=
  ⟨(hb.cell (World.block_lt_of_cell? _ _ h.1)).trans h.1, (hb.cell (World.block_lt_of_cell? _ _ h.2.1)).trans h.2.1, (hb.cell (World.block_lt_of_cell? _ _ h.2.2.1)).trans h.2.2.1, (hb.cell (World.block_lt_of_cell? _ _ h.2.2.2.1)).trans h.2.2.2.1, (hb.cell (World.block_lt_of_cell? _ _ h.2.2.2.2.1)).trans h.2.2.2.2.1, (hb.cell (World.block_lt_of_cell? _ _ h.2.2.2.2.2.1)).trans h.2.2.2.2.2.1, (hb.cell (World.block_lt_of_cell? _ _ h.2.2.2.2.2.2.1)).trans h.2.2.2.2.2.2.1, (hb.cell (World.block_lt_of_cell? _ _ h.2.2.2.2.2.2.2.1)).trans h.2.2.2.2.2.2.2.1, (hb.cell (World.block_lt_of_cell? _ _ h.2.2.2.2.2.2.2.2.1)).trans h.2.2.2.2.2.2.2.2.1, (hb.cell (World.block_lt_of_cell? _ _ h.2.2.2.2.2.2.2.2.2.1)).trans h.2.2.2.2.2.2.2.2.2.1, below_step h.2.2.2.2.2.2.2.2.2.2 hb⟩
theorem sizes_eq (n m : Nat) (W : World) : Sem.run Tryd.prog (Op.equalIn 10000 109 (.agg (sizesArr n m)) (.agg (sizesArr n m))) W = .ok true W := by
  obtain ⟨i0, hi0, _⟩ := Option.map_eq_some_iff.1 info3
  refine (run_equalIn_array W 9999 _ _ Tryd.underlying109 hi0).trans ?_
  have hc : Program.cellsOf Tryd.prog 3 = 1 := by kernel_rfl
  have hu := Tryd.underlying3
  rw [hc, show List.range 5 = [0, 1, 2, 3, 4] from rfl]
  unfold sizesArr
  simp [Op.eqItems, go_sem, hu]
theorem rel_eq (x : S49) (W : World) : Sem.run Tryd.prog (Op.equalIn 10000 49 (.agg #[.int .i64 x.f0, .int .i64 x.f1, .string x.f2, .int .i64 x.f3]) (.agg #[.int .i64 x.f0, .int .i64 x.f1, .string x.f2, .int .i64 x.f3])) W = .ok true W := by
  have h1 := Tryd.underlying3
  have h2 := Tryd.underlying9
  have h3 := Tryd.underlying2
  refine eqA_of (d := 9999) Tryd.underlying49 (by kernel_rfl) ?_
  simp [Op.eqFields, go_sem, h1, h2, h3]
set_option maxHeartbeats 16000000 in
set_option maxRecDepth 100000 in
theorem rexact_calls (A B A' B' : Option Addr) (n cn m cm cn' cm' : Nat) (T : List Int) (Rl : List S49) (w : World) (hn : n ≤ 1000) (hm : m ≤ 1000)
    (hu : Kd.C (Kd.int .u32) w A n T) (hu' : Kd.C (Kd.int .u32) w A' n T) (hv : Kd.C k49 w B m Rl) (hv' : Kd.C k49 w B' m Rl) :
    Calls Tryd.prog 28 #[.agg (objCells (.slice A n cn) (.slice B m cm)), .agg (objCells (.slice A' n cn') (.slice B' m cm'))] w fun e w' => e = .returned (.bool true) ∧ Below w.heap.size w w' := by
  have HU := Aside0.mk hu
  have HU' := Aside0.mk hu'
  have HV := Aside0.mk hv
  have HV' := Aside0.mk hv'
  have HB := Aside0.mk (Below.refl w.heap.size w)
  clear hu hu' hv hv'
  have heq := sizes_eq n m
  go_enter Tryd.func28, Tryd.ntmps28
  go_upto_region 1 with (first | ((with_reducible refine gate_dst (N := 2) rfl ?_); refine box_event ?hg (N := 2) ?hd (cs := objCells (.slice A n cn) (.slice B m cm)) (t := 35) ?hr ?_; (case hd => rfl); (case hg => rfl); (case hr => first | (go_simp; done) | (go_simp; rfl)); intro g2 hg2 w1 Bg2 hb1; have HB1 := Aside0.mk hb1; have HK21 := Aside0.mk Bg2; clear hb1 Bg2 hg2) | ((with_reducible refine gate_dst (N := 3) rfl ?_); refine box_event ?hg (N := 3) ?hd (cs := objCells (.slice A' n cn') (.slice B' m cm')) (t := 35) ?hr ?_; (case hd => rfl); (case hg => rfl); (case hr => first | (go_simp; done) | (go_simp; rfl)); intro g3 hg3 w2 Bg3 hb2; have HB2 := Aside0.mk (below_step HB1.out hb2); have HK22 := Aside0.mk (blk_below HK21.out hb2); have HK32 := Aside0.mk Bg3; clear hb2 Bg3 hg3))
  try simp only [Act.put, List.setIfInBounds_toArray, List.set_cons_zero, List.set_cons_succ]
  have c0 : w2.cell? ⟨g2, 0, none⟩ = some (.slice A n cn) := (blk_cell HK22.out 0).trans rfl
  have c1 : w2.cell? ⟨g2, 1, none⟩ = some (.slice none 0 0) := (blk_cell HK22.out 1).trans rfl
  have c2 : w2.cell? ⟨g2, 2, none⟩ = some (.slice none 0 0) := (blk_cell HK22.out 2).trans rfl
  have c3 : w2.cell? ⟨g2, 3, none⟩ = some (.slice B m cm) := (blk_cell HK22.out 3).trans rfl
  have c4 : w2.cell? ⟨g2, 4, none⟩ = some (.slice none 0 0) := (blk_cell HK22.out 4).trans rfl
  have d0 : w2.cell? ⟨g3, 0, none⟩ = some (.slice A' n cn') := (blk_cell HK32.out 0).trans rfl
  have d1 : w2.cell? ⟨g3, 1, none⟩ = some (.slice none 0 0) := (blk_cell HK32.out 1).trans rfl
  have d2 : w2.cell? ⟨g3, 2, none⟩ = some (.slice none 0 0) := (blk_cell HK32.out 2).trans rfl
  have d3 : w2.cell? ⟨g3, 3, none⟩ = some (.slice B' m cm') := (blk_cell HK32.out 3).trans rfl
  have d4 : w2.cell? ⟨g3, 4, none⟩ = some (.slice none 0 0) := (blk_cell HK32.out 4).trans rfl
  have hstart : SX A B A' B' n cn m cm cn' cm' g2 g3 w w2.drew := ⟨c0, c1, c2, c3, c4, d0, d1, d2, d3, d4, below_drew1 HB2.out⟩
  go_region_held3 (fun w' => w'.cell? ⟨g2, 0, none⟩ = some (.slice A n cn) ∧ w'.cell? ⟨g2, 1, none⟩ = some (.slice none 0 0) ∧ w'.cell? ⟨g2, 2, none⟩ = some (.slice none 0 0) ∧ w'.cell? ⟨g2, 3, none⟩ = some (.slice B m cm) ∧ w'.cell? ⟨g2, 4, none⟩ = some (.slice none 0 0) ∧ w'.cell? ⟨g3, 0, none⟩ = some (.slice A' n cn') ∧ w'.cell? ⟨g3, 1, none⟩ = some (.slice none 0 0) ∧ w'.cell? ⟨g3, 2, none⟩ = some (.slice none 0 0) ∧ w'.cell? ⟨g3, 3, none⟩ = some (.slice B' m cm') ∧ w'.cell? ⟨g3, 4, none⟩ = some (.slice none 0 0) ∧ Below w.heap.size w w') (first | exact SX.keep (A := A) (B := B) (A' := A') (B' := B') (n := n) (cn := cn) (m := m) (cm := cm) (cn' := cn') (cm' := cm') (g2 := g2) (g3 := g3) (w0 := w) (by assumption) hb | exact hstart)
    (first | (go_at_call 60; refine (rsizes_calls _ _ n _ m _ _ hn hm).mono ?_; rintro e w' ⟨rfl, hb⟩))
  have HS := Aside0.mk (show SX A B A' B' n cn m cm cn' cm' g2 g3 w w' by assumption)
  clear hb hstart c0 c1 c2 c3 c4 d0 d1 d2 d3 d4
  go_wp2_with fail
  go_loopg [5] n (fun g s5 w' => ∃ i : Nat, s5 = .int .i64 i ∧ i ≤ n ∧ g = n - i ∧ Aside0 (SX A B A' B' n cn m cm cn' cm' g2 g3 w w'))
  case atStart => exact ⟨0, rfl, Nat.zero_le _, rfl, HS⟩
  case round =>
    clear HS
    obtain ⟨i, rfl, hi, rfl, HS⟩ := hrel
    have e0 : wr.cell? ⟨g2, 0, none⟩ = some (.slice A n cn) := HS.out.1
    have f0 : wr.cell? ⟨g3, 0, none⟩ = some (.slice A' n cn') := HS.out.2.2.2.2.2.1
    by_cases hlt : i < n
    · obtain ⟨ad, ea, qa⟩ := Kd.at_int (Kd.C_below HU.out HS.out.2.2.2.2.2.2.2.2.2.2) (i : Int) (by omega) (by omega)
      cases ea
      obtain ⟨ad', ea', qa'⟩ := Kd.at_int (Kd.C_below HU'.out HS.out.2.2.2.2.2.2.2.2.2.2) (i : Int) (by omega) (by omega)
      cases ea'
      obtain ⟨x, hx⟩ : ∃ x, rd T (i : Int) = x := ⟨_, rfl⟩
      rw [Int.toNat_natCast, hx] at qa qa'
      clear hx
      have hltI : (i : Int) < (n : Int) := by omega
      have hxx : (x != x) = false := by simp
      have si : IntKind.i64.wrap ((i : Int) + 1) = (i : Int) + 1 := IntWalk.i64_in _ (by omega)
      go_wp2_with fail
      try simp only [Act.put, List.setIfInBounds_toArray, List.set_cons_zero, List.set_cons_succ]
      go_quiet (fail)
      go_wp2_with fail
      go_roundg (n - (i + 1))
      case measure => omega
      case rel => exact ⟨i + 1, by go_num, by omega, rfl, ⟨HS.out.keep (pw_below_drewN (Below.refl _ _) _)⟩⟩
    · obtain rfl : n = i := by omega
      go_wp2_with fail
      go_loopg [6] 0 (fun g s6 w' => s6 = .int .i64 0 ∧ Aside0 (SX A B A' B' n cn m cm cn' cm' g2 g3 w w'))
      case atStart => exact ⟨rfl, HS⟩
      case round =>
        clear HS
        obtain ⟨rfl, HS⟩ := hrel
        have e1 : wr.cell? ⟨g2, 1, none⟩ = some (.slice none 0 0) := HS.out.2.1
        go_wp2_with fail
        go_loopg [7] 0 (fun g s7 w' => s7 = .int .i64 0 ∧ Aside0 (SX A B A' B' n cn m cm cn' cm' g2 g3 w w'))
        case atStart => exact ⟨rfl, HS⟩
        case round =>
          clear HS
          obtain ⟨rfl, HS⟩ := hrel
          have e2 : wr.cell? ⟨g2, 2, none⟩ = some (.slice none 0 0) := HS.out.2.2.1
          go_wp2_with fail
          go_loopg [8] m (fun g s8 w' => ∃ i : Nat, s8 = .int .i64 i ∧ i ≤ m ∧ g = m - i ∧ Aside0 (SX A B A' B' n cn m cm cn' cm' g2 g3 w w'))
          case atStart => exact ⟨0, rfl, Nat.zero_le _, rfl, HS⟩
          case round =>
            clear HS
            obtain ⟨j, rfl, hj, rfl, HS⟩ := hrel
            have e3 : wr.cell? ⟨g2, 3, none⟩ = some (.slice B m cm) := HS.out.2.2.2.1
            have f3 : wr.cell? ⟨g3, 3, none⟩ = some (.slice B' m cm') := HS.out.2.2.2.2.2.2.2.2.1
            by_cases hlt2 : j < m
            · obtain ⟨ad, ea, qa0, qa1, qa2, qa3⟩ := at_T49 (Kd.C_below HV.out HS.out.2.2.2.2.2.2.2.2.2.2) (j : Int) (by omega) (by omega)
              cases ea
              obtain ⟨ad', ea', qb0, qb1, qb2, qb3⟩ := at_T49 (Kd.C_below HV'.out HS.out.2.2.2.2.2.2.2.2.2.2) (j : Int) (by omega) (by omega)
              cases ea'
              obtain ⟨x, hx⟩ : ∃ x, x = rd_T49 Rl (j : Int) := ⟨_, rfl⟩
              rw [← hx] at qa0 qa1 qa2 qa3 qb0 qb1 qb2 qb3
              simp only [Int.toNat_natCast] at qa0 qa1 qa2 qa3 qb0 qb1 qb2 qb3
              clear hx
              have hltI : (j : Int) < (m : Int) := by omega
              have hxx := rel_eq x
              have si : IntKind.i64.wrap ((j : Int) + 1) = (j : Int) + 1 := IntWalk.i64_in _ (by omega)
              go_wp2_with fail
              try simp only [Act.put, List.setIfInBounds_toArray, List.set_cons_zero, List.set_cons_succ]
              go_quiet (fail)
              go_wp2_with fail
              go_roundg (m - (j + 1))
              case measure => omega
              case rel => exact ⟨j + 1, by go_num, by omega, rfl, ⟨HS.out.keep (pw_below_drewN (Below.refl _ _) _)⟩⟩
            · obtain rfl : m = j := by omega
              go_wp2_with fail
              go_loopg [9] 0 (fun g s9 w' => s9 = .int .i64 0 ∧ Aside0 (SX A B A' B' n cn m cm cn' cm' g2 g3 w w'))
              case atStart => exact ⟨rfl, HS⟩
              case round =>
                clear HS
                obtain ⟨rfl, HS⟩ := hrel
                have e4 : wr.cell? ⟨g2, 4, none⟩ = some (.slice none 0 0) := HS.out.2.2.2.2.1
                go_wp2_with fail
                go_ret
                exact ⟨rfl, HS.out.2.2.2.2.2.2.2.2.2.2⟩
end Go.Proofs.YtaoajlaocphgdaaDoor.PA
end
section
namespace Go.Proofs.YtaoajlaocphgdaaDoor.PA
open Go.RowKit Go.Proofs.YtaoajlaocphgdaaDoorW.PrintWords Go.Proofs.YtaoajlaocphgdaaDoorW.PrintLast Go.Proofs.YtaoajlaocphgdaaDoorW.PrintMore
set_option linter.unusedVariables false
set_option linter.unusedSimpArgs false
set_option maxHeartbeats 16000000 in
set_option maxRecDepth 100000 in
theorem rsame_calls (A B A' B' : Option Addr) (n cn m cm cn' cm' : Nat) (T : List Int) (Rl : List S49) (w : World) (hn : n ≤ 1000) (hm : m ≤ 1000)
    (hu : Kd.C (Kd.int .u32) w A n T) (hu' : Kd.C (Kd.int .u32) w A' n T) (hv : Kd.C k49 w B m Rl) (hv' : Kd.C k49 w B' m Rl) :
    Calls Tryd.prog 12 #[.agg (objCells (.slice A n cn) (.slice B m cm)), .agg (objCells (.slice A' n cn') (.slice B' m cm'))] w fun e w' => e = .returned (.bool true) ∧ Below w.heap.size w w' := by
  have HU := Aside0.mk hu
  have HU' := Aside0.mk hu'
  have HV := Aside0.mk hv
  have HV' := Aside0.mk hv'
  have HB := Aside0.mk (Below.refl w.heap.size w)
  clear hu hu' hv hv'
  go_enter Tryd.func12, Tryd.ntmps12
  go_wp2_with (first | ((with_reducible refine gate_dst (N := 2) rfl ?_); refine box_event ?hg (N := 2) ?hd (cs := objCells (.slice A n cn) (.slice B m cm)) (t := 35) ?hr ?_; (case hd => rfl); (case hg => rfl); (case hr => first | (go_simp; done) | (go_simp; rfl)); intro g2 hg2 w1 Bg2 hb1; have HB1 := Aside0.mk hb1; have HK21 := Aside0.mk Bg2; clear hb1 Bg2 hg2) | ((with_reducible refine gate_dst (N := 3) rfl ?_); refine box_event ?hg (N := 3) ?hd (cs := objCells (.slice A' n cn') (.slice B' m cm')) (t := 35) ?hr ?_; (case hd => rfl); (case hg => rfl); (case hr => first | (go_simp; done) | (go_simp; rfl)); intro g3 hg3 w2 Bg3 hb2; have HB2 := Aside0.mk (below_step HB1.out hb2); have HK22 := Aside0.mk (blk_below HK21.out hb2); have HK32 := Aside0.mk Bg3; clear hb2 Bg3 hg3) | ((with_reducible refine gate_dst (N := 5) rfl ?_); refine wpList_load_row (by rfl) 35 _ (by rfl) g2 (by rfl) 35 (objCells (.slice A n cn) (.slice B m cm)) (0, 0) _ HK22.out Tryd.underlying35 rfl (by kernel_rfl) ?_) | ((with_reducible refine gate_dst (N := 6) rfl ?_); refine wpList_load_row (by rfl) 35 _ (by rfl) g3 (by rfl) 35 (objCells (.slice A' n cn') (.slice B' m cm')) (0, 0) _ HK32.out Tryd.underlying35 rfl (by kernel_rfl) ?_))
  refine (rexact_calls A B A' B' n cn m cm cn' cm' T Rl _ hn hm (Kd.C_below HU.out HB2.out) (Kd.C_below HU'.out HB2.out) (Kd.C_below HV.out HB2.out) (Kd.C_below HV'.out HB2.out)).mono ?_
  rintro e w3 ⟨rfl, hb3⟩
  have HB3 := Aside0.mk (below_step HB2.out hb3)
  clear hb3
  go_wp2_with fail
  go_ret
  exact ⟨rfl, HB3.out⟩
end Go.Proofs.YtaoajlaocphgdaaDoor.PA
end
section
namespace Go.Proofs.YtaoajlaocphgdaaDoor.PA
open Go.RowKit Go.Proofs.YtaoajlaocphgdaaDoorW.PrintWords Go.Proofs.YtaoajlaocphgdaaDoorW.PrintLast Go.Proofs.YtaoajlaocphgdaaDoorW.PrintMore
set_option linter.unusedVariables false
set_option linter.unusedSimpArgs false
def txtW (name : ByteArray) (ps : List Int) (l : LayV) : List Int := if okW name ps l = true then wordsL ps l else []
def relW (name : ByteArray) (ps : List Int) (l : LayV) : List S49 := if okW name ps l = true then relsL name ps l else []
def codW (name : ByteArray) (ps : List Int) (l : LayV) : Int := if okW name ps l = true then 0 else 1
def ObjIs (w0 : World) (T : List Int) (Rl : List S49) (c : Int) (e : Ending) (w' : World) : Prop :=
  ∃ (A B : Option Addr) (cn cm : Nat), e = .returned (.tuple #[.agg (objCells (.slice A T.length cn) (.slice B Rl.length cm)), .int .i64 c]) ∧ Kd.C (Kd.int .u32) w' A T.length T ∧ Kd.C k49 w' B Rl.length Rl ∧ Below w0.heap.size w0 w'
theorem nil_u32 (w : World) : Kd.C (Kd.int .u32) w none 0 [] := (Kd.R_reads' (Kd.R_nil (Kd.int .u32) 46 w 0 (fun _ => True))).2.2
theorem nil_rel (w : World) : Kd.C k49 w none 0 [] := (Kd.R_reads' (Kd.R_nil k49 49 w 0 (fun _ => True))).2.2
theorem cap_any (name : ByteArray) (A1 : Option Addr) (c1 : Nat) (ps : List Int) (l : LayV) (w : World) (hr : Kd.C (Kd.int .i64) w A1 ps.length ps) (hc : ps.length ≤ c1) (hG : GlobOk w) (hsz : name.size ≤ 1000) :
    Calls Tryd.prog 10 #[.string name, .slice A1 ps.length c1, .agg (layArr l)] w (ObjIs w (txtW name ps l) (relW name ps l) (codW name ps l)) := by
  cases hok : okW name ps l
  · refine (cap_no name A1 c1 ps l w hr hc hG (by omega) hok).mono ?_
    rintro e w' ⟨rfl, hb⟩
    unfold ObjIs txtW relW codW
    rw [hok, if_neg (by decide), if_neg (by decide), if_neg (by decide)]
    exact ⟨none, none, 0, 0, rfl, nil_u32 _, nil_rel _, hb⟩
  · have h := hok
    unfold okW at h
    simp only [Bool.and_eq_true, Bool.not_eq_true', decide_eq_false_iff_not] at h
    obtain ⟨⟨⟨hm, hn⟩, h6⟩, hbad⟩ := h
    refine (cap_yes name A1 c1 ps l w hr hc hG (by omega) hm hn (by omega) hbad).mono ?_
    rintro e w' ⟨u, v, rfl, hu, hv, hb⟩
    obtain ⟨Au, cu, rfl⟩ := Kd.R_slice hu
    obtain ⟨Av, cv, rfl⟩ := Kd.R_slice hv
    unfold ObjIs txtW relW codW
    rw [hok, if_pos rfl, if_pos rfl, if_pos rfl]
    exact ⟨Au, Av, cu, cv, rfl, (Kd.R_reads' hu).2.2, (Kd.R_reads' hv).2.2, hb⟩
theorem rwrap_any (name : ByteArray) (A1 : Option Addr) (c1 : Nat) (ps : List Int) (l : LayV) (w : World) (hr : Kd.C (Kd.int .i64) w A1 ps.length ps) (hc : ps.length ≤ c1) (hsz : name.size ≤ 1000) (hlen : ps.length ≤ 100) (hLB : LayB l) :
    Calls Tryd.prog 11 #[.string name, .slice A1 ps.length c1, .agg (layArr l)] w (ObjIs w (txtW name ps l) (relW name ps l) (codW name ps l)) := by
  refine (rwrap_calls name A1 c1 ps l w hr hc hsz hlen hLB).mono ?_
  rintro e w' ⟨⟨hok, rfl⟩ | ⟨hok, u, v, rfl, hu, hv⟩, hb⟩
  · unfold ObjIs txtW relW codW
    rw [hok, if_neg (by decide), if_neg (by decide), if_neg (by decide)]
    exact ⟨none, none, 0, 0, rfl, nil_u32 _, nil_rel _, hb⟩
  · obtain ⟨Au, cu, rfl⟩ := Kd.R_slice hu
    obtain ⟨Av, cv, rfl⟩ := Kd.R_slice hv
    unfold ObjIs txtW relW codW
    rw [hok, if_pos rfl, if_pos rfl, if_pos rfl]
    exact ⟨Au, Av, cu, cv, rfl, (Kd.R_reads' hu).2.2, (Kd.R_reads' hv).2.2, hb⟩
theorem txt_le (name : ByteArray) (ps : List Int) (l : LayV) : (txtW name ps l).length ≤ 1000 ∧ (relW name ps l).length ≤ 1000 := by
  unfold txtW relW
  cases hok : okW name ps l
  · exact ⟨by simp, by simp⟩
  · rw [if_pos rfl, if_pos rfl]
    unfold okW at hok
    simp only [Bool.and_eq_true, Bool.not_eq_true', decide_eq_false_iff_not] at hok
    refine ⟨?_, by simp [relsL]⟩
    rw [wordsL, List.length_map, code_length]
    have := all_length l ps (by omega)
    omega
end Go.Proofs.YtaoajlaocphgdaaDoor.PA
end
section
namespace Go.Proofs.YtaoajlaocphgdaaDoor.PA
open Go.RowKit Go.Proofs.YtaoajlaocphgdaaDoorW.PrintWords Go.Proofs.YtaoajlaocphgdaaDoorW.PrintLast Go.Proofs.YtaoajlaocphgdaaDoorW.PrintMore
set_option linter.unusedVariables false
set_option linter.unusedSimpArgs false
def SM (A1 B1 A2 B2 : Option Addr) (n m k1 q1 k2 q2 g5 g7 g9 : Nat) (l : LayV) (w0 w' : World) : Prop := w'.heap[g7]? = some (.cells (objCells (.slice A1 n k1) (.slice B1 m q1)) 35 (0, 0)) ∧ w'.heap[g9]? = some (.cells (objCells (.slice A2 n k2) (.slice B2 m q2)) 35 (0, 0)) ∧ w'.heap[g5]? = some (.cells (layArr l) 27 (0, 0)) ∧ Below w0.heap.size w0 w'
theorem SM.keep {A1 B1 A2 B2 : Option Addr} {n m k1 q1 k2 q2 g5 g7 g9 : Nat} {l : LayV} {w0 W w' : World} (h : SM A1 B1 A2 B2 n m k1 q1 k2 q2 g5 g7 g9 l w0 W) (hb : Below W.heap.size W w') : SM A1 B1 A2 B2 n m k1 q1 k2 q2 g5 g7 g9 l w0 w' :=
  ⟨blk_below h.1 hb, blk_below h.2.1 hb, blk_below h.2.2.1 hb, below_step h.2.2.2 hb⟩
theorem run_loadO (u v : Value) (W : World) (b : Nat) (h : W.heap[b]? = some (.cells (objCells u v) 35 (0, 0))) : (Instr.loadAt 35 (.pointer (some ⟨b, 0, none⟩))).run Tryd.prog W = .ok (.agg (objCells u v)) W :=
  run_loadVar_row W b _ _ (objCells u v) _ _ h Tryd.underlying35 rfl (by kernel_rfl)
theorem SM.below {A1 B1 A2 B2 : Option Addr} {n m k1 q1 k2 q2 g5 g7 g9 : Nat} {l : LayV} {w0 W : World} (h : SM A1 B1 A2 B2 n m k1 q1 k2 q2 g5 g7 g9 l w0 W) : Below w0.heap.size w0 W := h.2.2.2
theorem rmay_b (l : LayV) (mb : Bool) (hmb : mayL l = mb) (hl : LayB l) (w : World) : Calls Tryd.prog 14 #[.agg (layArr l)] w fun e w' => e = .returned (.bool mb) ∧ Below w.heap.size w w' := by
  subst hmb
  exact rmay_at l hl w
set_option maxHeartbeats 16000000 in
set_option maxRecDepth 100000 in
theorem makes_calls (name : ByteArray) (A0 : Option Addr) (c0 : Nat) (ps : List Int) (l : LayV) (w : World) (hr : Kd.C (Kd.int .i64) w A0 ps.length ps) (hc : ps.length ≤ c0) (hG : GlobOk w) (hLB : LayB l) :
    Calls Tryd.prog 3 #[.string name, .slice A0 ps.length c0, .agg (layArr l)] w fun e w' => e = .returned (.bool true) ∧ Below w.heap.size w w' := by
  have HR := Aside0.mk hr
  have HC := Aside0.mk hc
  have HG := Aside0.mk hG
  have HLB := Aside0.mk hLB
  have HB := Aside0.mk (Below.refl w.heap.size w)
  clear hr hc hG hLB
  go_enter Tryd.func3, Tryd.ntmps3
  go_wp2_with (first | ((with_reducible refine gate_dst (N := 5) rfl ?_); refine box_event ?hg (N := 5) ?hd (cs := layArr l) (t := 27) ?hr ?_; (case hd => rfl); (case hg => rfl); (case hr => (refine exec_box (by rfl) (by rfl) (run_boxL l _))); intro g5 hg5 w1 B5 hb1; have HB1 := Aside0.mk hb1; have HK5 := Aside0.mk B5; clear hb1 B5 hg5))
  refine (caponierlaw19_awake.calls true _ rfl (HG.out.of_below HB1.out)).mono ?_
  rintro e w2 ⟨rfl, hb2⟩
  have HB2 := Aside0.mk (below_step HB1.out hb2)
  have HK52 := Aside0.mk (blk_below HK5.out hb2)
  clear hb2 HB1 HK5
  by_cases h1 : (100 : Int) < (ps.length : Int)
  · have d1 : decide ((100 : Int) < (ps.length : Int)) = true := decide_eq_true h1
    go_wp2_with fail
    go_ret
    exact ⟨rfl, HB2.out⟩
  have d1 : decide ((100 : Int) < (ps.length : Int)) = false := decide_eq_false h1
  by_cases h2 : (100 : Int) < (name.size : Int)
  · have d2 : decide ((100 : Int) < (name.size : Int)) = true := decide_eq_true h2
    go_wp2_with fail
    go_ret
    exact ⟨rfl, HB2.out⟩
  have d2 : decide ((100 : Int) < (name.size : Int)) = false := decide_eq_false h2
  have HLE := Aside0.mk (txt_le name ps l)
  have HNS := Aside0.mk (show name.size ≤ 1000 by omega)
  have HPL := Aside0.mk (show ps.length ≤ 100 by omega)
  go_wp2_with (first | ((with_reducible refine gate_dst (N := 24) rfl ?_); refine wpList_load_row (by rfl) 27 _ (by rfl) g5 (by rfl) 27 (layArr l) (0, 0) _ HK52.out Tryd.underlying27 rfl (by kernel_rfl) ?_))
  refine (cap_any name A0 c0 ps l _ (Kd.C_below HR.out HB2.out) HC.out (HG.out.of_below HB2.out) HNS.out).mono ?_
  rintro e w3 ⟨A1, B1, k1, q1, rfl, hu3, hv3, hb3⟩
  obtain ⟨T, hT⟩ : ∃ z, z = txtW name ps l := ⟨_, rfl⟩
  obtain ⟨Rl, hRl⟩ : ∃ z, z = relW name ps l := ⟨_, rfl⟩
  obtain ⟨ec, hec⟩ : ∃ z, z = codW name ps l := ⟨_, rfl⟩
  have HANY := Aside0.mk (fun w' (hw : Below w.heap.size w w') => rwrap_any name A0 c0 ps l w' (Kd.C_below HR.out hw) HC.out HNS.out HPL.out HLB.out)
  rw [← hT, ← hRl, ← hec] at HANY
  rw [← hT, ← hRl] at HLE
  rw [← hT] at hu3
  rw [← hRl] at hv3
  rw [← hT, ← hRl, ← hec]
  obtain ⟨n, hn⟩ : ∃ z, T.length = z := ⟨_, rfl⟩
  obtain ⟨m, hm⟩ : ∃ z, Rl.length = z := ⟨_, rfl⟩
  have HN := Aside0.mk hn
  have HM := Aside0.mk hm
  rw [hn] at hu3
  rw [hm] at hv3
  rw [hn, hm]
  have HU3 := Aside0.mk hu3
  have HV3 := Aside0.mk hv3
  have HB3 := Aside0.mk (below_step HB2.out hb3)
  have HK53 := Aside0.mk (blk_below HK52.out hb3)
  clear hu3 hv3 hb3 hT hRl hec hn hm HB2 HK52
  go_upto_region 6 with (first | ((with_reducible refine gate_dst (N := 7) rfl ?_); refine box_event ?hg (N := 7) ?hd (cs := noCells) (t := 35) ?hr ?_; (case hd => rfl); (case hg => rfl); (case hr => first | (go_simp; done) | (go_simp; rfl)); intro g7 hg7 w4 B7 hb4; have HA7 := Aside0.mk hb4; have HE7 := Aside0.mk hg7; have HK7 := Aside0.mk B7; clear hb4 hg7 B7) | (refine store_event (by rfl) (ty := 35) (by rfl) g7 35 noCells (objCells (.slice A1 n k1) (.slice B1 m q1)) (by rfl) (by rfl) HK7.out (by kernel_rfl) rfl (by kernel_rfl) ?_; intro w5 hs5; have HS5 := Aside0.mk hs5; clear hs5))
  have hX5 := HS5.out.below HA7.out (by rw [HE7.out]; exact Nat.le_refl _)
  have HB5 := Aside0.mk (below_step HB3.out hX5)
  have HK55 := Aside0.mk (blk_below HK53.out hX5)
  have HU5 := Aside0.mk (Kd.C_below HU3.out hX5)
  have HV5 := Aside0.mk (Kd.C_below HV3.out hX5)
  have HK75 := Aside0.mk HS5.out.at_
  clear hX5 HS5 HA7 HE7 HK7 HB3 HK53 HU3 HV3
  go_wp2_with (first | ((with_reducible refine gate_dst (N := 31) rfl ?_); refine wpList_load_row (by rfl) 27 _ (by rfl) g5 (by rfl) 27 (layArr l) (0, 0) _ HK55.out Tryd.underlying27 rfl (by kernel_rfl) ?_))
  refine (HANY.out _ HB5.out).mono ?_
  rintro e w6 ⟨A2, B2, k2, q2, rfl, hu6, hv6, hb6⟩
  rw [HN.out] at hu6
  rw [HM.out] at hv6
  rw [HN.out, HM.out]
  have HB6 := Aside0.mk (below_step HB5.out hb6)
  have HK56 := Aside0.mk (blk_below HK55.out hb6)
  have HK76 := Aside0.mk (blk_below HK75.out hb6)
  have HU6 := Aside0.mk (Kd.C_below HU5.out hb6)
  have HV6 := Aside0.mk (Kd.C_below HV5.out hb6)
  have HY6 := Aside0.mk hu6
  have HZ6 := Aside0.mk hv6
  clear hu6 hv6 hb6 HB5 HK55 HK75 HU5 HV5 HANY
  go_upto_region 7 with (first | ((with_reducible refine gate_dst (N := 9) rfl ?_); refine box_event ?hg (N := 9) ?hd (cs := noCells) (t := 35) ?hr ?_; (case hd => rfl); (case hg => rfl); (case hr => first | (go_simp; done) | (go_simp; rfl)); intro g9 hg9 w7 B9 hb7; have HA9 := Aside0.mk hb7; have HE9 := Aside0.mk hg9; have HK9 := Aside0.mk B9; clear hb7 hg9 B9) | (refine store_event (by rfl) (ty := 35) (by rfl) g9 35 noCells (objCells (.slice A2 n k2) (.slice B2 m q2)) (by rfl) (by rfl) HK9.out (by kernel_rfl) rfl (by kernel_rfl) ?_; intro w8 hs8; have HS8 := Aside0.mk hs8; clear hs8))
  try simp only [Act.put, List.setIfInBounds_toArray, List.set_cons_zero, List.set_cons_succ]
  have hX8 := HS8.out.below HA9.out (by rw [HE9.out]; exact Nat.le_refl _)
  have HB8 := Aside0.mk (below_step HB6.out hX8)
  have HK58 := Aside0.mk (blk_below HK56.out hX8)
  have HK78 := Aside0.mk (blk_below HK76.out hX8)
  have HU8 := Aside0.mk (Kd.C_below HU6.out hX8)
  have HV8 := Aside0.mk (Kd.C_below HV6.out hX8)
  have HY8 := Aside0.mk (Kd.C_below HY6.out hX8)
  have HZ8 := Aside0.mk (Kd.C_below HZ6.out hX8)
  have HK98 := Aside0.mk HS8.out.at_
  clear hX8 HS8 HA9 HE9 HK9 HB6 HK56 HK76 HU6 HV6 HY6 HZ6
  have hnl := HLE.out
  rw [HN.out, HM.out] at hnl
  obtain ⟨mb, hmb⟩ : ∃ b, mayL l = b := ⟨_, rfl⟩
  have hstart : SM A1 B1 A2 B2 n m k1 q1 k2 q2 g5 g7 g9 l w8 w8.drew := ⟨blk_drew HK78.out, blk_drew HK98.out, blk_drew HK58.out, below_drew1 (Below.refl _ _)⟩
  have hsame : ∀ W, SM A1 B1 A2 B2 n m k1 q1 k2 q2 g5 g7 g9 l w8 W → Calls Tryd.prog 12 #[.agg (objCells (.slice A1 n k1) (.slice B1 m q1)), .agg (objCells (.slice A2 n k2) (.slice B2 m q2))] W fun e w' => e = .returned (.bool true) ∧ Below W.heap.size W w' :=
    fun W hW => rsame_calls A1 B1 A2 B2 n k1 m q1 k2 q2 T Rl W hnl.1 hnl.2 (Kd.C_below HU8.out hW.below) (Kd.C_below HY8.out hW.below) (Kd.C_below HV8.out hW.below) (Kd.C_below HZ8.out hW.below)
  have hee : (ec == ec) = true := by simp
  have hmm : (mb == mb) = true := by cases mb <;> rfl
  have HSM := Aside0.mk hsame
  have HTAIL := Aside0.mk (trivial)
  clear hsame hnl
  refine start_ (n := 16) (S := fun w' => w'.heap[g7]? = some (.cells (objCells (.slice A1 n k1) (.slice B1 m q1)) 35 (0, 0)) ∧ w'.heap[g9]? = some (.cells (objCells (.slice A2 n k2) (.slice B2 m q2)) 35 (0, 0)) ∧ w'.heap[g5]? = some (.cells (layArr l) 27 (0, 0)) ∧ Below w8.heap.size w8 w') (ds := []) #[false, false, false, false, false, false, false, false, false, false, false, false, false, false, false, false] (by kernel_rfl) rfl rfl ⟨hstart.1, hstart.2.1, hstart.2.2.1, hstart.2.2.2⟩ (fun hHeld => ?_)
  refine take_ (i := 0) (N := some 35) (v := .agg (objCells (.slice A1 n k1) (.slice B1 m q1))) (a' := ?_) #[true, false, false, false, false, false, false, false, false, false, false, false, false, false, false, false] rfl rfl (by kernel_rfl) (fun _ _ _ h => h) (Or.inl ⟨by rfl, ?_⟩) hHeld ?_ ?_
  · rintro w' ⟨s0, s1, s2, s3⟩
    exact exec_load (v := .pointer (some ⟨g7, 0, none⟩)) (by rfl) (by rfl) (run_loadO _ _ w' g7 s0)
  rotate_left
  · simp only [Act.put, List.setIfInBounds_toArray, List.set_cons_zero, List.set_cons_succ, i64_w, i32_w]
    rfl
  refine take_ (i := 1) (N := some 36) (v := .agg (objCells (.slice A2 n k2) (.slice B2 m q2))) (a' := ?_) #[true, true, false, false, false, false, false, false, false, false, false, false, false, false, false, false] rfl rfl (by kernel_rfl) (fun _ _ _ h => h) (Or.inl ⟨by rfl, ?_⟩) hHeld ?_ ?_
  · rintro w' ⟨s0, s1, s2, s3⟩
    exact exec_load (v := .pointer (some ⟨g9, 0, none⟩)) (by rfl) (by rfl) (run_loadO _ _ w' g9 s1)
  rotate_left
  · simp only [Act.put, List.setIfInBounds_toArray, List.set_cons_zero, List.set_cons_succ, i64_w, i32_w]
    rfl
  refine one_ (i := 2) (N := some 37) #[true, true, true, false, false, false, false, false, false, false, false, false, false, false, false, false] rfl rfl (by kernel_rfl) (by decide) (fun K hK => ?_)
  refine goes_ Tryd.func12 (by kernel_rfl) rfl #[.agg (objCells (.slice A1 n k1) (.slice B1 m q1)), .agg (objCells (.slice A2 n k2) (.slice B2 m q2))] (by rfl) rfl rfl (by (try simp only [List.map_toArray, List.map_cons, List.map_nil]); first | done | rfl) ?_
  refine (HSM.out _ hHeld).mono ?_
  rintro e w' ⟨rfl, hb⟩
  refine ⟨_, rfl, ?_⟩
  have hS' : SM A1 B1 A2 B2 n m k1 q1 k2 q2 g5 g7 g9 l w8 w' := SM.keep hHeld hb
  have HEND := Aside0.mk (below_step HB8.out hS'.2.2.2)
  clear hb
  refine hK.out _ _ ⟨hS'.1, hS'.2.1, hS'.2.2.1, hS'.2.2.2⟩ (fun hHeld => ?_)
  clear hK K
  refine norm_ (a' := ?_) ?_ ?_
  rotate_left
  · show Act.put _ (some 37) _ = _
    simp only [Act.put, List.setIfInBounds_toArray, List.set_cons_zero, List.set_cons_succ, i64_w, i32_w]
    rfl
  refine pure_ (i := 3) (N := some 38) (v := ?_) (a' := ?_) #[true, true, true, true, false, false, false, false, false, false, false, false, false, false, false, false] rfl rfl (by kernel_rfl) (fun _ _ _ h => h) (Or.inl ⟨by rfl, ?_⟩) ?_ ?_
  rotate_left
  · intro w'
    go_simp
    with_reducible rfl
  rotate_left
  · simp only [Act.put, List.setIfInBounds_toArray, List.set_cons_zero, List.set_cons_succ, i64_w, i32_w]
    rfl
  refine pure_ (i := 4) (N := some 39) (v := ?_) (a' := ?_) #[true, true, true, true, true, false, false, false, false, false, false, false, false, false, false, false] rfl rfl (by kernel_rfl) (fun _ _ _ h => h) (Or.inl ⟨by rfl, ?_⟩) ?_ ?_
  rotate_left
  · intro w'
    go_simp
    with_reducible rfl
  rotate_left
  · simp only [Act.put, List.setIfInBounds_toArray, List.set_cons_zero, List.set_cons_succ, i64_w, i32_w]
    rfl
  refine pure_ (i := 5) (N := some 40) (v := ?_) (a' := ?_) #[true, true, true, true, true, true, false, false, false, false, false, false, false, false, false, false] rfl rfl (by kernel_rfl) (fun _ _ _ h => h) (Or.inl ⟨by rfl, ?_⟩) ?_ ?_
  rotate_left
  · intro w'
    go_simp
    with_reducible rfl
  rotate_left
  · simp only [Act.put, List.setIfInBounds_toArray, List.set_cons_zero, List.set_cons_succ, i64_w, i32_w]
    rfl
  refine pure_ (i := 6) (N := some 41) (v := ?_) (a' := ?_) #[true, true, true, true, true, true, true, false, false, false, false, false, false, false, false, false] rfl rfl (by kernel_rfl) (fun _ _ _ h => h) (Or.inl ⟨by rfl, ?_⟩) ?_ ?_
  rotate_left
  · intro w'
    go_simp
    with_reducible rfl
  rotate_left
  · simp only [Act.put, List.setIfInBounds_toArray, List.set_cons_zero, List.set_cons_succ, i64_w, i32_w]
    rfl
  refine pure_ (i := 7) (N := some 42) (v := ?_) (a' := ?_) #[true, true, true, true, true, true, true, true, false, false, false, false, false, false, false, false] rfl rfl (by kernel_rfl) (fun _ _ _ h => h) (Or.inl ⟨by rfl, ?_⟩) ?_ ?_
  rotate_left
  · intro w'
    go_simp
    with_reducible rfl
  rotate_left
  · simp only [Act.put, List.setIfInBounds_toArray, List.set_cons_zero, List.set_cons_succ, i64_w, i32_w]
    rfl
  refine pure_ (i := 8) (N := some 43) (v := ?_) (a' := ?_) #[true, true, true, true, true, true, true, true, true, false, false, false, false, false, false, false] rfl rfl (by kernel_rfl) (fun _ _ _ h => h) (Or.inl ⟨by rfl, ?_⟩) ?_ ?_
  rotate_left
  · intro w'
    go_simp
    with_reducible rfl
  rotate_left
  · simp only [Act.put, List.setIfInBounds_toArray, List.set_cons_zero, List.set_cons_succ, i64_w, i32_w]
    rfl
  refine take_ (i := 9) (N := some 44) (v := .agg (layArr l)) (a' := ?_) #[true, true, true, true, true, true, true, true, true, true, false, false, false, false, false, false] rfl rfl (by kernel_rfl) (fun _ _ _ h => h) (Or.inl ⟨by rfl, ?_⟩) hHeld ?_ ?_
  · rintro w' ⟨s0, s1, s2, s3⟩
    exact exec_load (v := .pointer (some ⟨g5, 0, none⟩)) (by rfl) (by rfl) (run_loadL l w' g5 s2)
  rotate_left
  · simp only [Act.put, List.setIfInBounds_toArray, List.set_cons_zero, List.set_cons_succ, i64_w, i32_w]
    rfl
  refine take_ (i := 11) (N := some 46) (v := .agg (layArr l)) (a' := ?_) #[true, true, true, true, true, true, true, true, true, true, false, true, false, false, false, false] rfl rfl (by kernel_rfl) (fun _ _ _ h => h) (Or.inl ⟨by rfl, ?_⟩) hHeld ?_ ?_
  · rintro w' ⟨s0, s1, s2, s3⟩
    exact exec_load (v := .pointer (some ⟨g5, 0, none⟩)) (by rfl) (by rfl) (run_loadL l w' g5 s2)
  rotate_left
  · simp only [Act.put, List.setIfInBounds_toArray, List.set_cons_zero, List.set_cons_succ, i64_w, i32_w]
    rfl
  refine one_ (i := 10) (N := some 45) #[true, true, true, true, true, true, true, true, true, true, true, true, false, false, false, false] rfl rfl (by kernel_rfl) (by decide) (fun K hK => ?_)
  clear HEND
  refine goes_ Tryd.func13 (by kernel_rfl) rfl #[.agg (layArr l)] (by rfl) rfl rfl (by (try simp only [List.map_toArray, List.map_cons, List.map_nil]); first | done | rfl) ?_
  refine (may_at l mb hmb _).mono ?_
  rintro e w' ⟨rfl, hb⟩
  refine ⟨_, rfl, ?_⟩
  have hS' : SM A1 B1 A2 B2 n m k1 q1 k2 q2 g5 g7 g9 l w8 w' := SM.keep hHeld hb
  have HEND := Aside0.mk (below_step HB8.out hS'.2.2.2)
  clear hb
  refine hK.out _ _ ⟨hS'.1, hS'.2.1, hS'.2.2.1, hS'.2.2.2⟩ (fun hHeld => ?_)
  clear hK K
  refine norm_ (a' := ?_) ?_ ?_
  rotate_left
  · show Act.put _ (some 45) _ = _
    simp only [Act.put, List.setIfInBounds_toArray, List.set_cons_zero, List.set_cons_succ, i64_w, i32_w]
    rfl
  refine one_ (i := 12) (N := some 47) #[true, true, true, true, true, true, true, true, true, true, true, true, true, false, false, false] rfl rfl (by kernel_rfl) (by decide) (fun K hK => ?_)
  clear HEND
  refine goes_ Tryd.func14 (by kernel_rfl) rfl #[.agg (layArr l)] (by rfl) rfl rfl (by (try simp only [List.map_toArray, List.map_cons, List.map_nil]); first | done | rfl) ?_
  refine (rmay_b l mb hmb HLB.out _).mono ?_
  rintro e w' ⟨rfl, hb⟩
  refine ⟨_, rfl, ?_⟩
  have hS' : SM A1 B1 A2 B2 n m k1 q1 k2 q2 g5 g7 g9 l w8 w' := SM.keep hHeld hb
  have HEND := Aside0.mk (below_step HB8.out hS'.2.2.2)
  clear hb
  refine hK.out _ _ ⟨hS'.1, hS'.2.1, hS'.2.2.1, hS'.2.2.2⟩ (fun hHeld => ?_)
  clear hK K
  refine norm_ (a' := ?_) ?_ ?_
  rotate_left
  · show Act.put _ (some 47) _ = _
    simp only [Act.put, List.setIfInBounds_toArray, List.set_cons_zero, List.set_cons_succ, i64_w, i32_w]
    rfl
  refine pure_ (i := 13) (N := some 48) (v := ?_) (a' := ?_) #[true, true, true, true, true, true, true, true, true, true, true, true, true, true, false, false] rfl rfl (by kernel_rfl) (fun _ _ _ h => h) (Or.inl ⟨by rfl, ?_⟩) ?_ ?_
  rotate_left
  · intro w'
    go_simp
    with_reducible rfl
  rotate_left
  · simp only [Act.put, List.setIfInBounds_toArray, List.set_cons_zero, List.set_cons_succ, i64_w, i32_w]
    rfl
  refine pure_ (i := 14) (N := some 49) (v := ?_) (a' := ?_) #[true, true, true, true, true, true, true, true, true, true, true, true, true, true, true, false] rfl rfl (by kernel_rfl) (fun _ _ _ h => h) (Or.inl ⟨by rfl, ?_⟩) ?_ ?_
  rotate_left
  · intro w'
    go_simp
    with_reducible rfl
  rotate_left
  · simp only [Act.put, List.setIfInBounds_toArray, List.set_cons_zero, List.set_cons_succ, i64_w, i32_w]
    rfl
  refine pure_ (i := 15) (N := some 6) (v := ?_) (a' := ?_) #[true, true, true, true, true, true, true, true, true, true, true, true, true, true, true, true] rfl rfl (by kernel_rfl) (fun _ _ _ h => h) (Or.inl ⟨by rfl, ?_⟩) ?_ ?_
  rotate_left
  · intro w'
    go_simp
    with_reducible rfl
  rotate_left
  · simp only [Act.put, List.setIfInBounds_toArray, List.set_cons_zero, List.set_cons_succ, i64_w, i32_w]
    rfl
  refine done_ (by kernel_rfl) ?_
  go_wp2_with fail
  go_ret
  exact ⟨by first | rfl | simp, HEND.out⟩
end Go.Proofs.YtaoajlaocphgdaaDoor.PA
end
section
namespace Go.Proofs.YtaoajlaocphgdaaDoor.PA
open Go.ChangeShapes Go.WideShapes Go.ChangeAt Go.RowKit Go.Lib
set_option linter.unusedVariables false
theorem nRows : Tryd.prog.globalNamed "caponier/ins.rows" = some 0 := by kernel_rfl
theorem nFirst : Tryd.prog.globalNamed "unicode/utf8.first" = some 2 := by kernel_rfl
theorem nAcc : Tryd.prog.globalNamed "unicode/utf8.acceptRanges" = some 3 := by kernel_rfl
theorem yRows : (Tryd.prog.globals[0]?).map (·.type) = some 98 := by kernel_rfl
theorem yFirst : (Tryd.prog.globals[2]?).map (·.type) = some 166 := by kernel_rfl
theorem yAcc : (Tryd.prog.globals[3]?).map (·.type) = some 169 := by kernel_rfl
theorem c8 : Tryd.prog.cellsOf 5 = 1 := by kernel_rfl
theorem c64 : Tryd.prog.cellsOf 23 = 1 := by kernel_rfl
theorem cString : Tryd.prog.cellsOf 9 = 1 := by kernel_rfl
theorem cFirst : Tryd.prog.cellsOf 166 = 256 := by kernel_rfl
theorem cAcc : Tryd.prog.cellsOf 168 = 2 := by kernel_rfl
theorem cRow : Tryd.prog.cellsOf 97 = 4 := by kernel_rfl
theorem cFields : Tryd.prog.cellsOf 95 = 3 := by kernel_rfl
theorem utf8_laid {w : World} (h3 : VarReads Tryd.prog w "unicode/utf8.first" firstData) (h4 : VarReads Tryd.prog w "unicode/utf8.acceptRanges" acceptData) : Lib.Utf8Tabs 2 3 w := by
  refine ⟨fun c hc => ?_, fun i hi => ?_⟩
  · obtain ⟨g, t, cs, fuel, p, hg, hty, hvar, hd⟩ := h3
    obtain rfl := Option.some.inj (nFirst.symm.trans hg)
    obtain rfl := Option.some.inj (yFirst.symm.trans hty)
    have hcs := cells_of_tab Tryd.underlying166 Tryd.underlying5 c8 cFirst hd
    have := World.var?_cell hg hvar c
    rw [this, ← Array.getElem?_toList, hcs]
    simp [firstTab, hc]
  · obtain ⟨g, t, cs, fuel, p, hg, hty, hvar, hd⟩ := h4
    obtain rfl := Option.some.inj (nAcc.symm.trans hg)
    obtain rfl := Option.some.inj (yAcc.symm.trans hty)
    obtain ⟨fuel', d, q, hdi, he⟩ := array_elem Tryd.underlying169 hd i hi
    simp only [List.getElem?_map, List.getElem?_range hi, Option.map_some, Option.some.injEq] at hdi
    subst hdi
    rw [cAcc] at he
    have hcs := ints_of_struct Tryd.underlying168 (fun j f hj => by
      match j, hj with
      | 0, hj => simp at hj; subst hj; exact ⟨Tryd.underlying5, rfl, c8⟩
      | 1, hj => simp at hj; subst hj; exact ⟨Tryd.underlying5, rfl, c8⟩
      | j + 2, hj => simp at hj) (by rw [cAcc]; rfl) he
    have e0 := congrArg (·[0]?) hcs
    have e1 := congrArg (·[1]?) hcs
    simp [List.getElem?_take, List.getElem?_drop] at e0 e1
    constructor
    · rw [World.var?_cell hg hvar (2 * i)]
      simpa [Nat.mul_comm] using e0
    · rw [World.var?_cell hg hvar (2 * i + 1)]
      simpa [Nat.mul_comm] using e1
def rowD (x : UInt8 × Int × Int × Int) : DataW Unit := .agg [.lit (.string [x.1]), .agg ([x.2.1, x.2.2.1, x.2.2.2].map fun z => .lit (.int .u64 z))]
theorem rowsD : (Rows.laid_caponier_ins_rows : DataW Unit) = .agg (rowTab.map rowD) := by rfl
theorem row_cells {w : World} {fuel : Nat} {cs : List Value} {x : UInt8 × Int × Int × Int} {q : List MemPlace} (h : DataW.trod (fun _ => ()) Tryd.prog w 0 (fun _ => true) false fuel 97 cs = some (rowD x, q)) :
    cs[0]? = some (.string ⟨#[x.1]⟩) ∧ cs[1]? = some (.int .u64 x.2.1) ∧ cs[2]? = some (.int .u64 x.2.2.1) ∧ cs[3]? = some (.int .u64 x.2.2.2) := by
  obtain ⟨xs, n, rfl, hx, hl, hxl, hall⟩ := DataW.trod_struct Tryd.underlying97 h
  have hxs : xs.map (·.1) = [.lit (.string [x.1]), .agg ([x.2.1, x.2.2.1, x.2.2.2].map fun z => .lit (.int .u64 z))] := by
    have := congrArg Prod.fst hx
    simpa [rowD] using this.symm
  match xs, hxl, hxs, hall with
  | [a, b], _, hxs, hall =>
    simp only [List.map_cons, List.map_nil, List.cons.injEq, and_true] at hxs
    have h0 : DataW.trod (fun _ => ()) Tryd.prog w 0 (fun _ => true) false n 9 ((cs.drop 0).take (Tryd.prog.cellsOf 9)) = some a := hall 0 _ rfl
    have h1 : DataW.trod (fun _ => ()) Tryd.prog w 0 (fun _ => true) false n 95 ((cs.drop 1).take (Tryd.prog.cellsOf 95)) = some b := hall 1 _ rfl
    rw [cString] at h0
    rw [cFields] at h1
    obtain ⟨s, e0, e1, _⟩ := DataW.trod_string Tryd.underlying9 h0
    have hs : s = ⟨#[x.1]⟩ := by
      rw [e1] at hxs
      have := hxs.1
      simp only [DataW.lit.injEq, Lit.string.injEq] at this
      exact bytes_inj this
    subst hs
    have hb : b = (.agg ([x.2.1, x.2.2.1, x.2.2.2].map fun z => .lit (.int .u64 z)), b.2) := Prod.ext (by rw [hxs.2]; rfl) rfl
    rw [hb] at h1
    have hcs := ints_of_struct Tryd.underlying95 (fun j f hj => by
      match j, hj with
      | 0, hj => simp at hj; subst hj; exact ⟨Tryd.underlying23, rfl, c64⟩
      | 1, hj => simp at hj; subst hj; exact ⟨Tryd.underlying23, rfl, c64⟩
      | 2, hj => simp at hj; subst hj; exact ⟨Tryd.underlying23, rfl, c64⟩
      | j + 3, hj => simp at hj) (by rw [cFields]; rfl) h1
    have f0 := congrArg (·[0]?) e0
    have f1 := congrArg (·[0]?) hcs
    have f2 := congrArg (·[1]?) hcs
    have f3 := congrArg (·[2]?) hcs
    simp [List.getElem?_take, List.getElem?_drop] at f0 f1 f2 f3
    exact ⟨f0, f1, f2, f3⟩
theorem globOk_of {w : World} (h0 : VarReads Tryd.prog w "caponier/ins.rows" Rows.laid_caponier_ins_rows) (h3 : VarReads Tryd.prog w "unicode/utf8.first" firstData) (h4 : VarReads Tryd.prog w "unicode/utf8.acceptRanges" acceptData) : GlobOk w := by
  have key : ∀ i : Nat, i < 43 → w.cell? ⟨0, i * 4, none⟩ = some (.string (rowForm i)) ∧ w.cell? ⟨0, i * 4 + 1, none⟩ = some (.int .u64 (rowAt i).2.1) ∧ w.cell? ⟨0, i * 4 + 2, none⟩ = some (.int .u64 (rowAt i).2.2.1) ∧ w.cell? ⟨0, i * 4 + 3, none⟩ = some (.int .u64 (rowAt i).2.2.2) := by
    intro i hi
    obtain ⟨g, t, cs, fuel, p, hg, hty, hvar, hd⟩ := h0
    obtain rfl := Option.some.inj (nRows.symm.trans hg)
    obtain rfl := Option.some.inj (yRows.symm.trans hty)
    rw [rowsD] at hd
    obtain ⟨fuel', d, q, hdi, he⟩ := array_elem Tryd.underlying98 hd i hi
    have hl : i < rowTab.length := hi
    have hra : rowTab[i] = rowAt i := by simp [rowAt, List.getD_eq_getElem?_getD, hl]
    rw [List.getElem?_map, List.getElem?_eq_getElem hl, hra] at hdi
    obtain rfl := Option.some.inj hdi
    rw [cRow] at he
    obtain ⟨f0, f1, f2, f3⟩ := row_cells he
    simp [List.getElem?_take, List.getElem?_drop] at f0 f1 f2 f3
    rw [World.var?_cell hg hvar, World.var?_cell hg hvar, World.var?_cell hg hvar, World.var?_cell hg hvar]
    exact ⟨by simpa [rowForm] using f0, by simpa using f1, by simpa using f2, by simpa using f3⟩
  exact ⟨fun i hi => (key i hi).1, fun i hi => (key i hi).2.1, fun i hi => (key i hi).2.2.1, fun i hi => (key i hi).2.2.2, utf8_laid h3 h4⟩
abbrev laidL : List (String × DataW Unit) := [("caponier/ins.rows", Rows.laid_caponier_ins_rows), ("unicode/utf8.acceptRanges", Rows.laid_unicode_utf8_acceptRanges), ("unicode/utf8.first", Rows.laid_unicode_utf8_first)]
theorem accD : (Rows.laid_unicode_utf8_acceptRanges : DataW Unit) = acceptData := by kernel_rfl
theorem firstD : Rows.laid_unicode_utf8_first = firstData := by kernel_rfl
theorem globOk_of_laid {W : World} (h : laidMetH Tryd.prog laidL W) : GlobOk W := by
  rw [MakeChecks.laidMetH_plain _ _ _ (by kernel_rfl)] at h
  exact globOk_of (Go.Lib.laidMet.reads h (by simp)) (firstD ▸ Go.Lib.laidMet.reads h (by simp)) (accD ▸ Go.Lib.laidMet.reads h (by simp))
end Go.Proofs.YtaoajlaocphgdaaDoor.PA
end
section
namespace Go.Proofs.YtaoajlaocphgdaaDoor.PA
open Go.ChangeShapes Go.WideShapes Go.ChangeAt Go.RowKit Go.Joins
set_option linter.unusedVariables false
set_option linter.unusedSimpArgs false
theorem cRegion : Tryd.prog.cellsOf 25 = 4 := by kernel_rfl
theorem cLayout : Tryd.prog.cellsOf 27 = 20 := by kernel_rfl
theorem cInt : Tryd.prog.cellsOf 3 = 1 := by kernel_rfl
theorem cUint64 : Tryd.prog.cellsOf 23 = 1 := by kernel_rfl
theorem split20 {α : Type} (l : List α) (h : l.length = 20) : l = (l.drop 0).take 4 ++ ((l.drop 4).take 4 ++ ((l.drop 8).take 4 ++ ((l.drop 12).take 4 ++ (l.drop 16).take 4))) := by
  have e1 := (List.take_append_drop 4 l).symm
  have e2 := (List.take_append_drop 4 (l.drop 4)).symm
  have e3 := (List.take_append_drop 4 (l.drop 8)).symm
  have e4 := (List.take_append_drop 4 (l.drop 12)).symm
  have e5 : (l.drop 16).take 4 = l.drop 16 := List.take_of_length_le (by simp; omega)
  simp only [List.drop_drop, Nat.reduceAdd] at e2 e3 e4
  rw [e5, ← e4, ← e3, ← e2, List.drop_zero]
  exact e1
section
variable {H : Type} {enc : TypeId × Value → H} {W : World} {bs : Nat} {sp : Nat → Bool} {held : Bool}
theorem four {α : Type} {l : List α} {a b c d : α} (h : l.length = 4) (h0 : (l.drop 0).take 1 = [a]) (h1 : (l.drop 1).take 1 = [b]) (h2 : (l.drop 2).take 1 = [c]) (h3 : (l.drop 3).take 1 = [d]) : l = [a, b, c, d] := by
  match l, h with
  | [x0, x1, x2, x3], _ => simp at h0 h1 h2 h3; simp [h0, h1, h2, h3]
end
end Go.Proofs.YtaoajlaocphgdaaDoor.PA
end
section
namespace Go.Proofs.YtaoajlaocphgdaaDoor.PA
open Go.ChangeShapes Go.WideShapes Go.ChangeAt Go.RowKit Go.Joins
set_option linter.unusedVariables false
set_option linter.unusedSimpArgs false
theorem u64_range {n : Int} (h : (Lit.int .u64 n).wf = true) : 0 ≤ n ∧ n ≤ 18446744073709551615 := by
  simp [Lit.wf, IntKind.min, IntKind.max, IntKind.signed, IntKind.bits] at h
  omega
section
variable {H : Type} {enc : TypeId × Value → H} {W : World} {bs : Nat} {sp : Nat → Bool} {held : Bool}
set_option maxRecDepth 100000 in
theorem region_cellsB {n : Nat} {cs : List Value} {y : DataW H × List MemPlace} (h : DataW.trod enc Tryd.prog W bs sp held n 25 cs = some y) :
    ∃ a b c d, cs = [.int .u64 a, .int .u64 b, .int .i64 c, .int .i64 d] ∧ (0 ≤ a ∧ a ≤ 18446744073709551615) ∧ (0 ≤ b ∧ b ≤ 18446744073709551615) := by
  obtain ⟨xs, m, rfl, hx, hl, hxl, hall⟩ := DataW.trod_struct Tryd.underlying25 h
  rw [cRegion] at hl
  have hxl : xs.length = 4 := hxl
  match xs, hxl, hall with
  | [y0, y1, y2, y3], _, hall =>
    have h0 : DataW.trod enc Tryd.prog W bs sp held m 23 ((cs.drop 0).take (Tryd.prog.cellsOf 23)) = some y0 := hall 0 _ rfl
    have h1 : DataW.trod enc Tryd.prog W bs sp held m 23 ((cs.drop 1).take (Tryd.prog.cellsOf 23)) = some y1 := hall 1 _ rfl
    have h2 : DataW.trod enc Tryd.prog W bs sp held m 3 ((cs.drop 2).take (Tryd.prog.cellsOf 3)) = some y2 := hall 2 _ rfl
    have h3 : DataW.trod enc Tryd.prog W bs sp held m 3 ((cs.drop 3).take (Tryd.prog.cellsOf 3)) = some y3 := hall 3 _ rfl
    rw [cUint64] at h0 h1
    rw [cInt] at h2 h3
    obtain ⟨a, ea, _, wa⟩ := DataW.trod_int Tryd.underlying23 h0
    obtain ⟨b, eb, _, wb⟩ := DataW.trod_int Tryd.underlying23 h1
    obtain ⟨c, ec, _⟩ := DataW.trod_int Tryd.underlying3 h2
    obtain ⟨d, ed, _⟩ := DataW.trod_int Tryd.underlying3 h3
    exact ⟨a, b, c, d, four hl ea eb ec ed, u64_range wa, u64_range wb⟩
set_option maxRecDepth 100000 in
theorem open_layoutB {b0 : Nat} {v : Value} {d : DataW H} {p : List MemPlace} (hv : Value.okWide Tryd.prog W .any b0 27 v) (h : DataW.Trod enc Tryd.prog W bs sp held 27 v d p) : ∃ l : LayV, LayB l ∧ v = .agg #[.int .u64 l.a0, .int .u64 l.a1, .int .i64 l.a2, .int .i64 l.a3, .int .u64 l.a4, .int .u64 l.a5, .int .i64 l.a6, .int .i64 l.a7, .int .u64 l.a8, .int .u64 l.a9, .int .i64 l.a10, .int .i64 l.a11, .int .u64 l.a12, .int .u64 l.a13, .int .i64 l.a14, .int .i64 l.a15, .int .u64 l.a16, .int .u64 l.a17, .int .i64 l.a18, .int .i64 l.a19] := by
  obtain ⟨cs, rfl, hsz⟩ := okWide_struct Tryd.underlying27 hv
  rw [cLayout] at hsz
  obtain ⟨fuel, hf⟩ := h
  obtain ⟨xs, m, rfl, hx, hl, hxl, hall⟩ := DataW.trod_struct Tryd.underlying27 hf
  have hxl : xs.length = 5 := hxl
  have hcl : cs.toList.length = 20 := by simpa using hsz
  match xs, hxl, hall with
  | [y0, y1, y2, y3, y4], _, hall =>
    have h0 : DataW.trod enc Tryd.prog W bs sp held m 25 ((cs.toList.drop 0).take (Tryd.prog.cellsOf 25)) = some y0 := hall 0 _ rfl
    have h1 : DataW.trod enc Tryd.prog W bs sp held m 25 ((cs.toList.drop 4).take (Tryd.prog.cellsOf 25)) = some y1 := hall 1 _ rfl
    have h2 : DataW.trod enc Tryd.prog W bs sp held m 25 ((cs.toList.drop 8).take (Tryd.prog.cellsOf 25)) = some y2 := hall 2 _ rfl
    have h3 : DataW.trod enc Tryd.prog W bs sp held m 25 ((cs.toList.drop 12).take (Tryd.prog.cellsOf 25)) = some y3 := hall 3 _ rfl
    have h4 : DataW.trod enc Tryd.prog W bs sp held m 25 ((cs.toList.drop 16).take (Tryd.prog.cellsOf 25)) = some y4 := hall 4 _ rfl
    rw [cRegion] at h0 h1 h2 h3 h4
    obtain ⟨a0, a1, a2, a3, e0, b0, c0⟩ := region_cellsB h0
    obtain ⟨a4, a5, a6, a7, e1, b1, c1⟩ := region_cellsB h1
    obtain ⟨a8, a9, a10, a11, e2, b2, c2⟩ := region_cellsB h2
    obtain ⟨a12, a13, a14, a15, e3, b3, c3⟩ := region_cellsB h3
    obtain ⟨a16, a17, a18, a19, e4, b4, c4⟩ := region_cellsB h4
    have hs := split20 cs.toList hcl
    rw [e0, e1, e2, e3, e4] at hs
    refine ⟨⟨a0, a1, a2, a3, a4, a5, a6, a7, a8, a9, a10, a11, a12, a13, a14, a15, a16, a17, a18, a19⟩, ?_, ?_⟩
    · intro r hr
      have hr' : r = ⟨a0, a1, a2, a3⟩ ∨ r = ⟨a4, a5, a6, a7⟩ ∨ r = ⟨a8, a9, a10, a11⟩ ∨ r = ⟨a12, a13, a14, a15⟩ ∨ r = ⟨a16, a17, a18, a19⟩ := by simpa [LayV.regions] using hr
      rcases hr' with rfl | rfl | rfl | rfl | rfl
      · exact ⟨b0, c0⟩
      · exact ⟨b1, c1⟩
      · exact ⟨b2, c2⟩
      · exact ⟨b3, c3⟩
      · exact ⟨b4, c4⟩
    have hc : cs = cs.toList.toArray := by simp
    rw [hc, hs]
    rfl
end
end Go.Proofs.YtaoajlaocphgdaaDoor.PA
end
section
namespace Go.Proofs.YtaoajlaocphgdaaDoor.Makes
open Go.ChangeShapes Go.WideShapes Go.ChangeAt Go.RowKit Go.Proofs.YtaoajlaocphgdaaDoorW.PrintWords Go.Proofs.YtaoajlaocphgdaaDoor.PA
open Go.ChangeMaps (open_string shut_string)
set_option linter.unusedVariables false
theorem own : ownKnob Tryd.prog.godebug = none := by kernel_rfl
theorem laidOut : laidOutB Tryd.prog = true := by kernel_rfl
def IsRow (k : IntKind) (w : World) (a : Option Addr) (len cap : Nat) (zs : List Int) : Prop :=
  (a = none ∧ len = 0 ∧ cap = 0 ∧ zs = []) ∨
  ∃ x, a = some x ∧ len ≤ cap ∧ cap ≤ maxLen ∧ zs.length = cap ∧ (∀ i, i < zs.length → w.cell? (x.add i) = some (.int k (zs.getD i 0))) ∧ ∀ n ∈ zs, (Lit.int k n).wf = true
set_option maxRecDepth 100000 in
theorem lifted (os : Os) (started : os.Started) (H : Type) (enc : TypeId × Value → H) :
    ReturnsInHanded {} Tryd.checked os 3 .any (fun w args => (Rows.wrapMakesSpec.pre enc Tryd.prog Tryd.f3 Rows.wrapMakesRow.domain false w args ∧ laidMetH Tryd.prog laidL w) ∧ sizedMet enc Tryd.prog Tryd.f3 (OpenSpec.ofChange Rows.wrapMakesSpec) false w args)
      (Rows.wrapMakesSpec.post enc Tryd.prog Tryd.f3 false true false false) := by
  refine returnsInHanded_of_change_and (C := Tryd.checked) (X := fun w _ => laidMetH Tryd.prog laidL w) (fun _ _ _ hh h => h.of_heap hh) own started (by kernel_rfl) Tryd.func3
    (ChangeSpec.witness_shaped (enc := enc) (C := Tryd.checked) (os := os) (X := fun w _ => laidMetH Tryd.prog laidL w) false (World.laidAll Tryd.prog os laidL) #[.string ByteArray.empty, .slice none 0 0, .agg (layArr lay0)] 8 (World.laidAll_os _ _ _)
      (World.shaped_of_ZipB (by kernel_rfl) (by kernel_rfl)) (by kernel_rfl) (by kernel_rfl) (by kernel_rfl)
      (by rw [MakeChecks.laidMetH_plain _ _ _ (by kernel_rfl)]; exact laidMet_laidAll _ (by kernel_rfl) (by kernel_rfl))) ?_
  intro W base args ds gs before hval0 hW hc _ hL _
  have hval : ∀ (j : Nat) t v, Tryd.f3.params[j]? = some t → args[j]? = some v → Value.okWide Tryd.prog W .any base t v := hval0
  have hW' := hW
  obtain ⟨p, q, hA0, hV, rfl, hfz, hnd⟩ := hW
  have hA : DataW.TrodAll enc Tryd.prog W 0 (fun _ => true) true Tryd.f3.params.toList args.toList ds p := hA0
  rw [Tryd.params3] at hA hval
  obtain ⟨v0, v1, v2, d0, d1, d2, p0, p1, p2, rfl, rfl, rfl, h0, h1, h2⟩ := trodAll_three hA
  obtain ⟨rfl, rfl⟩ := trodVars_none hV
  obtain ⟨nm, rfl, rfl, rfl, hnm⟩ := open_string Tryd.underlying9 (hval 0 9 v0 rfl rfl) h0
  obtain ⟨a1, len1, cap1, rfl⟩ := okWide_slice Tryd.underlying22 (hval 1 22 v1 rfl rfl)
  have k1 := h1
  have lt1 : ∀ x ∈ p1, x.block < W.heap.size := by obtain ⟨m, hm⟩ := k1; exact DataW.trod_lt m _ _ _ hm
  obtain ⟨z1, w1⟩ : ∃ zs, IsRow .i64 W a1 len1 cap1 zs := by
    obtain ⟨fuel, hf⟩ := h1
    rcases open_ints Tryd.underlying22 Tryd.underlying3 (by kernel_rfl) hf with ⟨hcs, _⟩ | ⟨x, l, c, zs, hcs, _, hl, hm, hz, _, hcell, hwz⟩
    · simp [Value.cells] at hcs
      obtain ⟨rfl, rfl, rfl⟩ := hcs
      exact ⟨[], .inl ⟨rfl, rfl, rfl, rfl⟩⟩
    · simp [Value.cells] at hcs
      obtain ⟨rfl, rfl, rfl⟩ := hcs
      exact ⟨zs, .inr ⟨_, rfl, hl, hm, by simpa using hz, hcell, hwz⟩⟩
  have k2 := h2
  have lt2 : ∀ x ∈ p2, x.block < W.heap.size := by obtain ⟨m, hm⟩ := k2; exact DataW.trod_lt m _ _ _ hm
  obtain ⟨l, hlB, hl⟩ := open_layoutB (hval 2 27 v2 rfl rfl) h2
  subst hl
  obtain ⟨l0, rfl, hr0, hm0, hw0, hc0⟩ := ReadsInt.ofRowC w1
  clear hA0 hval0
  refine (makes_calls nm a1 cap1 l0 l W (Kd.C_of_reads (d := (0 : Int)) (h1 := fun _ => rfl) hr0) hc0 (globOk_of_laid hL) hlB).mono fun e W' ⟨he, bel⟩ => ?_
  subst he
  exact ⟨_, rfl, _, _, _, [], _, [], hW', trodAll_mk1 (shut_bool Tryd.underlying4 _), trodAll_mk3 (shut_string Tryd.underlying9 hnm) (Below.trod laidOut (by kernel_rfl) (of_decide_eq_true (by kernel_rfl)) k1 bel lt1) (Below.trod laidOut (by kernel_rfl) (of_decide_eq_true (by kernel_rfl)) k2 bel lt2), rfl, bel.frame _, fun h => by cases h⟩
theorem holds : Rows.WrapMakesSaid :=
  OpenClaim.holds_of_wide 3 Tryd.f3 rfl rfl rfl rfl rfl rfl rfl ⟨rfl, rfl, rfl, rfl, rfl⟩ rfl rfl rfl rfl rfl (by kernel_rfl) Tryd.func3 (by kernel_rfl)
    (of_decide_eq_true (by kernel_rfl)) (by unfold Func.isWrapper; first | (rw [if_pos (by decide +kernel)]; kernel_rfl) | (rw [if_neg (by decide +kernel)]; exact ⟨rfl, rfl⟩))
    (fun os started H enc _ => lifted os started H enc)
theorem card : Rows.WrapMakesCardSaid :=
  Claim7.holds_tied_plain_at .later [] [.data, .data, .pinned] true (true, "511e66e86d2e57841086a139bb516f1f3487ab0fd65b7b2d468c62eacb5ad96c") false holds (fun _ h => by cases h) (by kernel_rfl) (fun _ h => by cases h) wrapMakes_row_tie rfl ⟨rfl, rfl⟩ (by kernel_rfl) rfl
    (fun f fn hf hfn => by
      obtain rfl : f = 3 := Option.some.inj ((show Tryd.prog.funcNamed "caponier/caponierlaw19.WrapMakes" = some 3 by kernel_rfl).symm.trans hf) |>.symm
      obtain rfl : fn = Tryd.f3 := (Option.some.inj (Tryd.func3.symm.trans hfn)).symm
      exact ⟨by kernel_rfl, fun j t ht => by
        rw [Tryd.params3] at ht
        have hm : t ∈ [9, 22, 27] := by simpa using Array.mem_of_getElem? ht
        have hall : ([9, 22, 27].all fun u => !Tryd.prog.wantsStandIn u) = true := by kernel_rfl
        exact (show Tryd.prog.wantsStandIn t = false by simpa using List.all_eq_true.1 hall t hm)⟩)
    (by kernel_rfl)
end Go.Proofs.YtaoajlaocphgdaaDoor.Makes
namespace Go.Proofs.YtaoajlaocphgdaaDoor
theorem wrapMakes_card : Rows.WrapMakesCardSaid := Makes.card
end Go.Proofs.YtaoajlaocphgdaaDoor
end
#print axioms Go.Proofs.YtaoajlaocphgdaaDoor.wrapMakes_card
