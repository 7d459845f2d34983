/-
The law WrapLayouts: it says true.
-/
import Derived.Test.YtaoajlaocphgdaaDoorHAwake
import Derived.Test.YtaoajlaocphgdaaDoorHLayoutsB
namespace Go.Proofs.YtaoajlaocphgdaaDoor.PA
open Go.RowKit Go.Proofs.YtaoajlaocphgdaaDoorW.PrintWords Go.Proofs.YtaoajlaocphgdaaDoorW.PrintLast Go.Proofs.YtaoajlaocphgdaaDoorW.PrintMore
set_option linter.unusedVariables false
set_option linter.unusedSimpArgs false

def loOf (i : Nat) : Int := if i = 0 then 65536 else if i = 1 then 131072 else if i = 2 then 196608 else if i = 3 then 262144 else 327680
def hiOf (i : Nat) : Int := if i = 0 then 81920 else if i = 1 then 139280 else if i = 2 then 262144 else if i = 3 then 262208 else 328704
theorem five (i : Nat) (h : i < 5) : i = 0 ∨ i = 1 ∨ i = 2 ∨ i = 3 ∨ i = 4 := by omega
theorem loHi_bound (i : Nat) (h : i < 5) : 65536 ≤ loOf i ∧ loOf i < hiOf i ∧ hiOf i ≤ 328704 := by rcases five i h with rfl | rfl | rfl | rfl | rfl <;> decide
def ptrCells (g : Nat) : Array Value := #[.pointer (some ⟨g, 0, none⟩), .pointer (some ⟨g, 4, none⟩), .pointer (some ⟨g, 8, none⟩), .pointer (some ⟨g, 12, none⟩), .pointer (some ⟨g, 16, none⟩)]
theorem ptr_at (g i : Nat) (h : i < 5) : (ptrCells g)[i]? = some (.pointer (some ⟨g, 4 * i, none⟩)) := by rcases five i h with rfl | rfl | rfl | rfl | rfl <;> rfl
theorem lo_at (d : Int) (i : Nat) (h : i < 5) : (layArr (shiftL d i))[4 * i]? = some (.int .u64 (loOf i)) := by rcases five i h with rfl | rfl | rfl | rfl | rfl <;> rfl
theorem hi_at (d : Int) (i : Nat) (h : i < 5) : (layArr (shiftL d i))[4 * i + 1]? = some (.int .u64 (hiOf i)) := by rcases five i h with rfl | rfl | rfl | rfl | rfl <;> rfl
theorem lay_next (d : Int) (i : Nat) (h : i < 5) : ((layArr (shiftL d i)).setIfInBounds (4 * i) (.int .u64 (loOf i + d))).setIfInBounds (4 * i + 1) (.int .u64 (hiOf i + d)) = layArr (shiftL d (i + 1)) := by rcases five i h with rfl | rfl | rfl | rfl | rfl <;> rfl
theorem lo5_at (d : Int) (i : Nat) (h : i < 5) : (layArr (shiftL d 5))[4 * i]? = some (.int .u64 (loOf i + d)) := by rcases five i h with rfl | rfl | rfl | rfl | rfl <;> rfl
theorem hi5_at (d : Int) (i : Nat) (h : i < 5) : (layArr (shiftL d 5))[4 * i + 1]? = some (.int .u64 (hiOf i + d)) := by rcases five i h with rfl | rfl | rfl | rfl | rfl <;> rfl
theorem spoil_0 (b : Int) (hb : 0 ≤ b ∧ b ≤ 65535) (k : Nat) (hk : k < 5) : ∃ v, (layArr (shiftL (8 * b) 5)).setIfInBounds (4 * k) (.int .u64 (loOf k + 8 * b + 4)) = layArr v ∧ mayL v = false := by
  obtain ⟨n, rfl⟩ := Int.eq_ofNat_of_zero_le hb.1
  rcases five k hk with rfl | rfl | rfl | rfl | rfl
  · exact ⟨_, by rfl, bad_0_0 n (by omega)⟩
  · exact ⟨_, by rfl, bad_0_1 n (by omega)⟩
  · exact ⟨_, by rfl, bad_0_2 n (by omega)⟩
  · exact ⟨_, by rfl, bad_0_3 n (by omega)⟩
  · exact ⟨_, by rfl, bad_0_4 n (by omega)⟩
theorem spoil_1 (b : Int) (hb : 0 ≤ b ∧ b ≤ 65535) (k : Nat) (hk : k < 5) : ∃ v, (layArr (shiftL (8 * b) 5)).setIfInBounds (4 * k + 1) (.int .u64 (loOf k + 8 * b)) = layArr v ∧ mayL v = false := by
  obtain ⟨n, rfl⟩ := Int.eq_ofNat_of_zero_le hb.1
  rcases five k hk with rfl | rfl | rfl | rfl | rfl
  · exact ⟨_, by rfl, bad_1_0 n (by omega)⟩
  · exact ⟨_, by rfl, bad_1_1 n (by omega)⟩
  · exact ⟨_, by rfl, bad_1_2 n (by omega)⟩
  · exact ⟨_, by rfl, bad_1_3 n (by omega)⟩
  · exact ⟨_, by rfl, bad_1_4 n (by omega)⟩
theorem spoil_2 (b : Int) (hb : 0 ≤ b ∧ b ≤ 65535) (k : Nat) (hk : k < 5) : ∃ v, (layArr (shiftL (8 * b) 5)).setIfInBounds (4 * k + 1) (.int .u64 (loOf k + 8 * b + 65544)) = layArr v ∧ mayL v = false := by
  obtain ⟨n, rfl⟩ := Int.eq_ofNat_of_zero_le hb.1
  rcases five k hk with rfl | rfl | rfl | rfl | rfl
  · exact ⟨_, by rfl, bad_2_0 n (by omega)⟩
  · exact ⟨_, by rfl, bad_2_1 n (by omega)⟩
  · exact ⟨_, by rfl, bad_2_2 n (by omega)⟩
  · exact ⟨_, by rfl, bad_2_3 n (by omega)⟩
  · exact ⟨_, by rfl, bad_2_4 n (by omega)⟩
theorem spoil_3 (b : Int) (hb : 0 ≤ b ∧ b ≤ 65535) (k : Nat) (hk : k < 5) : ∃ v, ((layArr (shiftL (8 * b) 5)).setIfInBounds (4 * k) (.int .u64 (hiOf k + 8 * b))).setIfInBounds (4 * k + 1) (.int .u64 (loOf k + 8 * b)) = layArr v ∧ mayL v = false := by
  obtain ⟨n, rfl⟩ := Int.eq_ofNat_of_zero_le hb.1
  rcases five k hk with rfl | rfl | rfl | rfl | rfl
  · exact ⟨_, by rfl, bad_3_0 n (by omega)⟩
  · exact ⟨_, by rfl, bad_3_1 n (by omega)⟩
  · exact ⟨_, by rfl, bad_3_2 n (by omega)⟩
  · exact ⟨_, by rfl, bad_3_3 n (by omega)⟩
  · exact ⟨_, by rfl, bad_3_4 n (by omega)⟩
set_option maxHeartbeats 16000000 in
set_option maxRecDepth 100000 in
theorem layouts_calls (by_ bad : Int) (w : World) (hb : 0 ≤ by_ ∧ by_ ≤ 65535) (hd : 0 ≤ bad ∧ bad ≤ 255) (hG : GlobOk w) :
    Calls Tryd.prog 6 #[.int .u16 by_, .int .u8 bad] w fun e w' => e = .returned (.bool true) ∧ Below w.heap.size w w' := by
  have HG := Aside0.mk hG
  have HB := Aside0.mk (Below.refl w.heap.size w)
  clear hG
  go_enter Tryd.func6, Tryd.ntmps6
  go_wp2_with fail
  refine (caponierlaw19_awake.calls true _ rfl (HG.out.of_below HB.out)).mono ?_
  rintro e w2 ⟨rfl, hb2⟩
  have HB2 := Aside0.mk (below_step HB.out hb2)
  clear hb2
  go_wp2_with fail
  refine (layout_calls _).mono ?_
  rintro e w3 ⟨rfl, hb3⟩
  have HB3 := Aside0.mk (below_step HB2.out hb3)
  clear hb3
  have s8 : IntKind.u64.wrap (8 * by_) = 8 * by_ := IntWalk.u64_in _ (by omega)
  go_wp2_with (first | ((with_reducible refine gate_dst (N := 5) rfl ?_); refine box_event ?hg (N := 5) ?hd (cs := layArr lay0) (t := 27) ?hr ?_; (case hd => rfl); (case hg => rfl); (case hr => kernel_rfl); intro g5 hg5 w4 B5 hb4; have HA5 := Aside0.mk hb4; have HE5 := Aside0.mk hg5; have HK5 := Aside0.mk B5; clear hb4 hg5 B5) | (refine store_event (by rfl) (ty := 27) (by rfl) g5 27 (layArr lay0) (layArr layC) (by rfl) (by rfl) HK5.out (by kernel_rfl) rfl (by kernel_rfl) ?_; intro w5 hs5; have HS5 := Aside0.mk hs5; clear hs5))
  have HB5 := Aside0.mk (HS5.out.below (below_step HB3.out HA5.out) (by rw [HE5.out]; exact HB3.out.size))
  have HGE := Aside0.mk (show w.heap.size ≤ g5 by rw [HE5.out]; exact HB3.out.size)
  have HLT := Aside0.mk (blk_lt HS5.out.at_)
  obtain ⟨g7, hg7⟩ : ∃ g, g = w5.heap.size := ⟨_, rfl⟩
  rw [← hg7]
  have HG7 := Aside0.mk hg7
  clear hg7
  go_loopg [8] 5 (fun g s8 w' => ∃ i : Nat, s8 = .int .i64 i ∧ i ≤ 5 ∧ g = 5 - i ∧ Aside0 (w'.heap[g5]? = some (.cells (layArr (shiftL (8 * by_) i)) 27 (0, 0))) ∧ Aside0 (w'.heap[g7]? = some (.cells (ptrCells g5) 53 (0, 0))) ∧ Aside0 (Below w.heap.size w w'))
  case atStart => exact ⟨0, rfl, by omega, rfl, ⟨blk_below HS5.out.at_ (below_alloc (Below.refl _ _) _)⟩, ⟨by rw [HG7.out]; exact blk_new _ _⟩, ⟨below_alloc HB5.out _⟩⟩
  case round =>
    obtain ⟨i, rfl, hi, rfl, HK, HP, HW⟩ := hrel
    have hne : g5 ≠ g7 := by have := HLT.out; have := HG7.out; omega
    have hne2 : g7 ≠ g5 := hne.symm
    by_cases h5 : i < 5
    · have q7 : wr.cell? ⟨g7, i, none⟩ = some (.pointer (some ⟨g5, 4 * i, none⟩)) := (blk_cell HP.out i).trans (ptr_at g5 i h5)
      have q0 : wr.cell? ⟨g5, 4 * i, none⟩ = some (.int .u64 (loOf i)) := (blk_cell HK.out (4 * i)).trans (lo_at _ i h5)
      have q1 : wr.cell? ⟨g5, 4 * i + 1, none⟩ = some (.int .u64 (hiOf i)) := (blk_cell HK.out (4 * i + 1)).trans (hi_at _ i h5)
      have z0 : wr.frozen? ⟨g5, 4 * i, none⟩ = false := blk_frozen HK.out _
      have z1 : wr.frozen? ⟨g5, 4 * i + 1, none⟩ = false := blk_frozen HK.out _
      have b0 := loHi_bound i h5
      have s0 : IntKind.u64.wrap (loOf i + 8 * by_) = loOf i + 8 * by_ := IntWalk.u64_in _ (by omega)
      have s1 : IntKind.u64.wrap (hiOf i + 8 * by_) = hiOf i + 8 * by_ := IntWalk.u64_in _ (by omega)
      go_wp2_with fail
      go_still_tail 15, rfl
      go_wp2_with fail
      obtain ⟨v1, hv1⟩ : ∃ v1, v1 = (wr.setCell ⟨g5, 4 * i, none⟩ (.int .u64 (loOf i + 8 * by_))).drew := ⟨_, rfl⟩
      rw [← hv1]
      have HK1 := Aside0.mk (show v1.heap[g5]? = some (.cells ((layArr (shiftL (8 * by_) i)).setIfInBounds (4 * i) (.int .u64 (loOf i + 8 * by_))) 27 (0, 0)) by rw [hv1]; exact blk_drew (blk_put HK.out _ _ rfl))
      have HP1 := Aside0.mk (show v1.heap[g7]? = some (.cells (ptrCells g5) 53 (0, 0)) by rw [hv1]; exact blk_drew (blk_far HP.out hne.symm _))
      have HW1 := Aside0.mk (show Below w.heap.size w v1 by rw [hv1]; exact below_drew1 (below_set HW.out HGE.out))
      have q7' : v1.cell? ⟨g7, i, none⟩ = some (.pointer (some ⟨g5, 4 * i, none⟩)) := (blk_cell HP1.out i).trans (ptr_at g5 i h5)
      have q1' : v1.cell? ⟨g5, 4 * i + 1, none⟩ = some (.int .u64 (hiOf i)) := (blk_cell HK1.out (4 * i + 1)).trans (by rw [Array.getElem?_setIfInBounds_ne (by omega)]; exact hi_at _ i h5)
      have z1' : v1.frozen? ⟨g5, 4 * i + 1, none⟩ = false := blk_frozen HK1.out _
      clear hv1
      go_still_tail 15, rfl
      go_wp2_with fail
      go_roundg (5 - (i + 1))
      case measure => omega
      case rel => exact ⟨i + 1, by first | rfl | go_num, by omega, by first | rfl | omega, ⟨by rw [← lay_next _ i h5]; exact blk_drew (blk_put HK1.out _ _ rfl)⟩, ⟨blk_drew (blk_far HP1.out hne.symm _)⟩, ⟨below_drew1 (below_set HW1.out HGE.out)⟩⟩
    · obtain rfl : i = 5 := by omega
      clear h5
      have HM := Aside0.mk (show mayL (shiftL (8 * by_) 5) = true by obtain ⟨n, hn⟩ := Int.eq_ofNat_of_zero_le hb.1; rw [hn]; exact may_shift n (by omega))
      go_wp2_with (first | ((with_reducible refine gate_dst (N := 56) rfl ?_); refine wpList_load_row (by rfl) 27 _ (by rfl) g5 (by rfl) 27 (layArr (shiftL (8 * by_) 5)) (0, 0) _ HK.out Tryd.underlying27 rfl (by kernel_rfl) ?_))
      refine (may_at _ true HM.out _).mono ?_
      rintro e w6 ⟨rfl, hb6⟩
      have HK6 := Aside0.mk (blk_below HK.out hb6)
      have HP6 := Aside0.mk (blk_below HP.out hb6)
      have HB6 := Aside0.mk (below_step HW.out hb6)
      clear hb6
      obtain ⟨k, hk⟩ : ∃ k : Nat, bad % 5 = (k : Int) := ⟨(bad % 5).toNat, by omega⟩
      have hk5 : k < 5 := by omega
      have hk5i : (k : Int) < 5 := by omega
      have hk5d : decide ((k : Int) < 5) = true := decide_eq_true hk5i
      have hne : g5 ≠ g7 := by have := HLT.out; have := HG7.out; omega
      have hne2 : g7 ≠ g5 := hne.symm
      have q7 : w6.cell? ⟨g7, k, none⟩ = some (.pointer (some ⟨g5, 4 * k, none⟩)) := (blk_cell HP6.out k).trans (ptr_at g5 k hk5)
      have q0 : w6.cell? ⟨g5, 4 * k, none⟩ = some (.int .u64 (loOf k + 8 * by_)) := (blk_cell HK6.out (4 * k)).trans (lo5_at _ k hk5)
      have q1 : w6.cell? ⟨g5, 4 * k + 1, none⟩ = some (.int .u64 (hiOf k + 8 * by_)) := (blk_cell HK6.out (4 * k + 1)).trans (hi5_at _ k hk5)
      have z0 : w6.frozen? ⟨g5, 4 * k, none⟩ = false := blk_frozen HK6.out _
      have z1 : w6.frozen? ⟨g5, 4 * k + 1, none⟩ = false := blk_frozen HK6.out _
      have b0 := loHi_bound k hk5
      have s4 : IntKind.u64.wrap (loOf k + 8 * by_ + 4) = loOf k + 8 * by_ + 4 := IntWalk.u64_in _ (by omega)
      have s5 : IntKind.u64.wrap (loOf k + 8 * by_ + 65544) = loOf k + 8 * by_ + 65544 := IntWalk.u64_in _ (by omega)
      have hq : bad / 5 % 4 = 0 ∨ bad / 5 % 4 = 1 ∨ bad / 5 % 4 = 2 ∨ bad / 5 % 4 = 3 := by omega
      rcases hq with hq | hq | hq | hq
      · obtain ⟨v, hv, hvf⟩ := spoil_0 by_ hb k hk5
        have HV := Aside0.mk hv
        have HVF := Aside0.mk hvf
        clear hv hvf
        go_wp2_with fail
        go_still_tail 14, rfl
        have HK7 := Aside0.mk (show ((w6.setCell ⟨g5, 4 * k, none⟩ (.int .u64 (loOf k + 8 * by_ + 4))).drew).heap[g5]? = some (.cells (layArr v) 27 (0, 0)) by rw [← HV.out]; exact blk_drew (blk_put HK6.out _ _ rfl))
        have HB7 := Aside0.mk (show Below w.heap.size w ((w6.setCell ⟨g5, 4 * k, none⟩ (.int .u64 (loOf k + 8 * by_ + 4))).drew) from below_drew1 (below_set HB6.out HGE.out))
        go_wp2_with (first | ((with_reducible refine gate_dst (N := 141) rfl ?_); refine wpList_load_row (by rfl) 27 _ (by rfl) g5 (by rfl) 27 (layArr v) (0, 0) _ HK7.out Tryd.underlying27 rfl (by kernel_rfl) ?_))
        refine (may_at _ false HVF.out _).mono ?_
        rintro e w8 ⟨rfl, hb8⟩
        have HB8 := Aside0.mk (below_step HB7.out hb8)
        clear hb8
        go_wp2_with fail
        go_ret
        exact ⟨rfl, HB8.out⟩
      · obtain ⟨v, hv, hvf⟩ := spoil_1 by_ hb k hk5
        have HV := Aside0.mk hv
        have HVF := Aside0.mk hvf
        clear hv hvf
        go_wp2_with fail
        go_still_tail 13, rfl
        have HK7 := Aside0.mk (show ((w6.setCell ⟨g5, 4 * k + 1, none⟩ (.int .u64 (loOf k + 8 * by_))).drew).heap[g5]? = some (.cells (layArr v) 27 (0, 0)) by rw [← HV.out]; exact blk_drew (blk_put HK6.out _ _ rfl))
        have HB7 := Aside0.mk (show Below w.heap.size w ((w6.setCell ⟨g5, 4 * k + 1, none⟩ (.int .u64 (loOf k + 8 * by_))).drew) from below_drew1 (below_set HB6.out HGE.out))
        go_wp2_with (first | ((with_reducible refine gate_dst (N := 141) rfl ?_); refine wpList_load_row (by rfl) 27 _ (by rfl) g5 (by rfl) 27 (layArr v) (0, 0) _ HK7.out Tryd.underlying27 rfl (by kernel_rfl) ?_))
        refine (may_at _ false HVF.out _).mono ?_
        rintro e w8 ⟨rfl, hb8⟩
        have HB8 := Aside0.mk (below_step HB7.out hb8)
        clear hb8
        go_wp2_with fail
        go_ret
        exact ⟨rfl, HB8.out⟩
      · obtain ⟨v, hv, hvf⟩ := spoil_2 by_ hb k hk5
        have HV := Aside0.mk hv
        have HVF := Aside0.mk hvf
        clear hv hvf
        go_wp2_with fail
        go_still_tail 14, rfl
        have HK7 := Aside0.mk (show ((w6.setCell ⟨g5, 4 * k + 1, none⟩ (.int .u64 (loOf k + 8 * by_ + 65544))).drew).heap[g5]? = some (.cells (layArr v) 27 (0, 0)) by rw [← HV.out]; exact blk_drew (blk_put HK6.out _ _ rfl))
        have HB7 := Aside0.mk (show Below w.heap.size w ((w6.setCell ⟨g5, 4 * k + 1, none⟩ (.int .u64 (loOf k + 8 * by_ + 65544))).drew) from below_drew1 (below_set HB6.out HGE.out))
        go_wp2_with (first | ((with_reducible refine gate_dst (N := 141) rfl ?_); refine wpList_load_row (by rfl) 27 _ (by rfl) g5 (by rfl) 27 (layArr v) (0, 0) _ HK7.out Tryd.underlying27 rfl (by kernel_rfl) ?_))
        refine (may_at _ false HVF.out _).mono ?_
        rintro e w8 ⟨rfl, hb8⟩
        have HB8 := Aside0.mk (below_step HB7.out hb8)
        clear hb8
        go_wp2_with fail
        go_ret
        exact ⟨rfl, HB8.out⟩
      · obtain ⟨v, hv, hvf⟩ := spoil_3 by_ hb k hk5
        have HV := Aside0.mk hv
        have HVF := Aside0.mk hvf
        clear hv hvf
        go_wp2_with fail
        go_still_tail 24, rfl
        have HK7 := Aside0.mk (show (((w6.setCell ⟨g5, 4 * k, none⟩ (.int .u64 (hiOf k + 8 * by_))).setCell ⟨g5, 4 * k + 1, none⟩ (.int .u64 (loOf k + 8 * by_))).drew).heap[g5]? = some (.cells (layArr v) 27 (0, 0)) by rw [← HV.out]; exact blk_drew (blk_put (blk_put HK6.out _ _ rfl) _ _ rfl))
        have HB7 := Aside0.mk (show Below w.heap.size w (((w6.setCell ⟨g5, 4 * k, none⟩ (.int .u64 (hiOf k + 8 * by_))).setCell ⟨g5, 4 * k + 1, none⟩ (.int .u64 (loOf k + 8 * by_))).drew) from below_drew1 (below_set (below_set HB6.out HGE.out) HGE.out))
        go_wp2_with (first | ((with_reducible refine gate_dst (N := 141) rfl ?_); refine wpList_load_row (by rfl) 27 _ (by rfl) g5 (by rfl) 27 (layArr v) (0, 0) _ HK7.out Tryd.underlying27 rfl (by kernel_rfl) ?_))
        refine (may_at _ false HVF.out _).mono ?_
        rintro e w8 ⟨rfl, hb8⟩
        have HB8 := Aside0.mk (below_step HB7.out hb8)
        clear hb8
        go_wp2_with fail
        go_ret
        exact ⟨rfl, HB8.out⟩
end Go.Proofs.YtaoajlaocphgdaaDoor.PA
