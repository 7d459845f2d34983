/-
Plain: ins.Encode and wrap.May give an answer of everything.
-/
import Derived.Test.YtaoajlaocphgdaaDoorHWrap
import Derived.Test.YtaoajlaocphgdaaDoorPAxinsEncode
import Derived.Test.YtaoajlaocphgdaaDoorPAxwrapMay
namespace Go.Proofs.YtaoajlaocphgdaaDoor.PA
open Go.RowKit Go.Proofs.YtaoajlaocphgdaaDoorW.PrintWords Go.Proofs.YtaoajlaocphgdaaDoorW.PrintLast Go.Proofs.YtaoajlaocphgdaaDoorW.PrintMore
set_option linter.unusedVariables false
set_option linter.unusedSimpArgs false

def mayGo : List S25 → Int → Bool → Bool
  | [], _, fin => fin
  | r :: t, last, fin => if r.f0 < last then false else if r.f0 ≥ r.f1 then false else if Int.tmod (Go.bits .or .u64 r.f0 r.f1) 8 = 0 then (if r.f1 > 1073741824 then false else if IntKind.u64.wrap (r.f1 - r.f0) > 65536 then false else mayGo t r.f1 fin) else false
def LayV.regions (l : LayV) : List S25 := [⟨l.a0, l.a1, l.a2, l.a3⟩, ⟨l.a4, l.a5, l.a6, l.a7⟩, ⟨l.a8, l.a9, l.a10, l.a11⟩, ⟨l.a12, l.a13, l.a14, l.a15⟩, ⟨l.a16, l.a17, l.a18, l.a19⟩]
/-- Whether a layout may be. -/
def mayL (l : LayV) : Bool := mayGo l.regions 0 (if IntKind.u64.wrap (l.a5 - l.a4) ≥ 16 then decide (IntKind.u64.wrap (l.a9 - l.a8) ≥ 16) else false)
theorem may_l0 (xs : List S25) (hx : xs.length ≤ 5) (l : LayV) : ∀ (n : Nat) (i : Nat) (last : Int) (k : Nat), xs.length = i + n → n < k →
    wrap_May.l0 k last xs xs.length i l.a0 l.a1 l.a2 l.a3 l.a4 l.a5 l.a6 l.a7 l.a8 l.a9 l.a10 l.a11 l.a12 l.a13 l.a14 l.a15 l.a16 l.a17 l.a18 l.a19 = some (mayGo (xs.drop i) last (if IntKind.u64.wrap (l.a5 - l.a4) ≥ 16 then decide (IntKind.u64.wrap (l.a9 - l.a8) ≥ 16) else false)) := by
  intro n
  induction n with
  | zero =>
    intro i last k hn hk
    obtain ⟨k, rfl⟩ : ∃ k', k = k' + 1 := ⟨k - 1, by omega⟩
    rw [wrap_May.l0, if_neg (by omega), List.drop_eq_nil_of_le (by omega)]
    simp only [mayGo]
    split <;> rfl
  | succ n ih =>
    intro i last k hn hk
    obtain ⟨k, rfl⟩ : ∃ k', k = k' + 1 := ⟨k - 1, by omega⟩
    have hlt : i < xs.length := by omega
    have hd : xs.drop i = xs[i] :: xs.drop (i + 1) := List.drop_eq_getElem_cons hlt
    have hr : rd_T25 xs (i : Int) = xs[i] := by
      simp [rd_T25, List.getD_eq_getElem?_getD, List.getElem?_eq_getElem hlt]
    have hw : wrap64 ((i : Int) + 1) = ((i + 1 : Nat) : Int) := by
      rw [show (i : Int) + 1 = ((i + 1 : Nat) : Int) from by omega]
      exact IntWalk.wrap64_in _ (by omega)
    rw [wrap_May.l0, if_pos (by omega), if_pos (by omega), if_pos (by omega), hr, hd, hw]
    simp only [mayGo]
    rw [ih (i + 1) _ k (by omega) (by omega)]
    repeat' split
    all_goals rfl
theorem may_f (l : LayV) (k : Nat) (hk : 6 ≤ k) : wrap_May.f k l.a0 l.a1 l.a2 l.a3 l.a4 l.a5 l.a6 l.a7 l.a8 l.a9 l.a10 l.a11 l.a12 l.a13 l.a14 l.a15 l.a16 l.a17 l.a18 l.a19 = some (mayL l) := by
  unfold wrap_May.f
  exact may_l0 l.regions (Nat.le_refl 5) l 5 0 0 k rfl (by omega)
theorem mayGo_cons {r : S25} {t : List S25} {last : Int} {fin : Bool} (h : mayGo (r :: t) last fin = true) : last ≤ r.f0 ∧ r.f0 < r.f1 ∧ r.f1 ≤ 1073741824 ∧ Int.tmod (Go.bits .or .u64 r.f0 r.f1) 8 = 0 ∧ IntKind.u64.wrap (r.f1 - r.f0) ≤ 65536 ∧ mayGo t r.f1 fin = true := by
  simp only [mayGo] at h
  split at h
  · cases h
  · split at h
    · cases h
    · split at h
      · split at h
        · cases h
        · split at h
          · cases h
          · exact ⟨by omega, by omega, by omega, by assumption, by omega, h⟩
      · cases h
theorem mayL_ok {l : LayV} (h : mayL l = true) : LayOk l ∧ 16 ≤ l.a5 - l.a4 ∧ 0 ≤ l.a12 ∧ l.a12 < l.a13 := by
  unfold mayL LayV.regions at h
  obtain ⟨a1, a2, a3, _, _, h⟩ := mayGo_cons h
  obtain ⟨b1, b2, b3, _, _, h⟩ := mayGo_cons h
  obtain ⟨c1, c2, c3, _, _, h⟩ := mayGo_cons h
  obtain ⟨d1, d2, d3, _, _, h⟩ := mayGo_cons h
  obtain ⟨e1, e2, e3, _, _, h⟩ := mayGo_cons h
  simp only [mayGo] at h a1 a2 a3 b1 b2 b3 c1 c2 c3 d1 d2 d3 e1 e2 e3
  split at h
  · rename_i h5
    rw [IntWalk.u64_in (l.a5 - l.a4) (by omega)] at h5
    exact ⟨⟨by omega, by omega, by omega, by omega, by omega, by omega⟩, by omega, by omega, by omega⟩
  · cases h

/-! ### ins.Encode gives an answer of everything -/
theorem bits_may_some (a b : Int) : ∃ r, bits_may.f a b = some r := by
  unfold bits_may.f
  repeat' split
  all_goals exact ⟨_, rfl⟩
theorem bits_mask_some (a : Int) (h : 0 ≤ a) : ∃ r, bits_mask.f a = some r := by unfold bits_mask.f; rw [if_pos h]; exact ⟨_, rfl⟩
theorem bits_may_pos {a b : Int} (h : bits_may.f a b = some true) : 0 ≤ a ∧ 0 ≤ b := by
  unfold bits_may.f at h
  repeat' split at h
  all_goals first | (cases h; done) | exact ⟨by omega, by omega⟩ | simp at h
theorem bits_Field_some (x a b : Int) : ∃ r, bits_Field.f x a b = some r := by
  unfold bits_Field.f
  obtain ⟨r, hr⟩ := bits_may_some a b
  rw [hr]
  simp only [Option.bind_some]
  cases r with
  | false => exact ⟨_, rfl⟩
  | true =>
    obtain ⟨h1, h2⟩ := bits_may_pos hr
    obtain ⟨m, hm⟩ := bits_mask_some b h2
    rw [if_pos rfl, if_pos h1, hm]
    exact ⟨_, rfl⟩
theorem bits_Put_some (x a b y : Int) : ∃ r, bits_Put.f x a b y = some r := by
  unfold bits_Put.f
  obtain ⟨r, hr⟩ := bits_may_some a b
  rw [hr]
  simp only [Option.bind_some]
  cases r with
  | false => exact ⟨_, rfl⟩
  | true =>
    obtain ⟨h1, h2⟩ := bits_may_pos hr
    obtain ⟨m, hm⟩ := bits_mask_some b h2
    rw [if_pos rfl, hm]
    simp only [Option.bind_some]
    rw [if_pos h1]
    exact ⟨_, rfl⟩
theorem bits_Sign_some (x n : Int) : ∃ r, bits_Sign.f x n = some r := by
  unfold bits_Sign.f
  split
  · exact ⟨_, rfl⟩
  · split
    · exact ⟨_, rfl⟩
    · rw [if_pos (by rw [IntWalk.wrap64_in _ (by omega)]; omega)]
      exact ⟨_, rfl⟩
theorem bits_Fits_some (x n : Int) : ∃ r, bits_Fits.f x n = some r := by
  unfold bits_Fits.f
  obtain ⟨r, hr⟩ := bits_Sign_some (IntKind.u64.wrap x) n
  rw [hr]
  repeat' split
  all_goals exact ⟨_, rfl⟩
theorem bits_FitsU_some (x n : Int) : ∃ r, bits_FitsU.f x n = some r := by
  unfold bits_FitsU.f
  split
  · split
    · obtain ⟨r, hr⟩ := bits_mask_some n (by omega)
      rw [hr]
      exact ⟨_, rfl⟩
    · exact ⟨_, rfl⟩
  · exact ⟨_, rfl⟩
theorem ins_shift_some (x : Int) : ∃ r, ins_shift.f x = some r := by
  unfold ins_shift.f
  repeat' split
  all_goals exact ⟨_, rfl⟩
theorem ins_reg_some (x : Int) (b : Bool) : ∃ r, ins_reg.f x b = some r := by
  unfold ins_reg.f
  repeat' split
  all_goals exact ⟨_, rfl⟩
theorem ins_has_some (k : Nat) (f : ByteArray) : ∃ r, ins_has.f (k + 1) f = some r := by
  simp only [ins_has.f, ins_has.j0]
  repeat' split
  all_goals exact ⟨_, rfl⟩
theorem ins_Form_some (x : Int) : ∃ r, ins_Form.f x = some r ∧ ((x < 0 ∨ 42 < x) → r.toList = []) := by
  unfold ins_Form.f
  split
  · exact ⟨_, rfl, fun _ => by rw [ByteArray.toList, ByteArray.toList.loop]; rfl⟩
  · split
    · exact ⟨_, rfl, fun _ => by rw [ByteArray.toList, ByteArray.toList.loop]; rfl⟩
    · rw [if_pos (by omega), if_pos (by omega)]
      exact ⟨_, rfl, fun h => by omega⟩
theorem ins_imm_some (a b c d e : Int) (h : 0 ≤ a ∧ a < 43) : ∃ r, ins_imm.f a b c d e = some r := by
  unfold ins_imm.f
  rw [if_pos h.1, if_pos h.2]
  obtain ⟨r1, h1⟩ := ins_shift_some a
  obtain ⟨r2, h2⟩ := bits_FitsU_some (IntKind.u64.wrap e) 6
  obtain ⟨r3, h3⟩ := bits_Fits_some e 12
  obtain ⟨r4, h4⟩ := bits_Fits_some e 13
  obtain ⟨r5, h5⟩ := bits_Fits_some e 32
  obtain ⟨r6, h6⟩ := bits_Fits_some e 21
  rw [h1, h2, h3, h4, h5, h6]
  simp only [Option.bind_some]
  repeat' split
  all_goals exact ⟨_, rfl⟩
theorem ins_May_some (k : Nat) (a b c d e : Int) : ∃ r, ins_May.f (k + 1) a b c d e = some r ∧ (r = true → 0 ≤ a ∧ a < 43) := by
  unfold ins_May.f
  obtain ⟨f, hf, hfe⟩ := ins_Form_some a
  obtain ⟨g, hg⟩ := ins_has_some k f
  rw [hf]
  simp only [Option.bind_some, hg]
  split
  · exact ⟨_, rfl, fun h => by cases h⟩
  · rename_i hne
    have hb : 0 ≤ a ∧ a < 43 := by
      apply Classical.byContradiction
      intro hn
      exact hne (hfe (by omega))
    obtain ⟨r1, h1⟩ := ins_reg_some b g.1
    obtain ⟨r2, h2⟩ := ins_reg_some c g.2.1
    obtain ⟨r3, h3⟩ := ins_reg_some d g.2.2
    obtain ⟨r4, h4⟩ := ins_imm_some a b c d e hb
    rw [h1, h2, h3, h4]
    simp only [Option.bind_some]
    repeat' split
    all_goals exact ⟨_, rfl, fun _ => hb⟩
theorem ins_parts_some (f : ByteArray) : ∃ r, ins_parts.f f = some r ∧ r.length ≤ 4 := by
  unfold ins_parts.f
  repeat' split
  all_goals exact ⟨_, rfl, by simp⟩
theorem encode_l0 (y : Int) (xs : List S103) (hx : xs.length ≤ 4) : ∀ (n i k : Nat) (w : Int), xs.length = i + n → n < k → ∃ r, ins_Encode.l0 k w y xs xs.length i = some r := by
  intro n
  induction n with
  | zero =>
    intro i k w hn hk
    obtain ⟨k, rfl⟩ : ∃ k', k = k' + 1 := ⟨k - 1, by omega⟩
    rw [ins_Encode.l0, if_neg (by omega)]
    exact ⟨_, rfl⟩
  | succ n ih =>
    intro i k w hn hk
    obtain ⟨k, rfl⟩ : ∃ k', k = k' + 1 := ⟨k - 1, by omega⟩
    have hw : wrap64 ((i : Int) + 1) = ((i + 1 : Nat) : Int) := by
      rw [show (i : Int) + 1 = ((i + 1 : Nat) : Int) from by omega]
      exact IntWalk.wrap64_in _ (by omega)
    rw [ins_Encode.l0, if_pos (by omega), if_pos (by omega), if_pos (by omega), hw]
    obtain ⟨r1, h1⟩ := bits_Field_some y ((rd_T103 xs i).f0) ((rd_T103 xs i).f1)
    rw [h1]
    simp only [Option.bind_some]
    obtain ⟨r2, h2⟩ := bits_Put_some w ((rd_T103 xs i).f2) ((rd_T103 xs i).f1) r1.1
    rw [h2]
    simp only [Option.bind_some]
    exact ih (i + 1) k _ (by omega) (by omega)
theorem encode_j2 (k : Nat) (a b : Int) (f : ByteArray) (c d e : Int) : ∃ r, ins_Encode.j2 (k + 6) a b f c d e = some r := by
  rw [ins_Encode.j2]
  obtain ⟨r, hr, hl⟩ := ins_parts_some f
  rw [hr]
  simp only [Option.bind_some]
  exact encode_l0 _ r hl r.length 0 _ _ (by omega) (by omega)
theorem encode_j1 (k : Nat) (x a b c d e : Int) (f : ByteArray) (g h i : Int) : ∃ r, ins_Encode.j1 (k + 7) x a b c d e f g h i = some r := by
  rw [ins_Encode.j1]
  obtain ⟨r, hr⟩ := ins_shift_some a
  rw [hr]
  simp only [Option.bind_some]
  repeat' split
  all_goals exact encode_j2 _ _ _ _ _ _ _
theorem encode_j0 (k : Nat) (x : Int) (t : Bool) (a b c d e : Int) (f : ByteArray) (g h i : Int) : ∃ r, ins_Encode.j0 (k + 8) x t a b c d e f g h i = some r := by
  rw [ins_Encode.j0]
  repeat' split
  all_goals exact encode_j1 _ _ _ _ _ _ _ _ _ _ _
theorem encode_some (k : Nat) (a b c d e : Int) : ∃ r, ins_Encode.f (k + 8) a b c d e = some r := by
  unfold ins_Encode.f
  obtain ⟨r, hr, hb⟩ := ins_May_some (k + 7) a b c d e
  rw [hr]
  simp only [Option.bind_some]
  split
  · rename_i h
    obtain ⟨h1, h2⟩ := hb h
    rw [if_pos h1, if_pos h2]
    repeat' split
    all_goals first | exact ⟨_, rfl⟩ | exact encode_j0 _ _ _ _ _ _ _ _ _ _ _ _
  · exact ⟨_, rfl⟩
/-- An instruction's word, and whether it is one. -/
def encP (x : S43) : Int × Int := (ins_Encode.f 20 x.f0 x.f1 x.f2 x.f3 x.f4).getD (0, 0)
theorem encode_f (x : S43) : ins_Encode.f 20 x.f0 x.f1 x.f2 x.f3 x.f4 = some ((encP x).1, (encP x).2) := by
  obtain ⟨r, hr⟩ := encode_some 12 x.f0 x.f1 x.f2 x.f3 x.f4
  unfold encP
  rw [hr]
  rfl
end Go.Proofs.YtaoajlaocphgdaaDoor.PA
