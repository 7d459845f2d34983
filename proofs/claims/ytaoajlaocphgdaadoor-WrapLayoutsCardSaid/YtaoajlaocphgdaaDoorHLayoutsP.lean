/-
Plain: layouts moved, and spoilt.
-/
import Derived.Test.YtaoajlaocphgdaaDoorHLay
import Derived.Test.YtaoajlaocphgdaaDoorHEnc
namespace Go.Proofs.YtaoajlaocphgdaaDoor.PA
open Go.RowKit Go.Proofs.YtaoajlaocphgdaaDoorW.PrintWords Go.Proofs.YtaoajlaocphgdaaDoorW.PrintLast Go.Proofs.YtaoajlaocphgdaaDoorW.PrintMore
set_option linter.unusedVariables false

/-- The laws' own layout, its first n regions moved by d. -/
def shiftL (d : Int) (n : Nat) : LayV :=
  let s := fun (k : Nat) (x : Int) => if k < n then x + d else x
  ⟨s 0 65536, s 0 81920, 0, 0, s 1 131072, s 1 139280, 0, 0, s 2 196608, s 2 262144, 0, 0, s 3 262144, s 3 262208, 0, 0, s 4 327680, s 4 328704, 0, 0⟩
theorem or8 (a b : Nat) (ha : 8 * a < 18446744073709551616) (hb : 8 * b < 18446744073709551616) : Int.tmod (Go.bits .or .u64 ((8 * a : Nat) : Int) ((8 * b : Nat) : Int)) 8 = 0 := by
  have h8 : (8 * a) ||| (8 * b) = 8 * (a ||| b) := by
    have := Nat.shiftLeft_or_distrib (a := a) (b := b) (i := 3)
    simp only [Nat.shiftLeft_eq] at this
    rw [Nat.mul_comm 8 a, Nat.mul_comm 8 b, Nat.mul_comm 8 (a ||| b)]
    exact this.symm
  have hlt : 8 * (a ||| b) < 18446744073709551616 := by
    rw [← h8]
    exact Nat.or_lt_two_pow (n := 64) (by omega) (by omega)
  have hb : Go.bits .or .u64 ((8 * a : Nat) : Int) ((8 * b : Nat) : Int) = ((8 * (a ||| b) : Nat) : Int) := by
    show IntKind.u64.wrap ((((BitVec.ofInt 64 ((8 * a : Nat) : Int)) ||| (BitVec.ofInt 64 ((8 * b : Nat) : Int)) : BitVec 64).toNat : Nat) : Int) = _
    rw [BitVec.toNat_or, BitVec.ofInt_natCast, BitVec.ofInt_natCast, BitVec.toNat_ofNat, BitVec.toNat_ofNat, Nat.mod_eq_of_lt (by omega), Nat.mod_eq_of_lt (by omega), h8]
    exact IntWalk.u64_in _ (by omega)
  rw [hb, Int.natCast_mul]
  exact Int.mul_tmod_right 8 _
theorem or4 (a b : Nat) (ha : 8 * a + 4 < 18446744073709551616) (hb : 8 * b < 18446744073709551616) : Int.tmod (Go.bits .or .u64 ((8 * a + 4 : Nat) : Int) ((8 * b : Nat) : Int)) 8 ≠ 0 := by
  have hm : ((8 * a + 4) ||| (8 * b)) % 8 = 4 := by
    have := Nat.or_mod_two_pow (a := 8 * a + 4) (b := 8 * b) (n := 3)
    rw [show (2 : Nat) ^ 3 = 8 from rfl] at this
    rw [this, show (8 * a + 4) % 8 = 4 from by omega, show (8 * b) % 8 = 0 from by omega]
    rfl
  have hlt : ((8 * a + 4) ||| (8 * b)) < 18446744073709551616 := Nat.or_lt_two_pow (n := 64) (by omega) (by omega)
  have hb : Go.bits .or .u64 ((8 * a + 4 : Nat) : Int) ((8 * b : Nat) : Int) = (((8 * a + 4) ||| (8 * b) : Nat) : Int) := by
    show IntKind.u64.wrap ((((BitVec.ofInt 64 ((8 * a + 4 : Nat) : Int)) ||| (BitVec.ofInt 64 ((8 * b : Nat) : Int)) : BitVec 64).toNat : Nat) : Int) = _
    rw [BitVec.toNat_or, BitVec.ofInt_natCast, BitVec.ofInt_natCast, BitVec.toNat_ofNat, BitVec.toNat_ofNat, Nat.mod_eq_of_lt (by omega), Nat.mod_eq_of_lt (by omega)]
    exact IntWalk.u64_in _ (by omega)
  rw [hb, Int.tmod_eq_emod_of_nonneg (by omega)]
  omega
theorem mayGo_ok {r : S25} {t : List S25} {last : Int} {fin : Bool} (a b : Nat) (ha : r.f0 = (8 * a : Nat)) (hb : r.f1 = (8 * b : Nat)) (h1 : last ≤ r.f0) (h2 : r.f0 < r.f1) (h3 : r.f1 ≤ 1073741824) (h4 : r.f1 - r.f0 ≤ 65536) : mayGo (r :: t) last fin = mayGo t r.f1 fin := by
  have h8 := or8 a b (by omega) (by omega)
  rw [← ha, ← hb] at h8
  simp only [mayGo]
  rw [if_neg (by omega), if_neg (by omega), if_pos h8, if_neg (by omega), if_neg (by rw [IntWalk.u64_in _ (by omega)]; omega)]
theorem mayGo_bad {r : S25} {t : List S25} {last : Int} {fin : Bool} (h : r.f0 < last ∨ r.f1 ≤ r.f0 ∨ 1073741824 < r.f1 ∨ Int.tmod (Go.bits .or .u64 r.f0 r.f1) 8 ≠ 0 ∨ IntKind.u64.wrap (r.f1 - r.f0) > 65536) : mayGo (r :: t) last fin = false := by
  simp only [mayGo]
  repeat' split
  all_goals first | rfl | (exfalso; rcases h with h | h | h | h | h <;> first | omega | contradiction)
theorem may_shift (k : Nat) (hk : k ≤ 65535) : mayL (shiftL (8 * k) 5) = true := by
  unfold mayL LayV.regions shiftL
  simp only [Nat.lt_irrefl, if_true, show (0 : Nat) < 5 from by decide, show (1 : Nat) < 5 from by decide, show (2 : Nat) < 5 from by decide, show (3 : Nat) < 5 from by decide, show (4 : Nat) < 5 from by decide]
  rw [mayGo_ok (8192 + k) (10240 + k) (by simp only []; omega) (by simp only []; omega) (by simp only []; omega) (by simp only []; omega) (by simp only []; omega) (by simp only []; omega),
    mayGo_ok (16384 + k) (17410 + k) (by simp only []; omega) (by simp only []; omega) (by simp only []; omega) (by simp only []; omega) (by simp only []; omega) (by simp only []; omega),
    mayGo_ok (24576 + k) (32768 + k) (by simp only []; omega) (by simp only []; omega) (by simp only []; omega) (by simp only []; omega) (by simp only []; omega) (by simp only []; omega),
    mayGo_ok (32768 + k) (32776 + k) (by simp only []; omega) (by simp only []; omega) (by simp only []; omega) (by simp only []; omega) (by simp only []; omega) (by simp only []; omega),
    mayGo_ok (40960 + k) (41088 + k) (by simp only []; omega) (by simp only []; omega) (by simp only []; omega) (by simp only []; omega) (by simp only []; omega) (by simp only []; omega)]
  simp only [mayGo]
  rw [IntWalk.u64_in _ (by omega), if_pos (by omega), IntWalk.u64_in _ (by omega)]
  exact decide_eq_true (by omega)
end Go.Proofs.YtaoajlaocphgdaaDoor.PA
