/-
WrapLeaves: for every list of parameters and every layout the law says true: of a wrapper, each instruction that goes somewhere goes within it, but the call, and the one by register 1 at its end; what is stored, and loaded, is so by register 5, at 0 and 8 alone; the card with its listed variables tied to the program's text. Nothing is asked of the input. From what the listed package variables read as to what the walks ask of the world. A layout that comes in, laid open: its twenty cells are whole numbers. The law WrapLeaves: it says true.
-/
import Derived.Test.YtaoajlaocphgdaaDoorLv6
import Derived.Test.YtaoajlaocphgdaaDoorRows
import Derived.ProofKit
import Derived.LaidMore
import Derived.OpenShut
import Derived.Stop.Joined
import Derived.Lib.LaidU8
import Derived.Lib.SmallJoins
import Derived.Test.YtaoajlaocphgdaaDoorCards
import Derived.Test.YtaoajlaocphgdaaDoorTie
import Derived.WalkKit
import Derived.Lay
import Derived.SevenTiedAt
import Derived.Below

section
namespace Go.Proofs.YtaoajlaocphgdaaDoor.PA
open Go.RowKit Go.Proofs.YtaoajlaocphgdaaDoorW.PrintWords Go.Proofs.YtaoajlaocphgdaaDoorW.PrintLast Go.Proofs.YtaoajlaocphgdaaDoorW.PrintMore
set_option linter.unusedVariables false
set_option linter.unusedSimpArgs false
theorem u64_nat (a : Nat) (h : a < 2 ^ 64) : IntKind.u64.wrap (a : Int) = (a : Int) := IntWalk.u64_in _ (by omega)
theorem or_nat (a b : Nat) (ha : a < 2 ^ 64) (hb : b < 2 ^ 64) : Go.bits .or .u64 (a : Int) (b : Int) = ((a ||| b : Nat) : Int) := by
  show IntKind.u64.wrap ((((BitVec.ofInt 64 (a : Int)) ||| (BitVec.ofInt 64 (b : Int)) : BitVec 64).toNat : Nat) : Int) = _
  rw [BitVec.toNat_or, BitVec.ofInt_natCast, BitVec.ofInt_natCast, BitVec.toNat_ofNat, BitVec.toNat_ofNat, Nat.mod_eq_of_lt ha, Nat.mod_eq_of_lt hb]
  exact u64_nat _ (Nat.or_lt_two_pow ha hb)
theorem and_nat (a b : Nat) (ha : a < 2 ^ 64) (hb : b < 2 ^ 64) : Go.bits .and .u64 (a : Int) (b : Int) = ((a &&& b : Nat) : Int) := by
  show IntKind.u64.wrap ((((BitVec.ofInt 64 (a : Int)) &&& (BitVec.ofInt 64 (b : Int)) : BitVec 64).toNat : Nat) : Int) = _
  rw [BitVec.toNat_and, BitVec.ofInt_natCast, BitVec.ofInt_natCast, BitVec.toNat_ofNat, BitVec.toNat_ofNat, Nat.mod_eq_of_lt ha, Nat.mod_eq_of_lt hb]
  exact u64_nat _ (Nat.and_lt_two_pow _ hb)
theorem andNot_nat (a b : Nat) (ha : a < 2 ^ 64) (hb : b < 2 ^ 64) : Go.bits .andNot .u64 (a : Int) (b : Int) = ((a &&& (2 ^ 64 - (b + 1)) : Nat) : Int) := by
  show IntKind.u64.wrap ((((BitVec.ofInt 64 (a : Int)) &&& ~~~ (BitVec.ofInt 64 (b : Int)) : BitVec 64).toNat : Nat) : Int) = _
  rw [BitVec.toNat_and, BitVec.toNat_not, BitVec.ofInt_natCast, BitVec.ofInt_natCast, BitVec.toNat_ofNat, BitVec.toNat_ofNat, Nat.mod_eq_of_lt ha, Nat.mod_eq_of_lt hb, show 2 ^ 64 - 1 - b = 2 ^ 64 - (b + 1) from by omega]
  exact u64_nat _ (Nat.and_lt_two_pow _ (by omega))
theorem or_add {a b : Nat} (k : Nat) (ha : a < 2 ^ k) (q : Nat) (hb : b = q * 2 ^ k) : a ||| b = a + b := by
  subst hb
  have := Nat.two_pow_add_eq_or_of_lt ha q
  rw [Nat.mul_comm q, Nat.or_comm, ← this, Nat.add_comm]
theorem mask_f (n : Nat) (h : n ≤ 64) : bits_mask.f (n : Int) = some ((2 ^ n - 1 : Nat) : Int) := by
  have H : ∀ n : Fin 65, bits_mask.f (n.val : Int) = some ((2 ^ n.val - 1 : Nat) : Int) := by decide +kernel
  exact H ⟨n, by omega⟩
theorem may_bits (a n : Nat) (h : a + n ≤ 64) : bits_may.f (a : Int) (n : Int) = some true := by
  unfold bits_may.f
  rw [if_pos (by omega), if_pos (by omega), if_pos (by omega), IntWalk.wrap64_in _ (by omega)]
  exact congrArg some (decide_eq_true (by omega))
theorem shr_nat (v a : Nat) (h : a ≤ 64) : shr .u64 (v : Int) (a : Int) = ((v / 2 ^ a : Nat) : Int) := by
  unfold shr
  rw [show min (a : Int).toNat IntKind.u64.bits = a from by rw [Int.toNat_natCast]; exact Nat.min_eq_left h]
  rw [Int.natCast_ediv, Int.natCast_pow]
  rfl
theorem shl_nat (v a : Nat) (h : a ≤ 64) (hv : v * 2 ^ a < 2 ^ 64) : shl .u64 (v : Int) (a : Int) = ((v * 2 ^ a : Nat) : Int) := by
  unfold shl
  rw [show min (a : Int).toNat IntKind.u64.bits = a from by rw [Int.toNat_natCast]; exact Nat.min_eq_left h]
  rw [← u64_nat _ hv, Int.natCast_mul, Int.natCast_pow]
  rfl
theorem field_f (v a n : Nat) (hv : v < 2 ^ 64) (h : a + n ≤ 64) : bits_Field.f (v : Int) (a : Int) (n : Int) = some (((v / 2 ^ a % 2 ^ n : Nat) : Int), true) := by
  unfold bits_Field.f
  rw [may_bits a n h, Option.bind_some, if_pos rfl, if_pos (by omega), mask_f n (by omega), Option.bind_some, shr_nat v a (by omega)]
  have h1 : v / 2 ^ a < 2 ^ 64 := Nat.lt_of_le_of_lt (Nat.div_le_self _ _) hv
  have h2 : 2 ^ n - 1 < 2 ^ 64 := by have := Nat.pow_le_pow_right (show 0 < 2 by decide) (show n ≤ 64 by omega); have := Nat.two_pow_pos n; omega
  rw [and_nat _ _ h1 h2, Nat.and_two_pow_sub_one_eq_mod]
theorem put_clear (w p n : Nat) (hw : w < 2 ^ 64) (h : p + n ≤ 64) (h0 : w / 2 ^ p % 2 ^ n = 0) : w &&& (2 ^ 64 - ((2 ^ n - 1) * 2 ^ p + 1)) = w := by
  have hm : (2 ^ n - 1) * 2 ^ p < 2 ^ 64 := by
    have h1 := Nat.two_pow_pos n
    have h2 : 2 ^ n * 2 ^ p ≤ 2 ^ 64 := by rw [← Nat.pow_add]; exact Nat.pow_le_pow_right (by decide) (by omega)
    have h3 : (2 ^ n - 1) * 2 ^ p < 2 ^ n * 2 ^ p := Nat.mul_lt_mul_of_pos_right (by omega) (Nat.two_pow_pos _)
    omega
  apply Nat.eq_of_testBit_eq
  intro i
  rw [Nat.testBit_and, Nat.testBit_two_pow_sub_succ hm]
  by_cases hi : i < 64
  · by_cases hr : p ≤ i ∧ i < p + n
    · have hb : w.testBit i = false := by
        have := congrArg (fun x => x.testBit (i - p)) h0
        simp only [Nat.testBit_mod_two_pow, Nat.testBit_div_two_pow, Nat.zero_testBit] at this
        rw [show i - p + p = i from by omega, decide_eq_true (show i - p < n by omega)] at this
        simpa using this
      rw [hb]; rfl
    · have hb : ((2 ^ n - 1) * 2 ^ p).testBit i = false := by
        rw [Nat.testBit_mul_two_pow, Nat.testBit_two_pow_sub_one]
        by_cases h1 : p ≤ i
        · rw [decide_eq_false (show ¬ (i - p < n) by omega)]; simp
        · rw [decide_eq_false h1]; rfl
      rw [hb, decide_eq_true hi]; simp
  · have hb : w.testBit i = false := Nat.testBit_lt_two_pow (Nat.lt_of_lt_of_le hw (Nat.pow_le_pow_right (by decide) (by omega)))
    rw [hb]; rfl
theorem put_or (w p n x : Nat) (hx : x < 2 ^ n) (h0 : w / 2 ^ p % 2 ^ n = 0) : w ||| x * 2 ^ p = w + x * 2 ^ p := by
  have e1 : w = w / 2 ^ p / 2 ^ n * 2 ^ (n + p) + w % 2 ^ p := by
    have a := Nat.div_add_mod (w / 2 ^ p) (2 ^ n)
    have b := Nat.div_add_mod w (2 ^ p)
    rw [h0, Nat.add_zero] at a
    rw [Nat.pow_add, ← Nat.mul_assoc, Nat.mul_comm _ (2 ^ n), a, Nat.mul_comm, b]
  obtain ⟨hi, hhi⟩ : ∃ hi, hi = w / 2 ^ p / 2 ^ n := ⟨_, rfl⟩
  obtain ⟨lo, hlo⟩ : ∃ lo, lo = w % 2 ^ p := ⟨_, rfl⟩
  have hl : lo < 2 ^ p := by rw [hlo]; exact Nat.mod_lt _ (Nat.two_pow_pos _)
  rw [← hhi, ← hlo] at e1
  have c1 : lo + x * 2 ^ p < 2 ^ (n + p) := by
    have : (x + 1) * 2 ^ p ≤ 2 ^ n * 2 ^ p := Nat.mul_le_mul_right _ (by omega)
    rw [← Nat.pow_add, Nat.add_mul, Nat.one_mul] at this
    omega
  have c2 : lo < 2 ^ (n + p) := Nat.lt_of_le_of_lt (Nat.le_add_right _ _) c1
  have d1 := or_add (a := lo) (n + p) c2 hi rfl
  have d2 := or_add (a := lo + x * 2 ^ p) (n + p) c1 hi rfl
  have d3 := or_add (a := lo) p hl x rfl
  have hw : w = lo ||| hi * 2 ^ (n + p) := by rw [d1]; omega
  calc w ||| x * 2 ^ p = (lo ||| x * 2 ^ p) ||| hi * 2 ^ (n + p) := by rw [hw, Nat.or_assoc, Nat.or_comm (hi * 2 ^ (n + p)), ← Nat.or_assoc]
    _ = w + x * 2 ^ p := by rw [d3, d2]; omega
theorem put_f (w p n x : Nat) (hw : w < 2 ^ 64) (hx : x < 2 ^ 64) (h : p + n ≤ 64) (h0 : w / 2 ^ p % 2 ^ n = 0) : bits_Put.f (w : Int) (p : Int) (n : Int) (x : Int) = some (((w + x % 2 ^ n * 2 ^ p : Nat) : Int), true) := by
  have h2 : 2 ^ n - 1 < 2 ^ 64 := by have := Nat.pow_le_pow_right (show 0 < 2 by decide) (show n ≤ 64 by omega); have := Nat.two_pow_pos n; omega
  have hp : 2 ^ n * 2 ^ p ≤ 2 ^ 64 := by rw [← Nat.pow_add]; exact Nat.pow_le_pow_right (by decide) (by omega)
  have hm : ∀ y, y < 2 ^ n → y * 2 ^ p < 2 ^ 64 := by
    intro y hy
    have h3 : y * 2 ^ p < 2 ^ n * 2 ^ p := Nat.mul_lt_mul_of_pos_right hy (Nat.two_pow_pos _)
    omega
  have hmm := hm (2 ^ n - 1) (by have := Nat.two_pow_pos n; omega)
  have hxn : x % 2 ^ n < 2 ^ n := Nat.mod_lt _ (Nat.two_pow_pos _)
  have hmx := hm (x % 2 ^ n) hxn
  unfold bits_Put.f
  rw [may_bits p n h, Option.bind_some, if_pos rfl, mask_f n (by omega), Option.bind_some, if_pos (by omega), shl_nat _ _ (by omega) hmm, and_nat _ _ hx h2, Nat.and_two_pow_sub_one_eq_mod, shl_nat _ _ (by omega) hmx, andNot_nat _ _ hw hmm, put_clear w p n hw h h0, or_nat _ _ hw hmx, put_or w p n _ hxn h0]
theorem rbit_f (v i : Nat) (hi : i ≤ 64) : caponierref01_Bit.f (v : Int) (i : Int) = some ((v / 2 ^ i % 2 : Nat) : Int) := by
  unfold caponierref01_Bit.f
  rw [u64_nat i (by omega), if_pos (by omega), shr_nat v i hi, Int.tmod_eq_emod_of_nonneg (Int.natCast_nonneg _)]
  rfl
theorem rfield_l0 (v a : Nat) (hv : v < 2 ^ 64) : ∀ (m k out : Nat), m < k → a + m ≤ 64 → (out + 1) * 2 ^ m ≤ 2 ^ 64 →
    caponierref01_Field.l0 k (v : Int) (a : Int) (out : Int) ((a : Int) + m - 1) = some (((out * 2 ^ m + v / 2 ^ a % 2 ^ m : Nat) : Int), true) := by
  intro m
  induction m with
  | zero =>
    intro k out hk ha ho
    obtain ⟨k, rfl⟩ : ∃ j, k = j + 1 := ⟨k - 1, by omega⟩
    rw [caponierref01_Field.l0, if_neg (by omega)]
    simp [Nat.mod_one]
  | succ m ih =>
    intro k out hk ha ho
    obtain ⟨k, rfl⟩ : ∃ j, k = j + 1 := ⟨k - 1, by omega⟩
    have hb : v / 2 ^ (a + m) % 2 < 2 := Nat.mod_lt _ (by decide)
    have ho2 : (2 * out + (v / 2 ^ (a + m) % 2) + 1) * 2 ^ m ≤ 2 ^ 64 := by
      rw [Nat.pow_succ, Nat.mul_comm (2 ^ m) 2, ← Nat.mul_assoc] at ho
      exact Nat.le_trans (Nat.mul_le_mul_right _ (by omega)) ho
    have hsm : 2 * out + (v / 2 ^ (a + m) % 2) + 1 ≤ 2 ^ 64 := Nat.le_trans (Nat.le_mul_of_pos_right _ (Nat.two_pow_pos _)) ho2
    rw [caponierref01_Field.l0, if_pos (by omega), show (a : Int) + ((m + 1 : Nat) : Int) - 1 = ((a + m : Nat) : Int) from by omega, rbit_f v (a + m) (by omega), Option.bind_some,
      show (2 : Int) * (out : Int) = ((2 * out : Nat) : Int) from by omega, u64_nat (2 * out) (by omega), show ((2 * out : Nat) : Int) + ((v / 2 ^ (a + m) % 2 : Nat) : Int) = ((2 * out + v / 2 ^ (a + m) % 2 : Nat) : Int) from by omega, u64_nat _ (by omega), IntWalk.wrap64_in _ (by omega),
      show ((a + m : Nat) : Int) - 1 = (a : Int) + (m : Int) - 1 from by omega, ih k _ (by omega) (by omega) ho2]
    have e1 : v / 2 ^ a % 2 ^ (m + 1) = v / 2 ^ a % 2 ^ m + 2 ^ m * (v / 2 ^ (a + m) % 2) := by rw [Nat.mod_pow_succ, Nat.div_div_eq_div_mul, ← Nat.pow_add]
    rw [e1, Nat.pow_succ, Nat.add_mul, Nat.mul_comm 2 out, Nat.mul_assoc, Nat.mul_comm 2 (2 ^ m), Nat.mul_comm (v / 2 ^ (a + m) % 2) (2 ^ m)]
    congr 2
    omega
theorem rfield_f (k v a n : Nat) (hk : n < k) (hv : v < 2 ^ 64) (h : a + n ≤ 64) : caponierref01_Field.f k (v : Int) (a : Int) (n : Int) = some (((v / 2 ^ a % 2 ^ n : Nat) : Int), true) := by
  unfold caponierref01_Field.f
  have hm : caponierref01_May.f (a : Int) (n : Int) = some true := by
    unfold caponierref01_May.f
    repeat' rw [if_pos (by omega)]
    try rw [IntWalk.wrap64_in _ (by omega)]
    exact congrArg some (decide_eq_true (by omega))
  rw [hm, Option.bind_some, if_pos rfl, IntWalk.wrap64_in ((a : Int) + n) (by omega), IntWalk.wrap64_in _ (by omega)]
  have := rfield_l0 v a hv n k 0 hk h (by rw [Nat.zero_add, Nat.one_mul]; exact Nat.pow_le_pow_right (by decide) (by omega))
  rw [Nat.zero_mul, Nat.zero_add] at this
  exact this
theorem rbit2_l0 : ∀ (m k v i : Nat), m < k → i + m ≤ 64 → v * 2 ^ m < 2 ^ 64 → caponierref02_bit.l0 k ((i + m : Nat) : Int) (v : Int) (i : Int) = some ((v * 2 ^ m : Nat) : Int) := by
  intro m
  induction m with
  | zero =>
    intro k v i hk hi hv
    obtain ⟨k, rfl⟩ : ∃ j, k = j + 1 := ⟨k - 1, by omega⟩
    rw [caponierref02_bit.l0, if_neg (by omega), Nat.pow_zero, Nat.mul_one]
  | succ m ih =>
    intro k v i hk hi hv
    obtain ⟨k, rfl⟩ : ∃ j, k = j + 1 := ⟨k - 1, by omega⟩
    have hv2 : v * 2 * 2 ^ m < 2 ^ 64 := by rw [Nat.mul_assoc, Nat.mul_comm 2, ← Nat.pow_succ]; exact hv
    have hv3 : v * 2 < 2 ^ 64 := Nat.lt_of_le_of_lt (Nat.le_mul_of_pos_right _ (Nat.two_pow_pos _)) hv2
    rw [caponierref02_bit.l0, if_pos (by omega), show (v : Int) * 2 = ((v * 2 : Nat) : Int) from by omega, u64_nat _ hv3, IntWalk.wrap64_in _ (by omega), show (i : Int) + 1 = ((i + 1 : Nat) : Int) from by omega,
      show i + (m + 1) = (i + 1) + m from by omega, ih k (v * 2) (i + 1) (by omega) (by omega) hv2, Nat.mul_assoc, Nat.mul_comm 2, ← Nat.pow_succ]
def u64N (x : Int) : Nat := (x % 18446744073709551616).toNat
theorem u64N_lt (x : Int) : u64N x < 2 ^ 64 := by unfold u64N; omega
theorem wrap_u64N (x : Int) : IntKind.u64.wrap x = (u64N x : Int) := by
  unfold u64N
  rw [Int.toNat_of_nonneg (by omega)]
  simp [IntKind.wrap, IntKind.bits, IntKind.signed]
theorem rbit2_f (k : Nat) (x : Int) (a n p : Nat) (hk : 65 < k) (h : a + n ≤ 64) (ht : p + n ≤ 64) : caponierref02_bit.f k x (a : Int) (n : Int) (p : Int) = some ((u64N x / 2 ^ a % 2 ^ n * 2 ^ p : Nat) : Int) := by
  unfold caponierref02_bit.f
  rw [wrap_u64N, rfield_f k (u64N x) a n (by omega) (u64N_lt x) h, Option.bind_some]
  have hp : 2 ^ n * 2 ^ p ≤ 2 ^ 64 := by rw [← Nat.pow_add]; exact Nat.pow_le_pow_right (by decide) (by omega)
  have h3 : u64N x / 2 ^ a % 2 ^ n * 2 ^ p < 2 ^ n * 2 ^ p := Nat.mul_lt_mul_of_pos_right (Nat.mod_lt _ (Nat.two_pow_pos _)) (Nat.two_pow_pos _)
  have := rbit2_l0 p k (u64N x / 2 ^ a % 2 ^ n) 0 (by omega) (by omega) (by omega)
  rw [Nat.zero_add] at this
  exact this
end Go.Proofs.YtaoajlaocphgdaaDoor.PA
namespace Go.Proofs.YtaoajlaocphgdaaDoor.PA
open Go.RowKit Go.Proofs.YtaoajlaocphgdaaDoorW.PrintWords Go.Proofs.YtaoajlaocphgdaaDoorW.PrintLast Go.Proofs.YtaoajlaocphgdaaDoorW.PrintMore
set_option linter.unusedVariables false
set_option linter.unusedSimpArgs false
theorem wrap_u64 (n : Int) : IntKind.u64.wrap n = n % 18446744073709551616 := by simp [IntKind.wrap, IntKind.bits, IntKind.signed]
def sgn (v n : Nat) : Int := if v % 2 ^ n < 2 ^ (n - 1) then ((v % 2 ^ n : Nat) : Int) else ((v % 2 ^ n : Nat) : Int) - ((2 ^ n : Nat) : Int)
theorem sign_f (v n : Nat) (h1 : 1 ≤ n) (h2 : n ≤ 64) : bits_Sign.f (v : Int) (n : Int) = some (sgn v n) := by
  unfold bits_Sign.f
  rw [if_neg (by omega), if_neg (by omega), IntWalk.wrap64_in _ (by omega), if_pos (by omega)]
  obtain ⟨m, rfl⟩ : ∃ m, n = m + 1 := ⟨n - 1, by omega⟩
  have hq : 2 ^ (m + 1) * 2 ^ (64 - (m + 1)) = 2 ^ 64 := by rw [← Nat.pow_add, show m + 1 + (64 - (m + 1)) = 64 from by omega]
  have hh : 2 ^ m * 2 ^ (64 - (m + 1)) = 2 ^ 63 := by rw [← Nat.pow_add, show m + (64 - (m + 1)) = 63 from by omega]
  have e64 : (64 : Int) - ((m + 1 : Nat) : Int) = ((64 - (m + 1) : Nat) : Int) := by omega
  rw [e64]
  have es : shl .u64 (v : Int) ((64 - (m + 1) : Nat) : Int) = ((v % 2 ^ (m + 1) * 2 ^ (64 - (m + 1)) : Nat) : Int) := by
    unfold shl
    rw [show min (((64 - (m + 1) : Nat) : Int)).toNat IntKind.u64.bits = 64 - (m + 1) from by rw [Int.toNat_natCast]; exact Nat.min_eq_left (by show _ ≤ 64; omega), wrap_u64]
    rw [← Nat.mul_mod_mul_right, hq, Int.natCast_emod, Int.natCast_mul, Int.natCast_pow]
    rfl
  rw [es]
  obtain ⟨q, hqq⟩ : ∃ q, q = 2 ^ (64 - (m + 1)) := ⟨_, rfl⟩
  obtain ⟨r, hr⟩ : ∃ r, r = v % 2 ^ (m + 1) := ⟨_, rfl⟩
  have hrl : r < 2 ^ (m + 1) := by rw [hr]; exact Nat.mod_lt _ (Nat.two_pow_pos _)
  have hqp : 0 < q := by rw [hqq]; exact Nat.two_pow_pos _
  unfold sgn shr
  rw [show min (((64 - (m + 1) : Nat) : Int)).toNat IntKind.i64.bits = 64 - (m + 1) from by rw [Int.toNat_natCast]; exact Nat.min_eq_left (by show _ ≤ 64; omega), show m + 1 - 1 = m from rfl, ← hr, ← hqq,
    show (2 : Int) ^ (64 - (m + 1)) = (q : Int) from by rw [hqq, Int.natCast_pow]; rfl]
  rw [← hqq] at hq hh
  have hrq : r * q < 2 ^ 64 := by rw [← hq]; exact Nat.mul_lt_mul_of_pos_right hrl hqp
  by_cases hc : r < 2 ^ m
  · have hlt : r * q < 2 ^ 63 := by rw [← hh]; exact Nat.mul_lt_mul_of_pos_right hc hqp
    rw [if_pos hc, IntWalk.wrap64_in _ (by omega), Int.natCast_mul, Int.mul_ediv_cancel _ (by omega)]
  · have hge : 2 ^ 63 ≤ r * q := by rw [← hh]; exact Nat.mul_le_mul_right _ (by omega)
    have hw : wrap64 ((r * q : Nat) : Int) = ((r : Int) - ((2 ^ (m + 1) : Nat) : Int)) * (q : Int) := by
      rw [Int.sub_mul, ← Int.natCast_mul, ← Int.natCast_mul, hq]
      unfold wrap64
      omega
    rw [if_neg hc, hw, Int.mul_ediv_cancel _ (by omega)]
theorem rsign_l0 (v n T : Nat) (h1 : 1 ≤ n) (h2 : n ≤ 64) (hT : T < 2 ^ 64)
    (hb : ∀ i, i < 64 → T / 2 ^ i % 2 = if i < n then v / 2 ^ i % 2 else v / 2 ^ (n - 1) % 2) : ∀ (m k : Nat), m < k → m ≤ 64 →
    caponierref01_Sign.l0 k (v : Int) (n : Int) ((T / 2 ^ m : Nat) : Int) ((m : Int) - 1) = some (wrap64 (T : Int)) := by
  intro m
  induction m with
  | zero =>
    intro k hk hm
    obtain ⟨k, rfl⟩ : ∃ j, k = j + 1 := ⟨k - 1, by omega⟩
    rw [caponierref01_Sign.l0, if_neg (by omega), Nat.pow_zero, Nat.div_one]
  | succ m ih =>
    intro k hk hm
    obtain ⟨k, rfl⟩ : ∃ j, k = j + 1 := ⟨k - 1, by omega⟩
    have hbm := hb m (by omega)
    have hd : T / 2 ^ m = 2 * (T / 2 ^ (m + 1)) + T / 2 ^ m % 2 := by
      have := Nat.div_add_mod (T / 2 ^ m) 2
      rw [Nat.div_div_eq_div_mul, ← Nat.pow_succ] at this
      exact this.symm
    have hdl : T / 2 ^ m ≤ T := Nat.div_le_self _ _
    have hstep : ∀ b : Nat, b = T / 2 ^ m % 2 → IntKind.u64.wrap (IntKind.u64.wrap (2 * ((T / 2 ^ (m + 1) : Nat) : Int)) + (b : Int)) = ((T / 2 ^ m : Nat) : Int) := by
      intro b he
      rw [show (2 : Int) * ((T / 2 ^ (m + 1) : Nat) : Int) = ((2 * (T / 2 ^ (m + 1)) : Nat) : Int) from by rw [Int.natCast_mul]; rfl, u64_nat _ (by omega), ← Int.natCast_add, u64_nat _ (by omega)]
      congr 1
      omega
    rw [caponierref01_Sign.l0, if_pos (by omega), IntWalk.wrap64_in _ (by omega), show (n : Int) - 1 = ((n - 1 : Nat) : Int) from by omega, rbit_f v (n - 1) (by omega), Option.bind_some,
      show ((m + 1 : Nat) : Int) - 1 = (m : Int) from by omega]
    by_cases hc : m < n
    · rw [if_pos (by omega), rbit_f v m (by omega), Option.bind_some, hstep _ (by rw [hbm, if_pos hc]), IntWalk.wrap64_in _ (by omega)]
      exact ih k (by omega) (by omega)
    · rw [if_neg (by omega), hstep _ (by rw [hbm, if_neg hc]), IntWalk.wrap64_in _ (by omega)]
      exact ih k (by omega) (by omega)
theorem rsign_f (k v n : Nat) (hk : 67 < k) (h1 : 1 ≤ n) (h2 : n ≤ 63) : caponierref01_Sign.f k (v : Int) (n : Int) = some (sgn v n) := by
  obtain ⟨k, rfl⟩ : ∃ j, k = j + 1 := ⟨k - 1, by omega⟩
  unfold caponierref01_Sign.f
  rw [if_neg (by omega), decide_eq_false (show ¬ ((n : Int) > 64) by omega), caponierref01_Sign.j0, if_neg (by decide)]
  have hp : 2 ^ n < 2 ^ 64 := Nat.pow_lt_pow_right (by decide) (by omega)
  have hpp := Nat.two_pow_pos n
  have hr : v % 2 ^ n < 2 ^ n := Nat.mod_lt _ hpp
  have hpm : 2 ^ n = 2 * 2 ^ (n - 1) := by rw [Nat.mul_comm, ← Nat.pow_succ, Nat.succ_eq_add_one, Nat.sub_add_cancel h1]
  have hbit : ∀ i, i < n → v % 2 ^ n / 2 ^ i % 2 = v / 2 ^ i % 2 := by
    intro i hi
    have a := Nat.testBit_mod_two_pow v n i
    rw [decide_eq_true hi, Bool.true_and, Nat.testBit_eq_decide_div_mod_eq, Nat.testBit_eq_decide_div_mod_eq] at a
    have := decide_eq_decide.1 a
    omega
  have htop : v % 2 ^ n / 2 ^ (n - 1) = v / 2 ^ (n - 1) % 2 := by
    rw [← hbit (n - 1) (by omega)]
    have : v % 2 ^ n / 2 ^ (n - 1) < 2 := (Nat.div_lt_iff_lt_mul (Nat.two_pow_pos _)).2 (by omega)
    exact (Nat.mod_eq_of_lt this).symm
  by_cases hc : v % 2 ^ n < 2 ^ (n - 1)
  · have h0 : v / 2 ^ (n - 1) % 2 = 0 := by rw [← htop]; exact Nat.div_eq_of_lt hc
    have := rsign_l0 v n (v % 2 ^ n) h1 (by omega) (by omega) (fun i hi => by
      by_cases hin : i < n
      · rw [if_pos hin, hbit i hin]
      · rw [if_neg hin, h0, Nat.div_eq_of_lt (Nat.lt_of_lt_of_le hr (Nat.pow_le_pow_right (by decide) (by omega)))]) 64 k (by omega) (by omega)
    rw [Nat.div_eq_of_lt (Nat.lt_trans hr hp)] at this
    refine this.trans ?_
    unfold sgn
    have h63 : 2 ^ (n - 1) ≤ 2 ^ 62 := Nat.pow_le_pow_right (by decide) (by omega)
    rw [if_pos hc, IntWalk.wrap64_in _ (by omega)]
  · have h0 : v / 2 ^ (n - 1) % 2 = 1 := by
      have : 1 ≤ v % 2 ^ n / 2 ^ (n - 1) := (Nat.le_div_iff_mul_le (Nat.two_pow_pos _)).2 (by omega)
      omega
    obtain ⟨c, hcq⟩ : ∃ c, 2 ^ 64 = 2 ^ n * c ∧ c = 2 ^ (64 - n) := ⟨2 ^ (64 - n), by rw [← Nat.pow_add, show n + (64 - n) = 64 from by omega], rfl⟩
    have hcp : 0 < c := by rw [hcq.2]; exact Nat.two_pow_pos _
    have eT : v % 2 ^ n + (2 ^ 64 - 2 ^ n) = v % 2 ^ n + 2 ^ n * (2 ^ (64 - n) - 1) := by rw [Nat.mul_sub, Nat.mul_one, ← hcq.2, ← hcq.1]
    have := rsign_l0 v n (v % 2 ^ n + (2 ^ 64 - 2 ^ n)) h1 (by omega) (by omega) (fun i hi => by
      rw [eT]
      have tb := Nat.testBit_two_pow_mul_add (2 ^ (64 - n) - 1) hr i
      rw [Nat.add_comm] at tb
      rw [Nat.testBit_eq_decide_div_mod_eq] at tb
      by_cases hin : i < n
      · rw [if_pos hin] at tb ⊢
        rw [Nat.testBit_eq_decide_div_mod_eq] at tb
        have := decide_eq_decide.1 tb
        rw [hbit i hin] at this
        omega
      · rw [if_neg hin] at tb ⊢
        rw [Nat.testBit_two_pow_sub_one, decide_eq_true (show i - n < 64 - n by omega)] at tb
        have := of_decide_eq_true tb
        omega) 64 k (by omega) (by omega)
    rw [Nat.div_eq_of_lt (by omega)] at this
    refine this.trans ?_
    unfold sgn
    rw [if_neg hc]
    unfold wrap64
    have h63 : 2 ^ n ≤ 2 ^ 63 := Nat.pow_le_pow_right (by decide) (by omega)
    obtain ⟨P, hP⟩ : ∃ P, P = 2 ^ n := ⟨_, rfl⟩
    obtain ⟨r, hrr⟩ : ∃ r, r = v % 2 ^ n := ⟨_, rfl⟩
    have g1 : r < P := by rw [hP, hrr]; exact hr
    have g2 : P ≤ 2 ^ 63 := by rw [hP]; exact h63
    have g3 : P ≤ 2 * r := by rw [hP, hrr]; omega
    rw [← hrr, ← hP]
    clear hpm hcq eT
    have eN : ((r + (2 ^ 64 - P) : Nat) : Int) = (r : Int) + 18446744073709551616 - (P : Int) := by omega
    rw [eN]
    refine congrArg some ?_
    omega
end Go.Proofs.YtaoajlaocphgdaaDoor.PA
namespace Go.Proofs.YtaoajlaocphgdaaDoor.PA
open Go.RowKit Go.Proofs.YtaoajlaocphgdaaDoorW.PrintWords Go.Proofs.YtaoajlaocphgdaaDoorW.PrintLast Go.Proofs.YtaoajlaocphgdaaDoorW.PrintMore
set_option linter.unusedVariables false
set_option linter.unusedSimpArgs false
inductive Fm where
  | R | I | S | B | U | J | E
deriving DecidableEq
def Fm.bytes : Fm → ByteArray
  | .R => ⟨#[82]⟩
  | .I => ⟨#[73]⟩
  | .S => ⟨#[83]⟩
  | .B => ⟨#[66]⟩
  | .U => ⟨#[85]⟩
  | .J => ⟨#[74]⟩
  | .E => ⟨#[69]⟩
def fm (op : Nat) : Fm := if op ≤ 15 then .R else if op ≤ 28 then .I else if op ≤ 31 then .S else if op ≤ 37 then .B else if op ≤ 39 then .U else if op = 40 then .J else if op = 41 then .I else .E
def lowN (op : Nat) : Nat := if op ≤ 15 then 51 else if op ≤ 24 then 19 else if op ≤ 28 then 3 else if op ≤ 31 then 35 else if op ≤ 37 then 99 else if op = 38 then 55 else if op = 39 then 23 else if op = 40 then 111 else if op = 41 then 103 else 115
def kindN (op : Nat) : Nat := [0, 0, 1, 2, 3, 4, 5, 5, 6, 7, 0, 3, 4, 5, 6, 7, 0, 2, 3, 4, 6, 7, 1, 5, 5, 0, 4, 2, 3, 0, 2, 3, 0, 1, 4, 5, 6, 7, 0, 0, 0, 0, 0].getD op 0
def topN (op : Nat) : Nat := if op = 1 ∨ op = 7 ∨ op = 24 then 32 else if 10 ≤ op ∧ op ≤ 15 then 1 else 0
def shiftN (op : Nat) : Bool := decide (22 ≤ op ∧ op ≤ 24)
theorem l82 : (⟨#[82]⟩ : ByteArray).toList = [82] := by kernel_rfl
theorem l73 : (⟨#[73]⟩ : ByteArray).toList = [73] := by kernel_rfl
theorem l83 : (⟨#[83]⟩ : ByteArray).toList = [83] := by kernel_rfl
theorem l66 : (⟨#[66]⟩ : ByteArray).toList = [66] := by kernel_rfl
theorem l85 : (⟨#[85]⟩ : ByteArray).toList = [85] := by kernel_rfl
theorem l74 : (⟨#[74]⟩ : ByteArray).toList = [74] := by kernel_rfl
theorem l69 : (⟨#[69]⟩ : ByteArray).toList = [69] := by kernel_rfl
theorem low_f (op : Nat) (h : op < 43) : caponierref02_low.f (op : Int) = some ((lowN op : Nat) : Int) :=
  (by decide +kernel : ∀ o : Fin 43, caponierref02_low.f ((o.val : Nat) : Int) = some ((lowN o.val : Nat) : Int)) ⟨op, h⟩
theorem kind_f (op : Nat) (h : op < 43) : caponierref02_Kind.f (op : Int) = some ((kindN op : Nat) : Int) :=
  (by decide +kernel : ∀ o : Fin 43, caponierref02_Kind.f ((o.val : Nat) : Int) = some ((kindN o.val : Nat) : Int)) ⟨op, h⟩
theorem shift_f (op : Nat) (h : op < 43) : caponierref02_Shift.f (op : Int) = some (shiftN op) :=
  (by decide +kernel : ∀ o : Fin 43, caponierref02_Shift.f ((o.val : Nat) : Int) = some (shiftN o.val)) ⟨op, h⟩
theorem tab_lt (op : Nat) (h : op < 43) : lowN op < 128 ∧ kindN op < 8 ∧ topN op < 64 :=
  (by decide +kernel : ∀ o : Fin 43, lowN o.val < 128 ∧ kindN o.val < 8 ∧ topN o.val < 64) ⟨op, h⟩
theorem form_f (k op : Nat) (h : op < 43) : caponierref02_Form.f (k + 2) (op : Int) = some (fm op).bytes := by
  unfold caponierref02_Form.f fm
  rw [if_neg (by omega), decide_eq_false (by omega)]
  simp only [caponierref02_Form.j0, caponierref02_Form.j1]
  by_cases h1 : op ≤ 15
  · rw [if_neg (by decide), if_pos (by omega), if_pos h1]; rfl
  by_cases h2 : op ≤ 28
  · rw [if_neg (by decide), if_neg (by omega), if_pos (by omega), if_neg h1, if_pos h2]; rfl
  rw [if_neg (by decide), if_neg (by omega), if_neg (by omega), if_neg h1, if_neg h2]
  by_cases h8 : op = 41
  · subst h8; rfl
  rw [show ((op : Int) == 41) = false from beq_eq_false_iff_ne.2 (by omega), if_neg (by decide)]
  by_cases h3 : op ≤ 31
  · rw [if_pos (by omega), if_pos h3]; rfl
  by_cases h4 : op ≤ 37
  · rw [if_neg (by omega), if_pos (by omega), if_neg h3, if_pos h4]; rfl
  by_cases h5 : op ≤ 39
  · rw [if_neg (by omega), if_neg (by omega), if_pos (by omega), if_neg h3, if_neg h4, if_pos h5]; rfl
  rw [if_neg (by omega), if_neg (by omega), if_neg (by omega), if_neg h3, if_neg h4, if_neg h5]
  by_cases h6 : op = 40
  · subst h6; rfl
  · rw [if_neg (by omega), if_neg h6, if_neg h8]; rfl
theorem top_f (k op : Nat) (h : op < 43) : caponierref02_Top.f (k + 1) (op : Int) = some ((topN op : Nat) : Int) := by
  unfold caponierref02_Top.f topN
  simp only [caponierref02_Top.j0]
  by_cases h1 : op = 1
  · subst h1; rfl
  by_cases h2 : op = 7
  · subst h2; rfl
  by_cases h3 : op = 24
  · subst h3; rfl
  rw [if_neg (show ¬ ((op : Int) = 1) by omega), if_neg (show ¬ ((op : Int) = 7) by omega), show ((op : Int) == 24) = false from beq_eq_false_iff_ne.2 (by omega), if_neg Bool.false_ne_true, if_neg (show ¬ (op = 1 ∨ op = 7 ∨ op = 24) by omega)]
  by_cases h4 : 10 ≤ op
  · by_cases h5 : op ≤ 15
    · rw [if_pos (show (op : Int) ≥ 10 by omega), if_pos (show (op : Int) ≤ 15 by omega), if_pos (show 10 ≤ op ∧ op ≤ 15 by omega)]; rfl
    · rw [if_pos (show (op : Int) ≥ 10 by omega), if_neg (show ¬ ((op : Int) ≤ 15) by omega), if_neg (show ¬ (10 ≤ op ∧ op ≤ 15) by omega)]; rfl
  · rw [if_neg (show ¬ ((op : Int) ≥ 10) by omega), if_neg (show ¬ (10 ≤ op ∧ op ≤ 15) by omega)]; rfl
theorem form_some (k : Nat) (op : Int) : ∃ f, caponierref02_Form.f (k + 2) op = some f := by
  unfold caponierref02_Form.f
  simp only [caponierref02_Form.j0, caponierref02_Form.j1]
  repeat' split
  all_goals exact ⟨_, rfl⟩
theorem shift_some (op : Int) : ∃ b, caponierref02_Shift.f op = some b := by
  unfold caponierref02_Shift.f
  split <;> exact ⟨_, rfl⟩
theorem may2_j2 (k : Nat) (a : Int) (f : ByteArray) (b : Bool) (c d e g h : Int) : (caponierref02_May.j2 (k + 1) a f b c d e g h).isSome = true := by
  obtain ⟨s, hs⟩ := shift_some c
  simp only [caponierref02_May.j2, hs, Option.bind_some]
  repeat' split
  all_goals rfl
theorem may2_j1 (k : Nat) (f : ByteArray) (b : Bool) (c d e g h : Int) : (caponierref02_May.j1 (k + 2) f b c d e g h).isSome = true := by
  simp only [caponierref02_May.j1]
  repeat' split
  all_goals first | rfl | exact may2_j2 _ _ _ _ _ _ _ _ _
theorem may2_j0 (k : Nat) (f : ByteArray) (b : Bool) (c d e g h : Int) : (caponierref02_May.j0 (k + 3) f b c d e g h).isSome = true := by
  have H : ∀ b', (caponierref02_May.j1 (k + 2) f b' c d e g h).isSome = true := fun b' => may2_j1 _ _ _ _ _ _ _ _
  rw [caponierref02_May.j0]
  generalize caponierref02_May.j1 (k + 2) f = z at H ⊢
  repeat' split
  all_goals first | rfl | exact H _
theorem may2_some (k : Nat) (c d e g h : Int) : ∃ r, caponierref02_May.f (k + 3) c d e g h = some r := by
  obtain ⟨f, hf⟩ := form_some (k + 1) c
  refine Option.isSome_iff_exists.1 ?_
  unfold caponierref02_May.f
  rw [hf, Option.bind_some]
  repeat' split
  all_goals exact may2_j0 _ _ _ _ _ _ _ _
def wordN (op rd rs1 rs2 u : Nat) : Nat :=
  match fm op with
  | .R => lowN op + rd * 128 + rs1 * 32768 + rs2 * 1048576 + kindN op * 4096 + topN op * 33554432
  | .I => lowN op + rd * 128 + rs1 * 32768 + rs2 * 1048576 + kindN op * 4096 + u % 4096 * 1048576 + (if shiftN op then topN op * 33554432 else 0)
  | .S => lowN op + rd * 128 + rs1 * 32768 + rs2 * 1048576 + kindN op * 4096 + u % 32 * 128 + u / 32 % 128 * 33554432
  | .B => lowN op + rd * 128 + rs1 * 32768 + rs2 * 1048576 + kindN op * 4096 + u / 2 % 16 * 256 + u / 32 % 64 * 33554432 + u / 2048 % 2 * 128 + u / 4096 % 2 * 2147483648
  | .U => lowN op + rd * 128 + rs1 * 32768 + rs2 * 1048576 + u / 4096 % 1048576 * 4096
  | .J => lowN op + rd * 128 + rs1 * 32768 + rs2 * 1048576 + u / 2 % 1024 * 2097152 + u / 2048 % 2 * 1048576 + u / 4096 % 256 * 4096 + u / 1048576 % 2 * 2147483648
  | .E => 1048691
set_option maxHeartbeats 1000000 in
theorem enc_f (k op rd rs1 rs2 : Nat) (imm : Int) (hop : op < 43) (h1 : rd < 32) (h2 : rs1 < 32) (h3 : rs2 < 32) (hm : caponierref02_May.f (k + 100) op rd rs1 rs2 imm = some true) :
    caponierref02_Encode.f (k + 100) op rd rs1 rs2 imm = some (((wordN op rd rs1 rs2 (u64N imm) % 4294967296 : Nat) : Int), 0) := by
  obtain ⟨t1, t2, t3⟩ := tab_lt op hop
  unfold caponierref02_Encode.f
  rw [hm, Option.bind_some, if_pos rfl]
  by_cases h42 : op = 42
  · subst h42; rfl
  have hu := u64N_lt imm
  have b1 : ∀ j, caponierref02_bit.f (j + 70) imm 0 12 20 = some ((u64N imm / 2 ^ 0 % 2 ^ 12 * 2 ^ 20 : Nat) : Int) := fun j => rbit2_f (j + 70) imm 0 12 20 (by omega) (by omega) (by omega)
  have b2 : ∀ j, caponierref02_bit.f (j + 70) imm 0 5 7 = some ((u64N imm / 2 ^ 0 % 2 ^ 5 * 2 ^ 7 : Nat) : Int) := fun j => rbit2_f (j + 70) imm 0 5 7 (by omega) (by omega) (by omega)
  have b3 : ∀ j, caponierref02_bit.f (j + 70) imm 5 7 25 = some ((u64N imm / 2 ^ 5 % 2 ^ 7 * 2 ^ 25 : Nat) : Int) := fun j => rbit2_f (j + 70) imm 5 7 25 (by omega) (by omega) (by omega)
  have b4 : ∀ j, caponierref02_bit.f (j + 70) imm 1 4 8 = some ((u64N imm / 2 ^ 1 % 2 ^ 4 * 2 ^ 8 : Nat) : Int) := fun j => rbit2_f (j + 70) imm 1 4 8 (by omega) (by omega) (by omega)
  have b5 : ∀ j, caponierref02_bit.f (j + 70) imm 5 6 25 = some ((u64N imm / 2 ^ 5 % 2 ^ 6 * 2 ^ 25 : Nat) : Int) := fun j => rbit2_f (j + 70) imm 5 6 25 (by omega) (by omega) (by omega)
  have b6 : ∀ j, caponierref02_bit.f (j + 70) imm 11 1 7 = some ((u64N imm / 2 ^ 11 % 2 ^ 1 * 2 ^ 7 : Nat) : Int) := fun j => rbit2_f (j + 70) imm 11 1 7 (by omega) (by omega) (by omega)
  have b7 : ∀ j, caponierref02_bit.f (j + 70) imm 12 1 31 = some ((u64N imm / 2 ^ 12 % 2 ^ 1 * 2 ^ 31 : Nat) : Int) := fun j => rbit2_f (j + 70) imm 12 1 31 (by omega) (by omega) (by omega)
  have b8 : ∀ j, caponierref02_bit.f (j + 70) imm 12 20 12 = some ((u64N imm / 2 ^ 12 % 2 ^ 20 * 2 ^ 12 : Nat) : Int) := fun j => rbit2_f (j + 70) imm 12 20 12 (by omega) (by omega) (by omega)
  have b9 : ∀ j, caponierref02_bit.f (j + 70) imm 1 10 21 = some ((u64N imm / 2 ^ 1 % 2 ^ 10 * 2 ^ 21 : Nat) : Int) := fun j => rbit2_f (j + 70) imm 1 10 21 (by omega) (by omega) (by omega)
  have b10 : ∀ j, caponierref02_bit.f (j + 70) imm 11 1 20 = some ((u64N imm / 2 ^ 11 % 2 ^ 1 * 2 ^ 20 : Nat) : Int) := fun j => rbit2_f (j + 70) imm 11 1 20 (by omega) (by omega) (by omega)
  have b11 : ∀ j, caponierref02_bit.f (j + 70) imm 12 8 12 = some ((u64N imm / 2 ^ 12 % 2 ^ 8 * 2 ^ 12 : Nat) : Int) := fun j => rbit2_f (j + 70) imm 12 8 12 (by omega) (by omega) (by omega)
  have b12 : ∀ j, caponierref02_bit.f (j + 70) imm 20 1 31 = some ((u64N imm / 2 ^ 20 % 2 ^ 1 * 2 ^ 31 : Nat) : Int) := fun j => rbit2_f (j + 70) imm 20 1 31 (by omega) (by omega) (by omega)
  obtain ⟨u, hu2⟩ : ∃ u, u = u64N imm := ⟨_, rfl⟩
  rw [← hu2] at b1 b2 b3 b4 b5 b6 b7 b8 b9 b10 b11 b12 ⊢
  rw [if_neg (by omega), form_f (k + 98) op hop, Option.bind_some, low_f op hop, Option.bind_some]
  have ht := fun j => top_f j op hop
  have hk := kind_f op hop
  have hs := shift_f op hop
  unfold wordN
  have h42' : fm op ≠ .E := by
    unfold fm
    repeat' split
    all_goals first | (intro h; cases h; done) | (exfalso; omega)
  cases hf : fm op
  case E => exact absurd hf h42'
  case I =>
    cases hsh : shiftN op
    all_goals
      simp [Fm.bytes, l82, l73, l83, l66, l85, l74, l69, caponierref02_Encode.j0, caponierref02_Encode.j1, hk, ht, hs, hsh, b1, wrap_u64]
      omega
  all_goals
    simp [Fm.bytes, l82, l73, l83, l66, l85, l74, l69, caponierref02_Encode.j0, caponierref02_Encode.j1, hk, ht, b2, b3, b4, b5, b6, b7, b8, b9, b10, b11, b12, wrap_u64]
    omega
theorem enc_some (k op rd rs1 rs2 : Nat) (imm : Int) (hop : op < 43) (h1 : rd < 32) (h2 : rs1 < 32) (h3 : rs2 < 32) :
    caponierref02_Encode.f (k + 100) op rd rs1 rs2 imm = some (0, 1) ∨ caponierref02_Encode.f (k + 100) op rd rs1 rs2 imm = some (((wordN op rd rs1 rs2 (u64N imm) % 4294967296 : Nat) : Int), 0) := by
  obtain ⟨b, hb⟩ := may2_some (k + 97) op rd rs1 rs2 imm
  cases b
  · left
    unfold caponierref02_Encode.f
    rw [hb]
    rfl
  · exact Or.inr (enc_f k op rd rs1 rs2 imm hop h1 h2 h3 hb)
end Go.Proofs.YtaoajlaocphgdaaDoor.PA
namespace Go.Proofs.YtaoajlaocphgdaaDoor.PA
open Go.RowKit Go.Proofs.YtaoajlaocphgdaaDoorW.PrintWords Go.Proofs.YtaoajlaocphgdaaDoorW.PrintLast Go.Proofs.YtaoajlaocphgdaaDoorW.PrintMore
set_option linter.unusedVariables false
set_option linter.unusedSimpArgs false
theorem fm_E {op : Nat} (hop : op < 43) (hf : fm op = .E) : op = 42 := by
  unfold fm at hf
  repeat' split at hf
  all_goals first | (cases hf; done) | omega
theorem word_low (op rd rs1 rs2 u : Nat) (hop : op < 43) : wordN op rd rs1 rs2 u % 4294967296 % 128 = lowN op := by
  obtain ⟨t1, t2, t3⟩ := tab_lt op hop
  unfold wordN
  cases hf : fm op
  case E =>
    obtain rfl := fm_E hop hf
    dsimp only
    decide
  case I =>
    dsimp only
    cases shiftN op
    · rw [if_neg (by decide)]; omega
    · rw [if_pos rfl]; omega
  all_goals dsimp only; omega
theorem word_kind (op rd rs1 rs2 u : Nat) (hop : op < 43) (h1 : rd < 32) (hU : fm op ≠ .U) (hJ : fm op ≠ .J) (hE : fm op ≠ .E) (hz : (fm op = .S ∨ fm op = .B) → rd = 0) : wordN op rd rs1 rs2 u % 4294967296 / 4096 % 8 = kindN op := by
  obtain ⟨t1, t2, t3⟩ := tab_lt op hop
  unfold wordN
  cases hf : fm op
  case E => exact absurd hf hE
  case U => exact absurd hf hU
  case J => exact absurd hf hJ
  case I =>
    dsimp only
    cases shiftN op
    · rw [if_neg (by decide)]; omega
    · rw [if_pos rfl]; omega
  case R => dsimp only; omega
  case S => have := hz (Or.inl hf); dsimp only; omega
  case B =>
    have := hz (Or.inr hf)
    subst this
    dsimp only
    have x1 : u / 2 % 16 < 16 := Nat.mod_lt _ (by decide)
    have x2 : u / 32 % 64 < 64 := Nat.mod_lt _ (by decide)
    have x3 : u / 2048 % 2 < 2 := Nat.mod_lt _ (by decide)
    have x4 : u / 4096 % 2 < 2 := Nat.mod_lt _ (by decide)
    generalize u / 2 % 16 = y1 at *
    generalize u / 32 % 64 = y2 at *
    generalize u / 2048 % 2 = y3 at *
    generalize u / 4096 % 2 = y4 at *
    generalize lowN op = lo at *
    generalize kindN op = kd at *
    omega
end Go.Proofs.YtaoajlaocphgdaaDoor.PA
namespace Go.Proofs.YtaoajlaocphgdaaDoor.PA
open Go.RowKit Go.Proofs.YtaoajlaocphgdaaDoorW.PrintWords Go.Proofs.YtaoajlaocphgdaaDoorW.PrintLast Go.Proofs.YtaoajlaocphgdaaDoorW.PrintMore
set_option linter.unusedVariables false
set_option linter.unusedSimpArgs false
theorem rfld (k w a n : Nat) (hk : n < k) (hw : w < 2 ^ 32) (h : a + n ≤ 64) : caponierref02_field.f k (w : Int) (a : Int) (n : Int) = some ((w / 2 ^ a % 2 ^ n : Nat) : Int) := by
  unfold caponierref02_field.f
  rw [u64_nat w (by omega), rfield_f k w a n hk (by omega) h]
  rfl
theorem w64n (a : Nat) (h : a < 2 ^ 63) : wrap64 (a : Int) = (a : Int) := IntWalk.wrap64_in _ (by omega)
theorem y2 (w : Nat) : w / 1048576 % 64 < 64 := Nat.mod_lt _ (by decide)
theorem y3 : 64 ≤ 2 ^ 63 := by decide
theorem y4 (w : Nat) : w / 1048576 % 64 < 2 ^ 63 := Nat.lt_of_lt_of_le (y2 w) y3
theorem y1 (w : Nat) : wrap64 ((w / 1048576 % 64 : Nat) : Int) = ((w / 1048576 % 64 : Nat) : Int) := w64n (w / 1048576 % 64) (y4 w)
theorem add2 (a b : Nat) (ha : a < 32) (hb : b < 128) : IntKind.u64.wrap ((a : Int) + IntKind.u64.wrap ((b : Int) * 32)) = ((a + b * 32 : Nat) : Int) := by simp only [wrap_u64]; omega
theorem add4 (a b c d : Nat) (ha : a < 16) (hb : b < 64) (hc : c < 2) (hd : d < 2) : IntKind.u64.wrap ((IntKind.u64.wrap ((IntKind.u64.wrap ((IntKind.u64.wrap ((a : Int) * 2)) + (IntKind.u64.wrap ((b : Int) * 32)))) + (IntKind.u64.wrap ((c : Int) * 2048)))) + (IntKind.u64.wrap ((d : Int) * 4096))) = ((a * 2 + b * 32 + c * 2048 + d * 4096 : Nat) : Int) := by simp only [wrap_u64]; omega
theorem mul1 (a : Nat) (ha : a < 1048576) : IntKind.u64.wrap ((a : Int) * 4096) = ((a * 4096 : Nat) : Int) := by simp only [wrap_u64]; omega
theorem add5 (a b c d : Nat) (ha : a < 1024) (hb : b < 2) (hc : c < 256) (hd : d < 2) : IntKind.u64.wrap ((IntKind.u64.wrap ((IntKind.u64.wrap ((IntKind.u64.wrap ((a : Int) * 2)) + (IntKind.u64.wrap ((b : Int) * 2048)))) + (IntKind.u64.wrap ((c : Int) * 4096)))) + (IntKind.u64.wrap ((d : Int) * 1048576))) = ((a * 2 + b * 2048 + c * 4096 + d * 1048576 : Nat) : Int) := by simp only [wrap_u64]; omega
theorem as_R (k op w : Nat) (hop : op < 43) (hw : w < 2 ^ 32) (hf : fm op = .R) : caponierref02_as.f (k + 100) (w : Int) (op : Int) = some ((op : Int), ((w / 128 % 32 : Nat) : Int), ((w / 32768 % 32 : Nat) : Int), ((w / 1048576 % 32 : Nat) : Int), 0) := by
  have f1 : ∀ j, caponierref02_field.f (j + 70) (w : Int) 7 5 = some ((w / 128 % 32 : Nat) : Int) := fun j => rfld (j + 70) w 7 5 (by omega) hw (by omega)
  have f2 : ∀ j, caponierref02_field.f (j + 70) (w : Int) 15 5 = some ((w / 32768 % 32 : Nat) : Int) := fun j => rfld (j + 70) w 15 5 (by omega) hw (by omega)
  have f3 : ∀ j, caponierref02_field.f (j + 70) (w : Int) 20 5 = some ((w / 1048576 % 32 : Nat) : Int) := fun j => rfld (j + 70) w 20 5 (by omega) hw (by omega)
  have g1 := w64n (w / 128 % 32) (Nat.lt_of_lt_of_le (Nat.mod_lt _ (by decide)) (by decide))
  have g2 := w64n (w / 32768 % 32) (Nat.lt_of_lt_of_le (Nat.mod_lt _ (by decide)) (by decide))
  have g3 := w64n (w / 1048576 % 32) (Nat.lt_of_lt_of_le (Nat.mod_lt _ (by decide)) (by decide))
  unfold caponierref02_as.f
  rw [form_f (k + 98) op hop, Option.bind_some, hf]
  simp (decide := true) only [Fm.bytes, l82, l73, l83, l66, l85, l74, l69, caponierref02_as.j0, caponierref02_as.j1, caponierref02_as.j2, caponierref02_as.j3, caponierref02_as.j4, caponierref02_as.j5, List.cons.injEq, and_true, if_true, if_false, reduceIte, bne, BEq.rfl, Bool.not_true, Bool.not_false, Bool.false_eq_true, Option.bind_some, beq_iff_eq, Bool.not_eq_true', beq_eq_false_iff_ne, ne_eq, not_false_eq_true, not_true_eq_false, f1, f2, f3, g1, g2, g3]
theorem as_I0 (k op w : Nat) (hop : op < 43) (hw : w < 2 ^ 32) (hf : fm op = .I) (hsh : shiftN op = false) : caponierref02_as.f (k + 100) (w : Int) (op : Int) = some ((op : Int), ((w / 128 % 32 : Nat) : Int), ((w / 32768 % 32 : Nat) : Int), 0, sgn (w / 1048576 % 4096) 12) := by
  have f1 : ∀ j, caponierref02_field.f (j + 70) (w : Int) 7 5 = some ((w / 128 % 32 : Nat) : Int) := fun j => rfld (j + 70) w 7 5 (by omega) hw (by omega)
  have f2 : ∀ j, caponierref02_field.f (j + 70) (w : Int) 15 5 = some ((w / 32768 % 32 : Nat) : Int) := fun j => rfld (j + 70) w 15 5 (by omega) hw (by omega)
  have f4 : ∀ j, caponierref02_field.f (j + 70) (w : Int) 20 12 = some ((w / 1048576 % 4096 : Nat) : Int) := fun j => rfld (j + 70) w 20 12 (by omega) hw (by omega)
  have f5 : ∀ j, caponierref02_field.f (j + 70) (w : Int) 20 6 = some ((w / 1048576 % 64 : Nat) : Int) := fun j => rfld (j + 70) w 20 6 (by omega) hw (by omega)
  have s12 : ∀ j (v : Nat), caponierref01_Sign.f (j + 70) (v : Int) 12 = some (sgn v 12) := fun j v => rsign_f (j + 70) v 12 (by omega) (by omega) (by omega)
  have g1 := w64n (w / 128 % 32) (Nat.lt_of_lt_of_le (Nat.mod_lt _ (by decide)) (by decide))
  have g2 := w64n (w / 32768 % 32) (Nat.lt_of_lt_of_le (Nat.mod_lt _ (by decide)) (by decide))
  have hs := shift_f op hop
  rw [hsh] at hs
  unfold caponierref02_as.f
  rw [form_f (k + 98) op hop, Option.bind_some, hf]
  simp (decide := true) only [Fm.bytes, l82, l73, l83, l66, l85, l74, l69, caponierref02_as.j0, caponierref02_as.j1, caponierref02_as.j2, caponierref02_as.j3, caponierref02_as.j4, caponierref02_as.j5, List.cons.injEq, and_true, if_true, if_false, reduceIte, bne, BEq.rfl, Bool.not_true, Bool.not_false, Bool.false_eq_true, Option.bind_some, beq_iff_eq, Bool.not_eq_true', beq_eq_false_iff_ne, ne_eq, not_false_eq_true, not_true_eq_false, f1, f2, f4, f5, s12, g1, g2, hs]
theorem as_j5_I (k : Nat) (x0 : Nat) (op : Nat) (hop : op < 43) (hw : x0 < 2 ^ 32) (a b c d e : Int) : ∃ imm, caponierref02_as.j5 (k + 80) (x0 : Int) (op : Int) Fm.I.bytes a b c d e = some (a, b, c, d, imm) := by
  obtain ⟨z4, hz4⟩ : ∃ z : Nat, caponierref02_field.f (k + 79) (x0 : Int) 20 12 = some (z : Int) := ⟨_, rfld (k + 79) x0 20 12 (by omega) hw (by omega)⟩
  obtain ⟨z5, hz5⟩ : ∃ z : Int, caponierref01_Sign.f (k + 79) (z4 : Int) 12 = some z := ⟨_, rsign_f (k + 79) z4 12 (by omega) (by omega) (by omega)⟩
  obtain ⟨z, hz⟩ : ∃ z : Nat, caponierref02_field.f (k + 79) (x0 : Int) 20 6 = some (z : Int) := ⟨_, rfld (k + 79) x0 20 6 (by omega) hw (by omega)⟩
  obtain ⟨s, hs⟩ := shift_some (op : Int)
  rw [caponierref02_as.j5, show Fm.I.bytes.toList = [73] from l73, if_pos rfl, hz4, Option.bind_some, hz5, Option.bind_some, hs, Option.bind_some]
  cases s
  · exact ⟨z5, rfl⟩
  · rw [if_pos rfl, hz]; exact ⟨wrap64 (z : Int), rfl⟩
theorem as_I1 (k op w : Nat) (hop : op < 43) (hw : w < 2 ^ 32) (hf : fm op = .I) : ∃ imm, caponierref02_as.f (k + 100) (w : Int) (op : Int) = some ((op : Int), ((w / 128 % 32 : Nat) : Int), ((w / 32768 % 32 : Nat) : Int), 0, imm) := by
  have f1 : ∀ j, caponierref02_field.f (j + 70) (w : Int) 7 5 = some ((w / 128 % 32 : Nat) : Int) := fun j => rfld (j + 70) w 7 5 (by omega) hw (by omega)
  have f2 : ∀ j, caponierref02_field.f (j + 70) (w : Int) 15 5 = some ((w / 32768 % 32 : Nat) : Int) := fun j => rfld (j + 70) w 15 5 (by omega) hw (by omega)
  have g1 := w64n (w / 128 % 32) (Nat.lt_of_lt_of_le (Nat.mod_lt _ (by decide)) (by decide))
  have g2 := w64n (w / 32768 % 32) (Nat.lt_of_lt_of_le (Nat.mod_lt _ (by decide)) (by decide))
  obtain ⟨imm, hj⟩ := as_j5_I (k + 15) w op hop hw (op : Int) ((w / 128 % 32 : Nat) : Int) ((w / 32768 % 32 : Nat) : Int) 0 0
  refine ⟨imm, ?_⟩
  unfold caponierref02_as.f
  have hb : Fm.I.bytes.toList = [73] := l73
  rw [form_f (k + 98) op hop, Option.bind_some, hf, hb, if_neg (by decide), if_neg (by decide), show (([73] : List UInt8) != [69]) = true from by decide,
    caponierref02_as.j0, if_pos rfl, f1, Option.bind_some, g1, caponierref02_as.j1, hb, if_neg (by decide), if_neg (by decide), show (([73] : List UInt8) != [69]) = true from by decide,
    caponierref02_as.j2, if_pos rfl, f2, Option.bind_some, g2, caponierref02_as.j3, hb, if_neg (by decide), if_neg (by decide), show (([73] : List UInt8) == [66]) = false from by decide,
    caponierref02_as.j4, if_neg (by decide)]
  exact hj
theorem as_S (k op w : Nat) (hop : op < 43) (hw : w < 2 ^ 32) (hf : fm op = .S) : caponierref02_as.f (k + 100) (w : Int) (op : Int) = some ((op : Int), 0, ((w / 32768 % 32 : Nat) : Int), ((w / 1048576 % 32 : Nat) : Int), sgn (w / 128 % 32 + w / 33554432 % 128 * 32) 12) := by
  have f1 : ∀ j, caponierref02_field.f (j + 70) (w : Int) 7 5 = some ((w / 128 % 32 : Nat) : Int) := fun j => rfld (j + 70) w 7 5 (by omega) hw (by omega)
  have f2 : ∀ j, caponierref02_field.f (j + 70) (w : Int) 15 5 = some ((w / 32768 % 32 : Nat) : Int) := fun j => rfld (j + 70) w 15 5 (by omega) hw (by omega)
  have f3 : ∀ j, caponierref02_field.f (j + 70) (w : Int) 20 5 = some ((w / 1048576 % 32 : Nat) : Int) := fun j => rfld (j + 70) w 20 5 (by omega) hw (by omega)
  have f6 : ∀ j, caponierref02_field.f (j + 70) (w : Int) 25 7 = some ((w / 33554432 % 128 : Nat) : Int) := fun j => rfld (j + 70) w 25 7 (by omega) hw (by omega)
  have s12 : ∀ j (v : Nat), caponierref01_Sign.f (j + 70) (v : Int) 12 = some (sgn v 12) := fun j v => rsign_f (j + 70) v 12 (by omega) (by omega) (by omega)
  have g2 := w64n (w / 32768 % 32) (Nat.lt_of_lt_of_le (Nat.mod_lt _ (by decide)) (by decide))
  have g3 := w64n (w / 1048576 % 32) (Nat.lt_of_lt_of_le (Nat.mod_lt _ (by decide)) (by decide))
  have e1 := add2 (w / 128 % 32) (w / 33554432 % 128) (Nat.mod_lt _ (by decide)) (Nat.mod_lt _ (by decide))
  unfold caponierref02_as.f
  rw [form_f (k + 98) op hop, Option.bind_some, hf]
  simp (decide := true) only [Fm.bytes, l82, l73, l83, l66, l85, l74, l69, caponierref02_as.j0, caponierref02_as.j1, caponierref02_as.j2, caponierref02_as.j3, caponierref02_as.j4, caponierref02_as.j5, List.cons.injEq, and_true, if_true, if_false, reduceIte, bne, BEq.rfl, Bool.not_true, Bool.not_false, Bool.false_eq_true, Option.bind_some, beq_iff_eq, Bool.not_eq_true', beq_eq_false_iff_ne, ne_eq, not_false_eq_true, not_true_eq_false, f1, f2, f3, f6, s12, g2, g3, e1]
theorem as_B (k op w : Nat) (hop : op < 43) (hw : w < 2 ^ 32) (hf : fm op = .B) : caponierref02_as.f (k + 100) (w : Int) (op : Int) = some ((op : Int), 0, ((w / 32768 % 32 : Nat) : Int), ((w / 1048576 % 32 : Nat) : Int), sgn (w / 256 % 16 * 2 + w / 33554432 % 64 * 32 + w / 128 % 2 * 2048 + w / 2147483648 % 2 * 4096) 13) := by
  have f2 : ∀ j, caponierref02_field.f (j + 70) (w : Int) 15 5 = some ((w / 32768 % 32 : Nat) : Int) := fun j => rfld (j + 70) w 15 5 (by omega) hw (by omega)
  have f3 : ∀ j, caponierref02_field.f (j + 70) (w : Int) 20 5 = some ((w / 1048576 % 32 : Nat) : Int) := fun j => rfld (j + 70) w 20 5 (by omega) hw (by omega)
  have f7 : ∀ j, caponierref02_field.f (j + 70) (w : Int) 8 4 = some ((w / 256 % 16 : Nat) : Int) := fun j => rfld (j + 70) w 8 4 (by omega) hw (by omega)
  have f8 : ∀ j, caponierref02_field.f (j + 70) (w : Int) 25 6 = some ((w / 33554432 % 64 : Nat) : Int) := fun j => rfld (j + 70) w 25 6 (by omega) hw (by omega)
  have f9 : ∀ j, caponierref02_field.f (j + 70) (w : Int) 7 1 = some ((w / 128 % 2 : Nat) : Int) := fun j => rfld (j + 70) w 7 1 (by omega) hw (by omega)
  have f10 : ∀ j, caponierref02_field.f (j + 70) (w : Int) 31 1 = some ((w / 2147483648 % 2 : Nat) : Int) := fun j => rfld (j + 70) w 31 1 (by omega) hw (by omega)
  have s13 : ∀ j (v : Nat), caponierref01_Sign.f (j + 70) (v : Int) 13 = some (sgn v 13) := fun j v => rsign_f (j + 70) v 13 (by omega) (by omega) (by omega)
  have g2 := w64n (w / 32768 % 32) (Nat.lt_of_lt_of_le (Nat.mod_lt _ (by decide)) (by decide))
  have g3 := w64n (w / 1048576 % 32) (Nat.lt_of_lt_of_le (Nat.mod_lt _ (by decide)) (by decide))
  have e2 := add4 (w / 256 % 16) (w / 33554432 % 64) (w / 128 % 2) (w / 2147483648 % 2) (Nat.mod_lt _ (by decide)) (Nat.mod_lt _ (by decide)) (Nat.mod_lt _ (by decide)) (Nat.mod_lt _ (by decide))
  unfold caponierref02_as.f
  rw [form_f (k + 98) op hop, Option.bind_some, hf]
  simp (decide := true) only [Fm.bytes, l82, l73, l83, l66, l85, l74, l69, caponierref02_as.j0, caponierref02_as.j1, caponierref02_as.j2, caponierref02_as.j3, caponierref02_as.j4, caponierref02_as.j5, List.cons.injEq, and_true, if_true, if_false, reduceIte, bne, BEq.rfl, Bool.not_true, Bool.not_false, Bool.false_eq_true, Option.bind_some, beq_iff_eq, Bool.not_eq_true', beq_eq_false_iff_ne, ne_eq, not_false_eq_true, not_true_eq_false, f2, f3, f7, f8, f9, f10, s13, g2, g3, e2]
theorem as_U (k op w : Nat) (hop : op < 43) (hw : w < 2 ^ 32) (hf : fm op = .U) : caponierref02_as.f (k + 100) (w : Int) (op : Int) = some ((op : Int), ((w / 128 % 32 : Nat) : Int), 0, 0, sgn (w / 4096 % 1048576 * 4096) 32) := by
  have f1 : ∀ j, caponierref02_field.f (j + 70) (w : Int) 7 5 = some ((w / 128 % 32 : Nat) : Int) := fun j => rfld (j + 70) w 7 5 (by omega) hw (by omega)
  have f11 : ∀ j, caponierref02_field.f (j + 70) (w : Int) 12 20 = some ((w / 4096 % 1048576 : Nat) : Int) := fun j => rfld (j + 70) w 12 20 (by omega) hw (by omega)
  have s32 : ∀ j (v : Nat), caponierref01_Sign.f (j + 70) (v : Int) 32 = some (sgn v 32) := fun j v => rsign_f (j + 70) v 32 (by omega) (by omega) (by omega)
  have g1 := w64n (w / 128 % 32) (Nat.lt_of_lt_of_le (Nat.mod_lt _ (by decide)) (by decide))
  have e3 := mul1 (w / 4096 % 1048576) (Nat.mod_lt _ (by decide))
  unfold caponierref02_as.f
  rw [form_f (k + 98) op hop, Option.bind_some, hf]
  simp (decide := true) only [Fm.bytes, l82, l73, l83, l66, l85, l74, l69, caponierref02_as.j0, caponierref02_as.j1, caponierref02_as.j2, caponierref02_as.j3, caponierref02_as.j4, caponierref02_as.j5, List.cons.injEq, and_true, if_true, if_false, reduceIte, bne, BEq.rfl, Bool.not_true, Bool.not_false, Bool.false_eq_true, Option.bind_some, beq_iff_eq, Bool.not_eq_true', beq_eq_false_iff_ne, ne_eq, not_false_eq_true, not_true_eq_false, f1, f11, s32, g1, e3]
theorem as_J (k op w : Nat) (hop : op < 43) (hw : w < 2 ^ 32) (hf : fm op = .J) : caponierref02_as.f (k + 100) (w : Int) (op : Int) = some ((op : Int), ((w / 128 % 32 : Nat) : Int), 0, 0, sgn (w / 2097152 % 1024 * 2 + w / 1048576 % 2 * 2048 + w / 4096 % 256 * 4096 + w / 2147483648 % 2 * 1048576) 21) := by
  have f1 : ∀ j, caponierref02_field.f (j + 70) (w : Int) 7 5 = some ((w / 128 % 32 : Nat) : Int) := fun j => rfld (j + 70) w 7 5 (by omega) hw (by omega)
  have f12 : ∀ j, caponierref02_field.f (j + 70) (w : Int) 21 10 = some ((w / 2097152 % 1024 : Nat) : Int) := fun j => rfld (j + 70) w 21 10 (by omega) hw (by omega)
  have f13 : ∀ j, caponierref02_field.f (j + 70) (w : Int) 20 1 = some ((w / 1048576 % 2 : Nat) : Int) := fun j => rfld (j + 70) w 20 1 (by omega) hw (by omega)
  have f14 : ∀ j, caponierref02_field.f (j + 70) (w : Int) 12 8 = some ((w / 4096 % 256 : Nat) : Int) := fun j => rfld (j + 70) w 12 8 (by omega) hw (by omega)
  have f10 : ∀ j, caponierref02_field.f (j + 70) (w : Int) 31 1 = some ((w / 2147483648 % 2 : Nat) : Int) := fun j => rfld (j + 70) w 31 1 (by omega) hw (by omega)
  have s21 : ∀ j (v : Nat), caponierref01_Sign.f (j + 70) (v : Int) 21 = some (sgn v 21) := fun j v => rsign_f (j + 70) v 21 (by omega) (by omega) (by omega)
  have g1 := w64n (w / 128 % 32) (Nat.lt_of_lt_of_le (Nat.mod_lt _ (by decide)) (by decide))
  have e4 := add5 (w / 2097152 % 1024) (w / 1048576 % 2) (w / 4096 % 256) (w / 2147483648 % 2) (Nat.mod_lt _ (by decide)) (Nat.mod_lt _ (by decide)) (Nat.mod_lt _ (by decide)) (Nat.mod_lt _ (by decide))
  unfold caponierref02_as.f
  rw [form_f (k + 98) op hop, Option.bind_some, hf]
  simp (decide := true) only [Fm.bytes, l82, l73, l83, l66, l85, l74, l69, caponierref02_as.j0, caponierref02_as.j1, caponierref02_as.j2, caponierref02_as.j3, caponierref02_as.j4, caponierref02_as.j5, List.cons.injEq, and_true, if_true, if_false, reduceIte, bne, BEq.rfl, Bool.not_true, Bool.not_false, Bool.false_eq_true, Option.bind_some, beq_iff_eq, Bool.not_eq_true', beq_eq_false_iff_ne, ne_eq, not_false_eq_true, not_true_eq_false, f1, f12, f13, f14, f10, s21, g1, e4]
theorem as_E (k op w : Nat) (hop : op < 43) (hw : w < 2 ^ 32) (hf : fm op = .E) : caponierref02_as.f (k + 100) (w : Int) (op : Int) = some ((op : Int), 0, 0, 0, 0) := by
  unfold caponierref02_as.f
  rw [form_f (k + 98) op hop, Option.bind_some, hf]
  simp (decide := true) only [Fm.bytes, l82, l73, l83, l66, l85, l74, l69, caponierref02_as.j0, caponierref02_as.j1, caponierref02_as.j2, caponierref02_as.j3, caponierref02_as.j4, caponierref02_as.j5, List.cons.injEq, and_true, if_true, if_false, reduceIte, bne, BEq.rfl, Bool.not_true, Bool.not_false, Bool.false_eq_true, Option.bind_some, beq_iff_eq, Bool.not_eq_true', beq_eq_false_iff_ne, ne_eq, not_false_eq_true, not_true_eq_false, ]
end Go.Proofs.YtaoajlaocphgdaaDoor.PA
namespace Go.Proofs.YtaoajlaocphgdaaDoor.PA
open Go.RowKit Go.Proofs.YtaoajlaocphgdaaDoorW.PrintWords Go.Proofs.YtaoajlaocphgdaaDoorW.PrintLast Go.Proofs.YtaoajlaocphgdaaDoorW.PrintMore
set_option linter.unusedVariables false
set_option linter.unusedSimpArgs false
theorem as_some (k op w : Nat) (hop : op < 43) (hw : w < 2 ^ 32) : ∃ (rd rs1 rs2 : Nat) (imm : Int), rd < 32 ∧ rs1 < 32 ∧ rs2 < 32 ∧ ((fm op = .S ∨ fm op = .B) → rd = 0) ∧ caponierref02_as.f (k + 100) (w : Int) (op : Int) = some ((op : Int), (rd : Int), (rs1 : Int), (rs2 : Int), imm) := by
  have m1 : w / 128 % 32 < 32 := Nat.mod_lt _ (by decide)
  have m2 : w / 32768 % 32 < 32 := Nat.mod_lt _ (by decide)
  have m3 : w / 1048576 % 32 < 32 := Nat.mod_lt _ (by decide)
  cases hf : fm op
  case R => exact ⟨_, _, _, _, m1, m2, m3, (fun h => by rcases h with h | h <;> cases h), as_R k op w hop hw hf⟩
  case I =>
    obtain ⟨imm, h⟩ := as_I1 k op w hop hw hf
    exact ⟨_, _, 0, imm, m1, m2, by decide, (fun h => by rcases h with h | h <;> cases h), h⟩
  case S => exact ⟨0, _, _, _, by decide, m2, m3, fun _ => rfl, as_S k op w hop hw hf⟩
  case B => exact ⟨0, _, _, _, by decide, m2, m3, fun _ => rfl, as_B k op w hop hw hf⟩
  case U => exact ⟨_, 0, 0, _, m1, by decide, by decide, (fun h => by rcases h with h | h <;> cases h), as_U k op w hop hw hf⟩
  case J => exact ⟨_, 0, 0, _, m1, by decide, by decide, (fun h => by rcases h with h | h <;> cases h), as_J k op w hop hw hf⟩
  case E => exact ⟨0, 0, 0, _, by decide, by decide, by decide, fun _ => rfl, as_E k op w hop hw hf⟩
def Miss (o w : Nat) : Prop := lowN o ≠ w % 128 ∨ (fm o ≠ .U ∧ fm o ≠ .J ∧ fm o ≠ .E ∧ kindN o ≠ w / 4096 % 8)
theorem dec_step (k o w : Nat) (ho : o < 43) (hw : w < 2 ^ 32) (hm : Miss o w) : caponierref02_Decode.l0 (k + 101) (w : Int) (o : Int) = caponierref02_Decode.l0 (k + 100) (w : Int) ((o + 1 : Nat) : Int) := by
  obtain ⟨rd, rs1, rs2, imm, h1, h2, h3, hz, has⟩ := as_some k o w ho hw
  rw [caponierref02_Decode.l0, if_pos (by omega), has, Option.bind_some, IntWalk.wrap64_in _ (by omega)]
  rcases enc_some k o rd rs1 rs2 imm ho h1 h2 h3 with he | he
  · rw [he, Option.bind_some, if_neg (by decide)]
    rfl
  · rw [he, Option.bind_some, if_pos rfl, if_neg ?_]
    · rfl
    · intro hc
      have hc' := Int.ofNat.inj hc
      rcases hm with hm | ⟨a, b, c, d⟩
      · exact hm (by rw [← hc']; exact (word_low o rd rs1 rs2 _ ho).symm)
      · exact d (by rw [← hc']; exact (word_kind o rd rs1 rs2 _ ho h1 a b c hz).symm)
theorem dec_run (k op w rd rs1 rs2 : Nat) (imm : Int) (hop : op < 43) (hw : w < 2 ^ 32) (hm : ∀ o, o < op → Miss o w)
    (has : ∀ j, caponierref02_as.f (j + 100) (w : Int) (op : Int) = some ((op : Int), (rd : Int), (rs1 : Int), (rs2 : Int), imm))
    (he : ∀ j, caponierref02_Encode.f (j + 100) op rd rs1 rs2 imm = some ((w : Int), 0)) :
    ∀ n o, o + n = op → caponierref02_Decode.l0 (k + 101 + n) (w : Int) (o : Int) = some ((op : Int), (rd : Int), (rs1 : Int), (rs2 : Int), imm, 0) := by
  intro n
  induction n with
  | zero =>
    intro o ho
    obtain rfl : o = op := by omega
    rw [Nat.add_zero, caponierref02_Decode.l0, if_pos (by omega), has, Option.bind_some, he, Option.bind_some, if_pos rfl, if_pos rfl]
  | succ n ih =>
    intro o ho
    rw [show k + 101 + (n + 1) = (k + n + 1) + 101 from by omega, dec_step (k + n + 1) o w (by omega) hw (hm o (by omega)), show k + n + 1 + 100 = k + 101 + n from by omega]
    exact ih (o + 1) (by omega)
theorem dec_f (k op w rd rs1 rs2 : Nat) (imm : Int) (hop : op < 43) (hw : w < 2 ^ 32) (hm : ∀ o, o < op → Miss o w)
    (has : ∀ j, caponierref02_as.f (j + 100) (w : Int) (op : Int) = some ((op : Int), (rd : Int), (rs1 : Int), (rs2 : Int), imm))
    (he : ∀ j, caponierref02_Encode.f (j + 100) op rd rs1 rs2 imm = some ((w : Int), 0)) : caponierref02_Decode.f (k + 200) (w : Int) = some ((op : Int), (rd : Int), (rs1 : Int), (rs2 : Int), imm, 0) := by
  have := dec_run (k + 99 - op) op w rd rs1 rs2 imm hop hw hm has he op 0 (by omega)
  rw [show k + 99 - op + 101 + op = k + 200 from by omega] at this
  exact this
def uniqN (op : Nat) : Bool := (List.range op).all fun o => lowN o != lowN op || (fm o != .U && fm o != .J && fm o != .E && fm op != .U && fm op != .J && fm op != .E && kindN o != kindN op)
theorem miss_of_uniq (op rd rs1 rs2 u : Nat) (hop : op < 43) (h1 : rd < 32) (hz : (fm op = .S ∨ fm op = .B) → rd = 0) (hu : uniqN op = true) : ∀ o, o < op → Miss o (wordN op rd rs1 rs2 u % 4294967296) := by
  intro o ho
  have := List.all_eq_true.1 hu o (List.mem_range.2 ho)
  simp only [Bool.or_eq_true, Bool.and_eq_true, bne_iff_ne, ne_eq] at this
  rcases this with h | ⟨⟨⟨⟨⟨⟨a, b⟩, c⟩, d⟩, e⟩, f⟩, g⟩
  · exact Or.inl (by rw [word_low _ _ _ _ _ hop]; exact h)
  · exact Or.inr ⟨a, b, c, by rw [word_kind _ _ _ _ _ hop h1 d e f hz]; exact g⟩
theorem j0_ok (k : Nat) (f : ByteArray) (L : List UInt8) (hb : f.toList = L) (op rd rs1 rs2 imm : Int) (h1 : rd = 0 ∨ (L ≠ [83] ∧ L ≠ [66] ∧ L ≠ [69])) (h2 : rs1 = 0 ∨ (L ≠ [85] ∧ L ≠ [74] ∧ L ≠ [69])) (h3 : rs2 = 0 ∨ L = [82] ∨ L = [83] ∨ L = [66]) :
    caponierref02_May.j0 (k + 3) f false op rd rs1 rs2 imm = caponierref02_May.j1 (k + 2) f false op rd rs1 rs2 imm := by
  rw [caponierref02_May.j0, if_neg (by decide)]
  simp only [hb]
  generalize caponierref02_May.j1 (k + 2) f = z
  repeat' split
  all_goals first | rfl | (simp_all; done)
theorem zz : ((0 : Nat) : Int) = 0 := rfl
theorem may_f0 (k op rd rs1 rs2 : Nat) (imm : Int) (hop : op < 43) (b1 : rd < 32) (b2 : rs1 < 32) (b3 : rs2 < 32) : caponierref02_May.f (k + 3) op rd rs1 rs2 imm = caponierref02_May.j0 (k + 3) (fm op).bytes false op rd rs1 rs2 imm := by
  unfold caponierref02_May.f
  rw [form_f (k + 1) op hop, Option.bind_some, if_neg (by cases fm op <;> simp [Fm.bytes, l82, l73, l83, l66, l85, l74, l69]), if_neg (by omega), if_neg (by omega), if_neg (by omega), if_neg (by omega), if_neg (by omega), decide_eq_false (by omega)]
theorem may_I (k op rd rs1 : Nat) (imm : Int) (hop : op < 43) (hf : fm op = .I) (hs : shiftN op = false) (b1 : rd < 32) (b2 : rs1 < 32) (hi : -2048 ≤ imm ∧ imm ≤ 2047) : caponierref02_May.f (k + 3) op rd rs1 (0 : Nat) imm = some true := by
  have hb : Fm.I.bytes.toList = [73] := l73
  rw [may_f0 k op rd rs1 0 imm hop b1 b2 (by decide), hf, j0_ok k _ _ hb _ _ _ _ _ (Or.inr (by decide)) (Or.inr (by decide)) (Or.inl zz), caponierref02_May.j1, hb, if_neg (by decide), if_pos rfl, caponierref02_May.j2, if_pos (by decide), shift_f op hop, hs, Option.bind_some, if_neg (by decide), if_pos (by omega), decide_eq_true (by omega)]
theorem may_S (k op rs1 rs2 : Nat) (imm : Int) (hop : op < 43) (hf : fm op = .S) (hs : shiftN op = false) (b2 : rs1 < 32) (b3 : rs2 < 32) (hi : -2048 ≤ imm ∧ imm ≤ 2047) : caponierref02_May.f (k + 3) op (0 : Nat) rs1 rs2 imm = some true := by
  have hb : Fm.S.bytes.toList = [83] := l83
  rw [may_f0 k op 0 rs1 rs2 imm hop (by decide) b2 b3, hf, j0_ok k _ _ hb _ _ _ _ _ (Or.inl zz) (Or.inr (by decide)) (Or.inr (by decide)), caponierref02_May.j1, hb, if_neg (by decide), if_neg (by decide), caponierref02_May.j2, if_pos (by decide), shift_f op hop, hs, Option.bind_some, if_neg (by decide), if_pos (by omega), decide_eq_true (by omega)]
theorem may_B (k op rs1 rs2 : Nat) (imm : Int) (hop : op < 43) (hf : fm op = .B) (b2 : rs1 < 32) (b3 : rs2 < 32) (hi : -4096 ≤ imm ∧ imm ≤ 4094) (h2 : imm % 2 = 0) : caponierref02_May.f (k + 3) op (0 : Nat) rs1 rs2 imm = some true := by
  have hb : Fm.B.bytes.toList = [66] := l66
  rw [may_f0 k op 0 rs1 rs2 imm hop (by decide) b2 b3, hf, j0_ok k _ _ hb _ _ _ _ _ (Or.inl zz) (Or.inr (by decide)) (Or.inr (by decide)), caponierref02_May.j1, hb, if_neg (by decide), if_neg (by decide), caponierref02_May.j2, if_neg (by decide), hb, if_pos rfl, if_pos (by omega), if_pos (by omega)]
  refine congrArg some (beq_iff_eq.2 ?_)
  exact Int.tmod_eq_zero_of_dvd (Int.dvd_of_emod_eq_zero h2)
theorem may_U (k op rd : Nat) (imm : Int) (hop : op < 43) (hf : fm op = .U) (b1 : rd < 32) (hi : -2147483648 ≤ imm ∧ imm ≤ 2147483647) (h2 : imm % 4096 = 0) : caponierref02_May.f (k + 3) op rd (0 : Nat) (0 : Nat) imm = some true := by
  have hb : Fm.U.bytes.toList = [85] := l85
  rw [may_f0 k op rd 0 0 imm hop b1 (by decide) (by decide), hf, j0_ok k _ _ hb _ _ _ _ _ (Or.inr (by decide)) (Or.inl zz) (Or.inl zz), caponierref02_May.j1, hb, if_neg (by decide), if_neg (by decide), caponierref02_May.j2, if_neg (by decide), hb, if_neg (by decide), if_pos rfl, if_pos (by omega), if_pos (by omega)]
  refine congrArg some (beq_iff_eq.2 ?_)
  exact Int.tmod_eq_zero_of_dvd (Int.dvd_of_emod_eq_zero h2)
theorem may_J (k op rd : Nat) (imm : Int) (hop : op < 43) (hf : fm op = .J) (b1 : rd < 32) (hi : -1048576 ≤ imm ∧ imm ≤ 1048574) (h2 : imm % 2 = 0) : caponierref02_May.f (k + 3) op rd (0 : Nat) (0 : Nat) imm = some true := by
  have hb : Fm.J.bytes.toList = [74] := l74
  rw [may_f0 k op rd 0 0 imm hop b1 (by decide) (by decide), hf, j0_ok k _ _ hb _ _ _ _ _ (Or.inr (by decide)) (Or.inl zz) (Or.inl zz), caponierref02_May.j1, hb, if_neg (by decide), if_neg (by decide), caponierref02_May.j2, if_neg (by decide), hb, if_neg (by decide), if_neg (by decide), if_pos rfl, if_pos (by omega), if_pos (by omega)]
  refine congrArg some (beq_iff_eq.2 ?_)
  exact Int.tmod_eq_zero_of_dvd (Int.dvd_of_emod_eq_zero h2)
theorem may_E (k : Nat) : caponierref02_May.f (k + 3) (42 : Nat) (0 : Nat) (0 : Nat) (0 : Nat) 0 = some true := by
  have hb : Fm.E.bytes.toList = [69] := l69
  rw [may_f0 k 42 0 0 0 0 (by decide) (by decide) (by decide) (by decide), show fm 42 = .E from rfl, j0_ok k _ _ hb _ _ _ _ _ (Or.inl zz) (Or.inl zz) (Or.inl zz), caponierref02_May.j1, hb, if_neg (by decide), if_neg (by decide), caponierref02_May.j2, if_neg (by decide), hb, if_neg (by decide), if_neg (by decide), if_neg (by decide)]
  rfl
end Go.Proofs.YtaoajlaocphgdaaDoor.PA
namespace Go.Proofs.YtaoajlaocphgdaaDoor.PA
open Go.RowKit Go.Proofs.YtaoajlaocphgdaaDoorW.PrintWords Go.Proofs.YtaoajlaocphgdaaDoorW.PrintLast Go.Proofs.YtaoajlaocphgdaaDoorW.PrintMore
set_option linter.unusedVariables false
set_option linter.unusedSimpArgs false
theorem u64N_mod (x : Int) (m : Nat) (h : (m : Int) ∣ 18446744073709551616) : ((u64N x % m : Nat) : Int) = x % (m : Int) := by
  unfold u64N
  rw [Int.natCast_emod, Int.toNat_of_nonneg (by omega)]
  exact Int.emod_emod_of_dvd x h
theorem row_form (op : Nat) (h : op < 43) : (rd_T97 rowsL (op : Int)).f0 = (fm op).bytes :=
  (by decide +kernel : ∀ o : Fin 43, (rd_T97 rowsL ((o.val : Nat) : Int)).f0 = (fm o.val).bytes) ⟨op, h⟩
theorem row_low (op : Nat) (h : op < 43) : (rd_T97 rowsL (op : Int)).f1.f0 = ((lowN op : Nat) : Int) :=
  (by decide +kernel : ∀ o : Fin 43, (rd_T97 rowsL ((o.val : Nat) : Int)).f1.f0 = ((lowN o.val : Nat) : Int)) ⟨op, h⟩
theorem row_kind (op : Nat) (h : op < 43) : (rd_T97 rowsL (op : Int)).f1.f1 = ((kindN op : Nat) : Int) :=
  (by decide +kernel : ∀ o : Fin 43, (rd_T97 rowsL ((o.val : Nat) : Int)).f1.f1 = ((kindN o.val : Nat) : Int)) ⟨op, h⟩
theorem pshift_f (op : Nat) (h : op < 43) : ins_shift.f (op : Int) = some (shiftN op) :=
  (by decide +kernel : ∀ o : Fin 43, ins_shift.f ((o.val : Nat) : Int) = some (shiftN o.val)) ⟨op, h⟩
theorem pform_f (op : Nat) (h : op < 43) : ins_Form.f (op : Int) = some (fm op).bytes := by
  unfold ins_Form.f
  rw [if_neg (by omega), if_neg (by omega), if_pos (by omega), if_pos (by omega), row_form op h]
def hasN (f : Fm) : Bool × Bool × Bool := match f with
  | .R => (true, true, true)
  | .I => (true, true, false)
  | .S => (false, true, true)
  | .B => (false, true, true)
  | .U => (true, false, false)
  | .J => (true, false, false)
  | .E => (false, false, false)
theorem has_f (k : Nat) (f : Fm) : ins_has.f (k + 1) f.bytes = some (hasN f) := by
  cases f <;> simp (decide := true) only [ins_has.f, ins_has.j0, Fm.bytes, hasN, l82, l73, l83, l66, l85, l74, l69, if_true, if_false, List.cons.injEq, and_true, beq_iff_eq, BEq.rfl]
theorem reg_f (n : Nat) (b : Bool) (hn : n < 32) (h : b = false → n = 0) : ins_reg.f (n : Int) b = some true := by
  unfold ins_reg.f
  by_cases h0 : n = 0
  · subst h0; rfl
  · have hb : b = true := by cases b with
      | false => exact absurd (h rfl) h0
      | true => rfl
    rw [if_neg (by omega), if_pos hb, if_pos (by omega), decide_eq_true (by omega)]
theorem pmay_f (k op rd rs1 rs2 : Nat) (imm : Int) (hop : op < 43) (b1 : rd < 32) (b2 : rs1 < 32) (b3 : rs2 < 32) (h1 : (hasN (fm op)).1 = false → rd = 0) (h2 : (hasN (fm op)).2.1 = false → rs1 = 0) (h3 : (hasN (fm op)).2.2 = false → rs2 = 0)
    (hi : ins_imm.f (op : Int) (rd : Int) (rs1 : Int) (rs2 : Int) imm = some true) : ins_May.f (k + 1) op rd rs1 rs2 imm = some true := by
  unfold ins_May.f
  rw [pform_f op hop, Option.bind_some, has_f k, Option.bind_some, if_neg (by cases fm op <;> simp [Fm.bytes, l82, l73, l83, l66, l85, l74, l69]), reg_f rd _ b1 h1, Option.bind_some, if_pos rfl, reg_f rs1 _ b2 h2, Option.bind_some, if_pos rfl, reg_f rs2 _ b3 h3, Option.bind_some, if_pos rfl, hi]
  rfl
theorem fits_f (imm : Int) (n : Nat) (h1 : 1 ≤ n) (h2 : n ≤ 64) (h : sgn (u64N imm) n = imm) : bits_Fits.f imm (n : Int) = some true := by
  unfold bits_Fits.f
  rw [if_pos (by omega), if_pos (by omega), wrap_u64N, sign_f _ n h1 h2, Option.bind_some, h]
  simp
theorem sgn12 (imm : Int) (h : -2048 ≤ imm ∧ imm ≤ 2047) : sgn (u64N imm) 12 = imm := by
  have e := u64N_mod imm 4096 (by decide)
  unfold sgn
  rw [show 2 ^ 12 = 4096 from rfl, show 2 ^ (12 - 1) = 2048 from rfl]
  split <;> omega
theorem sgn13 (imm : Int) (h : -4096 ≤ imm ∧ imm ≤ 4095) : sgn (u64N imm) 13 = imm := by
  have e := u64N_mod imm 8192 (by decide)
  unfold sgn
  rw [show 2 ^ 13 = 8192 from rfl, show 2 ^ (13 - 1) = 4096 from rfl]
  split <;> omega
theorem sgn21 (imm : Int) (h : -1048576 ≤ imm ∧ imm ≤ 1048575) : sgn (u64N imm) 21 = imm := by
  have e := u64N_mod imm 2097152 (by decide)
  unfold sgn
  rw [show 2 ^ 21 = 2097152 from rfl, show 2 ^ (21 - 1) = 1048576 from rfl]
  split <;> omega
theorem sgn32 (imm : Int) (h : -2147483648 ≤ imm ∧ imm ≤ 2147483647) : sgn (u64N imm) 32 = imm := by
  have e := u64N_mod imm 4294967296 (by decide)
  unfold sgn
  rw [show 2 ^ 32 = 4294967296 from rfl, show 2 ^ (32 - 1) = 2147483648 from rfl]
  split <;> omega
theorem sgn_mod (v n : Nat) : sgn (v % 2 ^ n) n = sgn v n := by unfold sgn; rw [Nat.mod_mod]
theorem enc_l0_step (k w n i : Nat) (xs : List S103) (a m p : Nat) (hx : xs[i]? = some ⟨(a : Int), (m : Int), (p : Int)⟩) (hw : w < 2 ^ 64) (hn : n < 2 ^ 64) (h1 : a + m ≤ 64) (h2 : p + m ≤ 64) (h0 : w / 2 ^ p % 2 ^ m = 0) (hl : xs.length ≤ 4) :
    ins_Encode.l0 (k + 1) (w : Int) (n : Int) xs (xs.length : Int) (i : Int) = ins_Encode.l0 k ((w + n / 2 ^ a % 2 ^ m * 2 ^ p : Nat) : Int) (n : Int) xs (xs.length : Int) ((i + 1 : Nat) : Int) := by
  have hi : i < xs.length := (List.getElem?_eq_some_iff.1 hx).1
  have hr : rd_T103 xs (i : Int) = ⟨(a : Int), (m : Int), (p : Int)⟩ := by
    unfold rd_T103
    rw [Int.toNat_natCast, List.getD_eq_getElem?_getD, hx]
    rfl
  have hsm : n / 2 ^ a % 2 ^ m < 2 ^ 64 := Nat.lt_of_le_of_lt (Nat.mod_le _ _) (Nat.lt_of_le_of_lt (Nat.div_le_self _ _) hn)
  rw [ins_Encode.l0, if_pos (by omega), if_pos (by omega), if_pos (by omega), hr]
  dsimp only
  rw [field_f n a m hn h1, Option.bind_some]
  dsimp only
  rw [put_f w p m _ hw hsm h2 h0, Option.bind_some, Nat.mod_mod]
  dsimp only
  rw [IntWalk.wrap64_in _ (by omega)]
  rfl
theorem enc_l0_end (k w n : Nat) (xs : List S103) : ins_Encode.l0 (k + 1) (w : Int) (n : Int) xs (xs.length : Int) (xs.length : Int) = some (((w % 4294967296 : Nat) : Int), 0) := by
  rw [ins_Encode.l0, if_neg (by omega)]
  rfl
theorem base_or (lo rd kd rs1 rs2 : Nat) (h0 : lo < 128) (h1 : rd < 32) (h2 : kd < 8) (h3 : rs1 < 32) (h4 : rs2 < 32) :
    Go.bits .or .u64 (Go.bits .or .u64 (Go.bits .or .u64 (Go.bits .or .u64 (lo : Int) (IntKind.u64.wrap ((IntKind.u64.wrap (rd : Int)) * 128))) (IntKind.u64.wrap ((kd : Int) * 4096))) (IntKind.u64.wrap ((IntKind.u64.wrap (rs1 : Int)) * 32768))) (IntKind.u64.wrap ((IntKind.u64.wrap (rs2 : Int)) * 1048576)) = ((lo + rd * 128 + kd * 4096 + rs1 * 32768 + rs2 * 1048576 : Nat) : Int) := by
  have e1 : IntKind.u64.wrap ((IntKind.u64.wrap (rd : Int)) * 128) = ((rd * 128 : Nat) : Int) := by simp only [wrap_u64]; omega
  have e2 : IntKind.u64.wrap ((kd : Int) * 4096) = ((kd * 4096 : Nat) : Int) := by simp only [wrap_u64]; omega
  have e3 : IntKind.u64.wrap ((IntKind.u64.wrap (rs1 : Int)) * 32768) = ((rs1 * 32768 : Nat) : Int) := by simp only [wrap_u64]; omega
  have e4 : IntKind.u64.wrap ((IntKind.u64.wrap (rs2 : Int)) * 1048576) = ((rs2 * 1048576 : Nat) : Int) := by simp only [wrap_u64]; omega
  rw [e1, e2, e3, e4, or_nat _ _ (by omega) (by omega), or_add 7 h0 rd rfl, or_nat _ _ (by omega) (by omega), or_add 12 (by omega) kd rfl, or_nat _ _ (by omega) (by omega), or_add 15 (by omega) rs1 rfl, or_nat _ _ (by omega) (by omega), or_add 20 (by omega) rs2 rfl]
theorem base_or2 (lo rd : Nat) (h0 : lo < 128) (h1 : rd < 32) : Go.bits .or .u64 (lo : Int) (IntKind.u64.wrap ((IntKind.u64.wrap (rd : Int)) * 128)) = ((lo + rd * 128 : Nat) : Int) := by
  have e1 : IntKind.u64.wrap ((IntKind.u64.wrap (rd : Int)) * 128) = ((rd * 128 : Nat) : Int) := by simp only [wrap_u64]; omega
  rw [e1, or_nat _ _ (by omega) (by omega), or_add 7 h0 rd rfl]
theorem penc_start (k op rd rs1 rs2 : Nat) (imm : Int) (hop : op < 43) (b1 : rd < 32) (b2 : rs1 < 32) (b3 : rs2 < 32) (hm : ins_May.f (k + 3) op rd rs1 rs2 imm = some true) (hE : fm op ≠ .E) (hR : fm op ≠ .R) (hs : shiftN op = false) (w : Nat)
    (hw : w = if fm op = .U ∨ fm op = .J then lowN op + rd * 128 else lowN op + rd * 128 + kindN op * 4096 + rs1 * 32768 + rs2 * 1048576) :
    ins_Encode.f (k + 3) op rd rs1 rs2 imm = (ins_parts.f (fm op).bytes).bind fun t => ins_Encode.l0 k (w : Int) (u64N imm : Int) t (t.length : Int) 0 := by
  obtain ⟨t1, t2, t3⟩ := tab_lt op hop
  unfold ins_Encode.f
  rw [hm, Option.bind_some, if_pos rfl, if_pos (by omega), if_pos (by omega), row_form op hop, row_low op hop, row_kind op hop, base_or _ _ _ _ _ t1 b1 t2 b2 b3]
  cases hf : fm op
  case E => exact absurd hf hE
  case R => exact absurd hf hR
  all_goals
    simp (decide := true) only [Fm.bytes, l82, l73, l83, l66, l85, l74, l69, if_true, if_false, List.cons.injEq, and_true, beq_iff_eq, BEq.rfl, ins_Encode.j0, ins_Encode.j1, ins_Encode.j2, pshift_f op hop, hs, Option.bind_some, base_or2 _ _ t1 b1, wrap_u64N imm, hf, or_self, or_true, true_or, or_false, false_or, reduceCtorEq, Bool.false_eq_true] at hw ⊢
    rw [hw]
theorem parts_I : ins_parts.f Fm.I.bytes = some [⟨0, 12, 20⟩] := by simp (decide := true) only [ins_parts.f, Fm.bytes, l73, if_true]
theorem parts_S : ins_parts.f Fm.S.bytes = some [⟨0, 5, 7⟩, ⟨5, 7, 25⟩] := by simp (decide := true) only [ins_parts.f, Fm.bytes, l83, if_true, if_false]
theorem parts_B : ins_parts.f Fm.B.bytes = some [⟨1, 4, 8⟩, ⟨5, 6, 25⟩, ⟨11, 1, 7⟩, ⟨12, 1, 31⟩] := by simp (decide := true) only [ins_parts.f, Fm.bytes, l66, if_true, if_false]
theorem parts_U : ins_parts.f Fm.U.bytes = some [⟨12, 20, 12⟩] := by simp (decide := true) only [ins_parts.f, Fm.bytes, l85, if_true, if_false]
theorem parts_J : ins_parts.f Fm.J.bytes = some [⟨1, 10, 21⟩, ⟨11, 1, 20⟩, ⟨12, 8, 12⟩, ⟨20, 1, 31⟩] := by simp (decide := true) only [ins_parts.f, Fm.bytes, l74, if_true, if_false]
theorem steps_1 (k w u : Nat) (a m p : Nat) (hw : w < 2 ^ 64) (hu : u < 2 ^ 64) (h1 : a + m ≤ 64) (h2 : p + m ≤ 64) (h0 : w / 2 ^ p % 2 ^ m = 0) :
    ins_Encode.l0 (k + 2) (w : Int) (u : Int) [⟨(a : Int), (m : Int), (p : Int)⟩] 1 0 = some ((((w + u / 2 ^ a % 2 ^ m * 2 ^ p) % 4294967296 : Nat) : Int), 0) := by
  have h := enc_l0_step (k + 1) w u 0 [⟨(a : Int), (m : Int), (p : Int)⟩] a m p rfl hw hu h1 h2 h0 (Nat.le_of_ble_eq_true rfl)
  exact h.trans (enc_l0_end k _ u [⟨(a : Int), (m : Int), (p : Int)⟩])
theorem steps_2 (k w u : Nat) (a m p a' m' p' w' : Nat) (hw : w < 2 ^ 64) (hu : u < 2 ^ 64) (h1 : a + m ≤ 64) (h2 : p + m ≤ 64) (h0 : w / 2 ^ p % 2 ^ m = 0)
    (ew : w' = w + u / 2 ^ a % 2 ^ m * 2 ^ p) (hw' : w' < 2 ^ 64) (h1' : a' + m' ≤ 64) (h2' : p' + m' ≤ 64) (h0' : w' / 2 ^ p' % 2 ^ m' = 0) :
    ins_Encode.l0 (k + 3) (w : Int) (u : Int) [⟨(a : Int), (m : Int), (p : Int)⟩, ⟨(a' : Int), (m' : Int), (p' : Int)⟩] 2 0 = some ((((w' + u / 2 ^ a' % 2 ^ m' * 2 ^ p') % 4294967296 : Nat) : Int), 0) := by
  have h := enc_l0_step (k + 2) w u 0 [⟨(a : Int), (m : Int), (p : Int)⟩, ⟨(a' : Int), (m' : Int), (p' : Int)⟩] a m p rfl hw hu h1 h2 h0 (Nat.le_of_ble_eq_true rfl)
  rw [← ew] at h
  have h' := enc_l0_step (k + 1) w' u 1 [⟨(a : Int), (m : Int), (p : Int)⟩, ⟨(a' : Int), (m' : Int), (p' : Int)⟩] a' m' p' rfl hw' hu h1' h2' h0' (Nat.le_of_ble_eq_true rfl)
  exact (h.trans h').trans (enc_l0_end k _ u [⟨(a : Int), (m : Int), (p : Int)⟩, ⟨(a' : Int), (m' : Int), (p' : Int)⟩])
theorem steps_4 (k w u : Nat) (a m p a' m' p' b n q b' n' q' w' x x' : Nat) (hw : w < 2 ^ 64) (hu : u < 2 ^ 64) (h1 : a + m ≤ 64) (h2 : p + m ≤ 64) (h0 : w / 2 ^ p % 2 ^ m = 0)
    (ew : w' = w + u / 2 ^ a % 2 ^ m * 2 ^ p) (hw' : w' < 2 ^ 64) (h1' : a' + m' ≤ 64) (h2' : p' + m' ≤ 64) (h0' : w' / 2 ^ p' % 2 ^ m' = 0)
    (ex : x = w' + u / 2 ^ a' % 2 ^ m' * 2 ^ p') (hx : x < 2 ^ 64) (k1 : b + n ≤ 64) (k2 : q + n ≤ 64) (k0 : x / 2 ^ q % 2 ^ n = 0)
    (ex' : x' = x + u / 2 ^ b % 2 ^ n * 2 ^ q) (hx' : x' < 2 ^ 64) (k1' : b' + n' ≤ 64) (k2' : q' + n' ≤ 64) (k0' : x' / 2 ^ q' % 2 ^ n' = 0) :
    ins_Encode.l0 (k + 5) (w : Int) (u : Int) [⟨(a : Int), (m : Int), (p : Int)⟩, ⟨(a' : Int), (m' : Int), (p' : Int)⟩, ⟨(b : Int), (n : Int), (q : Int)⟩, ⟨(b' : Int), (n' : Int), (q' : Int)⟩] 4 0 = some ((((x' + u / 2 ^ b' % 2 ^ n' * 2 ^ q') % 4294967296 : Nat) : Int), 0) := by
  have h := enc_l0_step (k + 4) w u 0 [⟨(a : Int), (m : Int), (p : Int)⟩, ⟨(a' : Int), (m' : Int), (p' : Int)⟩, ⟨(b : Int), (n : Int), (q : Int)⟩, ⟨(b' : Int), (n' : Int), (q' : Int)⟩] a m p rfl hw hu h1 h2 h0 (Nat.le_of_ble_eq_true rfl)
  rw [← ew] at h
  have h' := enc_l0_step (k + 3) w' u 1 [⟨(a : Int), (m : Int), (p : Int)⟩, ⟨(a' : Int), (m' : Int), (p' : Int)⟩, ⟨(b : Int), (n : Int), (q : Int)⟩, ⟨(b' : Int), (n' : Int), (q' : Int)⟩] a' m' p' rfl hw' hu h1' h2' h0' (Nat.le_of_ble_eq_true rfl)
  rw [← ex] at h'
  have g := enc_l0_step (k + 2) x u 2 [⟨(a : Int), (m : Int), (p : Int)⟩, ⟨(a' : Int), (m' : Int), (p' : Int)⟩, ⟨(b : Int), (n : Int), (q : Int)⟩, ⟨(b' : Int), (n' : Int), (q' : Int)⟩] b n q rfl hx hu k1 k2 k0 (Nat.le_of_ble_eq_true rfl)
  rw [← ex'] at g
  have g' := enc_l0_step (k + 1) x' u 3 [⟨(a : Int), (m : Int), (p : Int)⟩, ⟨(a' : Int), (m' : Int), (p' : Int)⟩, ⟨(b : Int), (n : Int), (q : Int)⟩, ⟨(b' : Int), (n' : Int), (q' : Int)⟩] b' n' q' rfl hx' hu k1' k2' k0' (Nat.le_of_ble_eq_true rfl)
  exact (((h.trans h').trans g).trans g').trans (enc_l0_end k _ u [⟨(a : Int), (m : Int), (p : Int)⟩, ⟨(a' : Int), (m' : Int), (p' : Int)⟩, ⟨(b : Int), (n : Int), (q : Int)⟩, ⟨(b' : Int), (n' : Int), (q' : Int)⟩])
end Go.Proofs.YtaoajlaocphgdaaDoor.PA
namespace Go.Proofs.YtaoajlaocphgdaaDoor.PA
open Go.RowKit Go.Proofs.YtaoajlaocphgdaaDoorW.PrintWords Go.Proofs.YtaoajlaocphgdaaDoorW.PrintLast Go.Proofs.YtaoajlaocphgdaaDoorW.PrintMore
set_option linter.unusedVariables false
set_option linter.unusedSimpArgs false
structure Both (op rd rs1 rs2 : Nat) (imm : Int) (w : Nat) : Prop where
  lt : w < 4294967296
  prog : ∀ k, ins_Encode.f (k + 10) op rd rs1 rs2 imm = some ((w : Int), 0)
  enc : ∀ k, caponierref02_Encode.f (k + 100) op rd rs1 rs2 imm = some ((w : Int), 0)
  dec : ∀ k, caponierref02_Decode.f (k + 200) (w : Int) = some ((op : Int), (rd : Int), (rs1 : Int), (rs2 : Int), imm, 0)
theorem imm_I (op rd rs1 rs2 : Nat) (imm : Int) (hop : op < 43) (hf : fm op = .I) (hs : shiftN op = false) (hi : -2048 ≤ imm ∧ imm ≤ 2047) : ins_imm.f (op : Int) (rd : Int) (rs1 : Int) (rs2 : Int) imm = some true := by
  unfold ins_imm.f
  rw [if_pos (by omega), if_pos (by omega), row_form op hop, hf, show Fm.I.bytes.toList = [73] from l73, if_pos rfl, pshift_f op hop, hs, Option.bind_some, if_neg (by decide), show bits_Fits.f imm 12 = some true from fits_f imm 12 (by decide) (by decide) (sgn12 imm hi)]
  rfl
theorem imm_S (op rd rs1 rs2 : Nat) (imm : Int) (hop : op < 43) (hf : fm op = .S) (hi : -2048 ≤ imm ∧ imm ≤ 2047) : ins_imm.f (op : Int) (rd : Int) (rs1 : Int) (rs2 : Int) imm = some true := by
  unfold ins_imm.f
  rw [if_pos (by omega), if_pos (by omega), row_form op hop, hf, show Fm.S.bytes.toList = [83] from l83, if_neg (by decide), if_pos rfl, show bits_Fits.f imm 12 = some true from fits_f imm 12 (by decide) (by decide) (sgn12 imm hi)]
  rfl
theorem and1 (imm : Int) (h : imm % 2 = 0) : Go.bits .and .i64 imm 1 = 0 := by
  show IntKind.i64.wrap ((((BitVec.ofInt 64 imm) &&& (BitVec.ofInt 64 1) : BitVec 64).toNat : Nat) : Int) = 0
  rw [BitVec.toNat_and, show (BitVec.ofInt 64 1).toNat = 2 ^ 1 - 1 from rfl, Nat.and_two_pow_sub_one_eq_mod, BitVec.toNat_ofInt]
  have : (imm % ((2 ^ 64 : Nat) : Int)).toNat % 2 ^ 1 = 0 := by
    have e : ((2 ^ 64 : Nat) : Int) = 18446744073709551616 := rfl
    rw [e]; omega
  rw [this]; rfl
theorem and4095 (imm : Int) (h : imm % 4096 = 0) : Go.bits .and .i64 imm 4095 = 0 := by
  show IntKind.i64.wrap ((((BitVec.ofInt 64 imm) &&& (BitVec.ofInt 64 4095) : BitVec 64).toNat : Nat) : Int) = 0
  rw [BitVec.toNat_and, show (BitVec.ofInt 64 4095).toNat = 2 ^ 12 - 1 from rfl, Nat.and_two_pow_sub_one_eq_mod, BitVec.toNat_ofInt]
  have : (imm % ((2 ^ 64 : Nat) : Int)).toNat % 2 ^ 12 = 0 := by
    have e : ((2 ^ 64 : Nat) : Int) = 18446744073709551616 := rfl
    rw [e]; omega
  rw [this]; rfl
theorem imm_B (op rd rs1 rs2 : Nat) (imm : Int) (hop : op < 43) (hf : fm op = .B) (hi : -4096 ≤ imm ∧ imm ≤ 4094) (h2 : imm % 2 = 0) : ins_imm.f (op : Int) (rd : Int) (rs1 : Int) (rs2 : Int) imm = some true := by
  unfold ins_imm.f
  rw [if_pos (by omega), if_pos (by omega), row_form op hop, hf, show Fm.B.bytes.toList = [66] from l66, if_neg (by decide), if_neg (by decide), if_pos rfl, show bits_Fits.f imm 13 = some true from fits_f imm 13 (by decide) (by decide) (sgn13 imm (by omega)), Option.bind_some, if_pos rfl, and1 imm h2]
  rfl
theorem imm_U (op rd rs1 rs2 : Nat) (imm : Int) (hop : op < 43) (hf : fm op = .U) (hi : -2147483648 ≤ imm ∧ imm ≤ 2147483647) (h2 : imm % 4096 = 0) : ins_imm.f (op : Int) (rd : Int) (rs1 : Int) (rs2 : Int) imm = some true := by
  unfold ins_imm.f
  rw [if_pos (by omega), if_pos (by omega), row_form op hop, hf, show Fm.U.bytes.toList = [85] from l85, if_neg (by decide), if_neg (by decide), if_neg (by decide), if_pos rfl, show bits_Fits.f imm 32 = some true from fits_f imm 32 (by decide) (by decide) (sgn32 imm hi), Option.bind_some, if_pos rfl, and4095 imm h2]
  rfl
theorem imm_J (op rd rs1 rs2 : Nat) (imm : Int) (hop : op < 43) (hf : fm op = .J) (hi : -1048576 ≤ imm ∧ imm ≤ 1048574) (h2 : imm % 2 = 0) : ins_imm.f (op : Int) (rd : Int) (rs1 : Int) (rs2 : Int) imm = some true := by
  unfold ins_imm.f
  rw [if_pos (by omega), if_pos (by omega), row_form op hop, hf, show Fm.J.bytes.toList = [74] from l74, if_neg (by decide), if_neg (by decide), if_neg (by decide), if_neg (by decide), if_pos rfl, show bits_Fits.f imm 21 = some true from fits_f imm 21 (by decide) (by decide) (sgn21 imm (by omega)), Option.bind_some, if_pos rfl, and1 imm h2]
  rfl
theorem cut_B (u : Nat) (h : u % 2 = 0) : u / 2 % 16 * 2 + u / 32 % 64 * 32 + u / 2048 % 2 * 2048 + u / 4096 % 2 * 4096 = u % 8192 := by
  have a1 : u % 32 = u % 2 + u / 2 % 16 * 2 := by omega
  have a2 : u % 2048 = u % 32 + u / 32 % 64 * 32 := by omega
  have a3 : u % 4096 = u % 2048 + u / 2048 % 2 * 2048 := by omega
  have a4 : u % 8192 = u % 4096 + u / 4096 % 2 * 4096 := by omega
  rw [a4, a3, a2, a1, h, Nat.zero_add]
theorem cut_J (u : Nat) (h : u % 2 = 0) : u / 2 % 1024 * 2 + u / 2048 % 2 * 2048 + u / 4096 % 256 * 4096 + u / 1048576 % 2 * 1048576 = u % 2097152 := by
  have a1 : u % 2048 = u % 2 + u / 2 % 1024 * 2 := by omega
  have a2 : u % 4096 = u % 2048 + u / 2048 % 2 * 2048 := by omega
  have a3 : u % 1048576 = u % 4096 + u / 4096 % 256 * 4096 := by omega
  have a4 : u % 2097152 = u % 1048576 + u / 1048576 % 2 * 1048576 := by omega
  rw [a4, a3, a2, a1, h, Nat.zero_add]
theorem ne_fm {a b : Fm} {op : Nat} (h : fm op = a) (hn : a ≠ b) : fm op ≠ b := h ▸ hn
theorem both_I (op rd rs1 : Nat) (imm : Int) (hop : op < 43) (hf : fm op = .I) (hs : shiftN op = false) (hu : uniqN op = true) (b1 : rd < 32) (b2 : rs1 < 32) (hi : -2048 ≤ imm ∧ imm ≤ 2047) : Both op rd rs1 0 imm (wordN op rd rs1 0 (u64N imm) % 4294967296) := by
  obtain ⟨t1, t2, t3⟩ := tab_lt op hop
  have he : ∀ k, caponierref02_Encode.f (k + 100) op rd rs1 (0 : Nat) imm = some (((wordN op rd rs1 0 (u64N imm) % 4294967296 : Nat) : Int), 0) := fun k => enc_f k op rd rs1 0 imm hop b1 b2 (by decide) (may_I (k + 97) op rd rs1 imm hop hf hs b1 b2 hi)
  have hlt : wordN op rd rs1 0 (u64N imm) % 4294967296 < 4294967296 := Nat.mod_lt _ (by decide)
  have hw : wordN op rd rs1 0 (u64N imm) % 4294967296 = lowN op + rd * 128 + kindN op * 4096 + rs1 * 32768 + u64N imm % 4096 * 1048576 := by
    have hy : u64N imm % 4096 < 4096 := Nat.mod_lt _ (by decide)
    unfold wordN
    rw [hf]
    dsimp only
    rw [hs, if_neg (by decide)]
    generalize u64N imm % 4096 = y at *
    omega
  refine ⟨hlt, fun k => ?_, he, fun k => dec_f k op _ rd rs1 0 imm hop hlt (miss_of_uniq op rd rs1 0 _ hop b1 (fun h => by rcases h with h | h <;> rw [hf] at h <;> cases h) hu) (fun j => ?_) he⟩
  · rw [penc_start (k + 7) op rd rs1 0 imm hop b1 b2 (by decide) (pmay_f (k + 9) op rd rs1 0 imm hop b1 b2 (by decide) (by rw [hf]; intro h; cases h) (by rw [hf]; intro h; cases h) (fun _ => rfl) (imm_I op rd rs1 0 imm hop hf hs hi)) (ne_fm hf (by decide)) (ne_fm hf (by decide)) hs (lowN op + rd * 128 + kindN op * 4096 + rs1 * 32768 + 0 * 1048576) (by rw [if_neg (by rw [hf]; decide)]), hf, parts_I, Option.bind_some]
    refine (steps_1 (k + 5) (lowN op + rd * 128 + kindN op * 4096 + rs1 * 32768 + 0 * 1048576) (u64N imm) 0 12 20 (by omega) (u64N_lt imm) (by decide) (by decide) (by omega)).trans ?_
    refine congrArg (fun z : Nat => some ((z : Int), (0 : Int))) ?_
    rw [hw]
    have hy : u64N imm % 4096 < 4096 := Nat.mod_lt _ (by decide)
    rw [Nat.pow_zero, Nat.div_one, show (2 : Nat) ^ 12 = 4096 from rfl, show (2 : Nat) ^ 20 = 1048576 from rfl]
    generalize u64N imm % 4096 = y at *
    omega
  · rw [as_I0 j op _ hop hlt hf hs, hw]
    have hy : u64N imm % 4096 < 4096 := Nat.mod_lt _ (by decide)
    have hsg := sgn12 imm hi
    rw [← sgn_mod (u64N imm) 12, show (2 : Nat) ^ 12 = 4096 from rfl] at hsg
    generalize u64N imm % 4096 = y at *
    have e1 : (lowN op + rd * 128 + kindN op * 4096 + rs1 * 32768 + y * 1048576) / 128 % 32 = rd := by omega
    have e2 : (lowN op + rd * 128 + kindN op * 4096 + rs1 * 32768 + y * 1048576) / 32768 % 32 = rs1 := by omega
    have e3 : (lowN op + rd * 128 + kindN op * 4096 + rs1 * 32768 + y * 1048576) / 1048576 % 4096 = y := by omega
    rw [e1, e2, e3, hsg]
    rfl
theorem both_S (op rs1 rs2 : Nat) (imm : Int) (hop : op < 43) (hf : fm op = .S) (hs : shiftN op = false) (hu : uniqN op = true) (b2 : rs1 < 32) (b3 : rs2 < 32) (hi : -2048 ≤ imm ∧ imm ≤ 2047) : Both op 0 rs1 rs2 imm (wordN op 0 rs1 rs2 (u64N imm) % 4294967296) := by
  obtain ⟨t1, t2, t3⟩ := tab_lt op hop
  have he : ∀ k, caponierref02_Encode.f (k + 100) op (0 : Nat) rs1 rs2 imm = some (((wordN op 0 rs1 rs2 (u64N imm) % 4294967296 : Nat) : Int), 0) := fun k => enc_f k op 0 rs1 rs2 imm hop (by decide) b2 b3 (may_S (k + 97) op rs1 rs2 imm hop hf hs b2 b3 hi)
  have hlt : wordN op 0 rs1 rs2 (u64N imm) % 4294967296 < 4294967296 := Nat.mod_lt _ (by decide)
  have hw : wordN op 0 rs1 rs2 (u64N imm) % 4294967296 = lowN op + kindN op * 4096 + rs1 * 32768 + rs2 * 1048576 + u64N imm % 32 * 128 + u64N imm / 32 % 128 * 33554432 := by
    have hy : u64N imm % 32 < 32 := Nat.mod_lt _ (by decide)
    have hx : u64N imm / 32 % 128 < 128 := Nat.mod_lt _ (by decide)
    unfold wordN
    rw [hf]
    dsimp only
    generalize u64N imm % 32 = y at *
    generalize u64N imm / 32 % 128 = x at *
    omega
  refine ⟨hlt, fun k => ?_, he, fun k => dec_f k op _ 0 rs1 rs2 imm hop hlt (miss_of_uniq op 0 rs1 rs2 _ hop (by decide) (fun _ => rfl) hu) (fun j => ?_) he⟩
  · rw [penc_start (k + 7) op 0 rs1 rs2 imm hop (by decide) b2 b3 (pmay_f (k + 9) op 0 rs1 rs2 imm hop (by decide) b2 b3 (fun _ => rfl) (by rw [hf]; intro h; cases h) (by rw [hf]; intro h; cases h) (imm_S op 0 rs1 rs2 imm hop hf hi)) (ne_fm hf (by decide)) (ne_fm hf (by decide)) hs (lowN op + 0 * 128 + kindN op * 4096 + rs1 * 32768 + rs2 * 1048576) (by rw [if_neg (by rw [hf]; decide)]), hf, parts_S, Option.bind_some]
    have hy : u64N imm % 32 < 32 := Nat.mod_lt _ (by decide)
    have hx : u64N imm / 32 % 128 < 128 := Nat.mod_lt _ (by decide)
    refine (steps_2 (k + 4) (lowN op + 0 * 128 + kindN op * 4096 + rs1 * 32768 + rs2 * 1048576) (u64N imm) 0 5 7 5 7 25 (lowN op + 0 * 128 + kindN op * 4096 + rs1 * 32768 + rs2 * 1048576 + u64N imm % 32 * 128) (by omega) (u64N_lt imm) (by decide) (by decide) (by omega) (by rw [Nat.pow_zero, Nat.div_one]) (by omega) (by decide) (by decide) ?_).trans ?_
    · generalize u64N imm % 32 = y at *
      omega
    · refine congrArg (fun z : Nat => some ((z : Int), (0 : Int))) ?_
      rw [hw, show (2 : Nat) ^ 5 = 32 from rfl, show (2 : Nat) ^ 7 = 128 from rfl, show (2 : Nat) ^ 25 = 33554432 from rfl]
      generalize u64N imm % 32 = y at *
      generalize u64N imm / 32 % 128 = x at *
      omega
  · rw [as_S j op _ hop hlt hf, hw]
    have hy : u64N imm % 32 < 32 := Nat.mod_lt _ (by decide)
    have hx : u64N imm / 32 % 128 < 128 := Nat.mod_lt _ (by decide)
    have hsg := sgn12 imm hi
    have hyx : u64N imm % 32 + u64N imm / 32 % 128 * 32 = u64N imm % 4096 := by omega
    rw [← sgn_mod (u64N imm) 12, show (2 : Nat) ^ 12 = 4096 from rfl, ← hyx] at hsg
    clear hyx he hlt hw
    generalize u64N imm % 32 = y at *
    generalize u64N imm / 32 % 128 = x at *
    generalize lowN op = lo at *
    generalize kindN op = kd at *
    have e1 : (lo + kd * 4096 + rs1 * 32768 + rs2 * 1048576 + y * 128 + x * 33554432) / 128 % 32 = y := by omega
    have e2 : (lo + kd * 4096 + rs1 * 32768 + rs2 * 1048576 + y * 128 + x * 33554432) / 32768 % 32 = rs1 := by omega
    have e3 : (lo + kd * 4096 + rs1 * 32768 + rs2 * 1048576 + y * 128 + x * 33554432) / 1048576 % 32 = rs2 := by omega
    have e4 : (lo + kd * 4096 + rs1 * 32768 + rs2 * 1048576 + y * 128 + x * 33554432) / 33554432 % 128 = x := by omega
    rw [e1, e2, e3, e4, hsg]
    rfl
theorem both_U (op rd : Nat) (imm : Int) (hop : op < 43) (hf : fm op = .U) (hs : shiftN op = false) (hu : uniqN op = true) (b1 : rd < 32) (hi : -2147483648 ≤ imm ∧ imm ≤ 2147483647) (h2 : imm % 4096 = 0) : Both op rd 0 0 imm (wordN op rd 0 0 (u64N imm) % 4294967296) := by
  obtain ⟨t1, t2, t3⟩ := tab_lt op hop
  have he : ∀ k, caponierref02_Encode.f (k + 100) op rd (0 : Nat) (0 : Nat) imm = some (((wordN op rd 0 0 (u64N imm) % 4294967296 : Nat) : Int), 0) := fun k => enc_f k op rd 0 0 imm hop b1 (by decide) (by decide) (may_U (k + 97) op rd imm hop hf b1 hi h2)
  have hlt : wordN op rd 0 0 (u64N imm) % 4294967296 < 4294967296 := Nat.mod_lt _ (by decide)
  have hw : wordN op rd 0 0 (u64N imm) % 4294967296 = lowN op + rd * 128 + u64N imm / 4096 % 1048576 * 4096 := by
    have hy : u64N imm / 4096 % 1048576 < 1048576 := Nat.mod_lt _ (by decide)
    unfold wordN
    rw [hf]
    dsimp only
    generalize u64N imm / 4096 % 1048576 = y at *
    omega
  refine ⟨hlt, fun k => ?_, he, fun k => dec_f k op _ rd 0 0 imm hop hlt (miss_of_uniq op rd 0 0 _ hop b1 (fun h => by rcases h with h | h <;> rw [hf] at h <;> cases h) hu) (fun j => ?_) he⟩
  · rw [penc_start (k + 7) op rd 0 0 imm hop b1 (by decide) (by decide) (pmay_f (k + 9) op rd 0 0 imm hop b1 (by decide) (by decide) (by rw [hf]; intro h; cases h) (fun _ => rfl) (fun _ => rfl) (imm_U op rd 0 0 imm hop hf hi h2)) (ne_fm hf (by decide)) (ne_fm hf (by decide)) hs (lowN op + rd * 128) (by rw [if_pos (Or.inl hf)]), hf, parts_U, Option.bind_some]
    refine (steps_1 (k + 5) (lowN op + rd * 128) (u64N imm) 12 20 12 (by omega) (u64N_lt imm) (by decide) (by decide) (by omega)).trans ?_
    refine congrArg (fun z : Nat => some ((z : Int), (0 : Int))) ?_
    rw [hw]
    have hy : u64N imm / 4096 % 1048576 < 1048576 := Nat.mod_lt _ (by decide)
    rw [show (2 : Nat) ^ 12 = 4096 from rfl, show (2 : Nat) ^ 20 = 1048576 from rfl]
    generalize u64N imm / 4096 % 1048576 = y at *
    omega
  · rw [as_U j op _ hop hlt hf, hw]
    have hy : u64N imm / 4096 % 1048576 < 1048576 := Nat.mod_lt _ (by decide)
    have hsg := sgn32 imm hi
    have hm := u64N_mod imm 4096 (by decide)
    have hyx : u64N imm / 4096 % 1048576 * 4096 = u64N imm % 4294967296 := by omega
    rw [← sgn_mod (u64N imm) 32, show (2 : Nat) ^ 32 = 4294967296 from rfl, ← hyx] at hsg
    clear hyx hm he hlt hw
    generalize u64N imm / 4096 % 1048576 = y at *
    generalize lowN op = lo at *
    have e1 : (lo + rd * 128 + y * 4096) / 128 % 32 = rd := by omega
    have e2 : (lo + rd * 128 + y * 4096) / 4096 % 1048576 = y := by omega
    rw [e1, e2, hsg]
    rfl
theorem both_B (op rs1 rs2 : Nat) (imm : Int) (hop : op < 43) (hf : fm op = .B) (hs : shiftN op = false) (hu : uniqN op = true) (b2 : rs1 < 32) (b3 : rs2 < 32) (hi : -4096 ≤ imm ∧ imm ≤ 4094) (h2 : imm % 2 = 0) : Both op 0 rs1 rs2 imm (wordN op 0 rs1 rs2 (u64N imm) % 4294967296) := by
  obtain ⟨t1, t2, t3⟩ := tab_lt op hop
  have he : ∀ k, caponierref02_Encode.f (k + 100) op (0 : Nat) rs1 rs2 imm = some (((wordN op 0 rs1 rs2 (u64N imm) % 4294967296 : Nat) : Int), 0) := fun k => enc_f k op 0 rs1 rs2 imm hop (by decide) b2 b3 (may_B (k + 97) op rs1 rs2 imm hop hf b2 b3 hi h2)
  have hlt : wordN op 0 rs1 rs2 (u64N imm) % 4294967296 < 4294967296 := Nat.mod_lt _ (by decide)
  have hw : wordN op 0 rs1 rs2 (u64N imm) % 4294967296 = lowN op + kindN op * 4096 + rs1 * 32768 + rs2 * 1048576 + u64N imm / 2 % 16 * 256 + u64N imm / 32 % 64 * 33554432 + u64N imm / 2048 % 2 * 128 + u64N imm / 4096 % 2 * 2147483648 := by
    have hx0 : u64N imm / 2 % 16 < 16 := Nat.mod_lt _ (by decide)
    have hx1 : u64N imm / 32 % 64 < 64 := Nat.mod_lt _ (by decide)
    have hx2 : u64N imm / 2048 % 2 < 2 := Nat.mod_lt _ (by decide)
    have hx3 : u64N imm / 4096 % 2 < 2 := Nat.mod_lt _ (by decide)
    unfold wordN
    rw [hf]
    dsimp only
    generalize u64N imm / 2 % 16 = y0 at *
    generalize u64N imm / 32 % 64 = y1 at *
    generalize u64N imm / 2048 % 2 = y2 at *
    generalize u64N imm / 4096 % 2 = y3 at *
    generalize lowN op = lo at *
    generalize kindN op = kd at *
    clear he hlt
    omega
  refine ⟨hlt, fun k => ?_, he, fun k => dec_f k op _ 0 rs1 rs2 imm hop hlt (miss_of_uniq op 0 rs1 rs2 _ hop (by decide) (fun _ => rfl) hu) (fun j => ?_) he⟩
  · rw [penc_start (k + 7) op 0 rs1 rs2 imm hop (by decide) b2 b3 (pmay_f (k + 9) op 0 rs1 rs2 imm hop (by decide) b2 b3 (fun _ => rfl) (by rw [hf]; intro h; cases h) (by rw [hf]; intro h; cases h) (imm_B op 0 rs1 rs2 imm hop hf hi h2)) (ne_fm hf (by decide)) (ne_fm hf (by decide)) hs (lowN op + 0 * 128 + kindN op * 4096 + rs1 * 32768 + rs2 * 1048576) (by rw [if_neg (by rw [hf]; decide)]), hf, parts_B, Option.bind_some]
    have hx0 : u64N imm / 2 % 16 < 16 := Nat.mod_lt _ (by decide)
    have hx1 : u64N imm / 32 % 64 < 64 := Nat.mod_lt _ (by decide)
    have hx2 : u64N imm / 2048 % 2 < 2 := Nat.mod_lt _ (by decide)
    have hx3 : u64N imm / 4096 % 2 < 2 := Nat.mod_lt _ (by decide)
    clear he hlt
    refine (steps_4 (k + 2) (lowN op + 0 * 128 + kindN op * 4096 + rs1 * 32768 + rs2 * 1048576) (u64N imm) 1 4 8 5 6 25 11 1 7 12 1 31 (lowN op + 0 * 128 + kindN op * 4096 + rs1 * 32768 + rs2 * 1048576 + u64N imm / 2 % 16 * 256) (lowN op + 0 * 128 + kindN op * 4096 + rs1 * 32768 + rs2 * 1048576 + u64N imm / 2 % 16 * 256 + u64N imm / 32 % 64 * 33554432) (lowN op + 0 * 128 + kindN op * 4096 + rs1 * 32768 + rs2 * 1048576 + u64N imm / 2 % 16 * 256 + u64N imm / 32 % 64 * 33554432 + u64N imm / 2048 % 2 * 128) ?_ (u64N_lt imm) (by decide) (by decide) ?_ rfl ?_ (by decide) (by decide) ?_ rfl ?_ (by decide) (by decide) ?_ rfl ?_ (by decide) (by decide) ?_).trans ?_
    · generalize u64N imm / 2 % 16 = y0 at *
      generalize u64N imm / 32 % 64 = y1 at *
      generalize u64N imm / 2048 % 2 = y2 at *
      generalize u64N imm / 4096 % 2 = y3 at *
      generalize lowN op = lo at *
      generalize kindN op = kd at *
      clear hw
      omega
    · generalize u64N imm / 2 % 16 = y0 at *
      generalize u64N imm / 32 % 64 = y1 at *
      generalize u64N imm / 2048 % 2 = y2 at *
      generalize u64N imm / 4096 % 2 = y3 at *
      generalize lowN op = lo at *
      generalize kindN op = kd at *
      clear hw
      omega
    · generalize u64N imm / 2 % 16 = y0 at *
      generalize u64N imm / 32 % 64 = y1 at *
      generalize u64N imm / 2048 % 2 = y2 at *
      generalize u64N imm / 4096 % 2 = y3 at *
      generalize lowN op = lo at *
      generalize kindN op = kd at *
      clear hw
      omega
    · generalize u64N imm / 2 % 16 = y0 at *
      generalize u64N imm / 32 % 64 = y1 at *
      generalize u64N imm / 2048 % 2 = y2 at *
      generalize u64N imm / 4096 % 2 = y3 at *
      generalize lowN op = lo at *
      generalize kindN op = kd at *
      clear hw
      omega
    · generalize u64N imm / 2 % 16 = y0 at *
      generalize u64N imm / 32 % 64 = y1 at *
      generalize u64N imm / 2048 % 2 = y2 at *
      generalize u64N imm / 4096 % 2 = y3 at *
      generalize lowN op = lo at *
      generalize kindN op = kd at *
      clear hw
      omega
    · generalize u64N imm / 2 % 16 = y0 at *
      generalize u64N imm / 32 % 64 = y1 at *
      generalize u64N imm / 2048 % 2 = y2 at *
      generalize u64N imm / 4096 % 2 = y3 at *
      generalize lowN op = lo at *
      generalize kindN op = kd at *
      clear hw
      omega
    · generalize u64N imm / 2 % 16 = y0 at *
      generalize u64N imm / 32 % 64 = y1 at *
      generalize u64N imm / 2048 % 2 = y2 at *
      generalize u64N imm / 4096 % 2 = y3 at *
      generalize lowN op = lo at *
      generalize kindN op = kd at *
      clear hw
      omega
    · generalize u64N imm / 2 % 16 = y0 at *
      generalize u64N imm / 32 % 64 = y1 at *
      generalize u64N imm / 2048 % 2 = y2 at *
      generalize u64N imm / 4096 % 2 = y3 at *
      generalize lowN op = lo at *
      generalize kindN op = kd at *
      clear hw
      omega
    · refine congrArg (fun z : Nat => some ((z : Int), (0 : Int))) ?_
      rw [hw]
      show (lowN op + 0 * 128 + kindN op * 4096 + rs1 * 32768 + rs2 * 1048576 + u64N imm / 2 % 16 * 256 + u64N imm / 32 % 64 * 33554432 + u64N imm / 2048 % 2 * 128 + u64N imm / 4096 % 2 * 2147483648) % 4294967296 = _
      generalize u64N imm / 2 % 16 = y0 at *
      generalize u64N imm / 32 % 64 = y1 at *
      generalize u64N imm / 2048 % 2 = y2 at *
      generalize u64N imm / 4096 % 2 = y3 at *
      generalize lowN op = lo at *
      generalize kindN op = kd at *
      clear hw
      omega
  · rw [as_B j op _ hop hlt hf, hw]
    have hx0 : u64N imm / 2 % 16 < 16 := Nat.mod_lt _ (by decide)
    have hx1 : u64N imm / 32 % 64 < 64 := Nat.mod_lt _ (by decide)
    have hx2 : u64N imm / 2048 % 2 < 2 := Nat.mod_lt _ (by decide)
    have hx3 : u64N imm / 4096 % 2 < 2 := Nat.mod_lt _ (by decide)
    have hsg := sgn13 imm (by omega)
    have hm := u64N_mod imm 2 (by decide)
    have hyx : u64N imm / 2 % 16 * 2 + u64N imm / 32 % 64 * 32 + u64N imm / 2048 % 2 * 2048 + u64N imm / 4096 % 2 * 4096 = u64N imm % 8192 := cut_B _ (by omega)
    rw [← sgn_mod (u64N imm) 13, show (2 : Nat) ^ 13 = 8192 from rfl, ← hyx] at hsg
    clear hyx hm he hlt hw
    generalize u64N imm / 2 % 16 = y0 at *
    generalize u64N imm / 32 % 64 = y1 at *
    generalize u64N imm / 2048 % 2 = y2 at *
    generalize u64N imm / 4096 % 2 = y3 at *
    generalize lowN op = lo at *
    generalize kindN op = kd at *
    have e0 : (lo + kd * 4096 + rs1 * 32768 + rs2 * 1048576 + y0 * 256 + y1 * 33554432 + y2 * 128 + y3 * 2147483648) / 32768 % 32 = rs1 := by omega
    have e1 : (lo + kd * 4096 + rs1 * 32768 + rs2 * 1048576 + y0 * 256 + y1 * 33554432 + y2 * 128 + y3 * 2147483648) / 1048576 % 32 = rs2 := by omega
    have f0 : (lo + kd * 4096 + rs1 * 32768 + rs2 * 1048576 + y0 * 256 + y1 * 33554432 + y2 * 128 + y3 * 2147483648) / 256 % 16 = y0 := by omega
    have f1 : (lo + kd * 4096 + rs1 * 32768 + rs2 * 1048576 + y0 * 256 + y1 * 33554432 + y2 * 128 + y3 * 2147483648) / 33554432 % 64 = y1 := by omega
    have f2 : (lo + kd * 4096 + rs1 * 32768 + rs2 * 1048576 + y0 * 256 + y1 * 33554432 + y2 * 128 + y3 * 2147483648) / 128 % 2 = y2 := by omega
    have f3 : (lo + kd * 4096 + rs1 * 32768 + rs2 * 1048576 + y0 * 256 + y1 * 33554432 + y2 * 128 + y3 * 2147483648) / 2147483648 % 2 = y3 := by omega
    rw [e0, e1, f0, f1, f2, f3, hsg]
    rfl
theorem both_J (op rd : Nat) (imm : Int) (hop : op < 43) (hf : fm op = .J) (hs : shiftN op = false) (hu : uniqN op = true) (b1 : rd < 32) (hi : -1048576 ≤ imm ∧ imm ≤ 1048574) (h2 : imm % 2 = 0) : Both op rd 0 0 imm (wordN op rd 0 0 (u64N imm) % 4294967296) := by
  obtain ⟨t1, t2, t3⟩ := tab_lt op hop
  have he : ∀ k, caponierref02_Encode.f (k + 100) op rd (0 : Nat) (0 : Nat) imm = some (((wordN op rd 0 0 (u64N imm) % 4294967296 : Nat) : Int), 0) := fun k => enc_f k op rd 0 0 imm hop b1 (by decide) (by decide) (may_J (k + 97) op rd imm hop hf b1 hi h2)
  have hlt : wordN op rd 0 0 (u64N imm) % 4294967296 < 4294967296 := Nat.mod_lt _ (by decide)
  have hw : wordN op rd 0 0 (u64N imm) % 4294967296 = lowN op + rd * 128 + u64N imm / 2 % 1024 * 2097152 + u64N imm / 2048 % 2 * 1048576 + u64N imm / 4096 % 256 * 4096 + u64N imm / 1048576 % 2 * 2147483648 := by
    have hx0 : u64N imm / 2 % 1024 < 1024 := Nat.mod_lt _ (by decide)
    have hx1 : u64N imm / 2048 % 2 < 2 := Nat.mod_lt _ (by decide)
    have hx2 : u64N imm / 4096 % 256 < 256 := Nat.mod_lt _ (by decide)
    have hx3 : u64N imm / 1048576 % 2 < 2 := Nat.mod_lt _ (by decide)
    unfold wordN
    rw [hf]
    dsimp only
    generalize u64N imm / 2 % 1024 = y0 at *
    generalize u64N imm / 2048 % 2 = y1 at *
    generalize u64N imm / 4096 % 256 = y2 at *
    generalize u64N imm / 1048576 % 2 = y3 at *
    generalize lowN op = lo at *
    generalize kindN op = kd at *
    clear he hlt
    omega
  refine ⟨hlt, fun k => ?_, he, fun k => dec_f k op _ rd 0 0 imm hop hlt (miss_of_uniq op rd 0 0 _ hop b1 (fun h => by rcases h with h | h <;> rw [hf] at h <;> cases h) hu) (fun j => ?_) he⟩
  · rw [penc_start (k + 7) op rd 0 0 imm hop b1 (by decide) (by decide) (pmay_f (k + 9) op rd 0 0 imm hop b1 (by decide) (by decide) (by rw [hf]; intro h; cases h) (fun _ => rfl) (fun _ => rfl) (imm_J op rd 0 0 imm hop hf hi h2)) (ne_fm hf (by decide)) (ne_fm hf (by decide)) hs (lowN op + rd * 128) (by rw [if_pos (Or.inr hf)]), hf, parts_J, Option.bind_some]
    have hx0 : u64N imm / 2 % 1024 < 1024 := Nat.mod_lt _ (by decide)
    have hx1 : u64N imm / 2048 % 2 < 2 := Nat.mod_lt _ (by decide)
    have hx2 : u64N imm / 4096 % 256 < 256 := Nat.mod_lt _ (by decide)
    have hx3 : u64N imm / 1048576 % 2 < 2 := Nat.mod_lt _ (by decide)
    clear he hlt
    refine (steps_4 (k + 2) (lowN op + rd * 128) (u64N imm) 1 10 21 11 1 20 12 8 12 20 1 31 (lowN op + rd * 128 + u64N imm / 2 % 1024 * 2097152) (lowN op + rd * 128 + u64N imm / 2 % 1024 * 2097152 + u64N imm / 2048 % 2 * 1048576) (lowN op + rd * 128 + u64N imm / 2 % 1024 * 2097152 + u64N imm / 2048 % 2 * 1048576 + u64N imm / 4096 % 256 * 4096) ?_ (u64N_lt imm) (by decide) (by decide) ?_ rfl ?_ (by decide) (by decide) ?_ rfl ?_ (by decide) (by decide) ?_ rfl ?_ (by decide) (by decide) ?_).trans ?_
    · generalize u64N imm / 2 % 1024 = y0 at *
      generalize u64N imm / 2048 % 2 = y1 at *
      generalize u64N imm / 4096 % 256 = y2 at *
      generalize u64N imm / 1048576 % 2 = y3 at *
      generalize lowN op = lo at *
      generalize kindN op = kd at *
      clear hw
      omega
    · generalize u64N imm / 2 % 1024 = y0 at *
      generalize u64N imm / 2048 % 2 = y1 at *
      generalize u64N imm / 4096 % 256 = y2 at *
      generalize u64N imm / 1048576 % 2 = y3 at *
      generalize lowN op = lo at *
      generalize kindN op = kd at *
      clear hw
      omega
    · generalize u64N imm / 2 % 1024 = y0 at *
      generalize u64N imm / 2048 % 2 = y1 at *
      generalize u64N imm / 4096 % 256 = y2 at *
      generalize u64N imm / 1048576 % 2 = y3 at *
      generalize lowN op = lo at *
      generalize kindN op = kd at *
      clear hw
      omega
    · generalize u64N imm / 2 % 1024 = y0 at *
      generalize u64N imm / 2048 % 2 = y1 at *
      generalize u64N imm / 4096 % 256 = y2 at *
      generalize u64N imm / 1048576 % 2 = y3 at *
      generalize lowN op = lo at *
      generalize kindN op = kd at *
      clear hw
      omega
    · generalize u64N imm / 2 % 1024 = y0 at *
      generalize u64N imm / 2048 % 2 = y1 at *
      generalize u64N imm / 4096 % 256 = y2 at *
      generalize u64N imm / 1048576 % 2 = y3 at *
      generalize lowN op = lo at *
      generalize kindN op = kd at *
      clear hw
      omega
    · generalize u64N imm / 2 % 1024 = y0 at *
      generalize u64N imm / 2048 % 2 = y1 at *
      generalize u64N imm / 4096 % 256 = y2 at *
      generalize u64N imm / 1048576 % 2 = y3 at *
      generalize lowN op = lo at *
      generalize kindN op = kd at *
      clear hw
      omega
    · generalize u64N imm / 2 % 1024 = y0 at *
      generalize u64N imm / 2048 % 2 = y1 at *
      generalize u64N imm / 4096 % 256 = y2 at *
      generalize u64N imm / 1048576 % 2 = y3 at *
      generalize lowN op = lo at *
      generalize kindN op = kd at *
      clear hw
      omega
    · generalize u64N imm / 2 % 1024 = y0 at *
      generalize u64N imm / 2048 % 2 = y1 at *
      generalize u64N imm / 4096 % 256 = y2 at *
      generalize u64N imm / 1048576 % 2 = y3 at *
      generalize lowN op = lo at *
      generalize kindN op = kd at *
      clear hw
      omega
    · refine congrArg (fun z : Nat => some ((z : Int), (0 : Int))) ?_
      rw [hw]
      show (lowN op + rd * 128 + u64N imm / 2 % 1024 * 2097152 + u64N imm / 2048 % 2 * 1048576 + u64N imm / 4096 % 256 * 4096 + u64N imm / 1048576 % 2 * 2147483648) % 4294967296 = _
      generalize u64N imm / 2 % 1024 = y0 at *
      generalize u64N imm / 2048 % 2 = y1 at *
      generalize u64N imm / 4096 % 256 = y2 at *
      generalize u64N imm / 1048576 % 2 = y3 at *
      generalize lowN op = lo at *
      generalize kindN op = kd at *
      clear hw
      omega
  · rw [as_J j op _ hop hlt hf, hw]
    have hx0 : u64N imm / 2 % 1024 < 1024 := Nat.mod_lt _ (by decide)
    have hx1 : u64N imm / 2048 % 2 < 2 := Nat.mod_lt _ (by decide)
    have hx2 : u64N imm / 4096 % 256 < 256 := Nat.mod_lt _ (by decide)
    have hx3 : u64N imm / 1048576 % 2 < 2 := Nat.mod_lt _ (by decide)
    have hsg := sgn21 imm (by omega)
    have hm := u64N_mod imm 2 (by decide)
    have hyx : u64N imm / 2 % 1024 * 2 + u64N imm / 2048 % 2 * 2048 + u64N imm / 4096 % 256 * 4096 + u64N imm / 1048576 % 2 * 1048576 = u64N imm % 2097152 := cut_J _ (by omega)
    rw [← sgn_mod (u64N imm) 21, show (2 : Nat) ^ 21 = 2097152 from rfl, ← hyx] at hsg
    clear hyx hm he hlt hw
    generalize u64N imm / 2 % 1024 = y0 at *
    generalize u64N imm / 2048 % 2 = y1 at *
    generalize u64N imm / 4096 % 256 = y2 at *
    generalize u64N imm / 1048576 % 2 = y3 at *
    generalize lowN op = lo at *
    generalize kindN op = kd at *
    have e0 : (lo + rd * 128 + y0 * 2097152 + y1 * 1048576 + y2 * 4096 + y3 * 2147483648) / 128 % 32 = rd := by omega
    have f0 : (lo + rd * 128 + y0 * 2097152 + y1 * 1048576 + y2 * 4096 + y3 * 2147483648) / 2097152 % 1024 = y0 := by omega
    have f1 : (lo + rd * 128 + y0 * 2097152 + y1 * 1048576 + y2 * 4096 + y3 * 2147483648) / 1048576 % 2 = y1 := by omega
    have f2 : (lo + rd * 128 + y0 * 2097152 + y1 * 1048576 + y2 * 4096 + y3 * 2147483648) / 4096 % 256 = y2 := by omega
    have f3 : (lo + rd * 128 + y0 * 2097152 + y1 * 1048576 + y2 * 4096 + y3 * 2147483648) / 2147483648 % 2 = y3 := by omega
    rw [e0, f0, f1, f2, f3, hsg]
    rfl
theorem both_E : Both 42 0 0 0 0 1048691 :=
  ⟨by decide, fun k => by
    unfold ins_Encode.f
    rw [pmay_f (k + 9) 42 0 0 0 0 (by decide) (by decide) (by decide) (by decide) (fun _ => rfl) (fun _ => rfl) (fun _ => rfl) (by
      unfold ins_imm.f
      rw [if_pos (by decide), if_pos (by decide), row_form 42 (by decide), show fm 42 = .E from rfl, show Fm.E.bytes.toList = [69] from l69, if_neg (by decide), if_neg (by decide), if_neg (by decide), if_neg (by decide), if_neg (by decide)]
      rfl), Option.bind_some, if_pos rfl, if_pos (by decide), if_pos (by decide), row_form 42 (by decide), show fm 42 = .E from rfl, show Fm.E.bytes.toList = [69] from l69, if_pos rfl]
    rfl,
   fun k => enc_f k 42 0 0 0 0 (by decide) (by decide) (by decide) (by decide) (may_E (k + 97)),
   fun k => dec_f k 42 1048691 0 0 0 0 (by decide) (by decide) (miss_of_uniq 42 0 0 0 0 (by decide) (by decide) (fun _ => rfl) (by decide +kernel)) (fun j => as_E j 42 1048691 (by decide) (by decide) rfl) (fun j => enc_f j 42 0 0 0 0 (by decide) (by decide) (by decide) (by decide) (may_E (j + 97)))⟩
end Go.Proofs.YtaoajlaocphgdaaDoor.PA
namespace Go.Proofs.YtaoajlaocphgdaaDoor.PA
open Go.RowKit Go.Proofs.YtaoajlaocphgdaaDoorW.PrintWords Go.Proofs.YtaoajlaocphgdaaDoorW.PrintLast Go.Proofs.YtaoajlaocphgdaaDoorW.PrintMore
set_option linter.unusedVariables false
set_option linter.unusedSimpArgs false
abbrev InsS := S43
def HasW (x : InsS) : Prop := ∃ (op rd rs1 rs2 : Nat) (imm : Int) (w : Nat), x = ⟨(op : Int), (rd : Int), (rs1 : Int), (rs2 : Int), imm⟩ ∧ Both op rd rs1 rs2 imm w
theorem hasI (op rd rs1 : Nat) (imm : Int) (hop : op < 43) (hf : fm op = .I) (hs : shiftN op = false) (hu : uniqN op = true) (b1 : rd < 32) (b2 : rs1 < 32) (hi : -2048 ≤ imm ∧ imm ≤ 2047) : HasW ⟨(op : Int), (rd : Int), (rs1 : Int), ((0 : Nat) : Int), imm⟩ :=
  ⟨op, rd, rs1, 0, imm, _, rfl, both_I op rd rs1 imm hop hf hs hu b1 b2 hi⟩
theorem hasB (op rs1 rs2 : Nat) (imm : Int) (h : op = 33 ∨ op = 36 ∨ op = 37) (b1 : rs1 < 32) (b2 : rs2 < 32) (hi : -4096 ≤ imm ∧ imm ≤ 4094) (h2 : imm % 2 = 0) : HasW ⟨(op : Int), ((0 : Nat) : Int), (rs1 : Int), (rs2 : Int), imm⟩ := by
  rcases h with rfl | rfl | rfl
  · exact ⟨33, 0, rs1, rs2, imm, _, rfl, both_B 33 rs1 rs2 imm (by decide) rfl rfl (by decide +kernel) b1 b2 hi h2⟩
  · exact ⟨36, 0, rs1, rs2, imm, _, rfl, both_B 36 rs1 rs2 imm (by decide) rfl rfl (by decide +kernel) b1 b2 hi h2⟩
  · exact ⟨37, 0, rs1, rs2, imm, _, rfl, both_B 37 rs1 rs2 imm (by decide) rfl rfl (by decide +kernel) b1 b2 hi h2⟩
theorem hasJ (rd : Nat) (imm : Int) (b1 : rd < 32) (hi : -1048576 ≤ imm ∧ imm ≤ 1048574) (h2 : imm % 2 = 0) : HasW ⟨((40 : Nat) : Int), (rd : Int), ((0 : Nat) : Int), ((0 : Nat) : Int), imm⟩ :=
  ⟨40, rd, 0, 0, imm, _, rfl, both_J 40 rd imm (by decide) rfl rfl (by decide +kernel) b1 hi h2⟩
theorem hasU (rd : Nat) (imm : Int) (b1 : rd < 32) (hi : -2147483648 ≤ imm ∧ imm ≤ 2147483647) (h2 : imm % 4096 = 0) : HasW ⟨((38 : Nat) : Int), (rd : Int), ((0 : Nat) : Int), ((0 : Nat) : Int), imm⟩ :=
  ⟨38, rd, 0, 0, imm, _, rfl, both_U 38 rd imm (by decide) rfl rfl (by decide +kernel) b1 hi h2⟩
theorem hasS (rs1 rs2 : Nat) (imm : Int) (b2 : rs1 < 32) (b3 : rs2 < 32) (hi : -2048 ≤ imm ∧ imm ≤ 2047) : HasW ⟨((31 : Nat) : Int), ((0 : Nat) : Int), (rs1 : Int), (rs2 : Int), imm⟩ :=
  ⟨31, 0, rs1, rs2, imm, _, rfl, both_S 31 rs1 rs2 imm (by decide) rfl rfl (by decide +kernel) b2 b3 hi⟩
theorem hasE : HasW ⟨((42 : Nat) : Int), ((0 : Nat) : Int), ((0 : Nat) : Int), ((0 : Nat) : Int), 0⟩ := ⟨42, 0, 0, 0, 0, _, rfl, both_E⟩
theorem sg_range (v : Int) (h : 0 ≤ v) : -2048 ≤ sg v ∧ sg v ≤ 2047 := by
  obtain ⟨n, rfl⟩ := Int.eq_ofNat_of_zero_le h
  have h1 := sign_some (n : Int)
  have h2 := sign_f n 12 (by decide) (by decide)
  have h3 : sg (n : Int) = sgn n 12 := Option.some.inj (h1.symm.trans h2)
  rw [h3]
  have hm : n % 2 ^ 12 < 2 ^ 12 := Nat.mod_lt _ (by decide)
  unfold sgn
  rw [show (2 : Nat) ^ 12 = 4096 from rfl, show (2 : Nat) ^ (12 - 1) = 2048 from rfl] at *
  split <;> omega
theorem num_has (d : Nat) (hd : d < 32) (v : Int) (h : 0 ≤ v ∧ v ≤ 1073741824) : HasW ⟨38, (d : Int), 0, 0, (v + 2048) / 4096 * 4096⟩ ∧ HasW ⟨16, (d : Int), (d : Int), 0, sg v⟩ :=
  ⟨hasU d _ hd (by omega) (by omega), hasI 16 d d (sg v) (by decide) rfl rfl (by decide +kernel) hd hd (sg_range v h.1)⟩
inductive Chk : InsP → Prop
  | none (x : InsS) : (x.f0 = 16 ∨ x.f0 = 21 ∨ x.f0 = 38) → HasW x → Chk (x, 0)
  | br (op rs1 rs2 : Nat) (t : Int) : (op = 33 ∨ op = 36 ∨ op = 37) → rs1 < 32 → rs2 < 32 → (t = 1 ∨ t = 3) → Chk (⟨(op : Int), ((0 : Nat) : Int), (rs1 : Int), (rs2 : Int), 0⟩, t)
  | jl : Chk (⟨40, 0, 0, 0, 0⟩, 1)
theorem chk_num (d : Nat) (hd : d < 32) (v : Int) (h : 0 ≤ v ∧ v ≤ 1073741824) : ∀ x ∈ num (d : Int) v, Chk x := by
  intro x hx
  obtain ⟨h1, h2⟩ := num_has d hd v h
  simp only [num, noneGo, numIns, List.map_cons, List.map_nil, List.mem_cons, List.not_mem_nil, or_false] at hx
  rcases hx with rfl | rfl
  · exact .none _ (Or.inr (Or.inr rfl)) h1
  · exact .none _ (Or.inl rfl) h2
theorem chk_back (l : LayV) (hO : LayOk l) : ∀ x ∈ backP l, Chk x := by
  intro x hx
  unfold backP at hx
  simp only [List.mem_append, List.mem_singleton] at hx
  rcases hx with hx | rfl | hx | rfl | hx | rfl
  · exact chk_num 5 (by decide) _ hO.h16 x hx
  · exact .br 36 1 5 3 (by decide) (by decide) (by decide) (Or.inr rfl)
  · exact chk_num 5 (by decide) _ hO.h17 x hx
  · exact .br 37 1 5 3 (by decide) (by decide) (by decide) (Or.inr rfl)
  · simp only [noneGo, List.map_cons, List.map_nil, List.mem_singleton] at hx
    subst hx
    exact .none _ (Or.inr (Or.inl rfl)) (hasI 21 5 1 3 (by decide) rfl rfl (by decide +kernel) (by decide) (by decide) (by decide))
  · exact .br 33 5 0 3 (by decide) (by decide) (by decide) (Or.inr rfl)
theorem chk_ptr (l : LayV) (hO : LayOk l) (r : Nat) (hr : r < 32) (n : Int) (hn : 0 ≤ n ∧ n ≤ 64) : ∀ x ∈ ptrP l (r : Int) n, Chk x := by
  intro x hx
  have o12 := hO.h12
  have o13 := hO.h13
  unfold ptrP at hx
  split at hx
  · simp only [List.mem_singleton] at hx
    subst hx
    exact .jl
  · simp only [List.mem_append, List.mem_singleton] at hx
    rcases hx with hx | rfl | hx | rfl | hx | rfl
    · simp only [noneGo, List.map_cons, List.map_nil, List.mem_singleton] at hx
      subst hx
      exact .none _ (Or.inr (Or.inl rfl)) (hasI 21 5 r 7 (by decide) rfl rfl (by decide +kernel) (by decide) hr (by decide))
    · exact .br 33 5 0 1 (by decide) (by decide) (by decide) (Or.inl rfl)
    · exact chk_num 5 (by decide) _ hO.h12 x hx
    · exact .br 36 r 5 1 (by decide) hr (by decide) (Or.inl rfl)
    · exact chk_num 5 (by decide) _ (by omega) x hx
    · exact .br 36 5 r 1 (by decide) (by decide) hr (Or.inl rfl)
theorem chk_params (l : LayV) (hO : LayOk l) (ps : List Int) (hps : ∀ n ∈ ps, 0 ≤ n ∧ n ≤ 64) : ∀ i : Nat, 10 + i + ps.length ≤ 31 → ∀ x ∈ paramsP l ps (i : Int), Chk x := by
  induction ps with
  | nil => intro i _ x hx; cases hx
  | cons n r ih =>
    intro i hi x hx
    rw [List.length_cons] at hi
    simp only [paramsP, List.mem_append] at hx
    rcases hx with hx | hx
    · split at hx
      · exact chk_ptr l hO (10 + i) (by omega) n (hps n List.mem_cons_self) x (by rw [show ((10 + i : Nat) : Int) = 10 + (i : Int) from by omega]; exact hx)
      · cases hx
    · exact ih (fun m hm => hps m (List.mem_cons_of_mem _ hm)) (i + 1) (by omega) x (by rw [show ((i + 1 : Nat) : Int) = (i : Int) + 1 from by omega]; exact hx)
theorem chk_all (l : LayV) (hO : LayOk l) (ps : List Int) (h6 : ps.length ≤ 6) (hps : ∀ n ∈ ps, 0 ≤ n ∧ n ≤ 64) : ∀ x ∈ checksP l ps, Chk x := by
  intro x hx
  unfold checksP at hx
  rcases List.mem_append.1 hx with hx | hx
  · exact chk_back l hO x hx
  · exact chk_params l hO ps hps 0 (by omega) x hx
def restP (l : LayV) : List InsP := [(⟨38, 5, 0, 0, (l.a5 - 16 + 2048) / 4096 * 4096⟩, 0), (⟨16, 5, 5, 0, sg (l.a5 - 16)⟩, 0), (⟨31, 0, 5, 1, 0⟩, 0), (⟨31, 0, 5, 2, 8⟩, 0), (⟨38, 2, 0, 0, (l.a9 + 2048) / 4096 * 4096⟩, 0), (⟨16, 2, 2, 0, sg (l.a9)⟩, 0), (⟨40, 1, 0, 0, 0⟩, 0), (⟨38, 5, 0, 0, (l.a5 - 16 + 2048) / 4096 * 4096⟩, 0), (⟨16, 5, 5, 0, sg (l.a5 - 16)⟩, 0), (⟨28, 1, 5, 0, 0⟩, 0), (⟨28, 2, 5, 0, 8⟩, 0), (⟨16, 11, 0, 0, 0⟩, 0), (⟨16, 5, 0, 0, 0⟩, 0), (⟨16, 6, 0, 0, 0⟩, 0), (⟨16, 7, 0, 0, 0⟩, 0), (⟨16, 12, 0, 0, 0⟩, 0), (⟨16, 13, 0, 0, 0⟩, 0), (⟨16, 14, 0, 0, 0⟩, 0), (⟨16, 15, 0, 0, 0⟩, 0), (⟨16, 16, 0, 0, 0⟩, 0), (⟨16, 17, 0, 0, 0⟩, 0), (⟨16, 28, 0, 0, 0⟩, 0), (⟨16, 29, 0, 0, 0⟩, 0), (⟨16, 30, 0, 0, 0⟩, 0), (⟨16, 31, 0, 0, 0⟩, 0), (⟨41, 0, 1, 0, 0⟩, 0), (⟨16, 10, 0, 0, 0⟩, 0), (⟨16, 11, 0, 0, 1⟩, 0), (⟨40, 0, 0, 0, 0⟩, 2), (⟨42, 0, 0, 0, 0⟩, 0)]
theorem all_split (l : LayV) (ps : List Int) : allP l ps = checksP l ps ++ restP l := by
  simp only [allP, noP, leftP, midP, preP, List.append_assoc]
  rfl
theorem pre_len (l : LayV) (ps : List Int) : (preP l ps).length = (checksP l ps).length + 6 := by
  simp only [preP, List.length_append, num_length, noneGo_length, List.length_cons, List.length_nil]
theorem place2 (l : LayV) (ps : List Int) : placeOf l ps 2 = (((checksP l ps).length + 12 : Nat) : Int) := by
  show ((midP l ps).length : Int) = _
  simp only [midP, List.length_append, num_length, noneGo_length, List.length_cons, List.length_nil, pre_len]
theorem place1 (l : LayV) (ps : List Int) : placeOf l ps 1 = (((checksP l ps).length + 26 : Nat) : Int) := by
  show ((leftP l ps).length : Int) = _
  simp only [leftP, midP, List.length_append, num_length, noneGo_length, clean_length, List.length_cons, List.length_nil, pre_len]
theorem place3 (l : LayV) (ps : List Int) : placeOf l ps 3 = (((checksP l ps).length + 29 : Nat) : Int) := by
  show ((noP l ps).length : Int) = _
  simp only [noP, leftP, midP, List.length_append, num_length, noneGo_length, clean_length, List.length_cons, List.length_nil, pre_len]
theorem all_len (l : LayV) (ps : List Int) : (codeL ps l).length = (checksP l ps).length + 30 := by
  rw [code_length, all_split, List.length_append]
  rfl
inductive LeafK (c i : Nat) (x : InsS) : Prop
  | plain : (x.f0 = 16 ∨ x.f0 = 21 ∨ x.f0 = 38 ∨ x.f0 = 42) → i ≠ c + 25 → LeafK c i x
  | branch (q : Int) : (x.f0 = 33 ∨ x.f0 = 36 ∨ x.f0 = 37) → i ≠ c + 6 → i ≠ c + 25 → x.f4 = 4 * q → 0 < q → (i : Int) + q < c + 30 → LeafK c i x
  | call : x.f0 = 40 → i = c + 6 → x.f4 = 0 → LeafK c i x
  | jump (q : Int) : x.f0 = 40 → i ≠ c + 6 → i ≠ c + 25 → x.f4 = 4 * q → 0 ≤ (i : Int) + q → (i : Int) + q < c + 30 → LeafK c i x
  | store : x.f0 = 31 → i ≠ c + 25 → x.f2 = 5 → (x.f4 = 0 ∨ x.f4 = 8) → LeafK c i x
  | load : x.f0 = 28 → i ≠ c + 25 → x.f2 = 5 → (x.f4 = 0 ∨ x.f4 = 8) → LeafK c i x
  | back : x.f0 = 41 → i = c + 25 → x.f2 = 1 → x.f1 = 0 → x.f4 = 0 → LeafK c i x
theorem leaf_chk (l : LayV) (hO : LayOk l) (ps : List Int) (h6 : ps.length ≤ 6) (hps : ∀ n ∈ ps, 0 ≤ n ∧ n ≤ 64) (i : Nat) (hi : i < (checksP l ps).length) :
    ∃ x, (codeL ps l)[i]? = some x ∧ HasW x ∧ LeafK (checksP l ps).length i x := by
  obtain ⟨c, hc⟩ : ∃ c, c = (checksP l ps).length := ⟨_, rfl⟩
  have hc6 := checks_length l ps h6
  rw [← hc] at hi hc6 ⊢
  obtain ⟨y, hy⟩ : ∃ y, (checksP l ps)[i]? = some y := ⟨_, List.getElem?_eq_getElem (by omega)⟩
  have hk := chk_all l hO ps h6 hps y (List.mem_of_getElem? hy)
  have hg : (codeL ps l)[i]? = some (patchI (placeOf l ps) (0 + (i : Int)) y) := by
    rw [codeL, finalL_get, all_split, List.getElem?_append_left (by omega), hy]
    rfl
  refine ⟨_, hg, ?_⟩
  have p1 := place1 l ps
  have p3 := place3 l ps
  rw [← hc] at p1 p3
  cases hk with
  | none x h hw => exact ⟨hw, .plain (by rcases h with h | h | h; exact Or.inl h; exact Or.inr (Or.inl h); exact Or.inr (Or.inr (Or.inl h))) (by omega)⟩
  | br op rs1 rs2 t h b1 b2 ht =>
    have hq : ∃ q : Int, placeOf l ps t - (0 + (i : Int)) = q ∧ 0 < q ∧ (i : Int) + q < (c : Int) + 30 ∧ q ≤ 100 := by
      rcases ht with rfl | rfl
      · exact ⟨_, rfl, by rw [p1]; omega, by rw [p1]; omega, by rw [p1]; omega⟩
      · exact ⟨_, rfl, by rw [p3]; omega, by rw [p3]; omega, by rw [p3]; omega⟩
    obtain ⟨q, e, q0, q1, q2⟩ := hq
    have hp : patchI (placeOf l ps) (0 + (i : Int)) (⟨(op : Int), ((0 : Nat) : Int), (rs1 : Int), (rs2 : Int), 0⟩, t) = ⟨(op : Int), ((0 : Nat) : Int), (rs1 : Int), (rs2 : Int), 4 * q⟩ := by
      unfold patchI
      rw [if_neg (by rcases ht with rfl | rfl <;> (dsimp only; decide))]
      dsimp only
      rw [e]
    rw [hp]
    exact ⟨hasB op rs1 rs2 (4 * q) h b1 b2 (by omega) (by omega), .branch q (by rcases h with rfl | rfl | rfl; exact Or.inl rfl; exact Or.inr (Or.inl rfl); exact Or.inr (Or.inr rfl)) (by omega) (by omega) rfl q0 q1⟩
  | jl =>
    have hp : patchI (placeOf l ps) (0 + (i : Int)) (⟨40, 0, 0, 0, 0⟩, 1) = ⟨((40 : Nat) : Int), ((0 : Nat) : Int), ((0 : Nat) : Int), ((0 : Nat) : Int), 4 * ((c : Int) + 26 - i)⟩ := by
      unfold patchI
      rw [if_neg (by decide)]
      dsimp only
      rw [p1]
      congr 1
      omega
    rw [hp]
    exact ⟨hasJ 0 _ (by decide) (by omega) (by omega), .jump ((c : Int) + 26 - i) rfl (by omega) (by omega) rfl (by omega) (by omega)⟩
theorem leaf_rest (l : LayV) (hO : LayOk l) (ps : List Int) (j : Nat) (hj : j < 30) :
    ∃ x, (codeL ps l)[(checksP l ps).length + j]? = some x ∧ HasW x ∧ LeafK (checksP l ps).length ((checksP l ps).length + j) x := by
  obtain ⟨c, hc⟩ : ∃ c, c = (checksP l ps).length := ⟨_, rfl⟩
  rw [← hc]
  have o5 := hO.h5
  have hg : ∀ y, (restP l)[j]? = some y → (codeL ps l)[c + j]? = some (patchI (placeOf l ps) (0 + ((c + j : Nat) : Int)) y) := by
    intro y hy
    rw [codeL, finalL_get, all_split, List.getElem?_append_right (by omega), show c + j - (checksP l ps).length = j from by omega, hy]
    rfl
  have p2 := place2 l ps
  rw [← hc] at p2
  have hcase : j = 0 ∨ j = 1 ∨ j = 2 ∨ j = 3 ∨ j = 4 ∨ j = 5 ∨ j = 6 ∨ j = 7 ∨ j = 8 ∨ j = 9 ∨ j = 10 ∨ j = 11 ∨ j = 12 ∨ j = 13 ∨ j = 14 ∨ j = 15 ∨ j = 16 ∨ j = 17 ∨ j = 18 ∨ j = 19 ∨ j = 20 ∨ j = 21 ∨ j = 22 ∨ j = 23 ∨ j = 24 ∨ j = 25 ∨ j = 26 ∨ j = 27 ∨ j = 28 ∨ j = 29 := by omega
  rcases hcase with rfl | rfl | rfl | rfl | rfl | rfl | rfl | rfl | rfl | rfl | rfl | rfl | rfl | rfl | rfl | rfl | rfl | rfl | rfl | rfl | rfl | rfl | rfl | rfl | rfl | rfl | rfl | rfl | rfl | rfl
  · exact ⟨_, hg _ rfl, (num_has 5 (by decide) (l.a5 - 16) (by omega)).1, .plain (Or.inr (Or.inr (Or.inl rfl))) (by omega)⟩
  · exact ⟨_, hg _ rfl, (num_has 5 (by decide) (l.a5 - 16) (by omega)).2, .plain (Or.inl rfl) (by omega)⟩
  · exact ⟨_, hg _ rfl, hasS 5 1 0 (by decide) (by decide) (by decide), .store rfl (by omega) rfl (Or.inl rfl)⟩
  · exact ⟨_, hg _ rfl, hasS 5 2 8 (by decide) (by decide) (by decide), .store rfl (by omega) rfl (Or.inr rfl)⟩
  · exact ⟨_, hg _ rfl, (num_has 2 (by decide) (l.a9) hO.h9).1, .plain (Or.inr (Or.inr (Or.inl rfl))) (by omega)⟩
  · exact ⟨_, hg _ rfl, (num_has 2 (by decide) (l.a9) hO.h9).2, .plain (Or.inl rfl) (by omega)⟩
  · exact ⟨_, hg _ rfl, hasJ 1 0 (by decide) (by decide) (by decide), .call rfl rfl rfl⟩
  · exact ⟨_, hg _ rfl, (num_has 5 (by decide) (l.a5 - 16) (by omega)).1, .plain (Or.inr (Or.inr (Or.inl rfl))) (by omega)⟩
  · exact ⟨_, hg _ rfl, (num_has 5 (by decide) (l.a5 - 16) (by omega)).2, .plain (Or.inl rfl) (by omega)⟩
  · exact ⟨_, hg _ rfl, hasI 28 1 5 0 (by decide) rfl rfl (by decide +kernel) (by decide) (by decide) (by decide), .load rfl (by omega) rfl (Or.inl rfl)⟩
  · exact ⟨_, hg _ rfl, hasI 28 2 5 8 (by decide) rfl rfl (by decide +kernel) (by decide) (by decide) (by decide), .load rfl (by omega) rfl (Or.inr rfl)⟩
  · exact ⟨_, hg _ rfl, hasI 16 11 0 0 (by decide) rfl rfl (by decide +kernel) (by decide) (by decide) (by decide), .plain (Or.inl rfl) (by omega)⟩
  · exact ⟨_, hg _ rfl, hasI 16 5 0 0 (by decide) rfl rfl (by decide +kernel) (by decide) (by decide) (by decide), .plain (Or.inl rfl) (by omega)⟩
  · exact ⟨_, hg _ rfl, hasI 16 6 0 0 (by decide) rfl rfl (by decide +kernel) (by decide) (by decide) (by decide), .plain (Or.inl rfl) (by omega)⟩
  · exact ⟨_, hg _ rfl, hasI 16 7 0 0 (by decide) rfl rfl (by decide +kernel) (by decide) (by decide) (by decide), .plain (Or.inl rfl) (by omega)⟩
  · exact ⟨_, hg _ rfl, hasI 16 12 0 0 (by decide) rfl rfl (by decide +kernel) (by decide) (by decide) (by decide), .plain (Or.inl rfl) (by omega)⟩
  · exact ⟨_, hg _ rfl, hasI 16 13 0 0 (by decide) rfl rfl (by decide +kernel) (by decide) (by decide) (by decide), .plain (Or.inl rfl) (by omega)⟩
  · exact ⟨_, hg _ rfl, hasI 16 14 0 0 (by decide) rfl rfl (by decide +kernel) (by decide) (by decide) (by decide), .plain (Or.inl rfl) (by omega)⟩
  · exact ⟨_, hg _ rfl, hasI 16 15 0 0 (by decide) rfl rfl (by decide +kernel) (by decide) (by decide) (by decide), .plain (Or.inl rfl) (by omega)⟩
  · exact ⟨_, hg _ rfl, hasI 16 16 0 0 (by decide) rfl rfl (by decide +kernel) (by decide) (by decide) (by decide), .plain (Or.inl rfl) (by omega)⟩
  · exact ⟨_, hg _ rfl, hasI 16 17 0 0 (by decide) rfl rfl (by decide +kernel) (by decide) (by decide) (by decide), .plain (Or.inl rfl) (by omega)⟩
  · exact ⟨_, hg _ rfl, hasI 16 28 0 0 (by decide) rfl rfl (by decide +kernel) (by decide) (by decide) (by decide), .plain (Or.inl rfl) (by omega)⟩
  · exact ⟨_, hg _ rfl, hasI 16 29 0 0 (by decide) rfl rfl (by decide +kernel) (by decide) (by decide) (by decide), .plain (Or.inl rfl) (by omega)⟩
  · exact ⟨_, hg _ rfl, hasI 16 30 0 0 (by decide) rfl rfl (by decide +kernel) (by decide) (by decide) (by decide), .plain (Or.inl rfl) (by omega)⟩
  · exact ⟨_, hg _ rfl, hasI 16 31 0 0 (by decide) rfl rfl (by decide +kernel) (by decide) (by decide) (by decide), .plain (Or.inl rfl) (by omega)⟩
  · exact ⟨_, hg _ rfl, hasI 41 0 1 0 (by decide) rfl rfl (by decide +kernel) (by decide) (by decide) (by decide), .back rfl rfl rfl rfl rfl⟩
  · exact ⟨_, hg _ rfl, hasI 16 10 0 0 (by decide) rfl rfl (by decide +kernel) (by decide) (by decide) (by decide), .plain (Or.inl rfl) (by omega)⟩
  · exact ⟨_, hg _ rfl, hasI 16 11 0 1 (by decide) rfl rfl (by decide +kernel) (by decide) (by decide) (by decide), .plain (Or.inl rfl) (by omega)⟩
  · have hp : patchI (placeOf l ps) (0 + ((c + 28 : Nat) : Int)) (⟨40, 0, 0, 0, 0⟩, 2) = ⟨((40 : Nat) : Int), ((0 : Nat) : Int), ((0 : Nat) : Int), ((0 : Nat) : Int), 4 * (-16)⟩ := by
      unfold patchI
      rw [if_neg (by decide)]
      dsimp only
      rw [p2]
      congr 1
      omega
    refine ⟨_, hg _ rfl, ?_⟩
    rw [hp]
    exact ⟨hasJ 0 _ (by decide) (by decide) (by decide), .jump (-16) rfl (by omega) (by omega) rfl (by omega) (by omega)⟩
  · exact ⟨_, hg _ rfl, hasE, .plain (Or.inr (Or.inr (Or.inr rfl))) (by omega)⟩
theorem leaf_at (l : LayV) (hO : LayOk l) (ps : List Int) (h6 : ps.length ≤ 6) (hps : ∀ n ∈ ps, 0 ≤ n ∧ n ≤ 64) (i : Nat) (hi : i < (checksP l ps).length + 30) :
    ∃ x, (codeL ps l)[i]? = some x ∧ HasW x ∧ LeafK (checksP l ps).length i x := by
  by_cases h : i < (checksP l ps).length
  · exact leaf_chk l hO ps h6 hps i h
  · obtain ⟨j, rfl⟩ : ∃ j, i = (checksP l ps).length + j := ⟨i - (checksP l ps).length, by omega⟩
    exact leaf_rest l hO ps j (by omega)
theorem HasW.all {x : InsS} (h : HasW x) : ∃ w : Nat, encP x = ((w : Int), 0) ∧ w < 4294967296 ∧ (∀ k, caponierref02_Encode.f (k + 100) x.f0 x.f1 x.f2 x.f3 x.f4 = some ((w : Int), 0)) ∧ (∀ k, caponierref02_Decode.f (k + 200) (w : Int) = some (x.f0, x.f1, x.f2, x.f3, x.f4, 0)) := by
  obtain ⟨op, rd, rs1, rs2, imm, w, rfl, hb⟩ := h
  refine ⟨w, ?_, hb.lt, hb.enc, hb.dec⟩
  unfold encP
  rw [show ins_Encode.f 20 (op : Int) (rd : Int) (rs1 : Int) (rs2 : Int) imm = _ from hb.prog 10]
  rfl
end Go.Proofs.YtaoajlaocphgdaaDoor.PA
end
section
namespace Go.Proofs.YtaoajlaocphgdaaDoor.PA
open Go.ChangeShapes Go.WideShapes Go.ChangeAt Go.RowKit Go.Lib
set_option linter.unusedVariables false
theorem nRows : Tryd.prog.globalNamed "caponier/ins.rows" = some 0 := by kernel_rfl
theorem nFirst : Tryd.prog.globalNamed "unicode/utf8.first" = some 2 := by kernel_rfl
theorem nAcc : Tryd.prog.globalNamed "unicode/utf8.acceptRanges" = some 3 := by kernel_rfl
theorem yRows : (Tryd.prog.globals[0]?).map (·.type) = some 98 := by kernel_rfl
theorem yFirst : (Tryd.prog.globals[2]?).map (·.type) = some 166 := by kernel_rfl
theorem yAcc : (Tryd.prog.globals[3]?).map (·.type) = some 169 := by kernel_rfl
theorem c8 : Tryd.prog.cellsOf 5 = 1 := by kernel_rfl
theorem c64 : Tryd.prog.cellsOf 23 = 1 := by kernel_rfl
theorem cString : Tryd.prog.cellsOf 9 = 1 := by kernel_rfl
theorem cFirst : Tryd.prog.cellsOf 166 = 256 := by kernel_rfl
theorem cAcc : Tryd.prog.cellsOf 168 = 2 := by kernel_rfl
theorem cRow : Tryd.prog.cellsOf 97 = 4 := by kernel_rfl
theorem cFields : Tryd.prog.cellsOf 95 = 3 := by kernel_rfl
theorem utf8_laid {w : World} (h3 : VarReads Tryd.prog w "unicode/utf8.first" firstData) (h4 : VarReads Tryd.prog w "unicode/utf8.acceptRanges" acceptData) : Lib.Utf8Tabs 2 3 w := by
  refine ⟨fun c hc => ?_, fun i hi => ?_⟩
  · obtain ⟨g, t, cs, fuel, p, hg, hty, hvar, hd⟩ := h3
    obtain rfl := Option.some.inj (nFirst.symm.trans hg)
    obtain rfl := Option.some.inj (yFirst.symm.trans hty)
    have hcs := cells_of_tab Tryd.underlying166 Tryd.underlying5 c8 cFirst hd
    have := World.var?_cell hg hvar c
    rw [this, ← Array.getElem?_toList, hcs]
    simp [firstTab, hc]
  · obtain ⟨g, t, cs, fuel, p, hg, hty, hvar, hd⟩ := h4
    obtain rfl := Option.some.inj (nAcc.symm.trans hg)
    obtain rfl := Option.some.inj (yAcc.symm.trans hty)
    obtain ⟨fuel', d, q, hdi, he⟩ := array_elem Tryd.underlying169 hd i hi
    simp only [List.getElem?_map, List.getElem?_range hi, Option.map_some, Option.some.injEq] at hdi
    subst hdi
    rw [cAcc] at he
    have hcs := ints_of_struct Tryd.underlying168 (fun j f hj => by
      match j, hj with
      | 0, hj => simp at hj; subst hj; exact ⟨Tryd.underlying5, rfl, c8⟩
      | 1, hj => simp at hj; subst hj; exact ⟨Tryd.underlying5, rfl, c8⟩
      | j + 2, hj => simp at hj) (by rw [cAcc]; rfl) he
    have e0 := congrArg (·[0]?) hcs
    have e1 := congrArg (·[1]?) hcs
    simp [List.getElem?_take, List.getElem?_drop] at e0 e1
    constructor
    · rw [World.var?_cell hg hvar (2 * i)]
      simpa [Nat.mul_comm] using e0
    · rw [World.var?_cell hg hvar (2 * i + 1)]
      simpa [Nat.mul_comm] using e1
def rowD (x : UInt8 × Int × Int × Int) : DataW Unit := .agg [.lit (.string [x.1]), .agg ([x.2.1, x.2.2.1, x.2.2.2].map fun z => .lit (.int .u64 z))]
theorem rowsD : (Rows.laid_caponier_ins_rows : DataW Unit) = .agg (rowTab.map rowD) := by rfl
theorem row_cells {w : World} {fuel : Nat} {cs : List Value} {x : UInt8 × Int × Int × Int} {q : List MemPlace} (h : DataW.trod (fun _ => ()) Tryd.prog w 0 (fun _ => true) false fuel 97 cs = some (rowD x, q)) :
    cs[0]? = some (.string ⟨#[x.1]⟩) ∧ cs[1]? = some (.int .u64 x.2.1) ∧ cs[2]? = some (.int .u64 x.2.2.1) ∧ cs[3]? = some (.int .u64 x.2.2.2) := by
  obtain ⟨xs, n, rfl, hx, hl, hxl, hall⟩ := DataW.trod_struct Tryd.underlying97 h
  have hxs : xs.map (·.1) = [.lit (.string [x.1]), .agg ([x.2.1, x.2.2.1, x.2.2.2].map fun z => .lit (.int .u64 z))] := by
    have := congrArg Prod.fst hx
    simpa [rowD] using this.symm
  match xs, hxl, hxs, hall with
  | [a, b], _, hxs, hall =>
    simp only [List.map_cons, List.map_nil, List.cons.injEq, and_true] at hxs
    have h0 : DataW.trod (fun _ => ()) Tryd.prog w 0 (fun _ => true) false n 9 ((cs.drop 0).take (Tryd.prog.cellsOf 9)) = some a := hall 0 _ rfl
    have h1 : DataW.trod (fun _ => ()) Tryd.prog w 0 (fun _ => true) false n 95 ((cs.drop 1).take (Tryd.prog.cellsOf 95)) = some b := hall 1 _ rfl
    rw [cString] at h0
    rw [cFields] at h1
    obtain ⟨s, e0, e1, _⟩ := DataW.trod_string Tryd.underlying9 h0
    have hs : s = ⟨#[x.1]⟩ := by
      rw [e1] at hxs
      have := hxs.1
      simp only [DataW.lit.injEq, Lit.string.injEq] at this
      exact bytes_inj this
    subst hs
    have hb : b = (.agg ([x.2.1, x.2.2.1, x.2.2.2].map fun z => .lit (.int .u64 z)), b.2) := Prod.ext (by rw [hxs.2]; rfl) rfl
    rw [hb] at h1
    have hcs := ints_of_struct Tryd.underlying95 (fun j f hj => by
      match j, hj with
      | 0, hj => simp at hj; subst hj; exact ⟨Tryd.underlying23, rfl, c64⟩
      | 1, hj => simp at hj; subst hj; exact ⟨Tryd.underlying23, rfl, c64⟩
      | 2, hj => simp at hj; subst hj; exact ⟨Tryd.underlying23, rfl, c64⟩
      | j + 3, hj => simp at hj) (by rw [cFields]; rfl) h1
    have f0 := congrArg (·[0]?) e0
    have f1 := congrArg (·[0]?) hcs
    have f2 := congrArg (·[1]?) hcs
    have f3 := congrArg (·[2]?) hcs
    simp [List.getElem?_take, List.getElem?_drop] at f0 f1 f2 f3
    exact ⟨f0, f1, f2, f3⟩
theorem globOk_of {w : World} (h0 : VarReads Tryd.prog w "caponier/ins.rows" Rows.laid_caponier_ins_rows) (h3 : VarReads Tryd.prog w "unicode/utf8.first" firstData) (h4 : VarReads Tryd.prog w "unicode/utf8.acceptRanges" acceptData) : GlobOk w := by
  have key : ∀ i : Nat, i < 43 → w.cell? ⟨0, i * 4, none⟩ = some (.string (rowForm i)) ∧ w.cell? ⟨0, i * 4 + 1, none⟩ = some (.int .u64 (rowAt i).2.1) ∧ w.cell? ⟨0, i * 4 + 2, none⟩ = some (.int .u64 (rowAt i).2.2.1) ∧ w.cell? ⟨0, i * 4 + 3, none⟩ = some (.int .u64 (rowAt i).2.2.2) := by
    intro i hi
    obtain ⟨g, t, cs, fuel, p, hg, hty, hvar, hd⟩ := h0
    obtain rfl := Option.some.inj (nRows.symm.trans hg)
    obtain rfl := Option.some.inj (yRows.symm.trans hty)
    rw [rowsD] at hd
    obtain ⟨fuel', d, q, hdi, he⟩ := array_elem Tryd.underlying98 hd i hi
    have hl : i < rowTab.length := hi
    have hra : rowTab[i] = rowAt i := by simp [rowAt, List.getD_eq_getElem?_getD, hl]
    rw [List.getElem?_map, List.getElem?_eq_getElem hl, hra] at hdi
    obtain rfl := Option.some.inj hdi
    rw [cRow] at he
    obtain ⟨f0, f1, f2, f3⟩ := row_cells he
    simp [List.getElem?_take, List.getElem?_drop] at f0 f1 f2 f3
    rw [World.var?_cell hg hvar, World.var?_cell hg hvar, World.var?_cell hg hvar, World.var?_cell hg hvar]
    exact ⟨by simpa [rowForm] using f0, by simpa using f1, by simpa using f2, by simpa using f3⟩
  exact ⟨fun i hi => (key i hi).1, fun i hi => (key i hi).2.1, fun i hi => (key i hi).2.2.1, fun i hi => (key i hi).2.2.2, utf8_laid h3 h4⟩
abbrev laidL : List (String × DataW Unit) := [("caponier/ins.rows", Rows.laid_caponier_ins_rows), ("unicode/utf8.acceptRanges", Rows.laid_unicode_utf8_acceptRanges), ("unicode/utf8.first", Rows.laid_unicode_utf8_first)]
theorem accD : (Rows.laid_unicode_utf8_acceptRanges : DataW Unit) = acceptData := by kernel_rfl
theorem firstD : Rows.laid_unicode_utf8_first = firstData := by kernel_rfl
theorem globOk_of_laid {W : World} (h : laidMetH Tryd.prog laidL W) : GlobOk W := by
  rw [MakeChecks.laidMetH_plain _ _ _ (by kernel_rfl)] at h
  exact globOk_of (Go.Lib.laidMet.reads h (by simp)) (firstD ▸ Go.Lib.laidMet.reads h (by simp)) (accD ▸ Go.Lib.laidMet.reads h (by simp))
end Go.Proofs.YtaoajlaocphgdaaDoor.PA
namespace Go.Proofs.YtaoajlaocphgdaaDoor.PA
open Go.ChangeShapes Go.WideShapes Go.ChangeAt Go.RowKit Go.Joins
set_option linter.unusedVariables false
set_option linter.unusedSimpArgs false
theorem cRegion : Tryd.prog.cellsOf 25 = 4 := by kernel_rfl
theorem cLayout : Tryd.prog.cellsOf 27 = 20 := by kernel_rfl
theorem cInt : Tryd.prog.cellsOf 3 = 1 := by kernel_rfl
theorem cUint64 : Tryd.prog.cellsOf 23 = 1 := by kernel_rfl
theorem split20 {α : Type} (l : List α) (h : l.length = 20) : l = (l.drop 0).take 4 ++ ((l.drop 4).take 4 ++ ((l.drop 8).take 4 ++ ((l.drop 12).take 4 ++ (l.drop 16).take 4))) := by
  have e1 := (List.take_append_drop 4 l).symm
  have e2 := (List.take_append_drop 4 (l.drop 4)).symm
  have e3 := (List.take_append_drop 4 (l.drop 8)).symm
  have e4 := (List.take_append_drop 4 (l.drop 12)).symm
  have e5 : (l.drop 16).take 4 = l.drop 16 := List.take_of_length_le (by simp; omega)
  simp only [List.drop_drop, Nat.reduceAdd] at e2 e3 e4
  rw [e5, ← e4, ← e3, ← e2, List.drop_zero]
  exact e1
section
variable {H : Type} {enc : TypeId × Value → H} {W : World} {bs : Nat} {sp : Nat → Bool} {held : Bool}
theorem four {α : Type} {l : List α} {a b c d : α} (h : l.length = 4) (h0 : (l.drop 0).take 1 = [a]) (h1 : (l.drop 1).take 1 = [b]) (h2 : (l.drop 2).take 1 = [c]) (h3 : (l.drop 3).take 1 = [d]) : l = [a, b, c, d] := by
  match l, h with
  | [x0, x1, x2, x3], _ => simp at h0 h1 h2 h3; simp [h0, h1, h2, h3]
set_option maxRecDepth 100000 in
theorem region_cells {n : Nat} {cs : List Value} {y : DataW H × List MemPlace} (h : DataW.trod enc Tryd.prog W bs sp held n 25 cs = some y) :
    ∃ a b c d, cs = [.int .u64 a, .int .u64 b, .int .i64 c, .int .i64 d] := by
  obtain ⟨xs, m, rfl, hx, hl, hxl, hall⟩ := DataW.trod_struct Tryd.underlying25 h
  rw [cRegion] at hl
  have hxl : xs.length = 4 := hxl
  match xs, hxl, hall with
  | [y0, y1, y2, y3], _, hall =>
    have h0 : DataW.trod enc Tryd.prog W bs sp held m 23 ((cs.drop 0).take (Tryd.prog.cellsOf 23)) = some y0 := hall 0 _ rfl
    have h1 : DataW.trod enc Tryd.prog W bs sp held m 23 ((cs.drop 1).take (Tryd.prog.cellsOf 23)) = some y1 := hall 1 _ rfl
    have h2 : DataW.trod enc Tryd.prog W bs sp held m 3 ((cs.drop 2).take (Tryd.prog.cellsOf 3)) = some y2 := hall 2 _ rfl
    have h3 : DataW.trod enc Tryd.prog W bs sp held m 3 ((cs.drop 3).take (Tryd.prog.cellsOf 3)) = some y3 := hall 3 _ rfl
    rw [cUint64] at h0 h1
    rw [cInt] at h2 h3
    obtain ⟨a, ea, _⟩ := DataW.trod_int Tryd.underlying23 h0
    obtain ⟨b, eb, _⟩ := DataW.trod_int Tryd.underlying23 h1
    obtain ⟨c, ec, _⟩ := DataW.trod_int Tryd.underlying3 h2
    obtain ⟨d, ed, _⟩ := DataW.trod_int Tryd.underlying3 h3
    exact ⟨a, b, c, d, four hl ea eb ec ed⟩
set_option maxRecDepth 100000 in
theorem open_layout {b0 : Nat} {v : Value} {d : DataW H} {p : List MemPlace} (hv : Value.okWide Tryd.prog W .any b0 27 v) (h : DataW.Trod enc Tryd.prog W bs sp held 27 v d p) : ∃ l : LayV, v = .agg #[.int .u64 l.a0, .int .u64 l.a1, .int .i64 l.a2, .int .i64 l.a3, .int .u64 l.a4, .int .u64 l.a5, .int .i64 l.a6, .int .i64 l.a7, .int .u64 l.a8, .int .u64 l.a9, .int .i64 l.a10, .int .i64 l.a11, .int .u64 l.a12, .int .u64 l.a13, .int .i64 l.a14, .int .i64 l.a15, .int .u64 l.a16, .int .u64 l.a17, .int .i64 l.a18, .int .i64 l.a19] := by
  obtain ⟨cs, rfl, hsz⟩ := okWide_struct Tryd.underlying27 hv
  rw [cLayout] at hsz
  obtain ⟨fuel, hf⟩ := h
  obtain ⟨xs, m, rfl, hx, hl, hxl, hall⟩ := DataW.trod_struct Tryd.underlying27 hf
  have hxl : xs.length = 5 := hxl
  have hcl : cs.toList.length = 20 := by simpa using hsz
  match xs, hxl, hall with
  | [y0, y1, y2, y3, y4], _, hall =>
    have h0 : DataW.trod enc Tryd.prog W bs sp held m 25 ((cs.toList.drop 0).take (Tryd.prog.cellsOf 25)) = some y0 := hall 0 _ rfl
    have h1 : DataW.trod enc Tryd.prog W bs sp held m 25 ((cs.toList.drop 4).take (Tryd.prog.cellsOf 25)) = some y1 := hall 1 _ rfl
    have h2 : DataW.trod enc Tryd.prog W bs sp held m 25 ((cs.toList.drop 8).take (Tryd.prog.cellsOf 25)) = some y2 := hall 2 _ rfl
    have h3 : DataW.trod enc Tryd.prog W bs sp held m 25 ((cs.toList.drop 12).take (Tryd.prog.cellsOf 25)) = some y3 := hall 3 _ rfl
    have h4 : DataW.trod enc Tryd.prog W bs sp held m 25 ((cs.toList.drop 16).take (Tryd.prog.cellsOf 25)) = some y4 := hall 4 _ rfl
    rw [cRegion] at h0 h1 h2 h3 h4
    obtain ⟨a0, a1, a2, a3, e0⟩ := region_cells h0
    obtain ⟨a4, a5, a6, a7, e1⟩ := region_cells h1
    obtain ⟨a8, a9, a10, a11, e2⟩ := region_cells h2
    obtain ⟨a12, a13, a14, a15, e3⟩ := region_cells h3
    obtain ⟨a16, a17, a18, a19, e4⟩ := region_cells h4
    have hs := split20 cs.toList hcl
    rw [e0, e1, e2, e3, e4] at hs
    refine ⟨⟨a0, a1, a2, a3, a4, a5, a6, a7, a8, a9, a10, a11, a12, a13, a14, a15, a16, a17, a18, a19⟩, ?_⟩
    have hc : cs = cs.toList.toArray := by simp
    rw [hc, hs]
    rfl
end
end Go.Proofs.YtaoajlaocphgdaaDoor.PA
namespace Go.Proofs.YtaoajlaocphgdaaDoor.PA
open Go.RowKit Go.Proofs.YtaoajlaocphgdaaDoorW.PrintWords Go.Proofs.YtaoajlaocphgdaaDoorW.PrintLast Go.Proofs.YtaoajlaocphgdaaDoorW.PrintMore
set_option linter.unusedVariables false
set_option linter.unusedSimpArgs false
theorem jn_keep (i c : Nat) (h : i ≠ c + 25) : (if i ≤ c + 25 then (0 : Int) else 1) = if i + 1 ≤ c + 25 then 0 else 1 := by split <;> split <;> omega
theorem jn_at (i c : Nat) (h : i = c + 25) : (if i ≤ c + 25 then (0 : Int) else 1) + 1 = if i + 1 ≤ c + 25 then 0 else 1 := by split <;> split <;> omega
theorem words_at (l : LayV) (ps : List Int) (i : Nat) (x : InsS) (h : (codeL ps l)[i]? = some x) : rd (wordsL ps l) (i : Int) = (encP x).1 := by
  simp [rd, wordsL, List.getD_eq_getElem?_getD, List.getElem?_map, h]
set_option maxHeartbeats 16000000 in
set_option maxRecDepth 100000 in
theorem leaves_calls (A0 : Option Addr) (c0 : Nat) (ps : List Int) (l : LayV) (w : World) (hr : Kd.C (Kd.int .i64) w A0 ps.length ps) (hc : ps.length ≤ c0) (hG : GlobOk w) :
    Calls Tryd.prog 4 #[.slice A0 ps.length c0, .agg (layArr l)] w fun e w' => e = .returned (.bool true) ∧ Below w.heap.size w w' := by
  have HR := Aside0.mk hr
  have HC := Aside0.mk hc
  have HG := Aside0.mk hG
  have HB := Aside0.mk (Below.refl w.heap.size w)
  clear hr hc hG
  go_enter Tryd.func4, Tryd.ntmps4
  go_wp2_with (first | ((with_reducible refine gate_dst (N := 3) rfl ?_); refine box_event ?hg (N := 3) ?hd (cs := layArr l) (t := 27) ?hr ?_; (case hd => rfl); (case hg => rfl); (case hr => (refine exec_box (by rfl) (by rfl) (run_boxL l _))); intro g3 hg3 w1 B3 hb1; have HB1 := Aside0.mk hb1; have HK3 := Aside0.mk B3; clear hb1 B3 hg3))
  refine (caponierlaw19_awake.calls true _ rfl (HG.out.of_below HB1.out)).mono ?_
  rintro e w2 ⟨rfl, hb2⟩
  have HB2 := Aside0.mk (below_step HB1.out hb2)
  have HK32 := Aside0.mk (blk_below HK3.out hb2)
  have HR2 := Aside0.mk (Kd.C_below HR.out (below_step HB1.out hb2))
  clear hb2 HB1 HK3
  by_cases hl : (100 : Int) < (ps.length : Int)
  · go_wp2_with fail
    go_ret
    exact ⟨rfl, HB2.out⟩
  · go_wp2_with (first | ((with_reducible refine gate_dst (N := 20) rfl ?_); refine wpList_load_row (by rfl) 27 _ (by rfl) g3 (by rfl) 27 (layArr l) (0, 0) _ HK32.out Tryd.underlying27 rfl (by kernel_rfl) ?_))
    by_cases hok : (mayL l && nameB (⟨#[102]⟩ : ByteArray).data.toList && !decide ((6 : Int) < (ps.length : Int)) && !ps.any badN) = true
    · simp only [Bool.and_eq_true, Bool.not_eq_true', decide_eq_false_iff_not] at hok
      obtain ⟨⟨⟨hm, hn⟩, h6⟩, hbad⟩ := hok
      refine (cap_yes ⟨#[102]⟩ A0 c0 ps l _ HR2.out HC.out (HG.out.of_below HB2.out) (by decide) hm hn (by omega) hbad).mono ?_
      rintro e w3 ⟨u3, v3, rfl, hu3, hv3, hb3⟩
      obtain ⟨Au, cu, hu⟩ := Kd.R_slice hu3
      obtain ⟨wl, hwl⟩ : ∃ n, n = (wordsL ps l).length := ⟨_, rfl⟩
      rw [← hwl] at hu
      subst hu
      obtain ⟨Av, cv, hv⟩ := Kd.R_slice hv3
      replace hv : v3 = .slice Av 1 cv := hv
      subst hv
      have hL := all_len l ps
      have hwl2 : wl = (checksP l ps).length + 30 := by rw [hwl, wordsL, List.length_map, hL]
      obtain ⟨c, hc⟩ : ∃ c, c = (checksP l ps).length := ⟨_, rfl⟩
      have hc6 := checks_length l ps (by omega)
      rw [← hc] at hwl2 hc6
      have HW2 := Aside0.mk hwl2
      have hwb : wl ≤ 86 := by omega
      have HO := mayL_ok hm
      have HP := bad_range hbad
      have HLEAF := Aside0.mk (fun i hi => leaf_at l HO.1 ps (by omega) HP i hi)
      have HWL := Aside0.mk hwl
      have HCC := Aside0.mk hc
      have HU3 := Aside0.mk hu3
      have HV3 := Aside0.mk hv3
      have HB3 := Aside0.mk (below_step HB2.out hb3)
      clear hu3 hv3 hb3 hwl hwl2 hm hn h6 hbad hl HB2 HK32 HR2 HR HO HP hL hc
      go_upto_region 6 with (first | ((with_reducible refine gate_dst (N := 5) rfl ?_); refine box_event ?hg (N := 5) ?hd (cs := noCells) (t := 35) ?hr ?_; (case hd => rfl); (case hg => rfl); (case hr => first | (go_simp; done) | (go_simp; rfl)); intro g5 hg5 w4 B5 hb4; have HA5 := Aside0.mk hb4; have HE5 := Aside0.mk hg5; have HK5 := Aside0.mk B5; clear hb4 hg5 B5) | (refine store_event (by rfl) (ty := 35) (by rfl) g5 35 noCells (objCells (.slice Au wl cu) (.slice Av 1 cv)) (by rfl) (by rfl) HK5.out (by kernel_rfl) rfl (by kernel_rfl) ?_; intro w5 hs5; have HS5 := Aside0.mk hs5; clear hs5))
      have hX := HS5.out.below HA5.out (by rw [HE5.out]; exact Nat.le_refl _)
      have HB5 := Aside0.mk (below_step HB3.out hX)
      have HU5 := Aside0.mk (Kd.R_below HU3.out hX)
      have HV5 := Aside0.mk (Kd.R_below HV3.out hX)
      have HK55 := Aside0.mk HS5.out.at_
      have q50 : w5.cell? ⟨g5, 0, none⟩ = some (.slice Au wl cu) := (blk_cell HS5.out.at_ 0).trans rfl
      clear hX HS5 HA5 HE5 HK5 HB3
      go_wp2_with fail
      go_loopg [8, 9] wl (fun g s8 s9 w' => ∃ i : Nat, s8 = .int .i64 (if i ≤ c + 25 then 0 else 1) ∧ s9 = .int .i64 i ∧ i ≤ wl ∧ g = wl - i ∧ Aside0 (Below w5.heap.size w5 w'))
      case atStart => exact ⟨0, rfl, rfl, Nat.zero_le _, rfl, ⟨Below.refl _ _⟩⟩
      case round =>
        obtain ⟨i, rfl, rfl, hi, rfl, hbx⟩ := hrel
        obtain ⟨jn, hjn⟩ : ∃ z : Int, z = if i ≤ c + 25 then 0 else 1 := ⟨_, rfl⟩
        rw [← hjn]
        have HJ := Aside0.mk hjn
        have hj01 : 0 ≤ jn ∧ jn ≤ 1 := by rw [hjn]; split <;> omega
        clear hjn
        by_cases hlt : i < wl
        · obtain ⟨x, hx, hw, hk⟩ := HLEAF.out i (by have := HW2.out; rw [← HCC.out]; omega)
          rw [← HCC.out] at hk
          have HWA := words_at l ps i x hx
          obtain ⟨wd, e1, e2, e3, e4⟩ := hw.all
          rw [e1] at HWA
          have HD := Aside0.mk (e4 0)
          obtain ⟨ad, ea, qa⟩ := Kd.at_int (Kd.R_reads' (Kd.R_below HU5.out hbx.out)).2.2 (i : Int) (by omega) (by rw [← HWL.out]; omega)
          cases ea
          rw [Int.toNat_natCast, HWA] at qa
          have q5 : wr.cell? ⟨g5, 0, none⟩ = some (.slice (some ad) wl cu) := (blk_cell (blk_below HK55.out hbx.out) 0).trans rfl
          have hlti : (i : Int) < (wl : Int) := by omega
          have HK := Aside0.mk hk
          have hwl100 : wl ≤ 100 := by omega
          clear hk hx hw e1 e2 e3 e4 HWA
          go_wp2_with fail
          refine (caponierref02_Decode.calls 200 (wd : Int) x.f0 x.f1 x.f2 x.f3 x.f4 0 _ HD.out).mono ?_
          rintro e w6 ⟨rfl, hb6⟩
          have HB6 := Aside0.mk (below_step hbx.out hb6)
          clear hb6 qa q5
          go_upto_region 14 with (first | ((with_reducible refine gate_dst (N := 10) rfl ?_); refine box_event ?hg (N := 10) ?hd (cs := #[.int .i64 0, .int .i64 0, .int .i64 0, .int .i64 0, .int .i64 0]) (t := 43) ?hr ?_; (case hd => rfl); (case hg => rfl); (case hr => first | (go_simp; done) | (go_simp; rfl)); intro g10 hg10 w7 B10 hb7; have HS7 := Aside0.mk hb7; have HE10 := Aside0.mk hg10; have HK10 := Aside0.mk B10; clear hb7 hg10 B10) | (refine store_event (by rfl) (ty := 43) (by rfl) g10 43 #[.int .i64 0, .int .i64 0, .int .i64 0, .int .i64 0, .int .i64 0] #[.int .i64 x.f0, .int .i64 x.f1, .int .i64 x.f2, .int .i64 x.f3, .int .i64 x.f4] (by rfl) (by rfl) HK10.out (by kernel_rfl) rfl (by kernel_rfl) ?_; intro w8 hs8; have HS8 := Aside0.mk hs8; clear hs8))
          have HB8 := Aside0.mk (below_step HB6.out (HS8.out.below HS7.out (by rw [HE10.out]; exact Nat.le_refl _)))
          have HX8 := Aside0.mk HS8.out.at_
          have b0 : w8.cell? ⟨g10, 0, none⟩ = some (.int .i64 x.f0) := (blk_cell HX8.out 0).trans rfl
          obtain ⟨gv, cpv, hvv, _, _⟩ := Kd.R_form HV5.out (by show 0 < 1; decide)
          obtain rfl := (Value.slice.inj hvv).1
          clear hvv
          clear HS8 HS7 HE10 HK10
          have s1 : IntKind.i64.wrap (4 * (i : Int)) = 4 * (i : Int) := IntWalk.i64_in _ (by omega)
          have s2 : IntKind.i64.wrap ((i : Int) + 1) = (i : Int) + 1 := IntWalk.i64_in _ (by omega)
          rcases HK.out with ⟨h, hne⟩ | ⟨q, h, hne, hne2, hq, hq0, hq1⟩ | ⟨h, hat, hf4⟩ | ⟨q, h, hne, hne2, hq, hq0, hq1⟩ | ⟨h, hne, h2, h4⟩ | ⟨h, hne, h2, h4⟩ | ⟨h, hat, h2, h1, h4⟩
          · rcases h with h | h | h | h
            · rw [h] at b0
              go_wp2_with fail
              refine (caponierref02_Form.calls 10 16 ⟨#[73]⟩ _ rfl).mono ?_
              rintro e w9 ⟨rfl, hd9⟩
              have hX9 := blk_below HX8.out hd9.below
              have HB9 := Aside0.mk (below_step HB8.out hd9.below)
              have c0 : w9.cell? ⟨g10, 0, none⟩ = some (.int .i64 16) := (blk_cell hX9 0).trans (by show some (Value.int .i64 x.f0) = _; rw [h])
              have c1 : w9.cell? ⟨g10, 1, none⟩ = some (.int .i64 x.f1) := (blk_cell hX9 1).trans rfl
              have c2 : w9.cell? ⟨g10, 2, none⟩ = some (.int .i64 x.f2) := (blk_cell hX9 2).trans rfl
              have c4 : w9.cell? ⟨g10, 4, none⟩ = some (.int .i64 x.f4) := (blk_cell hX9 4).trans rfl
              clear hd9 hX9 b0
              go_wp2_with fail
              go_roundg (wl - (i + 1))
              case measure => omega
              case rel => exact ⟨i + 1, by rw [HJ.out, jn_keep i c (by omega)], by go_num, by omega, rfl, HB9⟩
            · rw [h] at b0
              go_wp2_with fail
              refine (caponierref02_Form.calls 10 21 ⟨#[73]⟩ _ rfl).mono ?_
              rintro e w9 ⟨rfl, hd9⟩
              have hX9 := blk_below HX8.out hd9.below
              have HB9 := Aside0.mk (below_step HB8.out hd9.below)
              have c0 : w9.cell? ⟨g10, 0, none⟩ = some (.int .i64 21) := (blk_cell hX9 0).trans (by show some (Value.int .i64 x.f0) = _; rw [h])
              have c1 : w9.cell? ⟨g10, 1, none⟩ = some (.int .i64 x.f1) := (blk_cell hX9 1).trans rfl
              have c2 : w9.cell? ⟨g10, 2, none⟩ = some (.int .i64 x.f2) := (blk_cell hX9 2).trans rfl
              have c4 : w9.cell? ⟨g10, 4, none⟩ = some (.int .i64 x.f4) := (blk_cell hX9 4).trans rfl
              clear hd9 hX9 b0
              go_wp2_with fail
              go_roundg (wl - (i + 1))
              case measure => omega
              case rel => exact ⟨i + 1, by rw [HJ.out, jn_keep i c (by omega)], by go_num, by omega, rfl, HB9⟩
            · rw [h] at b0
              go_wp2_with fail
              refine (caponierref02_Form.calls 10 38 ⟨#[85]⟩ _ rfl).mono ?_
              rintro e w9 ⟨rfl, hd9⟩
              have hX9 := blk_below HX8.out hd9.below
              have HB9 := Aside0.mk (below_step HB8.out hd9.below)
              have c0 : w9.cell? ⟨g10, 0, none⟩ = some (.int .i64 38) := (blk_cell hX9 0).trans (by show some (Value.int .i64 x.f0) = _; rw [h])
              have c1 : w9.cell? ⟨g10, 1, none⟩ = some (.int .i64 x.f1) := (blk_cell hX9 1).trans rfl
              have c2 : w9.cell? ⟨g10, 2, none⟩ = some (.int .i64 x.f2) := (blk_cell hX9 2).trans rfl
              have c4 : w9.cell? ⟨g10, 4, none⟩ = some (.int .i64 x.f4) := (blk_cell hX9 4).trans rfl
              clear hd9 hX9 b0
              go_wp2_with fail
              go_roundg (wl - (i + 1))
              case measure => omega
              case rel => exact ⟨i + 1, by rw [HJ.out, jn_keep i c (by omega)], by go_num, by omega, rfl, HB9⟩
            · rw [h] at b0
              go_wp2_with fail
              refine (caponierref02_Form.calls 10 42 ⟨#[69]⟩ _ rfl).mono ?_
              rintro e w9 ⟨rfl, hd9⟩
              have hX9 := blk_below HX8.out hd9.below
              have HB9 := Aside0.mk (below_step HB8.out hd9.below)
              have c0 : w9.cell? ⟨g10, 0, none⟩ = some (.int .i64 42) := (blk_cell hX9 0).trans (by show some (Value.int .i64 x.f0) = _; rw [h])
              have c1 : w9.cell? ⟨g10, 1, none⟩ = some (.int .i64 x.f1) := (blk_cell hX9 1).trans rfl
              have c2 : w9.cell? ⟨g10, 2, none⟩ = some (.int .i64 x.f2) := (blk_cell hX9 2).trans rfl
              have c4 : w9.cell? ⟨g10, 4, none⟩ = some (.int .i64 x.f4) := (blk_cell hX9 4).trans rfl
              clear hd9 hX9 b0
              go_wp2_with fail
              go_roundg (wl - (i + 1))
              case measure => omega
              case rel => exact ⟨i + 1, by rw [HJ.out, jn_keep i c (by omega)], by go_num, by omega, rfl, HB9⟩
          · rcases h with h | h | h
            · rw [h] at b0
              go_wp2_with fail
              refine (caponierref02_Form.calls 10 33 ⟨#[66]⟩ _ rfl).mono ?_
              rintro e w9 ⟨rfl, hd9⟩
              have hX9 := blk_below HX8.out hd9.below
              have HB9 := Aside0.mk (below_step HB8.out hd9.below)
              have c0 : w9.cell? ⟨g10, 0, none⟩ = some (.int .i64 33) := (blk_cell hX9 0).trans (by show some (Value.int .i64 x.f0) = _; rw [h])
              have c1 : w9.cell? ⟨g10, 1, none⟩ = some (.int .i64 x.f1) := (blk_cell hX9 1).trans rfl
              have c2 : w9.cell? ⟨g10, 2, none⟩ = some (.int .i64 x.f2) := (blk_cell hX9 2).trans rfl
              have c4 : w9.cell? ⟨g10, 4, none⟩ = some (.int .i64 x.f4) := (blk_cell hX9 4).trans rfl
              clear hd9 hX9 b0
              obtain ⟨adv, ev, z0, z1, z2, z3⟩ := at_T49 (Kd.R_reads' (Kd.R_below HV5.out HB9.out)).2.2 0 (by decide) (by show (0 : Int) < 1; decide)
              obtain rfl := Option.some.inj ev
              replace z0 : w9.cell? ⟨gv, 0, none⟩ = some (.int .i64 (4 * ((preP l ps).length : Int))) := z0
              rw [pre_len, ← HCC.out] at z0
              have q53 : w9.cell? ⟨g5, 3, none⟩ = some (.slice (some ⟨gv, 0, none⟩) 1 cv) := (blk_cell (blk_below HK55.out HB9.out) 3).trans rfl
              clear z1 z2 z3
              have x1 : (4 * (i : Int) == 4 * ((c + 6 : Nat) : Int)) = false := beq_eq_false_iff_ne.2 (by omega)
              have x2 : (4 * (i : Int) != 4 * ((c + 6 : Nat) : Int)) = true := bne_iff_ne.2 (by omega)
              generalize 4 * ((c + 6 : Nat) : Int) = at4 at z0 x1 x2
              rw [hq] at c4
              have y1 : (4 * q).tdiv 4 = q := by rw [Int.mul_comm]; exact Int.mul_tdiv_cancel _ (by decide)
              have y2 : IntKind.i64.wrap ((4 * q).tdiv 4) = q := by rw [y1]; exact IntWalk.i64_in _ (by omega)
              have y3 : IntKind.i64.wrap ((i : Int) + q) = (i : Int) + q := IntWalk.i64_in _ (by omega)
              have d1 : decide ((i : Int) + q ≤ i) = false := decide_eq_false (by omega)
              have d2 : decide ((i : Int) + q < 0) = false := decide_eq_false (by omega)
              have d3 : decide ((wl : Int) ≤ (i : Int) + q) = false := decide_eq_false (by have := HW2.out; omega)
              go_wp2_with fail
              go_roundg (wl - (i + 1))
              case measure => omega
              case rel => exact ⟨i + 1, by rw [HJ.out, jn_keep i c (by omega)], by go_num, by omega, rfl, HB9⟩
            · rw [h] at b0
              go_wp2_with fail
              refine (caponierref02_Form.calls 10 36 ⟨#[66]⟩ _ rfl).mono ?_
              rintro e w9 ⟨rfl, hd9⟩
              have hX9 := blk_below HX8.out hd9.below
              have HB9 := Aside0.mk (below_step HB8.out hd9.below)
              have c0 : w9.cell? ⟨g10, 0, none⟩ = some (.int .i64 36) := (blk_cell hX9 0).trans (by show some (Value.int .i64 x.f0) = _; rw [h])
              have c1 : w9.cell? ⟨g10, 1, none⟩ = some (.int .i64 x.f1) := (blk_cell hX9 1).trans rfl
              have c2 : w9.cell? ⟨g10, 2, none⟩ = some (.int .i64 x.f2) := (blk_cell hX9 2).trans rfl
              have c4 : w9.cell? ⟨g10, 4, none⟩ = some (.int .i64 x.f4) := (blk_cell hX9 4).trans rfl
              clear hd9 hX9 b0
              obtain ⟨adv, ev, z0, z1, z2, z3⟩ := at_T49 (Kd.R_reads' (Kd.R_below HV5.out HB9.out)).2.2 0 (by decide) (by show (0 : Int) < 1; decide)
              obtain rfl := Option.some.inj ev
              replace z0 : w9.cell? ⟨gv, 0, none⟩ = some (.int .i64 (4 * ((preP l ps).length : Int))) := z0
              rw [pre_len, ← HCC.out] at z0
              have q53 : w9.cell? ⟨g5, 3, none⟩ = some (.slice (some ⟨gv, 0, none⟩) 1 cv) := (blk_cell (blk_below HK55.out HB9.out) 3).trans rfl
              clear z1 z2 z3
              have x1 : (4 * (i : Int) == 4 * ((c + 6 : Nat) : Int)) = false := beq_eq_false_iff_ne.2 (by omega)
              have x2 : (4 * (i : Int) != 4 * ((c + 6 : Nat) : Int)) = true := bne_iff_ne.2 (by omega)
              generalize 4 * ((c + 6 : Nat) : Int) = at4 at z0 x1 x2
              rw [hq] at c4
              have y1 : (4 * q).tdiv 4 = q := by rw [Int.mul_comm]; exact Int.mul_tdiv_cancel _ (by decide)
              have y2 : IntKind.i64.wrap ((4 * q).tdiv 4) = q := by rw [y1]; exact IntWalk.i64_in _ (by omega)
              have y3 : IntKind.i64.wrap ((i : Int) + q) = (i : Int) + q := IntWalk.i64_in _ (by omega)
              have d1 : decide ((i : Int) + q ≤ i) = false := decide_eq_false (by omega)
              have d2 : decide ((i : Int) + q < 0) = false := decide_eq_false (by omega)
              have d3 : decide ((wl : Int) ≤ (i : Int) + q) = false := decide_eq_false (by have := HW2.out; omega)
              go_wp2_with fail
              go_roundg (wl - (i + 1))
              case measure => omega
              case rel => exact ⟨i + 1, by rw [HJ.out, jn_keep i c (by omega)], by go_num, by omega, rfl, HB9⟩
            · rw [h] at b0
              go_wp2_with fail
              refine (caponierref02_Form.calls 10 37 ⟨#[66]⟩ _ rfl).mono ?_
              rintro e w9 ⟨rfl, hd9⟩
              have hX9 := blk_below HX8.out hd9.below
              have HB9 := Aside0.mk (below_step HB8.out hd9.below)
              have c0 : w9.cell? ⟨g10, 0, none⟩ = some (.int .i64 37) := (blk_cell hX9 0).trans (by show some (Value.int .i64 x.f0) = _; rw [h])
              have c1 : w9.cell? ⟨g10, 1, none⟩ = some (.int .i64 x.f1) := (blk_cell hX9 1).trans rfl
              have c2 : w9.cell? ⟨g10, 2, none⟩ = some (.int .i64 x.f2) := (blk_cell hX9 2).trans rfl
              have c4 : w9.cell? ⟨g10, 4, none⟩ = some (.int .i64 x.f4) := (blk_cell hX9 4).trans rfl
              clear hd9 hX9 b0
              obtain ⟨adv, ev, z0, z1, z2, z3⟩ := at_T49 (Kd.R_reads' (Kd.R_below HV5.out HB9.out)).2.2 0 (by decide) (by show (0 : Int) < 1; decide)
              obtain rfl := Option.some.inj ev
              replace z0 : w9.cell? ⟨gv, 0, none⟩ = some (.int .i64 (4 * ((preP l ps).length : Int))) := z0
              rw [pre_len, ← HCC.out] at z0
              have q53 : w9.cell? ⟨g5, 3, none⟩ = some (.slice (some ⟨gv, 0, none⟩) 1 cv) := (blk_cell (blk_below HK55.out HB9.out) 3).trans rfl
              clear z1 z2 z3
              have x1 : (4 * (i : Int) == 4 * ((c + 6 : Nat) : Int)) = false := beq_eq_false_iff_ne.2 (by omega)
              have x2 : (4 * (i : Int) != 4 * ((c + 6 : Nat) : Int)) = true := bne_iff_ne.2 (by omega)
              generalize 4 * ((c + 6 : Nat) : Int) = at4 at z0 x1 x2
              rw [hq] at c4
              have y1 : (4 * q).tdiv 4 = q := by rw [Int.mul_comm]; exact Int.mul_tdiv_cancel _ (by decide)
              have y2 : IntKind.i64.wrap ((4 * q).tdiv 4) = q := by rw [y1]; exact IntWalk.i64_in _ (by omega)
              have y3 : IntKind.i64.wrap ((i : Int) + q) = (i : Int) + q := IntWalk.i64_in _ (by omega)
              have d1 : decide ((i : Int) + q ≤ i) = false := decide_eq_false (by omega)
              have d2 : decide ((i : Int) + q < 0) = false := decide_eq_false (by omega)
              have d3 : decide ((wl : Int) ≤ (i : Int) + q) = false := decide_eq_false (by have := HW2.out; omega)
              go_wp2_with fail
              go_roundg (wl - (i + 1))
              case measure => omega
              case rel => exact ⟨i + 1, by rw [HJ.out, jn_keep i c (by omega)], by go_num, by omega, rfl, HB9⟩
          · rw [h] at b0
            go_wp2_with fail
            refine (caponierref02_Form.calls 10 40 ⟨#[74]⟩ _ rfl).mono ?_
            rintro e w9 ⟨rfl, hd9⟩
            have hX9 := blk_below HX8.out hd9.below
            have HB9 := Aside0.mk (below_step HB8.out hd9.below)
            have c0 : w9.cell? ⟨g10, 0, none⟩ = some (.int .i64 40) := (blk_cell hX9 0).trans (by show some (Value.int .i64 x.f0) = _; rw [h])
            have c1 : w9.cell? ⟨g10, 1, none⟩ = some (.int .i64 x.f1) := (blk_cell hX9 1).trans rfl
            have c2 : w9.cell? ⟨g10, 2, none⟩ = some (.int .i64 x.f2) := (blk_cell hX9 2).trans rfl
            have c4 : w9.cell? ⟨g10, 4, none⟩ = some (.int .i64 x.f4) := (blk_cell hX9 4).trans rfl
            clear hd9 hX9 b0
            obtain ⟨adv, ev, z0, z1, z2, z3⟩ := at_T49 (Kd.R_reads' (Kd.R_below HV5.out HB9.out)).2.2 0 (by decide) (by show (0 : Int) < 1; decide)
            obtain rfl := Option.some.inj ev
            replace z0 : w9.cell? ⟨gv, 0, none⟩ = some (.int .i64 (4 * ((preP l ps).length : Int))) := z0
            rw [pre_len, ← HCC.out] at z0
            have q53 : w9.cell? ⟨g5, 3, none⟩ = some (.slice (some ⟨gv, 0, none⟩) 1 cv) := (blk_cell (blk_below HK55.out HB9.out) 3).trans rfl
            clear z1 z2 z3
            rw [← hat] at z0
            go_wp2_with fail
            go_roundg (wl - (i + 1))
            case measure => omega
            case rel => exact ⟨i + 1, by rw [HJ.out, jn_keep i c (by omega)], by go_num, by omega, rfl, HB9⟩
          · rw [h] at b0
            go_wp2_with fail
            refine (caponierref02_Form.calls 10 40 ⟨#[74]⟩ _ rfl).mono ?_
            rintro e w9 ⟨rfl, hd9⟩
            have hX9 := blk_below HX8.out hd9.below
            have HB9 := Aside0.mk (below_step HB8.out hd9.below)
            have c0 : w9.cell? ⟨g10, 0, none⟩ = some (.int .i64 40) := (blk_cell hX9 0).trans (by show some (Value.int .i64 x.f0) = _; rw [h])
            have c1 : w9.cell? ⟨g10, 1, none⟩ = some (.int .i64 x.f1) := (blk_cell hX9 1).trans rfl
            have c2 : w9.cell? ⟨g10, 2, none⟩ = some (.int .i64 x.f2) := (blk_cell hX9 2).trans rfl
            have c4 : w9.cell? ⟨g10, 4, none⟩ = some (.int .i64 x.f4) := (blk_cell hX9 4).trans rfl
            clear hd9 hX9 b0
            obtain ⟨adv, ev, z0, z1, z2, z3⟩ := at_T49 (Kd.R_reads' (Kd.R_below HV5.out HB9.out)).2.2 0 (by decide) (by show (0 : Int) < 1; decide)
            obtain rfl := Option.some.inj ev
            replace z0 : w9.cell? ⟨gv, 0, none⟩ = some (.int .i64 (4 * ((preP l ps).length : Int))) := z0
            rw [pre_len, ← HCC.out] at z0
            have q53 : w9.cell? ⟨g5, 3, none⟩ = some (.slice (some ⟨gv, 0, none⟩) 1 cv) := (blk_cell (blk_below HK55.out HB9.out) 3).trans rfl
            clear z1 z2 z3
            have x1 : (4 * (i : Int) == 4 * ((c + 6 : Nat) : Int)) = false := beq_eq_false_iff_ne.2 (by omega)
            have x2 : (4 * (i : Int) != 4 * ((c + 6 : Nat) : Int)) = true := bne_iff_ne.2 (by omega)
            generalize 4 * ((c + 6 : Nat) : Int) = at4 at z0 x1 x2
            rw [hq] at c4
            have y1 : (4 * q).tdiv 4 = q := by rw [Int.mul_comm]; exact Int.mul_tdiv_cancel _ (by decide)
            have y2 : IntKind.i64.wrap ((4 * q).tdiv 4) = q := by rw [y1]; exact IntWalk.i64_in _ (by omega)
            have y3 : IntKind.i64.wrap ((i : Int) + q) = (i : Int) + q := IntWalk.i64_in _ (by omega)
            have d2 : decide ((i : Int) + q < 0) = false := decide_eq_false (by omega)
            have d3 : decide ((wl : Int) ≤ (i : Int) + q) = false := decide_eq_false (by have := HW2.out; omega)
            by_cases hle : (i : Int) + q ≤ i
            · have d1 : decide ((i : Int) + q ≤ i) = true := decide_eq_true hle
              go_wp2_with fail
              go_roundg (wl - (i + 1))
              case measure => omega
              case rel => exact ⟨i + 1, by rw [HJ.out, jn_keep i c (by omega)], by go_num, by omega, rfl, HB9⟩
            · have d1 : decide ((i : Int) + q ≤ i) = false := decide_eq_false hle
              go_wp2_with fail
              go_roundg (wl - (i + 1))
              case measure => omega
              case rel => exact ⟨i + 1, by rw [HJ.out, jn_keep i c (by omega)], by go_num, by omega, rfl, HB9⟩
          · rcases h4 with h4 | h4
            · rw [h] at b0
              go_wp2_with fail
              refine (caponierref02_Form.calls 10 31 ⟨#[83]⟩ _ rfl).mono ?_
              rintro e w9 ⟨rfl, hd9⟩
              have hX9 := blk_below HX8.out hd9.below
              have HB9 := Aside0.mk (below_step HB8.out hd9.below)
              have c0 : w9.cell? ⟨g10, 0, none⟩ = some (.int .i64 31) := (blk_cell hX9 0).trans (by show some (Value.int .i64 x.f0) = _; rw [h])
              have c1 : w9.cell? ⟨g10, 1, none⟩ = some (.int .i64 x.f1) := (blk_cell hX9 1).trans rfl
              have c2 : w9.cell? ⟨g10, 2, none⟩ = some (.int .i64 x.f2) := (blk_cell hX9 2).trans rfl
              have c4 : w9.cell? ⟨g10, 4, none⟩ = some (.int .i64 x.f4) := (blk_cell hX9 4).trans rfl
              clear hd9 hX9 b0
              rw [h2] at c2
              rw [h4] at c4
              go_wp2_with fail
              go_roundg (wl - (i + 1))
              case measure => omega
              case rel => exact ⟨i + 1, by rw [HJ.out, jn_keep i c (by omega)], by go_num, by omega, rfl, HB9⟩
            · rw [h] at b0
              go_wp2_with fail
              refine (caponierref02_Form.calls 10 31 ⟨#[83]⟩ _ rfl).mono ?_
              rintro e w9 ⟨rfl, hd9⟩
              have hX9 := blk_below HX8.out hd9.below
              have HB9 := Aside0.mk (below_step HB8.out hd9.below)
              have c0 : w9.cell? ⟨g10, 0, none⟩ = some (.int .i64 31) := (blk_cell hX9 0).trans (by show some (Value.int .i64 x.f0) = _; rw [h])
              have c1 : w9.cell? ⟨g10, 1, none⟩ = some (.int .i64 x.f1) := (blk_cell hX9 1).trans rfl
              have c2 : w9.cell? ⟨g10, 2, none⟩ = some (.int .i64 x.f2) := (blk_cell hX9 2).trans rfl
              have c4 : w9.cell? ⟨g10, 4, none⟩ = some (.int .i64 x.f4) := (blk_cell hX9 4).trans rfl
              clear hd9 hX9 b0
              rw [h2] at c2
              rw [h4] at c4
              go_wp2_with fail
              go_roundg (wl - (i + 1))
              case measure => omega
              case rel => exact ⟨i + 1, by rw [HJ.out, jn_keep i c (by omega)], by go_num, by omega, rfl, HB9⟩
          · rcases h4 with h4 | h4
            · rw [h] at b0
              go_wp2_with fail
              refine (caponierref02_Form.calls 10 28 ⟨#[73]⟩ _ rfl).mono ?_
              rintro e w9 ⟨rfl, hd9⟩
              have hX9 := blk_below HX8.out hd9.below
              have HB9 := Aside0.mk (below_step HB8.out hd9.below)
              have c0 : w9.cell? ⟨g10, 0, none⟩ = some (.int .i64 28) := (blk_cell hX9 0).trans (by show some (Value.int .i64 x.f0) = _; rw [h])
              have c1 : w9.cell? ⟨g10, 1, none⟩ = some (.int .i64 x.f1) := (blk_cell hX9 1).trans rfl
              have c2 : w9.cell? ⟨g10, 2, none⟩ = some (.int .i64 x.f2) := (blk_cell hX9 2).trans rfl
              have c4 : w9.cell? ⟨g10, 4, none⟩ = some (.int .i64 x.f4) := (blk_cell hX9 4).trans rfl
              clear hd9 hX9 b0
              rw [h2] at c2
              rw [h4] at c4
              go_wp2_with fail
              go_roundg (wl - (i + 1))
              case measure => omega
              case rel => exact ⟨i + 1, by rw [HJ.out, jn_keep i c (by omega)], by go_num, by omega, rfl, HB9⟩
            · rw [h] at b0
              go_wp2_with fail
              refine (caponierref02_Form.calls 10 28 ⟨#[73]⟩ _ rfl).mono ?_
              rintro e w9 ⟨rfl, hd9⟩
              have hX9 := blk_below HX8.out hd9.below
              have HB9 := Aside0.mk (below_step HB8.out hd9.below)
              have c0 : w9.cell? ⟨g10, 0, none⟩ = some (.int .i64 28) := (blk_cell hX9 0).trans (by show some (Value.int .i64 x.f0) = _; rw [h])
              have c1 : w9.cell? ⟨g10, 1, none⟩ = some (.int .i64 x.f1) := (blk_cell hX9 1).trans rfl
              have c2 : w9.cell? ⟨g10, 2, none⟩ = some (.int .i64 x.f2) := (blk_cell hX9 2).trans rfl
              have c4 : w9.cell? ⟨g10, 4, none⟩ = some (.int .i64 x.f4) := (blk_cell hX9 4).trans rfl
              clear hd9 hX9 b0
              rw [h2] at c2
              rw [h4] at c4
              go_wp2_with fail
              go_roundg (wl - (i + 1))
              case measure => omega
              case rel => exact ⟨i + 1, by rw [HJ.out, jn_keep i c (by omega)], by go_num, by omega, rfl, HB9⟩
          · rw [h] at b0
            go_wp2_with fail
            refine (caponierref02_Form.calls 10 41 ⟨#[73]⟩ _ rfl).mono ?_
            rintro e w9 ⟨rfl, hd9⟩
            have hX9 := blk_below HX8.out hd9.below
            have HB9 := Aside0.mk (below_step HB8.out hd9.below)
            have c0 : w9.cell? ⟨g10, 0, none⟩ = some (.int .i64 41) := (blk_cell hX9 0).trans (by show some (Value.int .i64 x.f0) = _; rw [h])
            have c1 : w9.cell? ⟨g10, 1, none⟩ = some (.int .i64 x.f1) := (blk_cell hX9 1).trans rfl
            have c2 : w9.cell? ⟨g10, 2, none⟩ = some (.int .i64 x.f2) := (blk_cell hX9 2).trans rfl
            have c4 : w9.cell? ⟨g10, 4, none⟩ = some (.int .i64 x.f4) := (blk_cell hX9 4).trans rfl
            clear hd9 hX9 b0
            rw [h2] at c2
            rw [h4] at c4
            rw [h1] at c1
            have s3 : IntKind.i64.wrap (jn + 1) = jn + 1 := IntWalk.i64_in _ (by omega)
            go_wp2_with fail
            go_roundg (wl - (i + 1))
            case measure => omega
            case rel => exact ⟨i + 1, by rw [HJ.out, jn_at i c hat], by go_num, by omega, rfl, HB9⟩
        · obtain rfl : i = wl := by omega
          obtain rfl : jn = 1 := by rw [HJ.out, if_neg (by have := HW2.out; omega)]
          go_wp2_with fail
          go_ret
          exact ⟨rfl, below_step HB5.out hbx.out⟩
    · replace hok : (mayL l && nameB (⟨#[102]⟩ : ByteArray).data.toList && !decide ((6 : Int) < (ps.length : Int)) && !ps.any badN) = false := by simpa using hok
      refine (cap_no ⟨#[102]⟩ A0 c0 ps l _ HR2.out HC.out (HG.out.of_below HB2.out) (by decide) hok).mono ?_
      rintro e w3 ⟨rfl, hb3⟩
      have HB3 := Aside0.mk (below_step HB2.out hb3)
      clear hb3 hok
      go_upto_region 6 with (first | ((with_reducible refine gate_dst (N := 5) rfl ?_); refine box_event ?hg (N := 5) ?hd (cs := noCells) (t := 35) ?hr ?_; (case hd => rfl); (case hg => rfl); (case hr => first | (go_simp; done) | (go_simp; rfl)); intro g5 hg5 w4 B5 hb4; have HA5 := Aside0.mk hb4; have HE5 := Aside0.mk hg5; have HK5 := Aside0.mk B5; clear hb4 hg5 B5) | (refine store_event (by rfl) (ty := 35) (by rfl) g5 35 noCells noCells (by rfl) (by rfl) HK5.out (by kernel_rfl) rfl (by kernel_rfl) ?_; intro w5 hs5; have HS5 := Aside0.mk hs5; clear hs5))
      have HB5 := Aside0.mk (HS5.out.below (below_step HB3.out HA5.out) (by rw [HE5.out]; exact HB3.out.size))
      have q50 : w5.cell? ⟨g5, 0, none⟩ = some (.slice none 0 0) := (blk_cell HS5.out.at_ 0).trans rfl
      go_wp2_with fail
      go_ret
      exact ⟨rfl, HB5.out⟩
end Go.Proofs.YtaoajlaocphgdaaDoor.PA
namespace Go.Proofs.YtaoajlaocphgdaaDoor.Leaves
open Go.ChangeShapes Go.WideShapes Go.ChangeAt Go.RowKit Go.Proofs.YtaoajlaocphgdaaDoorW.PrintWords Go.Proofs.YtaoajlaocphgdaaDoor.PA
set_option linter.unusedVariables false
theorem own : ownKnob Tryd.prog.godebug = none := by kernel_rfl
theorem laidOut : laidOutB Tryd.prog = true := by kernel_rfl
def IsRow (k : IntKind) (w : World) (a : Option Addr) (len cap : Nat) (zs : List Int) : Prop :=
  (a = none ∧ len = 0 ∧ cap = 0 ∧ zs = []) ∨
  ∃ x, a = some x ∧ len ≤ cap ∧ cap ≤ maxLen ∧ zs.length = cap ∧ (∀ i, i < zs.length → w.cell? (x.add i) = some (.int k (zs.getD i 0))) ∧ ∀ n ∈ zs, (Lit.int k n).wf = true
set_option maxRecDepth 100000 in
theorem lifted (os : Os) (started : os.Started) (H : Type) (enc : TypeId × Value → H) :
    ReturnsInHanded {} Tryd.checked os 4 .any (fun w args => (Rows.wrapLeavesSpec.pre enc Tryd.prog Tryd.f4 Rows.wrapLeavesRow.domain false w args ∧ laidMetH Tryd.prog laidL w) ∧ sizedMet enc Tryd.prog Tryd.f4 (OpenSpec.ofChange Rows.wrapLeavesSpec) false w args)
      (Rows.wrapLeavesSpec.post enc Tryd.prog Tryd.f4 false true false false) := by
  refine returnsInHanded_of_change_and (C := Tryd.checked) (X := fun w _ => laidMetH Tryd.prog laidL w) (fun _ _ _ hh h => h.of_heap hh) own started (by kernel_rfl) Tryd.func4
    (ChangeSpec.witness_shaped (enc := enc) (C := Tryd.checked) (os := os) (X := fun w _ => laidMetH Tryd.prog laidL w) false (World.laidAll Tryd.prog os laidL) #[.slice none 0 0, .agg (layArr lay0)] 8 (World.laidAll_os _ _ _)
      (World.shaped_of_ZipB (by kernel_rfl) (by kernel_rfl)) (by kernel_rfl) (by kernel_rfl) (by kernel_rfl)
      (by rw [MakeChecks.laidMetH_plain _ _ _ (by kernel_rfl)]; exact laidMet_laidAll _ (by kernel_rfl) (by kernel_rfl))) ?_
  intro W base args ds gs before hval0 hW hc _ hL _
  have hval : ∀ (j : Nat) t v, Tryd.f4.params[j]? = some t → args[j]? = some v → Value.okWide Tryd.prog W .any base t v := hval0
  have hW' := hW
  obtain ⟨p, q, hA0, hV, rfl, hfz, hnd⟩ := hW
  have hA : DataW.TrodAll enc Tryd.prog W 0 (fun _ => true) true Tryd.f4.params.toList args.toList ds p := hA0
  rw [Tryd.params4] at hA hval
  obtain ⟨v0, v1, d0, d1, p0, p1, rfl, rfl, rfl, h0, h1⟩ := trodAll_two hA
  obtain ⟨rfl, rfl⟩ := trodVars_none hV
  obtain ⟨a0, len0, cap0, rfl⟩ := okWide_slice Tryd.underlying22 (hval 0 22 v0 rfl rfl)
  have k0 := h0
  have lt0 : ∀ x ∈ p0, x.block < W.heap.size := by obtain ⟨m, hm⟩ := k0; exact DataW.trod_lt m _ _ _ hm
  obtain ⟨z0, w0⟩ : ∃ zs, IsRow .i64 W a0 len0 cap0 zs := by
    obtain ⟨fuel, hf⟩ := h0
    rcases open_ints Tryd.underlying22 Tryd.underlying3 (by kernel_rfl) hf with ⟨hcs, _⟩ | ⟨x, l, c, zs, hcs, _, hl, hm, hz, _, hcell, hwz⟩
    · simp [Value.cells] at hcs
      obtain ⟨rfl, rfl, rfl⟩ := hcs
      exact ⟨[], .inl ⟨rfl, rfl, rfl, rfl⟩⟩
    · simp [Value.cells] at hcs
      obtain ⟨rfl, rfl, rfl⟩ := hcs
      exact ⟨zs, .inr ⟨_, rfl, hl, hm, by simpa using hz, hcell, hwz⟩⟩
  have k1 := h1
  have lt1 : ∀ x ∈ p1, x.block < W.heap.size := by obtain ⟨m, hm⟩ := k1; exact DataW.trod_lt m _ _ _ hm
  obtain ⟨l, hl⟩ := open_layout (hval 1 27 v1 rfl rfl) h1
  subst hl
  obtain ⟨l0, rfl, hr0, hm0, hw0, hc0⟩ := ReadsInt.ofRowC w0
  clear hA0 hval0
  refine (leaves_calls a0 cap0 l0 l W (Kd.C_of_reads (d := (0 : Int)) (h1 := fun _ => rfl) hr0) hc0 (globOk_of_laid hL)).mono fun e W' ⟨he, bel⟩ => ?_
  subst he
  exact ⟨_, rfl, _, _, _, [], _, [], hW', trodAll_mk1 (shut_bool Tryd.underlying4 _), trodAll_mk2 (Below.trod laidOut (by kernel_rfl) (of_decide_eq_true (by kernel_rfl)) k0 bel lt0) (Below.trod laidOut (by kernel_rfl) (of_decide_eq_true (by kernel_rfl)) k1 bel lt1), rfl, bel.frame _, fun h => by cases h⟩
theorem holds : Rows.WrapLeavesSaid :=
  OpenClaim.holds_of_wide 4 Tryd.f4 rfl rfl rfl rfl rfl rfl rfl ⟨rfl, rfl, rfl, rfl, rfl⟩ rfl rfl rfl rfl rfl (by kernel_rfl) Tryd.func4 (by kernel_rfl)
    (of_decide_eq_true (by kernel_rfl)) (by unfold Func.isWrapper; first | (rw [if_pos (by decide +kernel)]; kernel_rfl) | (rw [if_neg (by decide +kernel)]; exact ⟨rfl, rfl⟩))
    (fun os started H enc _ => lifted os started H enc)
theorem card : Rows.WrapLeavesCardSaid :=
  Claim7.holds_tied_plain_at .later [] [.data, .data, .pinned] true (true, "511e66e86d2e57841086a139bb516f1f3487ab0fd65b7b2d468c62eacb5ad96c") false holds (fun _ h => by cases h) (by kernel_rfl) (fun _ h => by cases h) wrapLeaves_row_tie rfl ⟨rfl, rfl⟩ (by kernel_rfl) rfl
    (fun f fn hf hfn => by
      obtain rfl : f = 4 := Option.some.inj ((show Tryd.prog.funcNamed "caponier/caponierlaw19.WrapLeaves" = some 4 by kernel_rfl).symm.trans hf) |>.symm
      obtain rfl : fn = Tryd.f4 := (Option.some.inj (Tryd.func4.symm.trans hfn)).symm
      exact ⟨by kernel_rfl, fun j t ht => by
        rw [Tryd.params4] at ht
        have hm : t ∈ [22, 27] := by simpa using Array.mem_of_getElem? ht
        have hall : ([22, 27].all fun u => !Tryd.prog.wantsStandIn u) = true := by kernel_rfl
        exact (show Tryd.prog.wantsStandIn t = false by simpa using List.all_eq_true.1 hall t hm)⟩)
    (by kernel_rfl)
end Go.Proofs.YtaoajlaocphgdaaDoor.Leaves
namespace Go.Proofs.YtaoajlaocphgdaaDoor
theorem wrapLeaves_card : Rows.WrapLeavesCardSaid := Leaves.card
end Go.Proofs.YtaoajlaocphgdaaDoor
end
#print axioms Go.Proofs.YtaoajlaocphgdaaDoor.wrapLeaves_card
