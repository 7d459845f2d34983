/-
Contract of obj.Name: a text is a name just if it has 1 to 24 characters, small letters, digits and underscores alone, and the first is no digit.
-/
import Derived.Test.YtaoajlaocphgdaaDoorHCut
import Derived.Test.YtaoajlaocphgdaaDoorPAxwrapMay
import Derived.Outline
import Derived.Laws.Concat
import Derived.WalkSpells
namespace Go.Proofs.YtaoajlaocphgdaaDoor.PA
open Go.RowKit Go.Lib Go.Proofs.YtaoajlaocphgdaaDoorW.PrintWords Go.Proofs.YtaoajlaocphgdaaDoorW.PrintLast Go.Proofs.YtaoajlaocphgdaaDoorW.PrintMore
set_option linter.unusedVariables false

def isLetter (c : Nat) : Bool := (97 ≤ c && c ≤ 122) || c == 95
def isCh (c : Nat) : Bool := isLetter c || (48 ≤ c && c ≤ 57)
def nameB (l : List UInt8) : Bool := decide (1 ≤ l.length) && decide (l.length ≤ 24) && isLetter (l.getD 0 0).toNat && l.all fun c => isCh c.toNat
def obj_Name.f (a0 : ByteArray) : Option Bool := if a0.size ≤ 140737488351232 then some (nameB a0.data.toList) else none

def lettersS : ByteArray := ⟨#[97, 98, 99, 100, 101, 102, 103, 104, 105, 106, 107, 108, 109, 110, 111, 112, 113, 114, 115, 116, 117, 118, 119, 120, 121, 122, 95]⟩
def charsS : ByteArray := ⟨#[97, 98, 99, 100, 101, 102, 103, 104, 105, 106, 107, 108, 109, 110, 111, 112, 113, 114, 115, 116, 117, 118, 119, 120, 121, 122, 95, 48, 49, 50, 51, 52, 53, 54, 55, 56, 57]⟩
theorem letters_at : ∀ n : Nat, n < 256 → decide (0 ≤ Lib.indexByte lettersS.data.toList (UInt8.ofNat n)) = isLetter n := by decide +kernel
theorem chars_at : ∀ n : Nat, n < 256 → inSet (n : Int) charsS = isCh n := by decide +kernel
theorem chars_asc : Asc charsS := by unfold Asc; decide +kernel

theorem extract_one (s : ByteArray) (hs : 1 ≤ s.size) : s.extract 0 1 = ⟨#[s[0]'hs]⟩ := by
  apply ByteArray.ext
  apply Array.ext'
  rw [Lib.extract_data]
  obtain ⟨⟨l⟩⟩ := s
  cases l with
  | nil => exact absurd hs (by decide)
  | cons b r => rfl
theorem contains_calls (s : ByteArray) (hs : 1 ≤ s.size) (w : World) :
    Calls Tryd.prog 42 #[.string lettersS, .string (s.extract 0 1)] w fun e w' => e = .returned (.bool (isLetter (s[0]'hs).toNat)) ∧ w' = w := by
  rw [extract_one s hs, ← letters_at _ (s[0]'hs).toNat_lt, UInt8.ofNat_toNat]
  exact Tryd.strings_Contains_one lettersS (s[0]'hs) w

theorem chars_eq : ((⟨#[97, 98, 99, 100, 101, 102, 103, 104, 105, 106, 107, 108, 109, 110, 111, 112, 113, 114, 115, 116, 117, 118, 119, 120, 121, 122, 95]⟩ : ByteArray) ++ ⟨#[48, 49, 50, 51, 52, 53, 54, 55, 56, 57]⟩) = charsS := by decide +kernel
theorem chars_in (b : UInt8) : inSet (b.toNat : Int) charsS = isCh b.toNat := chars_at _ b.toNat_lt
theorem nameB_all {l : List UInt8} (h : nameB l = true) : ∀ c ∈ l, isCh c.toNat = true := by
  unfold nameB at h
  rw [Bool.and_eq_true] at h
  exact fun c hc => List.all_eq_true.1 h.2 c hc
theorem getD_zero (s : ByteArray) (hs : 1 ≤ s.size) : s.data.toList.getD 0 0 = s[0]'hs := by
  obtain ⟨⟨l⟩⟩ := s
  cases l with
  | nil => exact absurd hs (by decide)
  | cons b r => rfl
theorem mem_data {s : ByteArray} {c : UInt8} (h : c ∈ s.data.toList) : ∃ j, ∃ hj : j < s.size, s[j]'hj = c := by
  obtain ⟨j, hj, rfl⟩ := List.getElem_of_mem h
  exact ⟨j, by rw [← data_length]; exact hj, by rw [Array.getElem_toList]; rfl⟩
theorem data_mem (s : ByteArray) (j : Nat) (h : j < s.size) : s[j]'h ∈ s.data.toList := by
  have : s.data.toList[j]'(by rw [data_length]; exact h) = s[j]'h := by rw [Array.getElem_toList]; rfl
  rw [← this]
  exact List.getElem_mem _
/-- What is left by cutLeft is empty just if all characters are such as may be. -/
theorem left_name (s r : ByteArray) (hs : 1 ≤ s.size) (hs2 : s.size ≤ 24) (hl : isLetter (s[0]'hs).toNat = true) (h : LeftOf s charsS r) :
    (nameB s.data.toList = true ∧ r.size = 0) ∨ (nameB s.data.toList = false ∧ ∃ p, ∃ h : p < r.size, inSet ((r[p]'h).toNat : Int) charsS = false) := by
  rcases h with ⟨ha, rfl⟩ | ⟨p, hp, _, hn, rfl⟩
  · left
    refine ⟨?_, rfl⟩
    unfold nameB
    rw [data_length, getD_zero s hs, hl, decide_eq_true hs, decide_eq_true hs2]
    simp only [Bool.and_true, Bool.true_and, List.all_eq_true]
    intro c hc
    obtain ⟨j, hj, rfl⟩ := mem_data hc
    rw [← chars_in]
    exact ha j hj hj
  · right
    refine ⟨?_, 0, ?_, ?_⟩
    · cases hb : nameB s.data.toList with
      | false => rfl
      | true =>
        have := nameB_all hb _ (data_mem s p hp)
        rw [← chars_in, hn] at this
        cases this
    · rw [ByteArray.size_extract]; omega
    · rw [ByteArray.getElem_extract]
      exact hn
theorem ascii_loop (s : ByteArray) (ha : ∀ c ∈ s.data.toList, c.toNat < 128) (hz : s.size ≤ 24) : ∀ (d : Nat) (i : Int), 0 ≤ i → i ≤ s.size → (s.size : Int) - i = d → obj_onlyASCII.l0 (d + 1) s (s.size : Int) i = some true := by
  intro d
  induction d with
  | zero =>
    intro i h0 h1 hd
    simp only [obj_onlyASCII.l0]
    rw [if_neg (by omega)]
  | succ d ih =>
    intro i h0 h1 hd
    have hlt : i < (s.size : Int) := by omega
    simp only [obj_onlyASCII.l0]
    rw [if_pos hlt, if_pos h0, if_pos hlt]
    have hw : wrap64 (i + 1) = i + 1 := by unfold wrap64; omega
    have hb : ¬ bt s i ≥ 128 := by
      obtain ⟨n, rfl⟩ := Int.eq_ofNat_of_zero_le h0
      have hn : n < s.size := by omega
      have := ha _ (data_mem s n hn)
      unfold bt
      rw [dif_pos (by simpa using hn)]
      simp only [Int.toNat_natCast]
      omega
    rw [if_neg hb, hw]
    exact ih (i + 1) (by omega) (by omega) (by omega)
theorem name_ascii (s : ByteArray) (hs2 : s.size ≤ 24) (h : nameB s.data.toList = true) : obj_onlyASCII.f (s.size + 1) s = some true := by
  unfold obj_onlyASCII.f
  refine ascii_loop s (fun c hc => ?_) hs2 s.size 0 (by omega) (by omega) (by omega)
  have := nameB_all h c hc
  unfold isCh isLetter at this
  simp at this
  omega

theorem name_calls (s : ByteArray) (w : World) (hs : 1 ≤ s.size) (hs2 : s.size ≤ 24) (hl : isLetter (s[0]'hs).toNat = true) (hG : GlobOk w) :
    Calls Tryd.prog 23 #[.string s] w fun e w' => e = .returned (.bool (nameB s.data.toList)) ∧ Below w.heap.size w w' := by
  have HC := Aside0.mk (contains_calls s hs)
  rw [hl] at HC
  have HG := Aside0.mk hG
  obtain ⟨b, hb⟩ : ∃ b, nameB s.data.toList = b := ⟨_, rfl⟩
  rw [hb]
  have HY := Aside0.mk hb
  clear hb
  have i1 : (1 : Int) ≤ (s.size : Int) := by omega
  have i2 : (s.size : Int) ≤ 24 := by omega
  have HL := Aside0.mk (fun r => left_name s r hs hs2 hl)
  have HN := Aside0.mk (name_ascii s hs2)
  clear hG hl
  go_enter Tryd.func23, Tryd.ntmps23
  go_wp2_with (go_at_call 42; refine (HC.out _).mono ?_; rintro e w1 ⟨rfl, rfl⟩)
  go_wp2_with fail
  simp only [chars_eq]
  refine (cutLeft_calls s charsS _ (by omega) (by decide) chars_asc).mono ?_
  rintro e w2 ⟨⟨r, hr, rfl⟩, hb⟩
  have HB := Aside0.mk hb
  have HR := Aside0.mk (HL.out r hr)
  have hrs : r.size ≤ s.size := by
    rcases hr with ⟨_, rfl⟩ | ⟨p, hp, _, _, rfl⟩
    · exact Nat.zero_le _
    · rw [ByteArray.size_extract]; omega
  clear hb hr
  go_wp2_with fail
  simp only [chars_eq]
  refine (cutRight_calls r charsS _ (by omega) (by decide) chars_asc (HG.out.of_below HB.out)).mono ?_
  rintro e w3 ⟨⟨x, hx, rfl⟩, hb⟩
  have HB3 := Aside0.mk (below_then HB.out HB.out.size hb)
  clear hb
  rcases HR.out with ⟨hn, h0⟩ | ⟨hn, hp⟩
  · have hx0 : x = ⟨#[]⟩ := hx.1 h0
    have HO := HN.out hn
    obtain rfl : b = true := HY.out.symm.trans hn
    clear hn h0 hx
    subst hx0
    go_wp2_with (go_at_call 45; refine (obj_onlyASCII.calls _ s true _ HO).mono ?_; rintro e w' ⟨rfl, ⟨nd, rfl⟩⟩)
    go_ret
    exact ⟨rfl, pw_below_drewN HB3.out _⟩
  · have hx0 : 0 < x.size := hx.2 hp
    have hxn : ¬ x.toList = [] := by
      intro e
      rw [toList_data] at e
      have := data_length x
      rw [e] at this
      simp at this
      omega
    obtain rfl : b = false := HY.out.symm.trans hn
    clear hn hp hx
    go_wp2_with fail
    go_ret
    exact ⟨rfl, HB3.out⟩

theorem name_short (s : ByteArray) (w : World) (hs : s.size < 1 ∨ 24 < s.size) (hz : s.size ≤ 140737488351232) :
    Calls Tryd.prog 23 #[.string s] w fun e w' => e = .returned (.bool false) ∧ Below w.heap.size w w' := by
  rcases hs with h | h
  · have i1 : (s.size : Int) < 1 := by omega
    go_enter Tryd.func23, Tryd.ntmps23
    go_wp2_with fail
    go_ret
    exact ⟨rfl, Below.refl _ _⟩
  · have i1 : ¬ (s.size : Int) < 1 := by omega
    have i2 : (24 : Int) < (s.size : Int) := by omega
    go_enter Tryd.func23, Tryd.ntmps23
    go_wp2_with fail
    go_ret
    exact ⟨rfl, Below.refl _ _⟩
theorem name_first (s : ByteArray) (w : World) (hs : 1 ≤ s.size) (hs2 : s.size ≤ 24) (hl : isLetter (s[0]'hs).toNat = false) :
    Calls Tryd.prog 23 #[.string s] w fun e w' => e = .returned (.bool false) ∧ Below w.heap.size w w' := by
  have HC := Aside0.mk (contains_calls s hs)
  rw [hl] at HC
  have i1 : (1 : Int) ≤ (s.size : Int) := by omega
  have i2 : (s.size : Int) ≤ 24 := by omega
  clear hl
  go_enter Tryd.func23, Tryd.ntmps23
  go_wp2_with (go_at_call 42; refine (HC.out _).mono ?_; rintro e w1 ⟨rfl, rfl⟩)
  go_ret
  exact ⟨rfl, Below.refl _ _⟩
theorem obj_Name.calls (a0 : ByteArray) (r : Bool) (w : World) (h : obj_Name.f a0 = some r) (hG : GlobOk w) :
    Calls Tryd.prog 23 #[.string a0] w fun e w' => e = .returned (.bool r) ∧ Below w.heap.size w w' := by
  unfold obj_Name.f at h
  split at h
  · rename_i hz
    obtain rfl := Option.some.inj h
    by_cases hs : 1 ≤ a0.size
    · by_cases hs2 : a0.size ≤ 24
      · cases hl : isLetter (a0[0]'hs).toNat with
        | true => exact name_calls a0 w hs hs2 hl hG
        | false =>
          have : nameB a0.data.toList = false := by
            unfold nameB
            rw [getD_zero a0 hs, hl]
            simp
          rw [this]
          exact name_first a0 w hs hs2 hl
      · have : nameB a0.data.toList = false := by
          unfold nameB
          rw [data_length, decide_eq_false hs2]
          simp
        rw [this]
        exact name_short a0 w (.inr (by omega)) hz
    · have : nameB a0.data.toList = false := by
        unfold nameB
        rw [data_length, decide_eq_false hs]
        rfl
      rw [this]
      exact name_short a0 w (.inl (by omega)) hz
  · cases h
end Go.Proofs.YtaoajlaocphgdaaDoor.PA
