/-
Contracts of obj.cutLeft and obj.cutRight, at a set of ASCII characters: what is left of a text without the set's characters at its begin, and at its end.
-/
import Derived.Test.YtaoajlaocphgdaaDoorPAx0
import Derived.Test.YtaoajlaocphgdaaDoorShelf
import Derived.Laws.RangeAny
import Derived.Lib.OthersKept
import Derived.Outline
namespace Go.Proofs.YtaoajlaocphgdaaDoor.PA
open Go.RowKit Go.Lib Go.Proofs.YtaoajlaocphgdaaDoorW.PrintWords Go.Proofs.YtaoajlaocphgdaaDoorW.PrintLast Go.Proofs.YtaoajlaocphgdaaDoorW.PrintMore
set_option linter.unusedVariables false

/-- Is a rune one of the first k characters of a set? -/
def inUpto (c : Int) (set : ByteArray) (k : Nat) : Bool := (set.data.toList.take k).any fun b => (b.toNat : Int) == c
def inSet (c : Int) (set : ByteArray) : Bool := inUpto c set set.size
theorem inUpto_succ (c : Int) (set : ByteArray) (k : Nat) (h : k < set.size) : inUpto c set (k + 1) = (inUpto c set k || ((set[k].toNat : Int) == c)) := by
  unfold inUpto
  have h' : k < set.data.toList.length := by rw [data_length]; exact h
  rw [List.take_succ_eq_append_getElem h', List.any_append]
  simp
  rfl
theorem inUpto_yes (c : Int) (set : ByteArray) (k : Nat) (h : k < set.size) (hi : inUpto c set k = true) : inUpto c set (k + 1) = true := by rw [inUpto_succ c set k h, hi]; rfl
theorem inUpto_eq (c : Int) (set : ByteArray) (k : Nat) (h : k < set.size) (hc : c = (set[k].toNat : Int)) : inUpto c set (k + 1) = true := by
  rw [inUpto_succ c set k h, hc]; simp
theorem inUpto_no (c : Int) (set : ByteArray) (k : Nat) (h : k < set.size) (hi : inUpto c set k = false) (hc : ¬ c = (set[k].toNat : Int)) : inUpto c set (k + 1) = false := by
  rw [inUpto_succ c set k h, hi]; simp; exact fun e => hc e.symm
def Asc (set : ByteArray) : Prop := ∀ i (h : i < set.size), (set[i]'h).toNat < 128
theorem inSet_high {c : Int} {set : ByteArray} (ha : Asc set) (h : 128 ≤ c) : inSet c set = false := by
  unfold inSet inUpto
  rw [List.any_eq_false]
  intro b hb
  have hb := List.mem_of_mem_take hb
  obtain ⟨i, hi, rfl⟩ := List.getElem_of_mem hb
  have hi' : i < set.size := by rw [← data_length]; exact hi
  have h1 := ha i hi'
  have h2 : set.data.toList[i] = set[i]'hi' := by rw [Array.getElem_toList]; rfl
  rw [h2]
  simp only [beq_iff_eq]
  omega
def AllIn (s set : ByteArray) (k : Nat) : Prop := ∀ j (h : j < s.size), j < k → inSet ((s[j]'h).toNat : Int) set = true
/-- What cutLeft tells. -/
def LeftOf (s set r : ByteArray) : Prop := (AllIn s set s.size ∧ r = ⟨#[]⟩) ∨ ∃ p, ∃ h : p < s.size, AllIn s set p ∧ inSet ((s[p]'h).toNat : Int) set = false ∧ r = s.extract p s.size

theorem next_rune (wr : World) (b : Nat) (s : ByteArray) (k : Nat) (hk : k < s.size) {B : Nat} {w : World} (hI : wr.heap[b]? = some (.stringIter s k)) (hB : Below B w wr) (hb : B ≤ b) :
    ∃ (w1 : World) (c : Int) (d : Nat), (∀ ty, (Instr.next (.pointer (some ⟨b, 0, none⟩)) true ty).run Tryd.prog wr = .ok (.tuple #[.bool true, .int .i64 k, .int .i32 c]) w1) ∧
      w1.heap[b]? = some (.stringIter s (k + d)) ∧ Below B w w1 ∧ w1.heap.size = wr.heap.size ∧ (∀ j, j ≠ b → w1.heap[j]? = wr.heap[j]?) ∧ ((s[k]'hk).toNat < 128 → c = ((s[k]'hk).toNat : Int) ∧ d = 1) ∧ (128 ≤ (s[k]'hk).toNat → 128 ≤ c) := by
  refine ⟨_, ((Utf8.decode s k).1 : Int), (Utf8.decode s k).2, fun ty => run_next_any_at wr b s k ty hI hk, iterAt_heap _ _ _ _ _ hI, below_iterAt hB hb _ _, iterAt_size _ _ _ _, fun j hj => iterAt_other _ _ _ _ _ hj, fun h => ?_, fun h => ?_⟩
  · rw [decode_ascii s k hk h]; exact ⟨rfl, rfl⟩
  · have := (decode_high s k hk h).1; omega
theorem next_none (wr : World) (b : Nat) (s : ByteArray) (k : Nat) (hk : ¬ k < s.size) (hI : wr.heap[b]? = some (.stringIter s k)) :
    ∀ ty, (Instr.next (.pointer (some ⟨b, 0, none⟩)) true ty).run Tryd.prog wr = .ok (.tuple #[.bool false]) wr := fun ty => run_next_end_at wr b s k ty hI hk

set_option maxHeartbeats 2000000 in
theorem cutLeft_calls (s set : ByteArray) (w : World) (hs : s.size ≤ 140737488351232) (hz : set.size ≤ 140737488351232) (hA : Asc set) :
    Calls Tryd.prog 44 #[.string s, .string set] w fun e w' => (∃ r, LeftOf s set r ∧ e = .returned (.string r)) ∧ Below w.heap.size w w' := by
  have HZ := Aside0.mk hA
  clear hA
  go_enter Tryd.func44, Tryd.ntmps44
  go_wp2
  go_loopg [5, 6, 7, 9] s.size (fun g _ _ _ _ wr => ∃ k : Nat, g + k = s.size ∧ Aside0 (wr.heap[w.heap.size]? = some (.stringIter s k)) ∧ Aside0 (AllIn s set k) ∧ Aside0 (Below w.heap.size w wr))
  case atStart => exact ⟨0, rfl, ⟨World.iter_heap w s 0⟩, ⟨fun j h hj => absurd hj (Nat.not_lt_zero j)⟩, ⟨(Below.refl _ _).alloc (Nat.le_refl _) _⟩⟩
  case round =>
    obtain ⟨k, hg, HI, HL, HB⟩ := hrel
    by_cases hlt : k < s.size
    · obtain ⟨w1, c, d, hn, hi1, hb1, hz1, ho1, hlo, hhi⟩ := next_rune wr w.heap.size s k hlt HI.out HB.out (Nat.le_refl _)
      have F := Aside0.mk (And.intro hi1 (And.intro hb1 (And.intro hz1 (And.intro ho1 (And.intro hlo hhi)))))
      clear hi1 hb1 hz1 ho1 hlo hhi
      go_wp2
      go_loopg [7, 9] set.size (fun g u7 _ w2 => ∃ m : Nat, g + m = set.size ∧ u7 = .bool (inUpto c set m) ∧ Aside0 (w2.heap[w1.heap.size]? = some (.stringIter set m)) ∧ Aside0 (Below w1.heap.size w1 w2))
      case atStart => exact ⟨0, rfl, by simp [inUpto], ⟨World.iter_heap w1 set 0⟩, ⟨(Below.refl _ _).alloc (Nat.le_refl _) _⟩⟩
      case round =>
        obtain ⟨m, hm, rfl, HI2, HB2⟩ := hrel
        by_cases hm2 : m < set.size
        · obtain ⟨w3, c3, d3, hn3, hi3, hb3, hz3, ho3, hlo3, _⟩ := next_rune wr w1.heap.size set m hm2 HI2.out HB2.out (Nat.le_refl _)
          obtain ⟨rfl, rfl⟩ := hlo3 (HZ.out m hm2)
          have F3 := Aside0.mk (And.intro hi3 (And.intro hb3 (And.intro hz3 ho3)))
          clear hi3 hb3 hz3 ho3
          cases hin : inUpto c set m with
          | true =>
            have E := Aside0.mk (inUpto_yes c set m hm2 hin)
            clear hin
            go_wp2
            go_roundg (set.size - (m + 1))
            case measure => omega
            case rel => exact ⟨m + 1, by omega, by rw [E.out], ⟨F3.out.1⟩, ⟨F3.out.2.1⟩⟩
          | false =>
            by_cases hcd : c = ((set[m]'hm2).toNat : Int)
            · have E := Aside0.mk (inUpto_eq c set m hm2 hcd)
              have hcd' : (c == ((set[m]'hm2).toNat : Int)) = true := beq_iff_eq.2 hcd
              clear hin hcd
              go_wp2
              go_roundg (set.size - (m + 1))
              case measure => omega
              case rel => exact ⟨m + 1, by omega, by rw [E.out], ⟨F3.out.1⟩, ⟨F3.out.2.1⟩⟩
            · have E := Aside0.mk (inUpto_no c set m hm2 hin hcd)
              have hcd' : (c == ((set[m]'hm2).toNat : Int)) = false := beq_eq_false_iff_ne.2 hcd
              clear hin hcd
              go_wp2
              go_roundg (set.size - (m + 1))
              case measure => omega
              case rel => exact ⟨m + 1, by omega, by rw [E.out], ⟨F3.out.1⟩, ⟨F3.out.2.1⟩⟩
        · have hn4 := next_none wr w1.heap.size set m hm2 HI2.out
          obtain rfl : m = set.size := by omega
          cases hin : inUpto c set set.size with
          | true =>
            have hlow : (s[k]'hlt).toNat < 128 := by
              rcases Nat.lt_or_ge (s[k]'hlt).toNat 128 with h | h
              · exact h
              · have := inSet_high HZ.out (F.out.2.2.2.2.2 h)
                rw [inSet, hin] at this
                cases this
            obtain ⟨hc, rfl⟩ := F.out.2.2.2.2.1 hlow
            have hL : AllIn s set (k + 1) := fun j h hj => by
              rcases Nat.lt_succ_iff_lt_or_eq.1 hj with hj | rfl
              · exact HL.out j h hj
              · rw [← hc]; exact hin
            have HL' := Aside0.mk hL
            have hwz : w.heap.size < w1.heap.size := (Array.getElem?_eq_some_iff.1 F.out.1).1
            clear hL hc hlow
            go_wp2
            go_roundg (s.size - (k + 1))
            case measure => omega
            case rel => exact ⟨k + 1, by omega, ⟨(HB2.out.block _ hwz).trans F.out.1⟩, HL', ⟨below_then F.out.2.1 (Nat.le_of_lt hwz) HB2.out⟩⟩
          | false =>
            have hno : inSet ((s[k]'hlt).toNat : Int) set = false := by
              rcases Nat.lt_or_ge (s[k]'hlt).toNat 128 with h | h
              · rw [← (F.out.2.2.2.2.1 h).1]; exact hin
              · exact inSet_high HZ.out (by omega)
            have HN := Aside0.mk hno
            have hwz : w.heap.size < w1.heap.size := (Array.getElem?_eq_some_iff.1 F.out.1).1
            clear hno
            go_wp2
            go_ret
            exact ⟨⟨_, .inr ⟨k, hlt, HL.out, HN.out, rfl⟩, rfl⟩, below_then F.out.2.1 (Nat.le_of_lt hwz) HB2.out⟩
    · have hn := next_none wr w.heap.size s k hlt HI.out
      obtain rfl : k = s.size := by omega
      go_wp2
      go_ret
      exact ⟨⟨_, .inl ⟨HL.out, rfl⟩, rfl⟩, HB.out⟩

theorem decode_empty : Utf8.decode ⟨#[]⟩ 0 = (0, 1) := by decide
theorem decodeL_cons (b : UInt8) (r : List UInt8) : (b.toNat < 128 → decodeL (b :: r) = (b.toNat, 1)) ∧ (128 ≤ b.toNat → 128 ≤ (decodeL (b :: r)).1) := by
  have hsz : 0 < (⟨(b :: r).toArray⟩ : ByteArray).size := by simp [ByteArray.size]
  have hb : (⟨(b :: r).toArray⟩ : ByteArray)[0]'hsz = b := rfl
  unfold decodeL
  exact ⟨fun h => by rw [decode_ascii _ 0 hsz (by rw [hb]; exact h), hb], fun h => (decode_high _ 0 hsz (by rw [hb]; exact h)).1⟩
/-- The last rune of a text: its last byte, if that is ASCII; else no ASCII character. -/
theorem last_rune (l : List UInt8) (b : UInt8) (hb : l.getLast? = some b) : (b.toNat < 128 → decodeLastL l = (b.toNat, 1)) ∧ (128 ≤ b.toNat → 128 ≤ (decodeLastL l).1) := by
  have hne : l ≠ [] := by rintro rfl; cases hb
  have hlen : 0 < l.length := List.length_pos_iff.2 hne
  have hg : l.getD (l.length - 1) 0 = b := by
    rw [List.getD_eq_getElem?_getD, ← List.getLast?_eq_getElem?, hb]; rfl
  unfold decodeLastL
  rw [if_neg hne, hg]
  refine ⟨fun h => by rw [if_pos h], fun h => ?_⟩
  rw [if_neg (by omega)]
  simp only
  split
  · rename_i he
    cases hx : l.drop (lastStart l) with
    | nil =>
      rw [hx] at he
      have : (decodeL []).2 = 1 := by unfold decodeL; exact congrArg Prod.snd decode_empty
      rw [this] at he
      have := List.drop_eq_nil_iff.1 hx
      omega
    | cons c r =>
      rw [hx] at he
      rcases Nat.lt_or_ge c.toNat 128 with hc | hc
      · rw [(decodeL_cons c r).1 hc] at he
        have hr : r = [] := by
          have := congrArg List.length hx
          rw [List.length_drop, List.length_cons] at this
          exact List.eq_nil_of_length_eq_zero (by simp only at he; omega)
        have : l.getLast? = some c := by
          have h2 : l = l.take (lastStart l) ++ [c] := by rw [← hr, ← hx, List.take_append_drop]
          rw [h2]; simp
        rw [hb] at this
        obtain rfl := Option.some.inj this
        omega
      · exact (decodeL_cons c r).2 hc
  · decide
/-- What cutRight tells. -/
def RightOf (s set r : ByteArray) : Prop := (s.size = 0 → r = ⟨#[]⟩) ∧ ((∃ p, ∃ h : p < s.size, inSet ((s[p]'h).toNat : Int) set = false) → 0 < r.size)
/-- x is s without some characters of the set at its end. -/
def CutTo (s set x : ByteArray) : Prop := x.size ≤ s.size ∧ (∀ j (h : j < s.size) (h2 : j < x.size), x[j]'h2 = s[j]'h) ∧ ∀ j (h : j < s.size), x.size ≤ j → inSet ((s[j]'h).toNat : Int) set = true
theorem CutTo.less {s set x : ByteArray} (h : CutTo s set x) (hx : 0 < x.size) (hb : inSet ((x[x.size - 1]'(by omega)).toNat : Int) set = true) (y : ByteArray) (hy : y = x.extract 0 (x.size - 1)) : CutTo s set y ∧ y.size = x.size - 1 := by
  subst hy
  have hz : (x.extract 0 (x.size - 1)).size = x.size - 1 := by rw [ByteArray.size_extract]; omega
  refine ⟨⟨by have := h.1; omega, fun j h1 h2 => ?_, fun j h1 h2 => ?_⟩, hz⟩
  · rw [ByteArray.getElem_extract]
    simp only [Nat.zero_add]
    exact h.2.1 j h1 (by omega)
  · rw [hz] at h2
    by_cases hj : j = x.size - 1
    · subst hj
      rw [← h.2.1 _ h1 (by omega)]
      exact hb
    · exact h.2.2 j h1 (by omega)
theorem CutTo.keeps {s set x : ByteArray} (h : CutTo s set x) : (∃ p, ∃ h : p < s.size, inSet ((s[p]'h).toNat : Int) set = false) → 0 < x.size := by
  rintro ⟨p, hp, hn⟩
  rcases Nat.eq_zero_or_pos x.size with h0 | h0
  · rw [h.2.2 p hp (by omega)] at hn
    cases hn
  · exact h0
theorem byte_last (x : ByteArray) (h : 0 < x.size) : x.data.toList.getLast? = some (x[x.size - 1]'(by omega)) := by
  have hl : x.data.toList.length = x.size := data_length x
  rw [List.getLast?_eq_getElem?, hl, List.getElem?_eq_getElem (by omega)]
  rw [Array.getElem_toList]
  rfl

set_option maxHeartbeats 4000000 in
theorem cutRight_calls (s set : ByteArray) (w : World) (hs : s.size ≤ 140737488351232) (hz : set.size ≤ 140737488351232) (hA : Asc set) (hG : GlobOk w) :
    Calls Tryd.prog 43 #[.string s, .string set] w fun e w' => (∃ r, RightOf s set r ∧ e = .returned (.string r)) ∧ Below w.heap.size w w' := by
  have HZ := Aside0.mk hA
  clear hA
  go_enter Tryd.func43, Tryd.ntmps43
  go_wp2
  go_loopg [0, 5, 6, 7, 9] s.size (fun g u0 _ _ _ _ wr => ∃ x : ByteArray, x.size = g ∧ u0 = .string x ∧ Aside0 (CutTo s set x) ∧ Aside0 (Below w.heap.size w wr))
  case atStart => exact ⟨s, rfl, rfl, ⟨Nat.le_refl _, fun _ _ _ => rfl, fun j h1 h2 => absurd h1 (by omega)⟩, ⟨Below.refl _ _⟩⟩
  case round =>
    obtain ⟨x, rfl, rfl, HX, HB⟩ := hrel
    have hxs : x.size ≤ 140737488351232 := by have := HX.out.1; omega
    by_cases hlt : 0 < x.size
    · have HT := hG.of_below HB.out
      have hlast := last_rune _ _ (byte_last x hlt)
      obtain ⟨c, n, hcn⟩ : ∃ c n, decodeLastL x.data.toList = (c, n) := ⟨_, _, rfl⟩
      have HC := Aside0.mk (Tryd.utf8_DecodeLastRuneInString x wr (by omega) HT.utf8)
      rw [hcn] at hlast HC
      have HL := Aside0.mk hlast
      clear hlast hcn HT
      go_wp2_with (go_at_call 75; refine HC.out.mono ?_; rintro e w1 ⟨rfl, hb1⟩)
      have HB1 := Aside0.mk (below_then HB.out HB.out.size hb1)
      clear hb1
      go_wp2
      go_loopg [7, 9] set.size (fun g u7 _ w2 => ∃ m : Nat, g + m = set.size ∧ u7 = .bool (inUpto (c : Int) set m) ∧ Aside0 (w2.heap[w1.heap.size]? = some (.stringIter set m)) ∧ Aside0 (Below w1.heap.size w1 w2))
      case atStart => exact ⟨0, rfl, by simp [inUpto], ⟨World.iter_heap w1 set 0⟩, ⟨(Below.refl _ _).alloc (Nat.le_refl _) _⟩⟩
      case round =>
        obtain ⟨m, hm, rfl, HI2, HB2⟩ := hrel
        by_cases hm2 : m < set.size
        · obtain ⟨w3, c3, d3, hn3, hi3, hb3, hz3, ho3, hlo3, _⟩ := next_rune wr w1.heap.size set m hm2 HI2.out HB2.out (Nat.le_refl _)
          obtain ⟨rfl, rfl⟩ := hlo3 (HZ.out m hm2)
          have F3 := Aside0.mk (And.intro hi3 (And.intro hb3 (And.intro hz3 ho3)))
          clear hi3 hb3 hz3 ho3
          cases hin : inUpto (c : Int) set m with
          | true =>
            have E := Aside0.mk (inUpto_yes c set m hm2 hin)
            clear hin
            go_wp2
            go_roundg (set.size - (m + 1))
            case measure => omega
            case rel => exact ⟨m + 1, by omega, by rw [E.out], ⟨F3.out.1⟩, ⟨F3.out.2.1⟩⟩
          | false =>
            by_cases hcd : (c : Int) = ((set[m]'hm2).toNat : Int)
            · have E := Aside0.mk (inUpto_eq c set m hm2 hcd)
              have hcd' : ((c : Int) == ((set[m]'hm2).toNat : Int)) = true := beq_iff_eq.2 hcd
              have hcd2 : (c == ((set[m]'hm2).toNat)) = true := beq_iff_eq.2 (by omega)
              clear hin hcd
              go_wp2
              go_roundg (set.size - (m + 1))
              case measure => omega
              case rel => exact ⟨m + 1, by omega, by rw [E.out], ⟨F3.out.1⟩, ⟨F3.out.2.1⟩⟩
            · have E := Aside0.mk (inUpto_no c set m hm2 hin hcd)
              have hcd' : ((c : Int) == ((set[m]'hm2).toNat : Int)) = false := beq_eq_false_iff_ne.2 hcd
              have hcd2 : (c == ((set[m]'hm2).toNat)) = false := beq_eq_false_iff_ne.2 (by omega)
              clear hin hcd
              go_wp2
              go_roundg (set.size - (m + 1))
              case measure => omega
              case rel => exact ⟨m + 1, by omega, by rw [E.out], ⟨F3.out.1⟩, ⟨F3.out.2.1⟩⟩
        · have hn4 := next_none wr w1.heap.size set m hm2 HI2.out
          obtain rfl : m = set.size := by omega
          have hB2 := Aside0.mk (below_then HB1.out HB1.out.size HB2.out)
          cases hin : inUpto (c : Int) set set.size with
          | true =>
            have hlow : (x[x.size - 1]'(by omega)).toNat < 128 := by
              rcases Nat.lt_or_ge (x[x.size - 1]'(by omega)).toNat 128 with h | h
              · exact h
              · have := inSet_high HZ.out (c := (c : Int)) (by have := HL.out.2 h; omega)
                rw [inSet, hin] at this
                cases this
            have h1 := HL.out.1 hlow
            simp only [Prod.mk.injEq] at h1
            obtain ⟨rfl, rfl⟩ := h1
            have HL' := Aside0.mk (HX.out.less hlt hin _ rfl)
            clear hlow hin
            go_wp2
            go_roundg (x.size - 1)
            case measure => omega
            case rel => exact ⟨_, HL'.out.2, rfl, ⟨HL'.out.1⟩, hB2⟩
          | false =>
            go_wp2
            go_ret
            exact ⟨⟨_, ⟨fun h0 => absurd HX.out.1 (by omega), HX.out.keeps⟩, rfl⟩, hB2.out⟩
    · have hx0 : x.size = 0 := by omega
      have HE := Aside0.mk (show x = ⟨#[]⟩ from by
        obtain ⟨⟨l⟩⟩ := x
        have : l.length = 0 := hx0
        rw [List.eq_nil_of_length_eq_zero this])
      clear hx0
      go_wp2
      go_ret
      exact ⟨⟨_, ⟨fun _ => HE.out, HX.out.keeps⟩, rfl⟩, HB.out⟩
end Go.Proofs.YtaoajlaocphgdaaDoor.PA
