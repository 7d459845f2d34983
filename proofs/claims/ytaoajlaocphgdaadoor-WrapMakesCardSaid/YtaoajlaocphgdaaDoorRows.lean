/-
  NARROWER THAN 'FOR EVERY INPUT', by the rows' own cells (each row's printed sentence says how): WrapMakes: laid · WrapLeaves: laid · WrapSizes: laid · WrapLayouts: laid · WrapEnds: laid · WrapOrder: laid.
  DERIVED. THE GIVEN ROWS OF THIS SEAT. 6 by the template 'for every input the law returns true; each argument reads behind the call as it read before'; 0 by the template 'total and deterministic' (their statements: YtaoajlaocphgdaaDoorTotals.lean).
  GIVEN WITH THE SEED: the statements are not yours to turn. If you find one false, say at which input.
  Laid BY PROGRAM, IN A SANDBOX (cutbox-rows.mjs): the forced cells as the released guide's own fill.sh prints them over the translation d9c1fb5c858afefc… (all of the seat's roots in one cut). By AI agents, Wed Nov 11 2026. No macro, syntax, notation, axiom, sorry.
-/
import Derived.Test.YtaoajlaocphgdaaDoorChecked
import GoSem.PinnedTables
import GoSem.Claim
import GoSem.ClaimJoined
import GoSem.ClaimMapViews
import Derived.JoinedTies
import Derived.KernelRfl
namespace Go.Proofs.YtaoajlaocphgdaaDoor
/- THE CELL 'sum', in the pinned program and in every row, IS THE sha256 OF THE DUMP (.gsa) THAT YtaoajlaocphgdaaDoorProg.lean LOADS. Nothing in Lean hashes anything: it is a label: what it is worth is what the hold of that sum in a sandbox is worth. -/
noncomputable def Tryd.pinned : Pinned := { name := "ytaoajlaocphgdaadoor", sum := "d9c1fb5c858afefc35e2e4e07134b1cfc20edc172e1dde97340ba35e2d432b05", checked := Tryd.checked }
namespace Rows
def none {H : Type} : Left H := { results := [], args := [] }

/- WHAT THE LISTED PACKAGE-LEVEL VARIABLES READ AS WHEN THE CALL BEGINS. Each datum BY PROGRAM (the guide's laid-datum.mjs) off the statement by which the dump's own 'gosem.cut.vars' lays the variable. In a bare row this is a premise. The card (YtaoajlaocphgdaaDoorCards.lean) ties it to the program's text. -/
def laid_caponier_ins_rows {H : Type} : DataW H := .agg [.agg [.lit (.string [82]), .agg [.lit (.int .u64 51), .lit (.int .u64 0), .lit (.int .u64 0)]], .agg [.lit (.string [82]), .agg [.lit (.int .u64 51), .lit (.int .u64 0), .lit (.int .u64 32)]], .agg [.lit (.string [82]), .agg [.lit (.int .u64 51), .lit (.int .u64 1), .lit (.int .u64 0)]], .agg [.lit (.string [82]), .agg [.lit (.int .u64 51), .lit (.int .u64 2), .lit (.int .u64 0)]], .agg [.lit (.string [82]), .agg [.lit (.int .u64 51), .lit (.int .u64 3), .lit (.int .u64 0)]], .agg [.lit (.string [82]), .agg [.lit (.int .u64 51), .lit (.int .u64 4), .lit (.int .u64 0)]], .agg [.lit (.string [82]), .agg [.lit (.int .u64 51), .lit (.int .u64 5), .lit (.int .u64 0)]], .agg [.lit (.string [82]), .agg [.lit (.int .u64 51), .lit (.int .u64 5), .lit (.int .u64 32)]], .agg [.lit (.string [82]), .agg [.lit (.int .u64 51), .lit (.int .u64 6), .lit (.int .u64 0)]], .agg [.lit (.string [82]), .agg [.lit (.int .u64 51), .lit (.int .u64 7), .lit (.int .u64 0)]], .agg [.lit (.string [82]), .agg [.lit (.int .u64 51), .lit (.int .u64 0), .lit (.int .u64 1)]], .agg [.lit (.string [82]), .agg [.lit (.int .u64 51), .lit (.int .u64 3), .lit (.int .u64 1)]], .agg [.lit (.string [82]), .agg [.lit (.int .u64 51), .lit (.int .u64 4), .lit (.int .u64 1)]], .agg [.lit (.string [82]), .agg [.lit (.int .u64 51), .lit (.int .u64 5), .lit (.int .u64 1)]], .agg [.lit (.string [82]), .agg [.lit (.int .u64 51), .lit (.int .u64 6), .lit (.int .u64 1)]], .agg [.lit (.string [82]), .agg [.lit (.int .u64 51), .lit (.int .u64 7), .lit (.int .u64 1)]], .agg [.lit (.string [73]), .agg [.lit (.int .u64 19), .lit (.int .u64 0), .lit (.int .u64 0)]], .agg [.lit (.string [73]), .agg [.lit (.int .u64 19), .lit (.int .u64 2), .lit (.int .u64 0)]], .agg [.lit (.string [73]), .agg [.lit (.int .u64 19), .lit (.int .u64 3), .lit (.int .u64 0)]], .agg [.lit (.string [73]), .agg [.lit (.int .u64 19), .lit (.int .u64 4), .lit (.int .u64 0)]], .agg [.lit (.string [73]), .agg [.lit (.int .u64 19), .lit (.int .u64 6), .lit (.int .u64 0)]], .agg [.lit (.string [73]), .agg [.lit (.int .u64 19), .lit (.int .u64 7), .lit (.int .u64 0)]], .agg [.lit (.string [73]), .agg [.lit (.int .u64 19), .lit (.int .u64 1), .lit (.int .u64 0)]], .agg [.lit (.string [73]), .agg [.lit (.int .u64 19), .lit (.int .u64 5), .lit (.int .u64 0)]], .agg [.lit (.string [73]), .agg [.lit (.int .u64 19), .lit (.int .u64 5), .lit (.int .u64 16)]], .agg [.lit (.string [73]), .agg [.lit (.int .u64 3), .lit (.int .u64 0), .lit (.int .u64 0)]], .agg [.lit (.string [73]), .agg [.lit (.int .u64 3), .lit (.int .u64 4), .lit (.int .u64 0)]], .agg [.lit (.string [73]), .agg [.lit (.int .u64 3), .lit (.int .u64 2), .lit (.int .u64 0)]], .agg [.lit (.string [73]), .agg [.lit (.int .u64 3), .lit (.int .u64 3), .lit (.int .u64 0)]], .agg [.lit (.string [83]), .agg [.lit (.int .u64 35), .lit (.int .u64 0), .lit (.int .u64 0)]], .agg [.lit (.string [83]), .agg [.lit (.int .u64 35), .lit (.int .u64 2), .lit (.int .u64 0)]], .agg [.lit (.string [83]), .agg [.lit (.int .u64 35), .lit (.int .u64 3), .lit (.int .u64 0)]], .agg [.lit (.string [66]), .agg [.lit (.int .u64 99), .lit (.int .u64 0), .lit (.int .u64 0)]], .agg [.lit (.string [66]), .agg [.lit (.int .u64 99), .lit (.int .u64 1), .lit (.int .u64 0)]], .agg [.lit (.string [66]), .agg [.lit (.int .u64 99), .lit (.int .u64 4), .lit (.int .u64 0)]], .agg [.lit (.string [66]), .agg [.lit (.int .u64 99), .lit (.int .u64 5), .lit (.int .u64 0)]], .agg [.lit (.string [66]), .agg [.lit (.int .u64 99), .lit (.int .u64 6), .lit (.int .u64 0)]], .agg [.lit (.string [66]), .agg [.lit (.int .u64 99), .lit (.int .u64 7), .lit (.int .u64 0)]], .agg [.lit (.string [85]), .agg [.lit (.int .u64 55), .lit (.int .u64 0), .lit (.int .u64 0)]], .agg [.lit (.string [85]), .agg [.lit (.int .u64 23), .lit (.int .u64 0), .lit (.int .u64 0)]], .agg [.lit (.string [74]), .agg [.lit (.int .u64 111), .lit (.int .u64 0), .lit (.int .u64 0)]], .agg [.lit (.string [73]), .agg [.lit (.int .u64 103), .lit (.int .u64 0), .lit (.int .u64 0)]], .agg [.lit (.string [69]), .agg [.lit (.int .u64 115), .lit (.int .u64 0), .lit (.int .u64 0)]]]
def laid_unicode_utf8_acceptRanges {H : Type} : DataW H := .agg [.agg [.lit (.int .u8 128), .lit (.int .u8 191)], .agg [.lit (.int .u8 160), .lit (.int .u8 191)], .agg [.lit (.int .u8 128), .lit (.int .u8 159)], .agg [.lit (.int .u8 144), .lit (.int .u8 191)], .agg [.lit (.int .u8 128), .lit (.int .u8 143)], .agg [.lit (.int .u8 0), .lit (.int .u8 0)], .agg [.lit (.int .u8 0), .lit (.int .u8 0)], .agg [.lit (.int .u8 0), .lit (.int .u8 0)], .agg [.lit (.int .u8 0), .lit (.int .u8 0)], .agg [.lit (.int .u8 0), .lit (.int .u8 0)], .agg [.lit (.int .u8 0), .lit (.int .u8 0)], .agg [.lit (.int .u8 0), .lit (.int .u8 0)], .agg [.lit (.int .u8 0), .lit (.int .u8 0)], .agg [.lit (.int .u8 0), .lit (.int .u8 0)], .agg [.lit (.int .u8 0), .lit (.int .u8 0)], .agg [.lit (.int .u8 0), .lit (.int .u8 0)]]
/-- One of Go's own tables, pinned by name: the form's constant. -/
def laid_unicode_utf8_first : DataW Unit := Go.Pinned.utf8First

/-- 'caponierlaw19.WrapMakes': WHATEVER THE INPUT: true; the input reads as it did. -/
def wrapMakesSpec : ChangeSpec := { name := "wrapMakes", fn := fun _ => fun
  | [d1, d2, d3] => { results := [.lit (.bool true)], args := [d1, d2, d3] }
  | _ => none }
def wrapMakesRow : OpenClaim := { program := "ytaoajlaocphgdaadoor", sum := "d9c1fb5c858afefc35e2e4e07134b1cfc20edc172e1dde97340ba35e2d432b05", func := "caponier/caponierlaw19.WrapMakes", spec := "wrapMakes", inPlace := ["internal/bytealg.IndexByteString", "internal/bytealg.IndexString"], unfollowed := true, recurses := true, named := ["internal/bytealg.MaxLen", "unicode/utf8.first", "unicode/utf8.acceptRanges", "caponier/ins.rows"], plainKeys := false, apart := false, laid := [("caponier/ins.rows", laid_caponier_ins_rows), ("unicode/utf8.acceptRanges", laid_unicode_utf8_acceptRanges), ("unicode/utf8.first", laid_unicode_utf8_first)] }
def WrapMakesSaid : Prop := wrapMakesRow.holds Tryd.pinned (OpenSpec.ofChange wrapMakesSpec)

/-- ITS FALSE NEIGHBOUR: 'it returns false'. Refute it at one input. -/
def wrapMakesWrong : ChangeSpec := { name := "wrapMakes", fn := fun _ => fun
  | [d1, d2, d3] => { results := [.lit (.bool false)], args := [d1, d2, d3] }
  | _ => none }
def WrapMakesWrongFalsely : Prop := wrapMakesRow.holds Tryd.pinned (OpenSpec.ofChange wrapMakesWrong)

/-- 'caponierlaw19.WrapLeaves': WHATEVER THE INPUT: true; the input reads as it did. -/
def wrapLeavesSpec : ChangeSpec := { name := "wrapLeaves", fn := fun _ => fun
  | [d1, d2] => { results := [.lit (.bool true)], args := [d1, d2] }
  | _ => none }
def wrapLeavesRow : OpenClaim := { program := "ytaoajlaocphgdaadoor", sum := "d9c1fb5c858afefc35e2e4e07134b1cfc20edc172e1dde97340ba35e2d432b05", func := "caponier/caponierlaw19.WrapLeaves", spec := "wrapLeaves", inPlace := ["internal/bytealg.IndexByteString", "internal/bytealg.IndexString"], unfollowed := true, recurses := true, named := ["internal/bytealg.MaxLen", "unicode/utf8.first", "unicode/utf8.acceptRanges", "caponier/ins.rows"], plainKeys := false, apart := false, laid := [("caponier/ins.rows", laid_caponier_ins_rows), ("unicode/utf8.acceptRanges", laid_unicode_utf8_acceptRanges), ("unicode/utf8.first", laid_unicode_utf8_first)] }
def WrapLeavesSaid : Prop := wrapLeavesRow.holds Tryd.pinned (OpenSpec.ofChange wrapLeavesSpec)

/-- ITS FALSE NEIGHBOUR: 'it returns false'. Refute it at one input. -/
def wrapLeavesWrong : ChangeSpec := { name := "wrapLeaves", fn := fun _ => fun
  | [d1, d2] => { results := [.lit (.bool false)], args := [d1, d2] }
  | _ => none }
def WrapLeavesWrongFalsely : Prop := wrapLeavesRow.holds Tryd.pinned (OpenSpec.ofChange wrapLeavesWrong)

/-- 'caponierlaw19.WrapSizes': WHATEVER THE INPUT: true; the input reads as it did. -/
def wrapSizesSpec : ChangeSpec := { name := "wrapSizes", fn := fun _ => fun
  | [d1, d2] => { results := [.lit (.bool true)], args := [d1, d2] }
  | _ => none }
def wrapSizesRow : OpenClaim := { program := "ytaoajlaocphgdaadoor", sum := "d9c1fb5c858afefc35e2e4e07134b1cfc20edc172e1dde97340ba35e2d432b05", func := "caponier/caponierlaw19.WrapSizes", spec := "wrapSizes", inPlace := ["internal/bytealg.IndexByteString", "internal/bytealg.IndexString"], unfollowed := true, recurses := true, named := ["internal/bytealg.MaxLen", "unicode/utf8.first", "unicode/utf8.acceptRanges", "caponier/ins.rows"], plainKeys := false, apart := false, laid := [("caponier/ins.rows", laid_caponier_ins_rows), ("unicode/utf8.acceptRanges", laid_unicode_utf8_acceptRanges), ("unicode/utf8.first", laid_unicode_utf8_first)] }
def WrapSizesSaid : Prop := wrapSizesRow.holds Tryd.pinned (OpenSpec.ofChange wrapSizesSpec)

/-- ITS FALSE NEIGHBOUR: 'it returns false'. Refute it at one input. -/
def wrapSizesWrong : ChangeSpec := { name := "wrapSizes", fn := fun _ => fun
  | [d1, d2] => { results := [.lit (.bool false)], args := [d1, d2] }
  | _ => none }
def WrapSizesWrongFalsely : Prop := wrapSizesRow.holds Tryd.pinned (OpenSpec.ofChange wrapSizesWrong)

/-- 'caponierlaw19.WrapLayouts': WHATEVER THE INPUT: true; the input reads as it did. -/
def wrapLayoutsSpec : ChangeSpec := { name := "wrapLayouts", fn := fun _ => fun
  | [d1, d2] => { results := [.lit (.bool true)], args := [d1, d2] }
  | _ => none }
def wrapLayoutsRow : OpenClaim := { program := "ytaoajlaocphgdaadoor", sum := "d9c1fb5c858afefc35e2e4e07134b1cfc20edc172e1dde97340ba35e2d432b05", func := "caponier/caponierlaw19.WrapLayouts", spec := "wrapLayouts", inPlace := ["internal/bytealg.IndexByteString", "internal/bytealg.IndexString"], unfollowed := true, recurses := true, named := ["internal/bytealg.MaxLen", "unicode/utf8.first", "unicode/utf8.acceptRanges", "caponier/ins.rows"], plainKeys := false, apart := false, laid := [("caponier/ins.rows", laid_caponier_ins_rows), ("unicode/utf8.acceptRanges", laid_unicode_utf8_acceptRanges), ("unicode/utf8.first", laid_unicode_utf8_first)] }
def WrapLayoutsSaid : Prop := wrapLayoutsRow.holds Tryd.pinned (OpenSpec.ofChange wrapLayoutsSpec)

/-- ITS FALSE NEIGHBOUR: 'it returns false'. Refute it at one input. -/
def wrapLayoutsWrong : ChangeSpec := { name := "wrapLayouts", fn := fun _ => fun
  | [d1, d2] => { results := [.lit (.bool false)], args := [d1, d2] }
  | _ => none }
def WrapLayoutsWrongFalsely : Prop := wrapLayoutsRow.holds Tryd.pinned (OpenSpec.ofChange wrapLayoutsWrong)

/-- 'caponierlaw19.WrapEnds': WHATEVER THE INPUT: true; the input reads as it did. -/
def wrapEndsSpec : ChangeSpec := { name := "wrapEnds", fn := fun _ => fun
  | [d1, d2] => { results := [.lit (.bool true)], args := [d1, d2] }
  | _ => none }
def wrapEndsRow : OpenClaim := { program := "ytaoajlaocphgdaadoor", sum := "d9c1fb5c858afefc35e2e4e07134b1cfc20edc172e1dde97340ba35e2d432b05", func := "caponier/caponierlaw19.WrapEnds", spec := "wrapEnds", inPlace := ["internal/bytealg.IndexByteString", "internal/bytealg.IndexString"], unfollowed := true, recurses := true, named := ["internal/bytealg.MaxLen", "unicode/utf8.first", "unicode/utf8.acceptRanges", "caponier/ins.rows"], plainKeys := false, apart := false, laid := [("caponier/ins.rows", laid_caponier_ins_rows), ("unicode/utf8.acceptRanges", laid_unicode_utf8_acceptRanges), ("unicode/utf8.first", laid_unicode_utf8_first)] }
def WrapEndsSaid : Prop := wrapEndsRow.holds Tryd.pinned (OpenSpec.ofChange wrapEndsSpec)

/-- ITS FALSE NEIGHBOUR: 'it returns false'. Refute it at one input. -/
def wrapEndsWrong : ChangeSpec := { name := "wrapEnds", fn := fun _ => fun
  | [d1, d2] => { results := [.lit (.bool false)], args := [d1, d2] }
  | _ => none }
def WrapEndsWrongFalsely : Prop := wrapEndsRow.holds Tryd.pinned (OpenSpec.ofChange wrapEndsWrong)

/-- 'caponierlaw19.WrapOrder': WHATEVER THE INPUT: true; the input reads as it did. -/
def wrapOrderSpec : ChangeSpec := { name := "wrapOrder", fn := fun _ => fun
  | [d1, d2] => { results := [.lit (.bool true)], args := [d1, d2] }
  | _ => none }
def wrapOrderRow : OpenClaim := { program := "ytaoajlaocphgdaadoor", sum := "d9c1fb5c858afefc35e2e4e07134b1cfc20edc172e1dde97340ba35e2d432b05", func := "caponier/caponierlaw19.WrapOrder", spec := "wrapOrder", inPlace := ["internal/bytealg.IndexByteString", "internal/bytealg.IndexString"], unfollowed := true, recurses := true, named := ["internal/bytealg.MaxLen", "unicode/utf8.first", "unicode/utf8.acceptRanges", "caponier/ins.rows"], plainKeys := false, apart := false, laid := [("caponier/ins.rows", laid_caponier_ins_rows), ("unicode/utf8.acceptRanges", laid_unicode_utf8_acceptRanges), ("unicode/utf8.first", laid_unicode_utf8_first)] }
def WrapOrderSaid : Prop := wrapOrderRow.holds Tryd.pinned (OpenSpec.ofChange wrapOrderSpec)

/-- ITS FALSE NEIGHBOUR: 'it returns false'. Refute it at one input. -/
def wrapOrderWrong : ChangeSpec := { name := "wrapOrder", fn := fun _ => fun
  | [d1, d2] => { results := [.lit (.bool false)], args := [d1, d2] }
  | _ => none }
def WrapOrderWrongFalsely : Prop := wrapOrderRow.holds Tryd.pinned (OpenSpec.ofChange wrapOrderWrong)

/- THE SECOND FORM. 'bulk': how many values and letters a reading holds, each counted each time it is reached (what is shared counts as often as it is met; a slice's spare places count too). A statement '..UptoSaid' is the law's where the arguments, and the package variables that the reading takes, are together of bulk at most 1048576: NARROWER than '..Said'. Prove '..Said' where nothing that the law and all that it calls make is longer than what came in: it says more and counts as full. Else prove '..UptoSaid'. A law counts once. -/
mutual
def uptoBulk {H : Type} : DataW H → Nat
  | .lit (.string bytes) => bytes.length + 1
  | .lit _ => 1
  | .nil => 1
  | .ptr d => uptoBulk d + 1
  | .slice elems spare => uptoBulkAll elems + uptoBulkAll spare + 1
  | .agg parts => uptoBulkAll parts + 1
  | .iface _ d => uptoBulk d + 1
  | .map entries => uptoBulkEntries entries + 1
  | .held _ => 1
def uptoBulkAll {H : Type} : List (DataW H) → Nat
  | [] => 0
  | d :: r => uptoBulk d + uptoBulkAll r
def uptoBulkEntries {H : Type} : List (Lit × DataW H) → Nat
  | [] => 0
  | x :: r => uptoBulkEntry x + uptoBulkEntries r
def uptoBulkEntry {H : Type} : Lit × DataW H → Nat
  | (.string bytes, d) => bytes.length + uptoBulk d + 1
  | (_, d) => uptoBulk d + 1
 end
def uptoSmall : (H : Type) → List (DataW H) → Bool := fun _ ds => decide (uptoBulkAll ds ≤ 1048576)
def OpenSpec.upto (s : _root_.Go.ChangeSpec) : _root_.Go.OpenSpec := { _root_.Go.OpenSpec.ofChange s with cond := some uptoSmall }

/-- 'caponierlaw19.WrapMakes', WHERE WHAT IT READS IS OF BULK AT MOST 1048576: true; the input reads as it did. -/
def wrapMakesUptoRow : OpenClaim := { program := "ytaoajlaocphgdaadoor", sum := "d9c1fb5c858afefc35e2e4e07134b1cfc20edc172e1dde97340ba35e2d432b05", func := "caponier/caponierlaw19.WrapMakes", spec := "wrapMakes", inPlace := ["internal/bytealg.IndexByteString", "internal/bytealg.IndexString"], unfollowed := true, recurses := true, named := ["internal/bytealg.MaxLen", "unicode/utf8.first", "unicode/utf8.acceptRanges", "caponier/ins.rows"], plainKeys := false, apart := false, laid := [("caponier/ins.rows", laid_caponier_ins_rows), ("unicode/utf8.acceptRanges", laid_unicode_utf8_acceptRanges), ("unicode/utf8.first", laid_unicode_utf8_first)], narrowed := true }
def WrapMakesUptoSaid : Prop := wrapMakesUptoRow.holds Tryd.pinned (OpenSpec.upto wrapMakesSpec)

/-- 'caponierlaw19.WrapLeaves', WHERE WHAT IT READS IS OF BULK AT MOST 1048576: true; the input reads as it did. -/
def wrapLeavesUptoRow : OpenClaim := { program := "ytaoajlaocphgdaadoor", sum := "d9c1fb5c858afefc35e2e4e07134b1cfc20edc172e1dde97340ba35e2d432b05", func := "caponier/caponierlaw19.WrapLeaves", spec := "wrapLeaves", inPlace := ["internal/bytealg.IndexByteString", "internal/bytealg.IndexString"], unfollowed := true, recurses := true, named := ["internal/bytealg.MaxLen", "unicode/utf8.first", "unicode/utf8.acceptRanges", "caponier/ins.rows"], plainKeys := false, apart := false, laid := [("caponier/ins.rows", laid_caponier_ins_rows), ("unicode/utf8.acceptRanges", laid_unicode_utf8_acceptRanges), ("unicode/utf8.first", laid_unicode_utf8_first)], narrowed := true }
def WrapLeavesUptoSaid : Prop := wrapLeavesUptoRow.holds Tryd.pinned (OpenSpec.upto wrapLeavesSpec)

/-- 'caponierlaw19.WrapSizes', WHERE WHAT IT READS IS OF BULK AT MOST 1048576: true; the input reads as it did. -/
def wrapSizesUptoRow : OpenClaim := { program := "ytaoajlaocphgdaadoor", sum := "d9c1fb5c858afefc35e2e4e07134b1cfc20edc172e1dde97340ba35e2d432b05", func := "caponier/caponierlaw19.WrapSizes", spec := "wrapSizes", inPlace := ["internal/bytealg.IndexByteString", "internal/bytealg.IndexString"], unfollowed := true, recurses := true, named := ["internal/bytealg.MaxLen", "unicode/utf8.first", "unicode/utf8.acceptRanges", "caponier/ins.rows"], plainKeys := false, apart := false, laid := [("caponier/ins.rows", laid_caponier_ins_rows), ("unicode/utf8.acceptRanges", laid_unicode_utf8_acceptRanges), ("unicode/utf8.first", laid_unicode_utf8_first)], narrowed := true }
def WrapSizesUptoSaid : Prop := wrapSizesUptoRow.holds Tryd.pinned (OpenSpec.upto wrapSizesSpec)

/-- 'caponierlaw19.WrapLayouts', WHERE WHAT IT READS IS OF BULK AT MOST 1048576: true; the input reads as it did. -/
def wrapLayoutsUptoRow : OpenClaim := { program := "ytaoajlaocphgdaadoor", sum := "d9c1fb5c858afefc35e2e4e07134b1cfc20edc172e1dde97340ba35e2d432b05", func := "caponier/caponierlaw19.WrapLayouts", spec := "wrapLayouts", inPlace := ["internal/bytealg.IndexByteString", "internal/bytealg.IndexString"], unfollowed := true, recurses := true, named := ["internal/bytealg.MaxLen", "unicode/utf8.first", "unicode/utf8.acceptRanges", "caponier/ins.rows"], plainKeys := false, apart := false, laid := [("caponier/ins.rows", laid_caponier_ins_rows), ("unicode/utf8.acceptRanges", laid_unicode_utf8_acceptRanges), ("unicode/utf8.first", laid_unicode_utf8_first)], narrowed := true }
def WrapLayoutsUptoSaid : Prop := wrapLayoutsUptoRow.holds Tryd.pinned (OpenSpec.upto wrapLayoutsSpec)

/-- 'caponierlaw19.WrapEnds', WHERE WHAT IT READS IS OF BULK AT MOST 1048576: true; the input reads as it did. -/
def wrapEndsUptoRow : OpenClaim := { program := "ytaoajlaocphgdaadoor", sum := "d9c1fb5c858afefc35e2e4e07134b1cfc20edc172e1dde97340ba35e2d432b05", func := "caponier/caponierlaw19.WrapEnds", spec := "wrapEnds", inPlace := ["internal/bytealg.IndexByteString", "internal/bytealg.IndexString"], unfollowed := true, recurses := true, named := ["internal/bytealg.MaxLen", "unicode/utf8.first", "unicode/utf8.acceptRanges", "caponier/ins.rows"], plainKeys := false, apart := false, laid := [("caponier/ins.rows", laid_caponier_ins_rows), ("unicode/utf8.acceptRanges", laid_unicode_utf8_acceptRanges), ("unicode/utf8.first", laid_unicode_utf8_first)], narrowed := true }
def WrapEndsUptoSaid : Prop := wrapEndsUptoRow.holds Tryd.pinned (OpenSpec.upto wrapEndsSpec)

/-- 'caponierlaw19.WrapOrder', WHERE WHAT IT READS IS OF BULK AT MOST 1048576: true; the input reads as it did. -/
def wrapOrderUptoRow : OpenClaim := { program := "ytaoajlaocphgdaadoor", sum := "d9c1fb5c858afefc35e2e4e07134b1cfc20edc172e1dde97340ba35e2d432b05", func := "caponier/caponierlaw19.WrapOrder", spec := "wrapOrder", inPlace := ["internal/bytealg.IndexByteString", "internal/bytealg.IndexString"], unfollowed := true, recurses := true, named := ["internal/bytealg.MaxLen", "unicode/utf8.first", "unicode/utf8.acceptRanges", "caponier/ins.rows"], plainKeys := false, apart := false, laid := [("caponier/ins.rows", laid_caponier_ins_rows), ("unicode/utf8.acceptRanges", laid_unicode_utf8_acceptRanges), ("unicode/utf8.first", laid_unicode_utf8_first)], narrowed := true }
def WrapOrderUptoSaid : Prop := wrapOrderUptoRow.holds Tryd.pinned (OpenSpec.upto wrapOrderSpec)

end Rows
end Go.Proofs.YtaoajlaocphgdaaDoor
