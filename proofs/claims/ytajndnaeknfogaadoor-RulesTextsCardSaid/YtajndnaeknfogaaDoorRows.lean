/-
  NARROWER THAN 'FOR EVERY INPUT', by the rows' own cells (each row's printed sentence says how): RulesDecide: laid · RulesAhead: laid · RulesApart: laid · RulesIdle: laid · RulesTexts: laid.
  DERIVED. THE GIVEN ROWS OF THIS SEAT. 5 by the template 'for every input the law returns true; each argument reads behind the call as it read before'; 0 by the template 'total and deterministic' (their statements: YtajndnaeknfogaaDoorTotals.lean).
  GIVEN WITH THE SEED: the statements are not yours to turn. If you find one false, say at which input.
  Laid BY PROGRAM, IN A SANDBOX (cutbox-rows.mjs): the forced cells as the released guide's own fill.sh prints them over the translation 6aed3893ec2a497e… (all of the seat's roots in one cut). By AI agents, Wed Nov 11 2026. No macro, syntax, notation, axiom, sorry.
-/
import Derived.Test.YtajndnaeknfogaaDoorChecked
import GoSem.PinnedTables
import GoSem.Claim
import GoSem.ClaimJoined
import GoSem.ClaimMapViews
import Derived.JoinedTies
import Derived.KernelRfl
namespace Go.Proofs.YtajndnaeknfogaaDoor
/- THE CELL 'sum', in the pinned program and in every row, IS THE sha256 OF THE DUMP (.gsa) THAT YtajndnaeknfogaaDoorProg.lean LOADS. Nothing in Lean hashes anything: it is a label: what it is worth is what the hold of that sum in a sandbox is worth. -/
noncomputable def Tryd.pinned : Pinned := { name := "ytajndnaeknfogaadoor", sum := "6aed3893ec2a497e0ddb9bfee3e68a3116f5abfb5d2596dddd87500be9c51fcc", checked := Tryd.checked }
namespace Rows
def none {H : Type} : Left H := { results := [], args := [] }

/- WHAT THE LISTED PACKAGE-LEVEL VARIABLES READ AS WHEN THE CALL BEGINS. Each datum BY PROGRAM (the guide's laid-datum.mjs) off the statement by which the dump's own 'gosem.cut.vars' lays the variable. In a bare row this is a premise. The card (YtajndnaeknfogaaDoorCards.lean) ties it to the program's text. -/
def laid_unicode_utf8_acceptRanges {H : Type} : DataW H := .agg [.agg [.lit (.int .u8 128), .lit (.int .u8 191)], .agg [.lit (.int .u8 160), .lit (.int .u8 191)], .agg [.lit (.int .u8 128), .lit (.int .u8 159)], .agg [.lit (.int .u8 144), .lit (.int .u8 191)], .agg [.lit (.int .u8 128), .lit (.int .u8 143)], .agg [.lit (.int .u8 0), .lit (.int .u8 0)], .agg [.lit (.int .u8 0), .lit (.int .u8 0)], .agg [.lit (.int .u8 0), .lit (.int .u8 0)], .agg [.lit (.int .u8 0), .lit (.int .u8 0)], .agg [.lit (.int .u8 0), .lit (.int .u8 0)], .agg [.lit (.int .u8 0), .lit (.int .u8 0)], .agg [.lit (.int .u8 0), .lit (.int .u8 0)], .agg [.lit (.int .u8 0), .lit (.int .u8 0)], .agg [.lit (.int .u8 0), .lit (.int .u8 0)], .agg [.lit (.int .u8 0), .lit (.int .u8 0)], .agg [.lit (.int .u8 0), .lit (.int .u8 0)]]
/-- One of Go's own tables, pinned by name: the form's constant. -/
def laid_unicode_utf8_first : DataW Unit := Go.Pinned.utf8First

/-- 'tidewaterlaw24.RulesDecide': WHATEVER THE INPUT: true; the input reads as it did. -/
def rulesDecideSpec : ChangeSpec := { name := "rulesDecide", fn := fun _ => fun
  | [d1, d2, d3] => { results := [.lit (.bool true)], args := [d1, d2, d3] }
  | _ => none }
def rulesDecideRow : OpenClaim := { program := "ytajndnaeknfogaadoor", sum := "6aed3893ec2a497e0ddb9bfee3e68a3116f5abfb5d2596dddd87500be9c51fcc", func := "tidewater/tidewaterlaw24.RulesDecide", spec := "rulesDecide", inPlace := ["internal/bytealg.IndexByteString", "internal/bytealg.IndexString", "internal/bytealg.CountString"], unfollowed := true, recurses := true, named := ["unicode/utf8.first", "unicode/utf8.acceptRanges", "internal/bytealg.MaxLen"], apart := false, laid := [("unicode/utf8.acceptRanges", laid_unicode_utf8_acceptRanges), ("unicode/utf8.first", laid_unicode_utf8_first)] }
def RulesDecideSaid : Prop := rulesDecideRow.holds Tryd.pinned (OpenSpec.ofChange rulesDecideSpec)

/-- ITS FALSE NEIGHBOUR: 'it returns false'. Refute it at one input. -/
def rulesDecideWrong : ChangeSpec := { name := "rulesDecide", fn := fun _ => fun
  | [d1, d2, d3] => { results := [.lit (.bool false)], args := [d1, d2, d3] }
  | _ => none }
def RulesDecideWrongFalsely : Prop := rulesDecideRow.holds Tryd.pinned (OpenSpec.ofChange rulesDecideWrong)

/-- 'tidewaterlaw24.RulesAhead': WHATEVER THE INPUT: true; the input reads as it did. -/
def rulesAheadSpec : ChangeSpec := { name := "rulesAhead", fn := fun _ => fun
  | [d1, d2, d3] => { results := [.lit (.bool true)], args := [d1, d2, d3] }
  | _ => none }
def rulesAheadRow : OpenClaim := { program := "ytajndnaeknfogaadoor", sum := "6aed3893ec2a497e0ddb9bfee3e68a3116f5abfb5d2596dddd87500be9c51fcc", func := "tidewater/tidewaterlaw24.RulesAhead", spec := "rulesAhead", inPlace := ["internal/bytealg.IndexByteString", "internal/bytealg.IndexString", "internal/bytealg.CountString"], unfollowed := true, recurses := true, named := ["unicode/utf8.first", "unicode/utf8.acceptRanges", "internal/bytealg.MaxLen"], apart := false, laid := [("unicode/utf8.acceptRanges", laid_unicode_utf8_acceptRanges), ("unicode/utf8.first", laid_unicode_utf8_first)] }
def RulesAheadSaid : Prop := rulesAheadRow.holds Tryd.pinned (OpenSpec.ofChange rulesAheadSpec)

/-- ITS FALSE NEIGHBOUR: 'it returns false'. Refute it at one input. -/
def rulesAheadWrong : ChangeSpec := { name := "rulesAhead", fn := fun _ => fun
  | [d1, d2, d3] => { results := [.lit (.bool false)], args := [d1, d2, d3] }
  | _ => none }
def RulesAheadWrongFalsely : Prop := rulesAheadRow.holds Tryd.pinned (OpenSpec.ofChange rulesAheadWrong)

/-- 'tidewaterlaw24.RulesApart': WHATEVER THE INPUT: true; the input reads as it did. -/
def rulesApartSpec : ChangeSpec := { name := "rulesApart", fn := fun _ => fun
  | [d1, d2, d3] => { results := [.lit (.bool true)], args := [d1, d2, d3] }
  | _ => none }
def rulesApartRow : OpenClaim := { program := "ytajndnaeknfogaadoor", sum := "6aed3893ec2a497e0ddb9bfee3e68a3116f5abfb5d2596dddd87500be9c51fcc", func := "tidewater/tidewaterlaw24.RulesApart", spec := "rulesApart", inPlace := ["internal/bytealg.IndexByteString", "internal/bytealg.IndexString", "internal/bytealg.CountString"], unfollowed := true, recurses := true, named := ["unicode/utf8.first", "unicode/utf8.acceptRanges", "internal/bytealg.MaxLen"], apart := false, laid := [("unicode/utf8.acceptRanges", laid_unicode_utf8_acceptRanges), ("unicode/utf8.first", laid_unicode_utf8_first)] }
def RulesApartSaid : Prop := rulesApartRow.holds Tryd.pinned (OpenSpec.ofChange rulesApartSpec)

/-- ITS FALSE NEIGHBOUR: 'it returns false'. Refute it at one input. -/
def rulesApartWrong : ChangeSpec := { name := "rulesApart", fn := fun _ => fun
  | [d1, d2, d3] => { results := [.lit (.bool false)], args := [d1, d2, d3] }
  | _ => none }
def RulesApartWrongFalsely : Prop := rulesApartRow.holds Tryd.pinned (OpenSpec.ofChange rulesApartWrong)

/-- 'tidewaterlaw24.RulesIdle': WHATEVER THE INPUT: true; the input reads as it did. -/
def rulesIdleSpec : ChangeSpec := { name := "rulesIdle", fn := fun _ => fun
  | [d1, d2, d3] => { results := [.lit (.bool true)], args := [d1, d2, d3] }
  | _ => none }
def rulesIdleRow : OpenClaim := { program := "ytajndnaeknfogaadoor", sum := "6aed3893ec2a497e0ddb9bfee3e68a3116f5abfb5d2596dddd87500be9c51fcc", func := "tidewater/tidewaterlaw24.RulesIdle", spec := "rulesIdle", inPlace := ["internal/bytealg.IndexByteString", "internal/bytealg.IndexString", "internal/bytealg.CountString"], unfollowed := true, recurses := true, named := ["unicode/utf8.first", "unicode/utf8.acceptRanges", "internal/bytealg.MaxLen"], apart := false, laid := [("unicode/utf8.acceptRanges", laid_unicode_utf8_acceptRanges), ("unicode/utf8.first", laid_unicode_utf8_first)] }
def RulesIdleSaid : Prop := rulesIdleRow.holds Tryd.pinned (OpenSpec.ofChange rulesIdleSpec)

/-- ITS FALSE NEIGHBOUR: 'it returns false'. Refute it at one input. -/
def rulesIdleWrong : ChangeSpec := { name := "rulesIdle", fn := fun _ => fun
  | [d1, d2, d3] => { results := [.lit (.bool false)], args := [d1, d2, d3] }
  | _ => none }
def RulesIdleWrongFalsely : Prop := rulesIdleRow.holds Tryd.pinned (OpenSpec.ofChange rulesIdleWrong)

/-- 'tidewaterlaw24.RulesTexts': WHATEVER THE INPUT: true; the input reads as it did. -/
def rulesTextsSpec : ChangeSpec := { name := "rulesTexts", fn := fun _ => fun
  | [d1, d2] => { results := [.lit (.bool true)], args := [d1, d2] }
  | _ => none }
def rulesTextsRow : OpenClaim := { program := "ytajndnaeknfogaadoor", sum := "6aed3893ec2a497e0ddb9bfee3e68a3116f5abfb5d2596dddd87500be9c51fcc", func := "tidewater/tidewaterlaw24.RulesTexts", spec := "rulesTexts", inPlace := ["internal/bytealg.IndexByteString", "internal/bytealg.IndexString", "internal/bytealg.CountString", "internal/abi.NoEscape", "internal/bytealg.MakeNoZero"], unfollowed := true, recurses := true, named := ["unicode/utf8.first", "unicode/utf8.acceptRanges", "internal/bytealg.MaxLen"], apart := false, laid := [("unicode/utf8.acceptRanges", laid_unicode_utf8_acceptRanges), ("unicode/utf8.first", laid_unicode_utf8_first)] }
def RulesTextsSaid : Prop := rulesTextsRow.holds Tryd.pinned (OpenSpec.ofChange rulesTextsSpec)

/-- ITS FALSE NEIGHBOUR: 'it returns false'. Refute it at one input. -/
def rulesTextsWrong : ChangeSpec := { name := "rulesTexts", fn := fun _ => fun
  | [d1, d2] => { results := [.lit (.bool false)], args := [d1, d2] }
  | _ => none }
def RulesTextsWrongFalsely : Prop := rulesTextsRow.holds Tryd.pinned (OpenSpec.ofChange rulesTextsWrong)

/- THE SECOND FORM. 'bulk': how many values and letters a reading holds, each counted each time it is reached (what is shared counts as often as it is met; a slice's spare places count too). A statement '..UptoSaid' is the law's where the arguments, and the package variables that the reading takes, are together of bulk at most 1048576: NARROWER than '..Said'. Prove '..Said' where nothing that the law and all that it calls make is longer than what came in: it says more and counts as full. Else prove '..UptoSaid'. A law counts once. -/
mutual
def uptoBulk {H : Type} : DataW H → Nat
  | .lit (.string bytes) => bytes.length + 1
  | .lit _ => 1
  | .nil => 1
  | .ptr d => uptoBulk d + 1
  | .slice elems spare => uptoBulkAll elems + uptoBulkAll spare + 1
  | .agg parts => uptoBulkAll parts + 1
  | .iface _ d => uptoBulk d + 1
  | .map entries => uptoBulkEntries entries + 1
  | .held _ => 1
def uptoBulkAll {H : Type} : List (DataW H) → Nat
  | [] => 0
  | d :: r => uptoBulk d + uptoBulkAll r
def uptoBulkEntries {H : Type} : List (Lit × DataW H) → Nat
  | [] => 0
  | x :: r => uptoBulkEntry x + uptoBulkEntries r
def uptoBulkEntry {H : Type} : Lit × DataW H → Nat
  | (.string bytes, d) => bytes.length + uptoBulk d + 1
  | (_, d) => uptoBulk d + 1
 end
def uptoSmall : (H : Type) → List (DataW H) → Bool := fun _ ds => decide (uptoBulkAll ds ≤ 1048576)
def OpenSpec.upto (s : _root_.Go.ChangeSpec) : _root_.Go.OpenSpec := { _root_.Go.OpenSpec.ofChange s with cond := some uptoSmall }

/-- 'tidewaterlaw24.RulesDecide', WHERE WHAT IT READS IS OF BULK AT MOST 1048576: true; the input reads as it did. -/
def rulesDecideUptoRow : OpenClaim := { program := "ytajndnaeknfogaadoor", sum := "6aed3893ec2a497e0ddb9bfee3e68a3116f5abfb5d2596dddd87500be9c51fcc", func := "tidewater/tidewaterlaw24.RulesDecide", spec := "rulesDecide", inPlace := ["internal/bytealg.IndexByteString", "internal/bytealg.IndexString", "internal/bytealg.CountString"], unfollowed := true, recurses := true, named := ["unicode/utf8.first", "unicode/utf8.acceptRanges", "internal/bytealg.MaxLen"], apart := false, laid := [("unicode/utf8.acceptRanges", laid_unicode_utf8_acceptRanges), ("unicode/utf8.first", laid_unicode_utf8_first)], narrowed := true }
def RulesDecideUptoSaid : Prop := rulesDecideUptoRow.holds Tryd.pinned (OpenSpec.upto rulesDecideSpec)

/-- 'tidewaterlaw24.RulesAhead', WHERE WHAT IT READS IS OF BULK AT MOST 1048576: true; the input reads as it did. -/
def rulesAheadUptoRow : OpenClaim := { program := "ytajndnaeknfogaadoor", sum := "6aed3893ec2a497e0ddb9bfee3e68a3116f5abfb5d2596dddd87500be9c51fcc", func := "tidewater/tidewaterlaw24.RulesAhead", spec := "rulesAhead", inPlace := ["internal/bytealg.IndexByteString", "internal/bytealg.IndexString", "internal/bytealg.CountString"], unfollowed := true, recurses := true, named := ["unicode/utf8.first", "unicode/utf8.acceptRanges", "internal/bytealg.MaxLen"], apart := false, laid := [("unicode/utf8.acceptRanges", laid_unicode_utf8_acceptRanges), ("unicode/utf8.first", laid_unicode_utf8_first)], narrowed := true }
def RulesAheadUptoSaid : Prop := rulesAheadUptoRow.holds Tryd.pinned (OpenSpec.upto rulesAheadSpec)

/-- 'tidewaterlaw24.RulesApart', WHERE WHAT IT READS IS OF BULK AT MOST 1048576: true; the input reads as it did. -/
def rulesApartUptoRow : OpenClaim := { program := "ytajndnaeknfogaadoor", sum := "6aed3893ec2a497e0ddb9bfee3e68a3116f5abfb5d2596dddd87500be9c51fcc", func := "tidewater/tidewaterlaw24.RulesApart", spec := "rulesApart", inPlace := ["internal/bytealg.IndexByteString", "internal/bytealg.IndexString", "internal/bytealg.CountString"], unfollowed := true, recurses := true, named := ["unicode/utf8.first", "unicode/utf8.acceptRanges", "internal/bytealg.MaxLen"], apart := false, laid := [("unicode/utf8.acceptRanges", laid_unicode_utf8_acceptRanges), ("unicode/utf8.first", laid_unicode_utf8_first)], narrowed := true }
def RulesApartUptoSaid : Prop := rulesApartUptoRow.holds Tryd.pinned (OpenSpec.upto rulesApartSpec)

/-- 'tidewaterlaw24.RulesIdle', WHERE WHAT IT READS IS OF BULK AT MOST 1048576: true; the input reads as it did. -/
def rulesIdleUptoRow : OpenClaim := { program := "ytajndnaeknfogaadoor", sum := "6aed3893ec2a497e0ddb9bfee3e68a3116f5abfb5d2596dddd87500be9c51fcc", func := "tidewater/tidewaterlaw24.RulesIdle", spec := "rulesIdle", inPlace := ["internal/bytealg.IndexByteString", "internal/bytealg.IndexString", "internal/bytealg.CountString"], unfollowed := true, recurses := true, named := ["unicode/utf8.first", "unicode/utf8.acceptRanges", "internal/bytealg.MaxLen"], apart := false, laid := [("unicode/utf8.acceptRanges", laid_unicode_utf8_acceptRanges), ("unicode/utf8.first", laid_unicode_utf8_first)], narrowed := true }
def RulesIdleUptoSaid : Prop := rulesIdleUptoRow.holds Tryd.pinned (OpenSpec.upto rulesIdleSpec)

/-- 'tidewaterlaw24.RulesTexts', WHERE WHAT IT READS IS OF BULK AT MOST 1048576: true; the input reads as it did. -/
def rulesTextsUptoRow : OpenClaim := { program := "ytajndnaeknfogaadoor", sum := "6aed3893ec2a497e0ddb9bfee3e68a3116f5abfb5d2596dddd87500be9c51fcc", func := "tidewater/tidewaterlaw24.RulesTexts", spec := "rulesTexts", inPlace := ["internal/bytealg.IndexByteString", "internal/bytealg.IndexString", "internal/bytealg.CountString", "internal/abi.NoEscape", "internal/bytealg.MakeNoZero"], unfollowed := true, recurses := true, named := ["unicode/utf8.first", "unicode/utf8.acceptRanges", "internal/bytealg.MaxLen"], apart := false, laid := [("unicode/utf8.acceptRanges", laid_unicode_utf8_acceptRanges), ("unicode/utf8.first", laid_unicode_utf8_first)], narrowed := true }
def RulesTextsUptoSaid : Prop := rulesTextsUptoRow.holds Tryd.pinned (OpenSpec.upto rulesTextsSpec)

end Rows
end Go.Proofs.YtajndnaeknfogaaDoor
