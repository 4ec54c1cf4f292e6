/-
  NARROWER THAN 'FOR EVERY INPUT', by the rows' own cells (each row's printed sentence says how): AlphaParses: laid · AlphaValid: laid · AlphaComments: laid · AlphaLater: laid.
  DERIVED. THE GIVEN ROWS OF THIS SEAT. 4 by the template 'for every input the law returns true; each argument reads behind the call as it read before'; 0 by the template 'total and deterministic' (their statements: YtoceoaiokkbjeaaGreatDoorTotals.lean).
  GIVEN WITH THE SEED: the statements are not yours to turn. If you find one false, say at which input.
  Laid BY PROGRAM, IN A SANDBOX (cutbox-rows.mjs): the forced cells as the released guide's own fill.sh prints them over the translation 648ffc1858b7d31a… (all of the seat's roots in one cut). By AI agents, Wed Nov 11 2026. No macro, syntax, notation, axiom, sorry.
-/
import Derived.Test.YtoceoaiokkbjeaaGreatDoorChecked
import GoSem.PinnedTables
import GoSem.Claim
import GoSem.ClaimJoined
import GoSem.ClaimMapViews
import Derived.JoinedTies
import Derived.KernelRfl
namespace Go.Proofs.YtoceoaiokkbjeaaGreatDoor
/- THE CELL 'sum', in the pinned program and in every row, IS THE sha256 OF THE DUMP (.gsa) THAT YtoceoaiokkbjeaaGreatDoorProg.lean LOADS. Nothing in Lean hashes anything: it is a label: what it is worth is what the hold of that sum in a sandbox is worth. -/
noncomputable def Tryz.pinned : Pinned := { name := "ytoceoaiokkbjeaagreatdoor", sum := "648ffc1858b7d31a215f61fc2b13c936f37c50de452047657643eb190419cf75", checked := Tryz.checked }
namespace Rows
def none {H : Type} : Left H := { results := [], args := [] }

/- WHAT THE LISTED PACKAGE-LEVEL VARIABLES READ AS WHEN THE CALL BEGINS. Each datum BY PROGRAM (the guide's laid-datum.mjs) off the statement by which the dump's own 'gosem.cut.vars' lays the variable. In a bare row this is a premise. The card (YtoceoaiokkbjeaaGreatDoorCards.lean) ties it to the program's text. -/
def laid_unicode_utf8_acceptRanges {H : Type} : DataW H := .agg [.agg [.lit (.int .u8 128), .lit (.int .u8 191)], .agg [.lit (.int .u8 160), .lit (.int .u8 191)], .agg [.lit (.int .u8 128), .lit (.int .u8 159)], .agg [.lit (.int .u8 144), .lit (.int .u8 191)], .agg [.lit (.int .u8 128), .lit (.int .u8 143)], .agg [.lit (.int .u8 0), .lit (.int .u8 0)], .agg [.lit (.int .u8 0), .lit (.int .u8 0)], .agg [.lit (.int .u8 0), .lit (.int .u8 0)], .agg [.lit (.int .u8 0), .lit (.int .u8 0)], .agg [.lit (.int .u8 0), .lit (.int .u8 0)], .agg [.lit (.int .u8 0), .lit (.int .u8 0)], .agg [.lit (.int .u8 0), .lit (.int .u8 0)], .agg [.lit (.int .u8 0), .lit (.int .u8 0)], .agg [.lit (.int .u8 0), .lit (.int .u8 0)], .agg [.lit (.int .u8 0), .lit (.int .u8 0)], .agg [.lit (.int .u8 0), .lit (.int .u8 0)]]
/-- One of Go's own tables, pinned by name: the form's constant. -/
def laid_unicode_utf8_first : DataW Unit := Go.Pinned.utf8First

/-- 'netverifylaw9.AlphaParses': WHATEVER THE INPUT: true; the input reads as it did. -/
def alphaParsesSpec : ChangeSpec := { name := "alphaParses", fn := fun _ => fun
  | [d] => { results := [.lit (.bool true)], args := [d] }
  | _ => none }
def alphaParsesRow : OpenClaim := { program := "ytoceoaiokkbjeaagreatdoor", sum := "648ffc1858b7d31a215f61fc2b13c936f37c50de452047657643eb190419cf75", func := "netverify/netverifylaw9.AlphaParses", spec := "alphaParses", inPlace := ["internal/bytealg.IndexByteString", "internal/bytealg.IndexString", "internal/bytealg.CountString", "slices.overlaps[int]", "slices.overlaps[netverify/api.PrefixRule]", "slices.overlaps[netverify/api.Clause]", "slices.overlaps[netverify/api.Rule]"], unfollowed := true, recurses := true, named := ["internal/bytealg.MaxLen", "unicode/utf8.first", "unicode/utf8.acceptRanges"], apart := false, laid := [("unicode/utf8.acceptRanges", laid_unicode_utf8_acceptRanges), ("unicode/utf8.first", laid_unicode_utf8_first)] }
def AlphaParsesSaid : Prop := alphaParsesRow.holds Tryz.pinned (OpenSpec.ofChange alphaParsesSpec)

/-- ITS FALSE NEIGHBOUR: 'it returns false'. Refute it at one input. -/
def alphaParsesWrong : ChangeSpec := { name := "alphaParses", fn := fun _ => fun
  | [d] => { results := [.lit (.bool false)], args := [d] }
  | _ => none }
def AlphaParsesWrongFalsely : Prop := alphaParsesRow.holds Tryz.pinned (OpenSpec.ofChange alphaParsesWrong)

/-- 'netverifylaw9.AlphaValid': WHATEVER THE INPUT: true; the input reads as it did. -/
def alphaValidSpec : ChangeSpec := { name := "alphaValid", fn := fun _ => fun
  | [d] => { results := [.lit (.bool true)], args := [d] }
  | _ => none }
def alphaValidRow : OpenClaim := { program := "ytoceoaiokkbjeaagreatdoor", sum := "648ffc1858b7d31a215f61fc2b13c936f37c50de452047657643eb190419cf75", func := "netverify/netverifylaw9.AlphaValid", spec := "alphaValid", inPlace := ["internal/bytealg.IndexByteString", "internal/bytealg.IndexString", "internal/bytealg.CountString", "slices.overlaps[int]", "slices.overlaps[netverify/api.PrefixRule]", "slices.overlaps[netverify/api.Clause]", "slices.overlaps[netverify/api.Rule]"], unfollowed := true, recurses := true, named := ["internal/bytealg.MaxLen", "unicode/utf8.first", "unicode/utf8.acceptRanges"], apart := false, laid := [("unicode/utf8.acceptRanges", laid_unicode_utf8_acceptRanges), ("unicode/utf8.first", laid_unicode_utf8_first)] }
def AlphaValidSaid : Prop := alphaValidRow.holds Tryz.pinned (OpenSpec.ofChange alphaValidSpec)

/-- ITS FALSE NEIGHBOUR: 'it returns false'. Refute it at one input. -/
def alphaValidWrong : ChangeSpec := { name := "alphaValid", fn := fun _ => fun
  | [d] => { results := [.lit (.bool false)], args := [d] }
  | _ => none }
def AlphaValidWrongFalsely : Prop := alphaValidRow.holds Tryz.pinned (OpenSpec.ofChange alphaValidWrong)

/-- 'netverifylaw9.AlphaComments': WHATEVER THE INPUT: true; the input reads as it did. -/
def alphaCommentsSpec : ChangeSpec := { name := "alphaComments", fn := fun _ => fun
  | [d1, d2] => { results := [.lit (.bool true)], args := [d1, d2] }
  | _ => none }
def alphaCommentsRow : OpenClaim := { program := "ytoceoaiokkbjeaagreatdoor", sum := "648ffc1858b7d31a215f61fc2b13c936f37c50de452047657643eb190419cf75", func := "netverify/netverifylaw9.AlphaComments", spec := "alphaComments", inPlace := ["internal/bytealg.IndexByteString", "internal/bytealg.IndexString", "internal/bytealg.CountString", "slices.overlaps[int]", "slices.overlaps[netverify/api.PrefixRule]", "slices.overlaps[netverify/api.Clause]", "slices.overlaps[netverify/api.Rule]"], unfollowed := true, recurses := true, named := ["internal/bytealg.MaxLen", "unicode/utf8.first", "unicode/utf8.acceptRanges"], apart := false, laid := [("unicode/utf8.acceptRanges", laid_unicode_utf8_acceptRanges), ("unicode/utf8.first", laid_unicode_utf8_first)] }
def AlphaCommentsSaid : Prop := alphaCommentsRow.holds Tryz.pinned (OpenSpec.ofChange alphaCommentsSpec)

/-- ITS FALSE NEIGHBOUR: 'it returns false'. Refute it at one input. -/
def alphaCommentsWrong : ChangeSpec := { name := "alphaComments", fn := fun _ => fun
  | [d1, d2] => { results := [.lit (.bool false)], args := [d1, d2] }
  | _ => none }
def AlphaCommentsWrongFalsely : Prop := alphaCommentsRow.holds Tryz.pinned (OpenSpec.ofChange alphaCommentsWrong)

/-- 'netverifylaw9.AlphaLater': WHATEVER THE INPUT: true; the input reads as it did. -/
def alphaLaterSpec : ChangeSpec := { name := "alphaLater", fn := fun _ => fun
  | [d1, d2] => { results := [.lit (.bool true)], args := [d1, d2] }
  | _ => none }
def alphaLaterRow : OpenClaim := { program := "ytoceoaiokkbjeaagreatdoor", sum := "648ffc1858b7d31a215f61fc2b13c936f37c50de452047657643eb190419cf75", func := "netverify/netverifylaw9.AlphaLater", spec := "alphaLater", inPlace := ["internal/bytealg.IndexByteString", "internal/bytealg.IndexString", "internal/bytealg.CountString", "slices.overlaps[int]", "slices.overlaps[netverify/api.PrefixRule]", "slices.overlaps[netverify/api.Clause]", "slices.overlaps[netverify/api.Rule]"], unfollowed := true, recurses := true, named := ["internal/bytealg.MaxLen", "unicode/utf8.first", "unicode/utf8.acceptRanges"], apart := false, laid := [("unicode/utf8.acceptRanges", laid_unicode_utf8_acceptRanges), ("unicode/utf8.first", laid_unicode_utf8_first)] }
def AlphaLaterSaid : Prop := alphaLaterRow.holds Tryz.pinned (OpenSpec.ofChange alphaLaterSpec)

/-- ITS FALSE NEIGHBOUR: 'it returns false'. Refute it at one input. -/
def alphaLaterWrong : ChangeSpec := { name := "alphaLater", fn := fun _ => fun
  | [d1, d2] => { results := [.lit (.bool false)], args := [d1, d2] }
  | _ => none }
def AlphaLaterWrongFalsely : Prop := alphaLaterRow.holds Tryz.pinned (OpenSpec.ofChange alphaLaterWrong)

/- THE SECOND FORM. 'bulk': how many values and letters a reading holds, each counted each time it is reached (what is shared counts as often as it is met; a slice's spare places count too). A statement '..UptoSaid' is the law's where the arguments, and the package variables that the reading takes, are together of bulk at most 1048576: NARROWER than '..Said'. Prove '..Said' where nothing that the law and all that it calls make is longer than what came in: it says more and counts as full. Else prove '..UptoSaid'. A law counts once. -/
mutual
def uptoBulk {H : Type} : DataW H → Nat
  | .lit (.string bytes) => bytes.length + 1
  | .lit _ => 1
  | .nil => 1
  | .ptr d => uptoBulk d + 1
  | .slice elems spare => uptoBulkAll elems + uptoBulkAll spare + 1
  | .agg parts => uptoBulkAll parts + 1
  | .iface _ d => uptoBulk d + 1
  | .map entries => uptoBulkEntries entries + 1
  | .held _ => 1
def uptoBulkAll {H : Type} : List (DataW H) → Nat
  | [] => 0
  | d :: r => uptoBulk d + uptoBulkAll r
def uptoBulkEntries {H : Type} : List (Lit × DataW H) → Nat
  | [] => 0
  | x :: r => uptoBulkEntry x + uptoBulkEntries r
def uptoBulkEntry {H : Type} : Lit × DataW H → Nat
  | (.string bytes, d) => bytes.length + uptoBulk d + 1
  | (_, d) => uptoBulk d + 1
 end
def uptoSmall : (H : Type) → List (DataW H) → Bool := fun _ ds => decide (uptoBulkAll ds ≤ 1048576)
def OpenSpec.upto (s : _root_.Go.ChangeSpec) : _root_.Go.OpenSpec := { _root_.Go.OpenSpec.ofChange s with cond := some uptoSmall }

/-- 'netverifylaw9.AlphaParses', WHERE WHAT IT READS IS OF BULK AT MOST 1048576: true; the input reads as it did. -/
def alphaParsesUptoRow : OpenClaim := { program := "ytoceoaiokkbjeaagreatdoor", sum := "648ffc1858b7d31a215f61fc2b13c936f37c50de452047657643eb190419cf75", func := "netverify/netverifylaw9.AlphaParses", spec := "alphaParses", inPlace := ["internal/bytealg.IndexByteString", "internal/bytealg.IndexString", "internal/bytealg.CountString", "slices.overlaps[int]", "slices.overlaps[netverify/api.PrefixRule]", "slices.overlaps[netverify/api.Clause]", "slices.overlaps[netverify/api.Rule]"], unfollowed := true, recurses := true, named := ["internal/bytealg.MaxLen", "unicode/utf8.first", "unicode/utf8.acceptRanges"], apart := false, laid := [("unicode/utf8.acceptRanges", laid_unicode_utf8_acceptRanges), ("unicode/utf8.first", laid_unicode_utf8_first)], narrowed := true }
def AlphaParsesUptoSaid : Prop := alphaParsesUptoRow.holds Tryz.pinned (OpenSpec.upto alphaParsesSpec)

/-- 'netverifylaw9.AlphaValid', WHERE WHAT IT READS IS OF BULK AT MOST 1048576: true; the input reads as it did. -/
def alphaValidUptoRow : OpenClaim := { program := "ytoceoaiokkbjeaagreatdoor", sum := "648ffc1858b7d31a215f61fc2b13c936f37c50de452047657643eb190419cf75", func := "netverify/netverifylaw9.AlphaValid", spec := "alphaValid", inPlace := ["internal/bytealg.IndexByteString", "internal/bytealg.IndexString", "internal/bytealg.CountString", "slices.overlaps[int]", "slices.overlaps[netverify/api.PrefixRule]", "slices.overlaps[netverify/api.Clause]", "slices.overlaps[netverify/api.Rule]"], unfollowed := true, recurses := true, named := ["internal/bytealg.MaxLen", "unicode/utf8.first", "unicode/utf8.acceptRanges"], apart := false, laid := [("unicode/utf8.acceptRanges", laid_unicode_utf8_acceptRanges), ("unicode/utf8.first", laid_unicode_utf8_first)], narrowed := true }
def AlphaValidUptoSaid : Prop := alphaValidUptoRow.holds Tryz.pinned (OpenSpec.upto alphaValidSpec)

/-- 'netverifylaw9.AlphaComments', WHERE WHAT IT READS IS OF BULK AT MOST 1048576: true; the input reads as it did. -/
def alphaCommentsUptoRow : OpenClaim := { program := "ytoceoaiokkbjeaagreatdoor", sum := "648ffc1858b7d31a215f61fc2b13c936f37c50de452047657643eb190419cf75", func := "netverify/netverifylaw9.AlphaComments", spec := "alphaComments", inPlace := ["internal/bytealg.IndexByteString", "internal/bytealg.IndexString", "internal/bytealg.CountString", "slices.overlaps[int]", "slices.overlaps[netverify/api.PrefixRule]", "slices.overlaps[netverify/api.Clause]", "slices.overlaps[netverify/api.Rule]"], unfollowed := true, recurses := true, named := ["internal/bytealg.MaxLen", "unicode/utf8.first", "unicode/utf8.acceptRanges"], apart := false, laid := [("unicode/utf8.acceptRanges", laid_unicode_utf8_acceptRanges), ("unicode/utf8.first", laid_unicode_utf8_first)], narrowed := true }
def AlphaCommentsUptoSaid : Prop := alphaCommentsUptoRow.holds Tryz.pinned (OpenSpec.upto alphaCommentsSpec)

/-- 'netverifylaw9.AlphaLater', WHERE WHAT IT READS IS OF BULK AT MOST 1048576: true; the input reads as it did. -/
def alphaLaterUptoRow : OpenClaim := { program := "ytoceoaiokkbjeaagreatdoor", sum := "648ffc1858b7d31a215f61fc2b13c936f37c50de452047657643eb190419cf75", func := "netverify/netverifylaw9.AlphaLater", spec := "alphaLater", inPlace := ["internal/bytealg.IndexByteString", "internal/bytealg.IndexString", "internal/bytealg.CountString", "slices.overlaps[int]", "slices.overlaps[netverify/api.PrefixRule]", "slices.overlaps[netverify/api.Clause]", "slices.overlaps[netverify/api.Rule]"], unfollowed := true, recurses := true, named := ["internal/bytealg.MaxLen", "unicode/utf8.first", "unicode/utf8.acceptRanges"], apart := false, laid := [("unicode/utf8.acceptRanges", laid_unicode_utf8_acceptRanges), ("unicode/utf8.first", laid_unicode_utf8_first)], narrowed := true }
def AlphaLaterUptoSaid : Prop := alphaLaterUptoRow.holds Tryz.pinned (OpenSpec.upto alphaLaterSpec)

end Rows
end Go.Proofs.YtoceoaiokkbjeaaGreatDoor
