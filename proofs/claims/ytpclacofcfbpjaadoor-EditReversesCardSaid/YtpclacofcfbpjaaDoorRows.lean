/-
  NARROWER THAN 'FOR EVERY INPUT', by the rows' own cells (each row's printed sentence says how): EditFlips: laid · EditFlipsWords: laid · EditApplies: laid · EditLines: laid · EditReverses: laid.
  DERIVED. THE GIVEN ROWS OF THIS SEAT. 5 by the template 'for every input the law returns true; each argument reads behind the call as it read before'; 0 by the template 'total and deterministic' (their statements: YtpclacofcfbpjaaDoorTotals.lean).
  GIVEN WITH THE SEED: the statements are not yours to turn. If you find one false, say at which input.
  Laid BY PROGRAM, IN A SANDBOX (cutbox-rows.mjs): the forced cells as the released guide's own fill.sh prints them over the translation 8b0423fe72184b53… (all of the seat's roots in one cut). By AI agents, Wed Nov 11 2026. No macro, syntax, notation, axiom, sorry.
-/
import Derived.Test.YtpclacofcfbpjaaDoorChecked
import GoSem.PinnedTables
import GoSem.Claim
import GoSem.ClaimJoined
import GoSem.ClaimMapViews
import Derived.JoinedTies
import Derived.KernelRfl
namespace Go.Proofs.YtpclacofcfbpjaaDoor
/- THE CELL 'sum', in the pinned program and in every row, IS THE sha256 OF THE DUMP (.gsa) THAT YtpclacofcfbpjaaDoorProg.lean LOADS. Nothing in Lean hashes anything: it is a label: what it is worth is what the hold of that sum in a sandbox is worth. -/
noncomputable def Tryd.pinned : Pinned := { name := "ytpclacofcfbpjaadoor", sum := "8b0423fe72184b53dc3097b9229f794e40bc2a14f2a3d4d8fb9e9e378f10bb50", checked := Tryd.checked }
namespace Rows
def none {H : Type} : Left H := { results := [], args := [] }

/- WHAT THE LISTED PACKAGE-LEVEL VARIABLES READ AS WHEN THE CALL BEGINS. Each datum BY PROGRAM (the guide's laid-datum.mjs) off the statement by which the dump's own 'gosem.cut.vars' lays the variable. In a bare row this is a premise. The card (YtpclacofcfbpjaaDoorCards.lean) ties it to the program's text. -/
def laid_unicode_utf8_acceptRanges {H : Type} : DataW H := .agg [.agg [.lit (.int .u8 128), .lit (.int .u8 191)], .agg [.lit (.int .u8 160), .lit (.int .u8 191)], .agg [.lit (.int .u8 128), .lit (.int .u8 159)], .agg [.lit (.int .u8 144), .lit (.int .u8 191)], .agg [.lit (.int .u8 128), .lit (.int .u8 143)], .agg [.lit (.int .u8 0), .lit (.int .u8 0)], .agg [.lit (.int .u8 0), .lit (.int .u8 0)], .agg [.lit (.int .u8 0), .lit (.int .u8 0)], .agg [.lit (.int .u8 0), .lit (.int .u8 0)], .agg [.lit (.int .u8 0), .lit (.int .u8 0)], .agg [.lit (.int .u8 0), .lit (.int .u8 0)], .agg [.lit (.int .u8 0), .lit (.int .u8 0)], .agg [.lit (.int .u8 0), .lit (.int .u8 0)], .agg [.lit (.int .u8 0), .lit (.int .u8 0)], .agg [.lit (.int .u8 0), .lit (.int .u8 0)], .agg [.lit (.int .u8 0), .lit (.int .u8 0)]]
/-- One of Go's own tables, pinned by name: the form's constant. -/
def laid_unicode_utf8_first : DataW Unit := Go.Pinned.utf8First

/-- 'netverifylaw42.EditFlips': WHATEVER THE INPUT: true; the input reads as it did. -/
def editFlipsSpec : ChangeSpec := { name := "editFlips", fn := fun _ => fun
  | [d1, d2] => { results := [.lit (.bool true)], args := [d1, d2] }
  | _ => none }
def editFlipsRow : OpenClaim := { program := "ytpclacofcfbpjaadoor", sum := "8b0423fe72184b53dc3097b9229f794e40bc2a14f2a3d4d8fb9e9e378f10bb50", func := "netverify/netverifylaw42.EditFlips", spec := "editFlips", inPlace := ["internal/bytealg.IndexByteString", "internal/bytealg.IndexString", "internal/abi.NoEscape"], named := ["internal/bytealg.MaxLen", "unicode/utf8.first", "unicode/utf8.acceptRanges"], apart := false, laid := [("unicode/utf8.acceptRanges", laid_unicode_utf8_acceptRanges), ("unicode/utf8.first", laid_unicode_utf8_first)] }
def EditFlipsSaid : Prop := editFlipsRow.holds Tryd.pinned (OpenSpec.ofChange editFlipsSpec)

/-- ITS FALSE NEIGHBOUR: 'it returns false'. Refute it at one input. -/
def editFlipsWrong : ChangeSpec := { name := "editFlips", fn := fun _ => fun
  | [d1, d2] => { results := [.lit (.bool false)], args := [d1, d2] }
  | _ => none }
def EditFlipsWrongFalsely : Prop := editFlipsRow.holds Tryd.pinned (OpenSpec.ofChange editFlipsWrong)

/-- 'netverifylaw42.EditFlipsWords': WHATEVER THE INPUT: true; the input reads as it did. -/
def editFlipsWordsSpec : ChangeSpec := { name := "editFlipsWords", fn := fun _ => fun
  | [d1, d2] => { results := [.lit (.bool true)], args := [d1, d2] }
  | _ => none }
def editFlipsWordsRow : OpenClaim := { program := "ytpclacofcfbpjaadoor", sum := "8b0423fe72184b53dc3097b9229f794e40bc2a14f2a3d4d8fb9e9e378f10bb50", func := "netverify/netverifylaw42.EditFlipsWords", spec := "editFlipsWords", inPlace := ["internal/bytealg.IndexByteString", "internal/bytealg.IndexString", "internal/abi.NoEscape"], named := ["internal/bytealg.MaxLen", "unicode/utf8.first", "unicode/utf8.acceptRanges"], apart := false, laid := [("unicode/utf8.acceptRanges", laid_unicode_utf8_acceptRanges), ("unicode/utf8.first", laid_unicode_utf8_first)] }
def EditFlipsWordsSaid : Prop := editFlipsWordsRow.holds Tryd.pinned (OpenSpec.ofChange editFlipsWordsSpec)

/-- ITS FALSE NEIGHBOUR: 'it returns false'. Refute it at one input. -/
def editFlipsWordsWrong : ChangeSpec := { name := "editFlipsWords", fn := fun _ => fun
  | [d1, d2] => { results := [.lit (.bool false)], args := [d1, d2] }
  | _ => none }
def EditFlipsWordsWrongFalsely : Prop := editFlipsWordsRow.holds Tryd.pinned (OpenSpec.ofChange editFlipsWordsWrong)

/-- 'netverifylaw42.EditApplies': WHATEVER THE INPUT: true; the input reads as it did. -/
def editAppliesSpec : ChangeSpec := { name := "editApplies", fn := fun _ => fun
  | [d1, d2, d3] => { results := [.lit (.bool true)], args := [d1, d2, d3] }
  | _ => none }
def editAppliesRow : OpenClaim := { program := "ytpclacofcfbpjaadoor", sum := "8b0423fe72184b53dc3097b9229f794e40bc2a14f2a3d4d8fb9e9e378f10bb50", func := "netverify/netverifylaw42.EditApplies", spec := "editApplies", inPlace := ["internal/bytealg.IndexByteString", "internal/bytealg.IndexString", "internal/abi.NoEscape"], named := ["internal/bytealg.MaxLen", "unicode/utf8.first", "unicode/utf8.acceptRanges"], apart := false, laid := [("unicode/utf8.acceptRanges", laid_unicode_utf8_acceptRanges), ("unicode/utf8.first", laid_unicode_utf8_first)] }
def EditAppliesSaid : Prop := editAppliesRow.holds Tryd.pinned (OpenSpec.ofChange editAppliesSpec)

/-- ITS FALSE NEIGHBOUR: 'it returns false'. Refute it at one input. -/
def editAppliesWrong : ChangeSpec := { name := "editApplies", fn := fun _ => fun
  | [d1, d2, d3] => { results := [.lit (.bool false)], args := [d1, d2, d3] }
  | _ => none }
def EditAppliesWrongFalsely : Prop := editAppliesRow.holds Tryd.pinned (OpenSpec.ofChange editAppliesWrong)

/-- 'netverifylaw42.EditLines': WHATEVER THE INPUT: true; the input reads as it did. -/
def editLinesSpec : ChangeSpec := { name := "editLines", fn := fun _ => fun
  | [d1, d2] => { results := [.lit (.bool true)], args := [d1, d2] }
  | _ => none }
def editLinesRow : OpenClaim := { program := "ytpclacofcfbpjaadoor", sum := "8b0423fe72184b53dc3097b9229f794e40bc2a14f2a3d4d8fb9e9e378f10bb50", func := "netverify/netverifylaw42.EditLines", spec := "editLines", inPlace := ["internal/bytealg.IndexByteString", "internal/bytealg.IndexString", "internal/abi.NoEscape"], named := ["internal/bytealg.MaxLen", "unicode/utf8.first", "unicode/utf8.acceptRanges"], apart := false, laid := [("unicode/utf8.acceptRanges", laid_unicode_utf8_acceptRanges), ("unicode/utf8.first", laid_unicode_utf8_first)] }
def EditLinesSaid : Prop := editLinesRow.holds Tryd.pinned (OpenSpec.ofChange editLinesSpec)

/-- ITS FALSE NEIGHBOUR: 'it returns false'. Refute it at one input. -/
def editLinesWrong : ChangeSpec := { name := "editLines", fn := fun _ => fun
  | [d1, d2] => { results := [.lit (.bool false)], args := [d1, d2] }
  | _ => none }
def EditLinesWrongFalsely : Prop := editLinesRow.holds Tryd.pinned (OpenSpec.ofChange editLinesWrong)

/-- 'netverifylaw42.EditReverses': WHATEVER THE INPUT: true; the input reads as it did. -/
def editReversesSpec : ChangeSpec := { name := "editReverses", fn := fun _ => fun
  | [d1, d2] => { results := [.lit (.bool true)], args := [d1, d2] }
  | _ => none }
def editReversesRow : OpenClaim := { program := "ytpclacofcfbpjaadoor", sum := "8b0423fe72184b53dc3097b9229f794e40bc2a14f2a3d4d8fb9e9e378f10bb50", func := "netverify/netverifylaw42.EditReverses", spec := "editReverses", inPlace := ["internal/bytealg.IndexByteString", "internal/bytealg.IndexString", "internal/abi.NoEscape"], named := ["internal/bytealg.MaxLen", "unicode/utf8.first", "unicode/utf8.acceptRanges"], apart := false, laid := [("unicode/utf8.acceptRanges", laid_unicode_utf8_acceptRanges), ("unicode/utf8.first", laid_unicode_utf8_first)] }
def EditReversesSaid : Prop := editReversesRow.holds Tryd.pinned (OpenSpec.ofChange editReversesSpec)

/-- ITS FALSE NEIGHBOUR: 'it returns false'. Refute it at one input. -/
def editReversesWrong : ChangeSpec := { name := "editReverses", fn := fun _ => fun
  | [d1, d2] => { results := [.lit (.bool false)], args := [d1, d2] }
  | _ => none }
def EditReversesWrongFalsely : Prop := editReversesRow.holds Tryd.pinned (OpenSpec.ofChange editReversesWrong)

/- THE SECOND FORM. 'bulk': how many values and letters a reading holds, each counted each time it is reached (what is shared counts as often as it is met; a slice's spare places count too). A statement '..UptoSaid' is the law's where the arguments, and the package variables that the reading takes, are together of bulk at most 1048576: NARROWER than '..Said'. Prove '..Said' where nothing that the law and all that it calls make is longer than what came in: it says more and counts as full. Else prove '..UptoSaid'. A law counts once. -/
mutual
def uptoBulk {H : Type} : DataW H → Nat
  | .lit (.string bytes) => bytes.length + 1
  | .lit _ => 1
  | .nil => 1
  | .ptr d => uptoBulk d + 1
  | .slice elems spare => uptoBulkAll elems + uptoBulkAll spare + 1
  | .agg parts => uptoBulkAll parts + 1
  | .iface _ d => uptoBulk d + 1
  | .map entries => uptoBulkEntries entries + 1
  | .held _ => 1
def uptoBulkAll {H : Type} : List (DataW H) → Nat
  | [] => 0
  | d :: r => uptoBulk d + uptoBulkAll r
def uptoBulkEntries {H : Type} : List (Lit × DataW H) → Nat
  | [] => 0
  | x :: r => uptoBulkEntry x + uptoBulkEntries r
def uptoBulkEntry {H : Type} : Lit × DataW H → Nat
  | (.string bytes, d) => bytes.length + uptoBulk d + 1
  | (_, d) => uptoBulk d + 1
 end
def uptoSmall : (H : Type) → List (DataW H) → Bool := fun _ ds => decide (uptoBulkAll ds ≤ 1048576)
def OpenSpec.upto (s : _root_.Go.ChangeSpec) : _root_.Go.OpenSpec := { _root_.Go.OpenSpec.ofChange s with cond := some uptoSmall }

/-- 'netverifylaw42.EditFlips', WHERE WHAT IT READS IS OF BULK AT MOST 1048576: true; the input reads as it did. -/
def editFlipsUptoRow : OpenClaim := { program := "ytpclacofcfbpjaadoor", sum := "8b0423fe72184b53dc3097b9229f794e40bc2a14f2a3d4d8fb9e9e378f10bb50", func := "netverify/netverifylaw42.EditFlips", spec := "editFlips", inPlace := ["internal/bytealg.IndexByteString", "internal/bytealg.IndexString", "internal/abi.NoEscape"], named := ["internal/bytealg.MaxLen", "unicode/utf8.first", "unicode/utf8.acceptRanges"], apart := false, laid := [("unicode/utf8.acceptRanges", laid_unicode_utf8_acceptRanges), ("unicode/utf8.first", laid_unicode_utf8_first)], narrowed := true }
def EditFlipsUptoSaid : Prop := editFlipsUptoRow.holds Tryd.pinned (OpenSpec.upto editFlipsSpec)

/-- 'netverifylaw42.EditFlipsWords', WHERE WHAT IT READS IS OF BULK AT MOST 1048576: true; the input reads as it did. -/
def editFlipsWordsUptoRow : OpenClaim := { program := "ytpclacofcfbpjaadoor", sum := "8b0423fe72184b53dc3097b9229f794e40bc2a14f2a3d4d8fb9e9e378f10bb50", func := "netverify/netverifylaw42.EditFlipsWords", spec := "editFlipsWords", inPlace := ["internal/bytealg.IndexByteString", "internal/bytealg.IndexString", "internal/abi.NoEscape"], named := ["internal/bytealg.MaxLen", "unicode/utf8.first", "unicode/utf8.acceptRanges"], apart := false, laid := [("unicode/utf8.acceptRanges", laid_unicode_utf8_acceptRanges), ("unicode/utf8.first", laid_unicode_utf8_first)], narrowed := true }
def EditFlipsWordsUptoSaid : Prop := editFlipsWordsUptoRow.holds Tryd.pinned (OpenSpec.upto editFlipsWordsSpec)

/-- 'netverifylaw42.EditApplies', WHERE WHAT IT READS IS OF BULK AT MOST 1048576: true; the input reads as it did. -/
def editAppliesUptoRow : OpenClaim := { program := "ytpclacofcfbpjaadoor", sum := "8b0423fe72184b53dc3097b9229f794e40bc2a14f2a3d4d8fb9e9e378f10bb50", func := "netverify/netverifylaw42.EditApplies", spec := "editApplies", inPlace := ["internal/bytealg.IndexByteString", "internal/bytealg.IndexString", "internal/abi.NoEscape"], named := ["internal/bytealg.MaxLen", "unicode/utf8.first", "unicode/utf8.acceptRanges"], apart := false, laid := [("unicode/utf8.acceptRanges", laid_unicode_utf8_acceptRanges), ("unicode/utf8.first", laid_unicode_utf8_first)], narrowed := true }
def EditAppliesUptoSaid : Prop := editAppliesUptoRow.holds Tryd.pinned (OpenSpec.upto editAppliesSpec)

/-- 'netverifylaw42.EditLines', WHERE WHAT IT READS IS OF BULK AT MOST 1048576: true; the input reads as it did. -/
def editLinesUptoRow : OpenClaim := { program := "ytpclacofcfbpjaadoor", sum := "8b0423fe72184b53dc3097b9229f794e40bc2a14f2a3d4d8fb9e9e378f10bb50", func := "netverify/netverifylaw42.EditLines", spec := "editLines", inPlace := ["internal/bytealg.IndexByteString", "internal/bytealg.IndexString", "internal/abi.NoEscape"], named := ["internal/bytealg.MaxLen", "unicode/utf8.first", "unicode/utf8.acceptRanges"], apart := false, laid := [("unicode/utf8.acceptRanges", laid_unicode_utf8_acceptRanges), ("unicode/utf8.first", laid_unicode_utf8_first)], narrowed := true }
def EditLinesUptoSaid : Prop := editLinesUptoRow.holds Tryd.pinned (OpenSpec.upto editLinesSpec)

/-- 'netverifylaw42.EditReverses', WHERE WHAT IT READS IS OF BULK AT MOST 1048576: true; the input reads as it did. -/
def editReversesUptoRow : OpenClaim := { program := "ytpclacofcfbpjaadoor", sum := "8b0423fe72184b53dc3097b9229f794e40bc2a14f2a3d4d8fb9e9e378f10bb50", func := "netverify/netverifylaw42.EditReverses", spec := "editReverses", inPlace := ["internal/bytealg.IndexByteString", "internal/bytealg.IndexString", "internal/abi.NoEscape"], named := ["internal/bytealg.MaxLen", "unicode/utf8.first", "unicode/utf8.acceptRanges"], apart := false, laid := [("unicode/utf8.acceptRanges", laid_unicode_utf8_acceptRanges), ("unicode/utf8.first", laid_unicode_utf8_first)], narrowed := true }
def EditReversesUptoSaid : Prop := editReversesUptoRow.holds Tryd.pinned (OpenSpec.upto editReversesSpec)

end Rows
end Go.Proofs.YtpclacofcfbpjaaDoor
