/-
  NARROWER THAN 'FOR EVERY INPUT', by the rows' own cells (each row's printed sentence says how): QueryValidity: laid · QueryTexts: laid · QueryFormats: laid · QueryFields: laid · QueryLists: laid · QueryManyLines: laid · QueryPartners: laid.
  DERIVED. THE GIVEN ROWS OF THIS SEAT. 7 by the template 'for every input the law returns true; each argument reads behind the call as it read before'; 0 by the template 'total and deterministic' (their statements: YtnhemjdmleilcaaDoorTotals.lean).
  GIVEN WITH THE SEED: the statements are not yours to turn. If you find one false, say at which input.
  Laid BY PROGRAM, IN A SANDBOX (cutbox-rows.mjs): the forced cells as the released guide's own fill.sh prints them over the translation 7b51103882d46d18… (all of the seat's roots in one cut). By AI agents, Wed Nov 11 2026. No macro, syntax, notation, axiom, sorry.
-/
import Derived.Test.YtnhemjdmleilcaaDoorChecked
import GoSem.PinnedTables
import GoSem.Claim
import GoSem.ClaimJoined
import GoSem.ClaimMapViews
import Derived.JoinedTies
import Derived.KernelRfl
namespace Go.Proofs.YtnhemjdmleilcaaDoor
/- THE CELL 'sum', in the pinned program and in every row, IS THE sha256 OF THE DUMP (.gsa) THAT YtnhemjdmleilcaaDoorProg.lean LOADS. Nothing in Lean hashes anything: it is a label: what it is worth is what the hold of that sum in a sandbox is worth. -/
noncomputable def Tryd.pinned : Pinned := { name := "ytnhemjdmleilcaadoor", sum := "7b51103882d46d18244392a7e3af70f7eaeae68b36878bb49d00a76c21caca80", checked := Tryd.checked }
namespace Rows
def none {H : Type} : Left H := { results := [], args := [] }

/- WHAT THE LISTED PACKAGE-LEVEL VARIABLES READ AS WHEN THE CALL BEGINS. Each datum BY PROGRAM (the guide's laid-datum.mjs) off the statement by which the dump's own 'gosem.cut.vars' lays the variable. In a bare row this is a premise. The card (YtnhemjdmleilcaaDoorCards.lean) ties it to the program's text. -/
def laid_math_bits_deBruijn32tab {H : Type} : DataW H := .agg [.lit (.int .u8 0), .lit (.int .u8 1), .lit (.int .u8 28), .lit (.int .u8 2), .lit (.int .u8 29), .lit (.int .u8 14), .lit (.int .u8 24), .lit (.int .u8 3), .lit (.int .u8 30), .lit (.int .u8 22), .lit (.int .u8 20), .lit (.int .u8 15), .lit (.int .u8 25), .lit (.int .u8 17), .lit (.int .u8 4), .lit (.int .u8 8), .lit (.int .u8 31), .lit (.int .u8 27), .lit (.int .u8 13), .lit (.int .u8 23), .lit (.int .u8 21), .lit (.int .u8 19), .lit (.int .u8 16), .lit (.int .u8 7), .lit (.int .u8 26), .lit (.int .u8 12), .lit (.int .u8 18), .lit (.int .u8 6), .lit (.int .u8 11), .lit (.int .u8 5), .lit (.int .u8 10), .lit (.int .u8 9)]
def laid_math_bits_deBruijn64tab {H : Type} : DataW H := .agg [.lit (.int .u8 0), .lit (.int .u8 1), .lit (.int .u8 56), .lit (.int .u8 2), .lit (.int .u8 57), .lit (.int .u8 49), .lit (.int .u8 28), .lit (.int .u8 3), .lit (.int .u8 61), .lit (.int .u8 58), .lit (.int .u8 42), .lit (.int .u8 50), .lit (.int .u8 38), .lit (.int .u8 29), .lit (.int .u8 17), .lit (.int .u8 4), .lit (.int .u8 62), .lit (.int .u8 47), .lit (.int .u8 59), .lit (.int .u8 36), .lit (.int .u8 45), .lit (.int .u8 43), .lit (.int .u8 51), .lit (.int .u8 22), .lit (.int .u8 53), .lit (.int .u8 39), .lit (.int .u8 33), .lit (.int .u8 30), .lit (.int .u8 24), .lit (.int .u8 18), .lit (.int .u8 12), .lit (.int .u8 5), .lit (.int .u8 63), .lit (.int .u8 55), .lit (.int .u8 48), .lit (.int .u8 27), .lit (.int .u8 60), .lit (.int .u8 41), .lit (.int .u8 37), .lit (.int .u8 16), .lit (.int .u8 46), .lit (.int .u8 35), .lit (.int .u8 44), .lit (.int .u8 21), .lit (.int .u8 52), .lit (.int .u8 32), .lit (.int .u8 23), .lit (.int .u8 11), .lit (.int .u8 54), .lit (.int .u8 26), .lit (.int .u8 40), .lit (.int .u8 15), .lit (.int .u8 34), .lit (.int .u8 20), .lit (.int .u8 31), .lit (.int .u8 10), .lit (.int .u8 25), .lit (.int .u8 14), .lit (.int .u8 19), .lit (.int .u8 9), .lit (.int .u8 13), .lit (.int .u8 8), .lit (.int .u8 7), .lit (.int .u8 6)]
def laid_internal_strconv_uint64pow10 {H : Type} : DataW H := .agg [.lit (.int .u64 1), .lit (.int .u64 10), .lit (.int .u64 100), .lit (.int .u64 1000), .lit (.int .u64 10000), .lit (.int .u64 100000), .lit (.int .u64 1000000), .lit (.int .u64 10000000), .lit (.int .u64 100000000), .lit (.int .u64 1000000000), .lit (.int .u64 10000000000), .lit (.int .u64 100000000000), .lit (.int .u64 1000000000000), .lit (.int .u64 10000000000000), .lit (.int .u64 100000000000000), .lit (.int .u64 1000000000000000), .lit (.int .u64 10000000000000000), .lit (.int .u64 100000000000000000), .lit (.int .u64 1000000000000000000), .lit (.int .u64 10000000000000000000)]
def laid_unicode_utf8_acceptRanges {H : Type} : DataW H := .agg [.agg [.lit (.int .u8 128), .lit (.int .u8 191)], .agg [.lit (.int .u8 160), .lit (.int .u8 191)], .agg [.lit (.int .u8 128), .lit (.int .u8 159)], .agg [.lit (.int .u8 144), .lit (.int .u8 191)], .agg [.lit (.int .u8 128), .lit (.int .u8 143)], .agg [.lit (.int .u8 0), .lit (.int .u8 0)], .agg [.lit (.int .u8 0), .lit (.int .u8 0)], .agg [.lit (.int .u8 0), .lit (.int .u8 0)], .agg [.lit (.int .u8 0), .lit (.int .u8 0)], .agg [.lit (.int .u8 0), .lit (.int .u8 0)], .agg [.lit (.int .u8 0), .lit (.int .u8 0)], .agg [.lit (.int .u8 0), .lit (.int .u8 0)], .agg [.lit (.int .u8 0), .lit (.int .u8 0)], .agg [.lit (.int .u8 0), .lit (.int .u8 0)], .agg [.lit (.int .u8 0), .lit (.int .u8 0)], .agg [.lit (.int .u8 0), .lit (.int .u8 0)]]
def laid_netverify_query_words {H : Type} : DataW H := .agg [.lit (.string [100, 101, 108, 105, 118, 101, 114]), .lit (.string [105, 115, 111, 108, 97, 116, 101]), .lit (.string [116, 114, 97, 118, 101, 114, 115, 101]), .lit (.string [108, 111, 111, 112, 108, 101, 115, 115]), .lit (.string [104, 111, 108, 101, 108, 101, 115, 115]), .lit (.string [101, 113, 117, 97, 116, 101])]
/-- One of Go's own tables, pinned by name: the form's constant. -/
def laid_unicode_utf8_first : DataW Unit := Go.Pinned.utf8First

/-- 'netverifylaw36.QueryValidity': WHATEVER THE INPUT: true; the input reads as it did. -/
def queryValiditySpec : ChangeSpec := { name := "queryValidity", fn := fun _ => fun
  | [d] => { results := [.lit (.bool true)], args := [d] }
  | _ => none }
def queryValidityRow : OpenClaim := { program := "ytnhemjdmleilcaadoor", sum := "7b51103882d46d18244392a7e3af70f7eaeae68b36878bb49d00a76c21caca80", func := "netverify/netverifylaw36.QueryValidity", spec := "queryValidity", inPlace := ["internal/bytealg.IndexByteString", "internal/bytealg.IndexString", "internal/bytealg.CountString"], named := ["internal/bytealg.MaxLen", "netverify/query.words", "unicode/utf8.first", "unicode/utf8.acceptRanges", "internal/strconv.uint64pow10", "math/bits.deBruijn32tab", "math/bits.deBruijn64tab"], apart := false, laid := [("math/bits.deBruijn32tab", laid_math_bits_deBruijn32tab), ("math/bits.deBruijn64tab", laid_math_bits_deBruijn64tab), ("internal/strconv.uint64pow10", laid_internal_strconv_uint64pow10), ("unicode/utf8.acceptRanges", laid_unicode_utf8_acceptRanges), ("netverify/query.words", laid_netverify_query_words), ("unicode/utf8.first", laid_unicode_utf8_first)] }
def QueryValiditySaid : Prop := queryValidityRow.holds Tryd.pinned (OpenSpec.ofChange queryValiditySpec)

/-- ITS FALSE NEIGHBOUR: 'it returns false'. Refute it at one input. -/
def queryValidityWrong : ChangeSpec := { name := "queryValidity", fn := fun _ => fun
  | [d] => { results := [.lit (.bool false)], args := [d] }
  | _ => none }
def QueryValidityWrongFalsely : Prop := queryValidityRow.holds Tryd.pinned (OpenSpec.ofChange queryValidityWrong)

/-- 'netverifylaw36.QueryTexts': WHATEVER THE INPUT: true; the input reads as it did. -/
def queryTextsSpec : ChangeSpec := { name := "queryTexts", fn := fun _ => fun
  | [d] => { results := [.lit (.bool true)], args := [d] }
  | _ => none }
def queryTextsRow : OpenClaim := { program := "ytnhemjdmleilcaadoor", sum := "7b51103882d46d18244392a7e3af70f7eaeae68b36878bb49d00a76c21caca80", func := "netverify/netverifylaw36.QueryTexts", spec := "queryTexts", inPlace := ["internal/bytealg.IndexByteString", "internal/bytealg.IndexString", "internal/bytealg.CountString"], named := ["internal/bytealg.MaxLen", "netverify/query.words", "unicode/utf8.first", "unicode/utf8.acceptRanges", "internal/strconv.uint64pow10", "math/bits.deBruijn32tab", "math/bits.deBruijn64tab"], apart := false, laid := [("math/bits.deBruijn32tab", laid_math_bits_deBruijn32tab), ("math/bits.deBruijn64tab", laid_math_bits_deBruijn64tab), ("internal/strconv.uint64pow10", laid_internal_strconv_uint64pow10), ("unicode/utf8.acceptRanges", laid_unicode_utf8_acceptRanges), ("netverify/query.words", laid_netverify_query_words), ("unicode/utf8.first", laid_unicode_utf8_first)] }
def QueryTextsSaid : Prop := queryTextsRow.holds Tryd.pinned (OpenSpec.ofChange queryTextsSpec)

/-- ITS FALSE NEIGHBOUR: 'it returns false'. Refute it at one input. -/
def queryTextsWrong : ChangeSpec := { name := "queryTexts", fn := fun _ => fun
  | [d] => { results := [.lit (.bool false)], args := [d] }
  | _ => none }
def QueryTextsWrongFalsely : Prop := queryTextsRow.holds Tryd.pinned (OpenSpec.ofChange queryTextsWrong)

/-- 'netverifylaw36.QueryFormats': WHATEVER THE INPUT: true; the input reads as it did. -/
def queryFormatsSpec : ChangeSpec := { name := "queryFormats", fn := fun _ => fun
  | [d] => { results := [.lit (.bool true)], args := [d] }
  | _ => none }
def queryFormatsRow : OpenClaim := { program := "ytnhemjdmleilcaadoor", sum := "7b51103882d46d18244392a7e3af70f7eaeae68b36878bb49d00a76c21caca80", func := "netverify/netverifylaw36.QueryFormats", spec := "queryFormats", inPlace := ["internal/bytealg.IndexByteString", "internal/bytealg.IndexString", "internal/bytealg.CountString"], recurses := true, named := ["internal/bytealg.MaxLen", "netverify/query.words", "unicode/utf8.first", "unicode/utf8.acceptRanges", "internal/strconv.uint64pow10", "math/bits.deBruijn32tab", "math/bits.deBruijn64tab"], apart := false, laid := [("math/bits.deBruijn32tab", laid_math_bits_deBruijn32tab), ("math/bits.deBruijn64tab", laid_math_bits_deBruijn64tab), ("internal/strconv.uint64pow10", laid_internal_strconv_uint64pow10), ("unicode/utf8.acceptRanges", laid_unicode_utf8_acceptRanges), ("netverify/query.words", laid_netverify_query_words), ("unicode/utf8.first", laid_unicode_utf8_first)] }
def QueryFormatsSaid : Prop := queryFormatsRow.holds Tryd.pinned (OpenSpec.ofChange queryFormatsSpec)

/-- ITS FALSE NEIGHBOUR: 'it returns false'. Refute it at one input. -/
def queryFormatsWrong : ChangeSpec := { name := "queryFormats", fn := fun _ => fun
  | [d] => { results := [.lit (.bool false)], args := [d] }
  | _ => none }
def QueryFormatsWrongFalsely : Prop := queryFormatsRow.holds Tryd.pinned (OpenSpec.ofChange queryFormatsWrong)

/-- 'netverifylaw36.QueryFields': WHATEVER THE INPUT: true; the input reads as it did. -/
def queryFieldsSpec : ChangeSpec := { name := "queryFields", fn := fun _ => fun
  | [d1, d2, d3] => { results := [.lit (.bool true)], args := [d1, d2, d3] }
  | _ => none }
def queryFieldsRow : OpenClaim := { program := "ytnhemjdmleilcaadoor", sum := "7b51103882d46d18244392a7e3af70f7eaeae68b36878bb49d00a76c21caca80", func := "netverify/netverifylaw36.QueryFields", spec := "queryFields", inPlace := ["internal/bytealg.IndexByteString", "internal/bytealg.IndexString", "internal/bytealg.CountString"], named := ["internal/bytealg.MaxLen", "netverify/query.words", "unicode/utf8.first", "unicode/utf8.acceptRanges", "internal/strconv.uint64pow10", "math/bits.deBruijn32tab", "math/bits.deBruijn64tab"], apart := false, laid := [("math/bits.deBruijn32tab", laid_math_bits_deBruijn32tab), ("math/bits.deBruijn64tab", laid_math_bits_deBruijn64tab), ("internal/strconv.uint64pow10", laid_internal_strconv_uint64pow10), ("unicode/utf8.acceptRanges", laid_unicode_utf8_acceptRanges), ("netverify/query.words", laid_netverify_query_words), ("unicode/utf8.first", laid_unicode_utf8_first)] }
def QueryFieldsSaid : Prop := queryFieldsRow.holds Tryd.pinned (OpenSpec.ofChange queryFieldsSpec)

/-- ITS FALSE NEIGHBOUR: 'it returns false'. Refute it at one input. -/
def queryFieldsWrong : ChangeSpec := { name := "queryFields", fn := fun _ => fun
  | [d1, d2, d3] => { results := [.lit (.bool false)], args := [d1, d2, d3] }
  | _ => none }
def QueryFieldsWrongFalsely : Prop := queryFieldsRow.holds Tryd.pinned (OpenSpec.ofChange queryFieldsWrong)

/-- 'netverifylaw36.QueryLists': WHATEVER THE INPUT: true; the input reads as it did. -/
def queryListsSpec : ChangeSpec := { name := "queryLists", fn := fun _ => fun
  | [d] => { results := [.lit (.bool true)], args := [d] }
  | _ => none }
def queryListsRow : OpenClaim := { program := "ytnhemjdmleilcaadoor", sum := "7b51103882d46d18244392a7e3af70f7eaeae68b36878bb49d00a76c21caca80", func := "netverify/netverifylaw36.QueryLists", spec := "queryLists", inPlace := ["internal/bytealg.IndexByteString", "internal/bytealg.IndexString", "internal/bytealg.CountString"], named := ["internal/bytealg.MaxLen", "netverify/query.words", "unicode/utf8.first", "unicode/utf8.acceptRanges", "internal/strconv.uint64pow10", "math/bits.deBruijn32tab", "math/bits.deBruijn64tab"], apart := false, laid := [("math/bits.deBruijn32tab", laid_math_bits_deBruijn32tab), ("math/bits.deBruijn64tab", laid_math_bits_deBruijn64tab), ("internal/strconv.uint64pow10", laid_internal_strconv_uint64pow10), ("unicode/utf8.acceptRanges", laid_unicode_utf8_acceptRanges), ("netverify/query.words", laid_netverify_query_words), ("unicode/utf8.first", laid_unicode_utf8_first)] }
def QueryListsSaid : Prop := queryListsRow.holds Tryd.pinned (OpenSpec.ofChange queryListsSpec)

/-- ITS FALSE NEIGHBOUR: 'it returns false'. Refute it at one input. -/
def queryListsWrong : ChangeSpec := { name := "queryLists", fn := fun _ => fun
  | [d] => { results := [.lit (.bool false)], args := [d] }
  | _ => none }
def QueryListsWrongFalsely : Prop := queryListsRow.holds Tryd.pinned (OpenSpec.ofChange queryListsWrong)

/-- 'netverifylaw36.QueryManyLines': WHATEVER THE INPUT: true; the input reads as it did. -/
def queryManyLinesSpec : ChangeSpec := { name := "queryManyLines", fn := fun _ => fun
  | [d1, d2] => { results := [.lit (.bool true)], args := [d1, d2] }
  | _ => none }
def queryManyLinesRow : OpenClaim := { program := "ytnhemjdmleilcaadoor", sum := "7b51103882d46d18244392a7e3af70f7eaeae68b36878bb49d00a76c21caca80", func := "netverify/netverifylaw36.QueryManyLines", spec := "queryManyLines", inPlace := ["internal/bytealg.IndexByteString", "internal/bytealg.IndexString", "internal/bytealg.CountString"], named := ["internal/bytealg.MaxLen", "netverify/query.words", "unicode/utf8.first", "unicode/utf8.acceptRanges", "internal/strconv.uint64pow10", "math/bits.deBruijn32tab", "math/bits.deBruijn64tab"], apart := false, laid := [("math/bits.deBruijn32tab", laid_math_bits_deBruijn32tab), ("math/bits.deBruijn64tab", laid_math_bits_deBruijn64tab), ("internal/strconv.uint64pow10", laid_internal_strconv_uint64pow10), ("unicode/utf8.acceptRanges", laid_unicode_utf8_acceptRanges), ("netverify/query.words", laid_netverify_query_words), ("unicode/utf8.first", laid_unicode_utf8_first)] }
def QueryManyLinesSaid : Prop := queryManyLinesRow.holds Tryd.pinned (OpenSpec.ofChange queryManyLinesSpec)

/-- ITS FALSE NEIGHBOUR: 'it returns false'. Refute it at one input. -/
def queryManyLinesWrong : ChangeSpec := { name := "queryManyLines", fn := fun _ => fun
  | [d1, d2] => { results := [.lit (.bool false)], args := [d1, d2] }
  | _ => none }
def QueryManyLinesWrongFalsely : Prop := queryManyLinesRow.holds Tryd.pinned (OpenSpec.ofChange queryManyLinesWrong)

/-- 'netverifylaw36.QueryPartners': WHATEVER THE INPUT: true; the input reads as it did. -/
def queryPartnersSpec : ChangeSpec := { name := "queryPartners", fn := fun _ => fun
  | [d1, d2, d3, d4, d5, d6] => { results := [.lit (.bool true)], args := [d1, d2, d3, d4, d5, d6] }
  | _ => none }
def queryPartnersRow : OpenClaim := { program := "ytnhemjdmleilcaadoor", sum := "7b51103882d46d18244392a7e3af70f7eaeae68b36878bb49d00a76c21caca80", func := "netverify/netverifylaw36.QueryPartners", spec := "queryPartners", inPlace := ["internal/bytealg.IndexByteString", "internal/bytealg.IndexString", "internal/bytealg.CountString"], named := ["internal/bytealg.MaxLen", "netverify/query.words", "unicode/utf8.first", "unicode/utf8.acceptRanges", "internal/strconv.uint64pow10", "math/bits.deBruijn32tab", "math/bits.deBruijn64tab"], apart := false, laid := [("math/bits.deBruijn32tab", laid_math_bits_deBruijn32tab), ("math/bits.deBruijn64tab", laid_math_bits_deBruijn64tab), ("internal/strconv.uint64pow10", laid_internal_strconv_uint64pow10), ("unicode/utf8.acceptRanges", laid_unicode_utf8_acceptRanges), ("netverify/query.words", laid_netverify_query_words), ("unicode/utf8.first", laid_unicode_utf8_first)] }
def QueryPartnersSaid : Prop := queryPartnersRow.holds Tryd.pinned (OpenSpec.ofChange queryPartnersSpec)

/-- ITS FALSE NEIGHBOUR: 'it returns false'. Refute it at one input. -/
def queryPartnersWrong : ChangeSpec := { name := "queryPartners", fn := fun _ => fun
  | [d1, d2, d3, d4, d5, d6] => { results := [.lit (.bool false)], args := [d1, d2, d3, d4, d5, d6] }
  | _ => none }
def QueryPartnersWrongFalsely : Prop := queryPartnersRow.holds Tryd.pinned (OpenSpec.ofChange queryPartnersWrong)

/- THE SECOND FORM. 'bulk': how many values and letters a reading holds, each counted each time it is reached (what is shared counts as often as it is met; a slice's spare places count too). A statement '..UptoSaid' is the law's where the arguments, and the package variables that the reading takes, are together of bulk at most 1048576: NARROWER than '..Said'. Prove '..Said' where nothing that the law and all that it calls make is longer than what came in: it says more and counts as full. Else prove '..UptoSaid'. A law counts once. -/
mutual
def uptoBulk {H : Type} : DataW H → Nat
  | .lit (.string bytes) => bytes.length + 1
  | .lit _ => 1
  | .nil => 1
  | .ptr d => uptoBulk d + 1
  | .slice elems spare => uptoBulkAll elems + uptoBulkAll spare + 1
  | .agg parts => uptoBulkAll parts + 1
  | .iface _ d => uptoBulk d + 1
  | .map entries => uptoBulkEntries entries + 1
  | .held _ => 1
def uptoBulkAll {H : Type} : List (DataW H) → Nat
  | [] => 0
  | d :: r => uptoBulk d + uptoBulkAll r
def uptoBulkEntries {H : Type} : List (Lit × DataW H) → Nat
  | [] => 0
  | x :: r => uptoBulkEntry x + uptoBulkEntries r
def uptoBulkEntry {H : Type} : Lit × DataW H → Nat
  | (.string bytes, d) => bytes.length + uptoBulk d + 1
  | (_, d) => uptoBulk d + 1
 end
def uptoSmall : (H : Type) → List (DataW H) → Bool := fun _ ds => decide (uptoBulkAll ds ≤ 1048576)
def OpenSpec.upto (s : _root_.Go.ChangeSpec) : _root_.Go.OpenSpec := { _root_.Go.OpenSpec.ofChange s with cond := some uptoSmall }

/-- 'netverifylaw36.QueryValidity', WHERE WHAT IT READS IS OF BULK AT MOST 1048576: true; the input reads as it did. -/
def queryValidityUptoRow : OpenClaim := { program := "ytnhemjdmleilcaadoor", sum := "7b51103882d46d18244392a7e3af70f7eaeae68b36878bb49d00a76c21caca80", func := "netverify/netverifylaw36.QueryValidity", spec := "queryValidity", inPlace := ["internal/bytealg.IndexByteString", "internal/bytealg.IndexString", "internal/bytealg.CountString"], named := ["internal/bytealg.MaxLen", "netverify/query.words", "unicode/utf8.first", "unicode/utf8.acceptRanges", "internal/strconv.uint64pow10", "math/bits.deBruijn32tab", "math/bits.deBruijn64tab"], apart := false, laid := [("math/bits.deBruijn32tab", laid_math_bits_deBruijn32tab), ("math/bits.deBruijn64tab", laid_math_bits_deBruijn64tab), ("internal/strconv.uint64pow10", laid_internal_strconv_uint64pow10), ("unicode/utf8.acceptRanges", laid_unicode_utf8_acceptRanges), ("netverify/query.words", laid_netverify_query_words), ("unicode/utf8.first", laid_unicode_utf8_first)], narrowed := true }
def QueryValidityUptoSaid : Prop := queryValidityUptoRow.holds Tryd.pinned (OpenSpec.upto queryValiditySpec)

/-- 'netverifylaw36.QueryTexts', WHERE WHAT IT READS IS OF BULK AT MOST 1048576: true; the input reads as it did. -/
def queryTextsUptoRow : OpenClaim := { program := "ytnhemjdmleilcaadoor", sum := "7b51103882d46d18244392a7e3af70f7eaeae68b36878bb49d00a76c21caca80", func := "netverify/netverifylaw36.QueryTexts", spec := "queryTexts", inPlace := ["internal/bytealg.IndexByteString", "internal/bytealg.IndexString", "internal/bytealg.CountString"], named := ["internal/bytealg.MaxLen", "netverify/query.words", "unicode/utf8.first", "unicode/utf8.acceptRanges", "internal/strconv.uint64pow10", "math/bits.deBruijn32tab", "math/bits.deBruijn64tab"], apart := false, laid := [("math/bits.deBruijn32tab", laid_math_bits_deBruijn32tab), ("math/bits.deBruijn64tab", laid_math_bits_deBruijn64tab), ("internal/strconv.uint64pow10", laid_internal_strconv_uint64pow10), ("unicode/utf8.acceptRanges", laid_unicode_utf8_acceptRanges), ("netverify/query.words", laid_netverify_query_words), ("unicode/utf8.first", laid_unicode_utf8_first)], narrowed := true }
def QueryTextsUptoSaid : Prop := queryTextsUptoRow.holds Tryd.pinned (OpenSpec.upto queryTextsSpec)

/-- 'netverifylaw36.QueryFormats', WHERE WHAT IT READS IS OF BULK AT MOST 1048576: true; the input reads as it did. -/
def queryFormatsUptoRow : OpenClaim := { program := "ytnhemjdmleilcaadoor", sum := "7b51103882d46d18244392a7e3af70f7eaeae68b36878bb49d00a76c21caca80", func := "netverify/netverifylaw36.QueryFormats", spec := "queryFormats", inPlace := ["internal/bytealg.IndexByteString", "internal/bytealg.IndexString", "internal/bytealg.CountString"], recurses := true, named := ["internal/bytealg.MaxLen", "netverify/query.words", "unicode/utf8.first", "unicode/utf8.acceptRanges", "internal/strconv.uint64pow10", "math/bits.deBruijn32tab", "math/bits.deBruijn64tab"], apart := false, laid := [("math/bits.deBruijn32tab", laid_math_bits_deBruijn32tab), ("math/bits.deBruijn64tab", laid_math_bits_deBruijn64tab), ("internal/strconv.uint64pow10", laid_internal_strconv_uint64pow10), ("unicode/utf8.acceptRanges", laid_unicode_utf8_acceptRanges), ("netverify/query.words", laid_netverify_query_words), ("unicode/utf8.first", laid_unicode_utf8_first)], narrowed := true }
def QueryFormatsUptoSaid : Prop := queryFormatsUptoRow.holds Tryd.pinned (OpenSpec.upto queryFormatsSpec)

/-- 'netverifylaw36.QueryFields', WHERE WHAT IT READS IS OF BULK AT MOST 1048576: true; the input reads as it did. -/
def queryFieldsUptoRow : OpenClaim := { program := "ytnhemjdmleilcaadoor", sum := "7b51103882d46d18244392a7e3af70f7eaeae68b36878bb49d00a76c21caca80", func := "netverify/netverifylaw36.QueryFields", spec := "queryFields", inPlace := ["internal/bytealg.IndexByteString", "internal/bytealg.IndexString", "internal/bytealg.CountString"], named := ["internal/bytealg.MaxLen", "netverify/query.words", "unicode/utf8.first", "unicode/utf8.acceptRanges", "internal/strconv.uint64pow10", "math/bits.deBruijn32tab", "math/bits.deBruijn64tab"], apart := false, laid := [("math/bits.deBruijn32tab", laid_math_bits_deBruijn32tab), ("math/bits.deBruijn64tab", laid_math_bits_deBruijn64tab), ("internal/strconv.uint64pow10", laid_internal_strconv_uint64pow10), ("unicode/utf8.acceptRanges", laid_unicode_utf8_acceptRanges), ("netverify/query.words", laid_netverify_query_words), ("unicode/utf8.first", laid_unicode_utf8_first)], narrowed := true }
def QueryFieldsUptoSaid : Prop := queryFieldsUptoRow.holds Tryd.pinned (OpenSpec.upto queryFieldsSpec)

/-- 'netverifylaw36.QueryLists', WHERE WHAT IT READS IS OF BULK AT MOST 1048576: true; the input reads as it did. -/
def queryListsUptoRow : OpenClaim := { program := "ytnhemjdmleilcaadoor", sum := "7b51103882d46d18244392a7e3af70f7eaeae68b36878bb49d00a76c21caca80", func := "netverify/netverifylaw36.QueryLists", spec := "queryLists", inPlace := ["internal/bytealg.IndexByteString", "internal/bytealg.IndexString", "internal/bytealg.CountString"], named := ["internal/bytealg.MaxLen", "netverify/query.words", "unicode/utf8.first", "unicode/utf8.acceptRanges", "internal/strconv.uint64pow10", "math/bits.deBruijn32tab", "math/bits.deBruijn64tab"], apart := false, laid := [("math/bits.deBruijn32tab", laid_math_bits_deBruijn32tab), ("math/bits.deBruijn64tab", laid_math_bits_deBruijn64tab), ("internal/strconv.uint64pow10", laid_internal_strconv_uint64pow10), ("unicode/utf8.acceptRanges", laid_unicode_utf8_acceptRanges), ("netverify/query.words", laid_netverify_query_words), ("unicode/utf8.first", laid_unicode_utf8_first)], narrowed := true }
def QueryListsUptoSaid : Prop := queryListsUptoRow.holds Tryd.pinned (OpenSpec.upto queryListsSpec)

/-- 'netverifylaw36.QueryManyLines', WHERE WHAT IT READS IS OF BULK AT MOST 1048576: true; the input reads as it did. -/
def queryManyLinesUptoRow : OpenClaim := { program := "ytnhemjdmleilcaadoor", sum := "7b51103882d46d18244392a7e3af70f7eaeae68b36878bb49d00a76c21caca80", func := "netverify/netverifylaw36.QueryManyLines", spec := "queryManyLines", inPlace := ["internal/bytealg.IndexByteString", "internal/bytealg.IndexString", "internal/bytealg.CountString"], named := ["internal/bytealg.MaxLen", "netverify/query.words", "unicode/utf8.first", "unicode/utf8.acceptRanges", "internal/strconv.uint64pow10", "math/bits.deBruijn32tab", "math/bits.deBruijn64tab"], apart := false, laid := [("math/bits.deBruijn32tab", laid_math_bits_deBruijn32tab), ("math/bits.deBruijn64tab", laid_math_bits_deBruijn64tab), ("internal/strconv.uint64pow10", laid_internal_strconv_uint64pow10), ("unicode/utf8.acceptRanges", laid_unicode_utf8_acceptRanges), ("netverify/query.words", laid_netverify_query_words), ("unicode/utf8.first", laid_unicode_utf8_first)], narrowed := true }
def QueryManyLinesUptoSaid : Prop := queryManyLinesUptoRow.holds Tryd.pinned (OpenSpec.upto queryManyLinesSpec)

/-- 'netverifylaw36.QueryPartners', WHERE WHAT IT READS IS OF BULK AT MOST 1048576: true; the input reads as it did. -/
def queryPartnersUptoRow : OpenClaim := { program := "ytnhemjdmleilcaadoor", sum := "7b51103882d46d18244392a7e3af70f7eaeae68b36878bb49d00a76c21caca80", func := "netverify/netverifylaw36.QueryPartners", spec := "queryPartners", inPlace := ["internal/bytealg.IndexByteString", "internal/bytealg.IndexString", "internal/bytealg.CountString"], named := ["internal/bytealg.MaxLen", "netverify/query.words", "unicode/utf8.first", "unicode/utf8.acceptRanges", "internal/strconv.uint64pow10", "math/bits.deBruijn32tab", "math/bits.deBruijn64tab"], apart := false, laid := [("math/bits.deBruijn32tab", laid_math_bits_deBruijn32tab), ("math/bits.deBruijn64tab", laid_math_bits_deBruijn64tab), ("internal/strconv.uint64pow10", laid_internal_strconv_uint64pow10), ("unicode/utf8.acceptRanges", laid_unicode_utf8_acceptRanges), ("netverify/query.words", laid_netverify_query_words), ("unicode/utf8.first", laid_unicode_utf8_first)], narrowed := true }
def QueryPartnersUptoSaid : Prop := queryPartnersUptoRow.holds Tryd.pinned (OpenSpec.upto queryPartnersSpec)

end Rows
end Go.Proofs.YtnhemjdmleilcaaDoor
