/-
  NARROWER THAN 'FOR EVERY INPUT', by the rows' own cells (each row's printed sentence says how): TouchFinds: laid · TouchRests: laid · TouchLevels: laid · TouchVerifies: laid · TouchBears: laid · TouchProves: laid · TouchPlaces: laid · TouchFaces: laid.
  DERIVED. THE GIVEN ROWS OF THIS SEAT. 8 by the template 'for every input the law returns true; each argument reads behind the call as it read before'; 0 by the template 'total and deterministic' (their statements: YtgepmbjmaljgoaaGreatDoorTotals.lean).
  GIVEN WITH THE SEED: the statements are not yours to turn. If you find one false, say at which input.
  Laid BY PROGRAM, IN A SANDBOX (cutbox-rows.mjs): the forced cells as the released guide's own fill.sh prints them over the translation 918ef6fed47fca89… (all of the seat's roots in one cut). By AI agents, Wed Nov 11 2026. No macro, syntax, notation, axiom, sorry.
-/
import Derived.Test.YtgepmbjmaljgoaaGreatDoorChecked
import GoSem.PinnedTables
import GoSem.Claim
import GoSem.ClaimJoined
import GoSem.ClaimMapViews
import Derived.JoinedTies
import Derived.KernelRfl
namespace Go.Proofs.YtgepmbjmaljgoaaGreatDoor
/- THE CELL 'sum', in the pinned program and in every row, IS THE sha256 OF THE DUMP (.gsa) THAT YtgepmbjmaljgoaaGreatDoorProg.lean LOADS. Nothing in Lean hashes anything: it is a label: what it is worth is what the hold of that sum in a sandbox is worth. -/
noncomputable def Tryz.pinned : Pinned := { name := "ytgepmbjmaljgoaagreatdoor", sum := "918ef6fed47fca89fff3a1510498d93ef366546c7b4d8d848c876a391b788d98", checked := Tryz.checked }
namespace Rows
def none {H : Type} : Left H := { results := [], args := [] }

/- WHAT THE LISTED PACKAGE-LEVEL VARIABLES READ AS WHEN THE CALL BEGINS. Each datum BY PROGRAM (the guide's laid-datum.mjs) off the statement by which the dump's own 'gosem.cut.vars' lays the variable. In a bare row this is a premise. The card (YtgepmbjmaljgoaaGreatDoorCards.lean) ties it to the program's text. -/
def laid_math_bits_deBruijn32tab {H : Type} : DataW H := .agg [.lit (.int .u8 0), .lit (.int .u8 1), .lit (.int .u8 28), .lit (.int .u8 2), .lit (.int .u8 29), .lit (.int .u8 14), .lit (.int .u8 24), .lit (.int .u8 3), .lit (.int .u8 30), .lit (.int .u8 22), .lit (.int .u8 20), .lit (.int .u8 15), .lit (.int .u8 25), .lit (.int .u8 17), .lit (.int .u8 4), .lit (.int .u8 8), .lit (.int .u8 31), .lit (.int .u8 27), .lit (.int .u8 13), .lit (.int .u8 23), .lit (.int .u8 21), .lit (.int .u8 19), .lit (.int .u8 16), .lit (.int .u8 7), .lit (.int .u8 26), .lit (.int .u8 12), .lit (.int .u8 18), .lit (.int .u8 6), .lit (.int .u8 11), .lit (.int .u8 5), .lit (.int .u8 10), .lit (.int .u8 9)]
def laid_math_bits_deBruijn64tab {H : Type} : DataW H := .agg [.lit (.int .u8 0), .lit (.int .u8 1), .lit (.int .u8 56), .lit (.int .u8 2), .lit (.int .u8 57), .lit (.int .u8 49), .lit (.int .u8 28), .lit (.int .u8 3), .lit (.int .u8 61), .lit (.int .u8 58), .lit (.int .u8 42), .lit (.int .u8 50), .lit (.int .u8 38), .lit (.int .u8 29), .lit (.int .u8 17), .lit (.int .u8 4), .lit (.int .u8 62), .lit (.int .u8 47), .lit (.int .u8 59), .lit (.int .u8 36), .lit (.int .u8 45), .lit (.int .u8 43), .lit (.int .u8 51), .lit (.int .u8 22), .lit (.int .u8 53), .lit (.int .u8 39), .lit (.int .u8 33), .lit (.int .u8 30), .lit (.int .u8 24), .lit (.int .u8 18), .lit (.int .u8 12), .lit (.int .u8 5), .lit (.int .u8 63), .lit (.int .u8 55), .lit (.int .u8 48), .lit (.int .u8 27), .lit (.int .u8 60), .lit (.int .u8 41), .lit (.int .u8 37), .lit (.int .u8 16), .lit (.int .u8 46), .lit (.int .u8 35), .lit (.int .u8 44), .lit (.int .u8 21), .lit (.int .u8 52), .lit (.int .u8 32), .lit (.int .u8 23), .lit (.int .u8 11), .lit (.int .u8 54), .lit (.int .u8 26), .lit (.int .u8 40), .lit (.int .u8 15), .lit (.int .u8 34), .lit (.int .u8 20), .lit (.int .u8 31), .lit (.int .u8 10), .lit (.int .u8 25), .lit (.int .u8 14), .lit (.int .u8 19), .lit (.int .u8 9), .lit (.int .u8 13), .lit (.int .u8 8), .lit (.int .u8 7), .lit (.int .u8 6)]
def laid_internal_strconv_uint64pow10 {H : Type} : DataW H := .agg [.lit (.int .u64 1), .lit (.int .u64 10), .lit (.int .u64 100), .lit (.int .u64 1000), .lit (.int .u64 10000), .lit (.int .u64 100000), .lit (.int .u64 1000000), .lit (.int .u64 10000000), .lit (.int .u64 100000000), .lit (.int .u64 1000000000), .lit (.int .u64 10000000000), .lit (.int .u64 100000000000), .lit (.int .u64 1000000000000), .lit (.int .u64 10000000000000), .lit (.int .u64 100000000000000), .lit (.int .u64 1000000000000000), .lit (.int .u64 10000000000000000), .lit (.int .u64 100000000000000000), .lit (.int .u64 1000000000000000000), .lit (.int .u64 10000000000000000000)]
def laid_unicode_utf8_acceptRanges {H : Type} : DataW H := .agg [.agg [.lit (.int .u8 128), .lit (.int .u8 191)], .agg [.lit (.int .u8 160), .lit (.int .u8 191)], .agg [.lit (.int .u8 128), .lit (.int .u8 159)], .agg [.lit (.int .u8 144), .lit (.int .u8 191)], .agg [.lit (.int .u8 128), .lit (.int .u8 143)], .agg [.lit (.int .u8 0), .lit (.int .u8 0)], .agg [.lit (.int .u8 0), .lit (.int .u8 0)], .agg [.lit (.int .u8 0), .lit (.int .u8 0)], .agg [.lit (.int .u8 0), .lit (.int .u8 0)], .agg [.lit (.int .u8 0), .lit (.int .u8 0)], .agg [.lit (.int .u8 0), .lit (.int .u8 0)], .agg [.lit (.int .u8 0), .lit (.int .u8 0)], .agg [.lit (.int .u8 0), .lit (.int .u8 0)], .agg [.lit (.int .u8 0), .lit (.int .u8 0)], .agg [.lit (.int .u8 0), .lit (.int .u8 0)], .agg [.lit (.int .u8 0), .lit (.int .u8 0)]]
def laid_strconv_ErrRange {H : Type} : DataW H := .iface "*errors.errorString" (.ptr (.agg [.lit (.string [118, 97, 108, 117, 101, 32, 111, 117, 116, 32, 111, 102, 32, 114, 97, 110, 103, 101])]))
def laid_strconv_ErrSyntax {H : Type} : DataW H := .iface "*errors.errorString" (.ptr (.agg [.lit (.string [105, 110, 118, 97, 108, 105, 100, 32, 115, 121, 110, 116, 97, 120])]))
def laid_metrolab_touch_others {H : Type} : DataW H := .agg [.agg [.lit (.int .i64 1), .lit (.int .i64 2)], .agg [.lit (.int .i64 0), .lit (.int .i64 2)], .agg [.lit (.int .i64 0), .lit (.int .i64 1)]]
/-- One of Go's own tables, pinned by name: the form's constant. -/
def laid_unicode_utf8_first : DataW Unit := Go.Pinned.utf8First

/-- 'metrolablaw41.TouchFinds': WHATEVER THE INPUT: true; the input reads as it did. -/
def touchFindsSpec : ChangeSpec := { name := "touchFinds", fn := fun _ => fun
  | [d1, d2] => { results := [.lit (.bool true)], args := [d1, d2] }
  | _ => none }
def touchFindsRow : OpenClaim := { program := "ytgepmbjmaljgoaagreatdoor", sum := "918ef6fed47fca89fff3a1510498d93ef366546c7b4d8d848c876a391b788d98", func := "metrolab/metrolablaw41.TouchFinds", spec := "touchFinds", inPlace := ["internal/bytealg.IndexByteString", "internal/bytealg.IndexString", "internal/abi.NoEscape", "internal/bytealg.abigen_runtime_cmpstring"], unfollowed := true, recurses := true, named := ["metrolab/touch.others", "internal/strconv.uint64pow10", "math/bits.deBruijn32tab", "math/bits.deBruijn64tab", "unicode/utf8.first", "unicode/utf8.acceptRanges", "strconv.ErrSyntax", "strconv.ErrRange", "internal/bytealg.MaxLen"], apart := false, laid := [("math/bits.deBruijn32tab", laid_math_bits_deBruijn32tab), ("math/bits.deBruijn64tab", laid_math_bits_deBruijn64tab), ("internal/strconv.uint64pow10", laid_internal_strconv_uint64pow10), ("unicode/utf8.acceptRanges", laid_unicode_utf8_acceptRanges), ("strconv.ErrRange", laid_strconv_ErrRange), ("strconv.ErrSyntax", laid_strconv_ErrSyntax), ("metrolab/touch.others", laid_metrolab_touch_others), ("unicode/utf8.first", laid_unicode_utf8_first)] }
def TouchFindsSaid : Prop := touchFindsRow.holds Tryz.pinned (OpenSpec.ofChange touchFindsSpec)

/-- ITS FALSE NEIGHBOUR: 'it returns false'. Refute it at one input. -/
def touchFindsWrong : ChangeSpec := { name := "touchFinds", fn := fun _ => fun
  | [d1, d2] => { results := [.lit (.bool false)], args := [d1, d2] }
  | _ => none }
def TouchFindsWrongFalsely : Prop := touchFindsRow.holds Tryz.pinned (OpenSpec.ofChange touchFindsWrong)

/-- 'metrolablaw41.TouchRests': WHATEVER THE INPUT: true; the input reads as it did. -/
def touchRestsSpec : ChangeSpec := { name := "touchRests", fn := fun _ => fun
  | [d1, d2, d3] => { results := [.lit (.bool true)], args := [d1, d2, d3] }
  | _ => none }
def touchRestsRow : OpenClaim := { program := "ytgepmbjmaljgoaagreatdoor", sum := "918ef6fed47fca89fff3a1510498d93ef366546c7b4d8d848c876a391b788d98", func := "metrolab/metrolablaw41.TouchRests", spec := "touchRests", inPlace := ["internal/bytealg.IndexByteString", "internal/bytealg.IndexString", "internal/abi.NoEscape", "internal/bytealg.abigen_runtime_cmpstring"], unfollowed := true, recurses := true, named := ["metrolab/touch.others", "internal/strconv.uint64pow10", "math/bits.deBruijn32tab", "math/bits.deBruijn64tab", "unicode/utf8.first", "unicode/utf8.acceptRanges", "strconv.ErrSyntax", "strconv.ErrRange", "internal/bytealg.MaxLen"], apart := false, laid := [("math/bits.deBruijn32tab", laid_math_bits_deBruijn32tab), ("math/bits.deBruijn64tab", laid_math_bits_deBruijn64tab), ("internal/strconv.uint64pow10", laid_internal_strconv_uint64pow10), ("unicode/utf8.acceptRanges", laid_unicode_utf8_acceptRanges), ("strconv.ErrRange", laid_strconv_ErrRange), ("strconv.ErrSyntax", laid_strconv_ErrSyntax), ("metrolab/touch.others", laid_metrolab_touch_others), ("unicode/utf8.first", laid_unicode_utf8_first)] }
def TouchRestsSaid : Prop := touchRestsRow.holds Tryz.pinned (OpenSpec.ofChange touchRestsSpec)

/-- ITS FALSE NEIGHBOUR: 'it returns false'. Refute it at one input. -/
def touchRestsWrong : ChangeSpec := { name := "touchRests", fn := fun _ => fun
  | [d1, d2, d3] => { results := [.lit (.bool false)], args := [d1, d2, d3] }
  | _ => none }
def TouchRestsWrongFalsely : Prop := touchRestsRow.holds Tryz.pinned (OpenSpec.ofChange touchRestsWrong)

/-- 'metrolablaw41.TouchLevels': WHATEVER THE INPUT: true; the input reads as it did. -/
def touchLevelsSpec : ChangeSpec := { name := "touchLevels", fn := fun _ => fun
  | [d1, d2, d3] => { results := [.lit (.bool true)], args := [d1, d2, d3] }
  | _ => none }
def touchLevelsRow : OpenClaim := { program := "ytgepmbjmaljgoaagreatdoor", sum := "918ef6fed47fca89fff3a1510498d93ef366546c7b4d8d848c876a391b788d98", func := "metrolab/metrolablaw41.TouchLevels", spec := "touchLevels", inPlace := ["internal/bytealg.IndexByteString", "internal/bytealg.IndexString", "internal/abi.NoEscape", "internal/bytealg.abigen_runtime_cmpstring"], unfollowed := true, recurses := true, named := ["metrolab/touch.others", "internal/strconv.uint64pow10", "math/bits.deBruijn32tab", "math/bits.deBruijn64tab", "unicode/utf8.first", "unicode/utf8.acceptRanges", "strconv.ErrSyntax", "strconv.ErrRange", "internal/bytealg.MaxLen"], apart := false, laid := [("math/bits.deBruijn32tab", laid_math_bits_deBruijn32tab), ("math/bits.deBruijn64tab", laid_math_bits_deBruijn64tab), ("internal/strconv.uint64pow10", laid_internal_strconv_uint64pow10), ("unicode/utf8.acceptRanges", laid_unicode_utf8_acceptRanges), ("strconv.ErrRange", laid_strconv_ErrRange), ("strconv.ErrSyntax", laid_strconv_ErrSyntax), ("metrolab/touch.others", laid_metrolab_touch_others), ("unicode/utf8.first", laid_unicode_utf8_first)] }
def TouchLevelsSaid : Prop := touchLevelsRow.holds Tryz.pinned (OpenSpec.ofChange touchLevelsSpec)

/-- ITS FALSE NEIGHBOUR: 'it returns false'. Refute it at one input. -/
def touchLevelsWrong : ChangeSpec := { name := "touchLevels", fn := fun _ => fun
  | [d1, d2, d3] => { results := [.lit (.bool false)], args := [d1, d2, d3] }
  | _ => none }
def TouchLevelsWrongFalsely : Prop := touchLevelsRow.holds Tryz.pinned (OpenSpec.ofChange touchLevelsWrong)

/-- 'metrolablaw41.TouchVerifies': WHATEVER THE INPUT: true; the input reads as it did. -/
def touchVerifiesSpec : ChangeSpec := { name := "touchVerifies", fn := fun _ => fun
  | [d1, d2] => { results := [.lit (.bool true)], args := [d1, d2] }
  | _ => none }
def touchVerifiesRow : OpenClaim := { program := "ytgepmbjmaljgoaagreatdoor", sum := "918ef6fed47fca89fff3a1510498d93ef366546c7b4d8d848c876a391b788d98", func := "metrolab/metrolablaw41.TouchVerifies", spec := "touchVerifies", inPlace := ["internal/bytealg.IndexByteString", "internal/bytealg.IndexString", "internal/abi.NoEscape", "internal/bytealg.abigen_runtime_cmpstring"], unfollowed := true, recurses := true, named := ["metrolab/touch.others", "internal/strconv.uint64pow10", "math/bits.deBruijn32tab", "math/bits.deBruijn64tab", "unicode/utf8.first", "unicode/utf8.acceptRanges", "strconv.ErrSyntax", "strconv.ErrRange", "internal/bytealg.MaxLen"], apart := false, laid := [("math/bits.deBruijn32tab", laid_math_bits_deBruijn32tab), ("math/bits.deBruijn64tab", laid_math_bits_deBruijn64tab), ("internal/strconv.uint64pow10", laid_internal_strconv_uint64pow10), ("unicode/utf8.acceptRanges", laid_unicode_utf8_acceptRanges), ("strconv.ErrRange", laid_strconv_ErrRange), ("strconv.ErrSyntax", laid_strconv_ErrSyntax), ("metrolab/touch.others", laid_metrolab_touch_others), ("unicode/utf8.first", laid_unicode_utf8_first)] }
def TouchVerifiesSaid : Prop := touchVerifiesRow.holds Tryz.pinned (OpenSpec.ofChange touchVerifiesSpec)

/-- ITS FALSE NEIGHBOUR: 'it returns false'. Refute it at one input. -/
def touchVerifiesWrong : ChangeSpec := { name := "touchVerifies", fn := fun _ => fun
  | [d1, d2] => { results := [.lit (.bool false)], args := [d1, d2] }
  | _ => none }
def TouchVerifiesWrongFalsely : Prop := touchVerifiesRow.holds Tryz.pinned (OpenSpec.ofChange touchVerifiesWrong)

/-- 'metrolablaw41.TouchBears': WHATEVER THE INPUT: true; the input reads as it did. -/
def touchBearsSpec : ChangeSpec := { name := "touchBears", fn := fun _ => fun
  | [d1, d2, d3] => { results := [.lit (.bool true)], args := [d1, d2, d3] }
  | _ => none }
def touchBearsRow : OpenClaim := { program := "ytgepmbjmaljgoaagreatdoor", sum := "918ef6fed47fca89fff3a1510498d93ef366546c7b4d8d848c876a391b788d98", func := "metrolab/metrolablaw41.TouchBears", spec := "touchBears", inPlace := ["internal/bytealg.IndexByteString", "internal/bytealg.IndexString", "internal/abi.NoEscape", "internal/bytealg.abigen_runtime_cmpstring"], unfollowed := true, recurses := true, named := ["metrolab/touch.others", "internal/strconv.uint64pow10", "math/bits.deBruijn32tab", "math/bits.deBruijn64tab", "unicode/utf8.first", "unicode/utf8.acceptRanges", "strconv.ErrSyntax", "strconv.ErrRange", "internal/bytealg.MaxLen"], apart := false, laid := [("math/bits.deBruijn32tab", laid_math_bits_deBruijn32tab), ("math/bits.deBruijn64tab", laid_math_bits_deBruijn64tab), ("internal/strconv.uint64pow10", laid_internal_strconv_uint64pow10), ("unicode/utf8.acceptRanges", laid_unicode_utf8_acceptRanges), ("strconv.ErrRange", laid_strconv_ErrRange), ("strconv.ErrSyntax", laid_strconv_ErrSyntax), ("metrolab/touch.others", laid_metrolab_touch_others), ("unicode/utf8.first", laid_unicode_utf8_first)] }
def TouchBearsSaid : Prop := touchBearsRow.holds Tryz.pinned (OpenSpec.ofChange touchBearsSpec)

/-- ITS FALSE NEIGHBOUR: 'it returns false'. Refute it at one input. -/
def touchBearsWrong : ChangeSpec := { name := "touchBears", fn := fun _ => fun
  | [d1, d2, d3] => { results := [.lit (.bool false)], args := [d1, d2, d3] }
  | _ => none }
def TouchBearsWrongFalsely : Prop := touchBearsRow.holds Tryz.pinned (OpenSpec.ofChange touchBearsWrong)

/-- 'metrolablaw41.TouchProves': WHATEVER THE INPUT: true; the input reads as it did. -/
def touchProvesSpec : ChangeSpec := { name := "touchProves", fn := fun _ => fun
  | [d1, d2] => { results := [.lit (.bool true)], args := [d1, d2] }
  | _ => none }
def touchProvesRow : OpenClaim := { program := "ytgepmbjmaljgoaagreatdoor", sum := "918ef6fed47fca89fff3a1510498d93ef366546c7b4d8d848c876a391b788d98", func := "metrolab/metrolablaw41.TouchProves", spec := "touchProves", inPlace := ["internal/bytealg.IndexByteString", "internal/bytealg.IndexString", "internal/abi.NoEscape", "internal/bytealg.abigen_runtime_cmpstring"], unfollowed := true, recurses := true, named := ["metrolab/touch.others", "internal/strconv.uint64pow10", "math/bits.deBruijn32tab", "math/bits.deBruijn64tab", "unicode/utf8.first", "unicode/utf8.acceptRanges", "strconv.ErrSyntax", "strconv.ErrRange", "internal/bytealg.MaxLen"], apart := false, laid := [("math/bits.deBruijn32tab", laid_math_bits_deBruijn32tab), ("math/bits.deBruijn64tab", laid_math_bits_deBruijn64tab), ("internal/strconv.uint64pow10", laid_internal_strconv_uint64pow10), ("unicode/utf8.acceptRanges", laid_unicode_utf8_acceptRanges), ("strconv.ErrRange", laid_strconv_ErrRange), ("strconv.ErrSyntax", laid_strconv_ErrSyntax), ("metrolab/touch.others", laid_metrolab_touch_others), ("unicode/utf8.first", laid_unicode_utf8_first)] }
def TouchProvesSaid : Prop := touchProvesRow.holds Tryz.pinned (OpenSpec.ofChange touchProvesSpec)

/-- ITS FALSE NEIGHBOUR: 'it returns false'. Refute it at one input. -/
def touchProvesWrong : ChangeSpec := { name := "touchProves", fn := fun _ => fun
  | [d1, d2] => { results := [.lit (.bool false)], args := [d1, d2] }
  | _ => none }
def TouchProvesWrongFalsely : Prop := touchProvesRow.holds Tryz.pinned (OpenSpec.ofChange touchProvesWrong)

/-- 'metrolablaw41.TouchPlaces': WHATEVER THE INPUT: true; the input reads as it did. -/
def touchPlacesSpec : ChangeSpec := { name := "touchPlaces", fn := fun _ => fun
  | [d1, d2, d3] => { results := [.lit (.bool true)], args := [d1, d2, d3] }
  | _ => none }
def touchPlacesRow : OpenClaim := { program := "ytgepmbjmaljgoaagreatdoor", sum := "918ef6fed47fca89fff3a1510498d93ef366546c7b4d8d848c876a391b788d98", func := "metrolab/metrolablaw41.TouchPlaces", spec := "touchPlaces", inPlace := ["internal/bytealg.IndexByteString", "internal/bytealg.IndexString", "internal/abi.NoEscape", "internal/bytealg.abigen_runtime_cmpstring"], unfollowed := true, recurses := true, named := ["metrolab/touch.others", "internal/strconv.uint64pow10", "math/bits.deBruijn32tab", "math/bits.deBruijn64tab", "unicode/utf8.first", "unicode/utf8.acceptRanges", "strconv.ErrSyntax", "strconv.ErrRange", "internal/bytealg.MaxLen"], apart := false, laid := [("math/bits.deBruijn32tab", laid_math_bits_deBruijn32tab), ("math/bits.deBruijn64tab", laid_math_bits_deBruijn64tab), ("internal/strconv.uint64pow10", laid_internal_strconv_uint64pow10), ("unicode/utf8.acceptRanges", laid_unicode_utf8_acceptRanges), ("strconv.ErrRange", laid_strconv_ErrRange), ("strconv.ErrSyntax", laid_strconv_ErrSyntax), ("metrolab/touch.others", laid_metrolab_touch_others), ("unicode/utf8.first", laid_unicode_utf8_first)] }
def TouchPlacesSaid : Prop := touchPlacesRow.holds Tryz.pinned (OpenSpec.ofChange touchPlacesSpec)

/-- ITS FALSE NEIGHBOUR: 'it returns false'. Refute it at one input. -/
def touchPlacesWrong : ChangeSpec := { name := "touchPlaces", fn := fun _ => fun
  | [d1, d2, d3] => { results := [.lit (.bool false)], args := [d1, d2, d3] }
  | _ => none }
def TouchPlacesWrongFalsely : Prop := touchPlacesRow.holds Tryz.pinned (OpenSpec.ofChange touchPlacesWrong)

/-- 'metrolablaw41.TouchFaces': WHATEVER THE INPUT: true; the input reads as it did. -/
def touchFacesSpec : ChangeSpec := { name := "touchFaces", fn := fun _ => fun
  | [d1, d2] => { results := [.lit (.bool true)], args := [d1, d2] }
  | _ => none }
def touchFacesRow : OpenClaim := { program := "ytgepmbjmaljgoaagreatdoor", sum := "918ef6fed47fca89fff3a1510498d93ef366546c7b4d8d848c876a391b788d98", func := "metrolab/metrolablaw41.TouchFaces", spec := "touchFaces", inPlace := ["internal/bytealg.IndexByteString", "internal/bytealg.IndexString", "internal/abi.NoEscape", "internal/bytealg.abigen_runtime_cmpstring"], unfollowed := true, recurses := true, named := ["metrolab/touch.others", "internal/strconv.uint64pow10", "math/bits.deBruijn32tab", "math/bits.deBruijn64tab", "unicode/utf8.first", "unicode/utf8.acceptRanges", "strconv.ErrSyntax", "strconv.ErrRange", "internal/bytealg.MaxLen"], apart := false, laid := [("math/bits.deBruijn32tab", laid_math_bits_deBruijn32tab), ("math/bits.deBruijn64tab", laid_math_bits_deBruijn64tab), ("internal/strconv.uint64pow10", laid_internal_strconv_uint64pow10), ("unicode/utf8.acceptRanges", laid_unicode_utf8_acceptRanges), ("strconv.ErrRange", laid_strconv_ErrRange), ("strconv.ErrSyntax", laid_strconv_ErrSyntax), ("metrolab/touch.others", laid_metrolab_touch_others), ("unicode/utf8.first", laid_unicode_utf8_first)] }
def TouchFacesSaid : Prop := touchFacesRow.holds Tryz.pinned (OpenSpec.ofChange touchFacesSpec)

/-- ITS FALSE NEIGHBOUR: 'it returns false'. Refute it at one input. -/
def touchFacesWrong : ChangeSpec := { name := "touchFaces", fn := fun _ => fun
  | [d1, d2] => { results := [.lit (.bool false)], args := [d1, d2] }
  | _ => none }
def TouchFacesWrongFalsely : Prop := touchFacesRow.holds Tryz.pinned (OpenSpec.ofChange touchFacesWrong)

/- THE SECOND FORM. 'bulk': how many values and letters a reading holds, each counted each time it is reached (what is shared counts as often as it is met; a slice's spare places count too). A statement '..UptoSaid' is the law's where the arguments, and the package variables that the reading takes, are together of bulk at most 1048576: NARROWER than '..Said'. Prove '..Said' where nothing that the law and all that it calls make is longer than what came in: it says more and counts as full. Else prove '..UptoSaid'. A law counts once. -/
mutual
def uptoBulk {H : Type} : DataW H → Nat
  | .lit (.string bytes) => bytes.length + 1
  | .lit _ => 1
  | .nil => 1
  | .ptr d => uptoBulk d + 1
  | .slice elems spare => uptoBulkAll elems + uptoBulkAll spare + 1
  | .agg parts => uptoBulkAll parts + 1
  | .iface _ d => uptoBulk d + 1
  | .map entries => uptoBulkEntries entries + 1
  | .held _ => 1
def uptoBulkAll {H : Type} : List (DataW H) → Nat
  | [] => 0
  | d :: r => uptoBulk d + uptoBulkAll r
def uptoBulkEntries {H : Type} : List (Lit × DataW H) → Nat
  | [] => 0
  | x :: r => uptoBulkEntry x + uptoBulkEntries r
def uptoBulkEntry {H : Type} : Lit × DataW H → Nat
  | (.string bytes, d) => bytes.length + uptoBulk d + 1
  | (_, d) => uptoBulk d + 1
 end
def uptoSmall : (H : Type) → List (DataW H) → Bool := fun _ ds => decide (uptoBulkAll ds ≤ 1048576)
def OpenSpec.upto (s : _root_.Go.ChangeSpec) : _root_.Go.OpenSpec := { _root_.Go.OpenSpec.ofChange s with cond := some uptoSmall }

/-- 'metrolablaw41.TouchFinds', WHERE WHAT IT READS IS OF BULK AT MOST 1048576: true; the input reads as it did. -/
def touchFindsUptoRow : OpenClaim := { program := "ytgepmbjmaljgoaagreatdoor", sum := "918ef6fed47fca89fff3a1510498d93ef366546c7b4d8d848c876a391b788d98", func := "metrolab/metrolablaw41.TouchFinds", spec := "touchFinds", inPlace := ["internal/bytealg.IndexByteString", "internal/bytealg.IndexString", "internal/abi.NoEscape", "internal/bytealg.abigen_runtime_cmpstring"], unfollowed := true, recurses := true, named := ["metrolab/touch.others", "internal/strconv.uint64pow10", "math/bits.deBruijn32tab", "math/bits.deBruijn64tab", "unicode/utf8.first", "unicode/utf8.acceptRanges", "strconv.ErrSyntax", "strconv.ErrRange", "internal/bytealg.MaxLen"], apart := false, laid := [("math/bits.deBruijn32tab", laid_math_bits_deBruijn32tab), ("math/bits.deBruijn64tab", laid_math_bits_deBruijn64tab), ("internal/strconv.uint64pow10", laid_internal_strconv_uint64pow10), ("unicode/utf8.acceptRanges", laid_unicode_utf8_acceptRanges), ("strconv.ErrRange", laid_strconv_ErrRange), ("strconv.ErrSyntax", laid_strconv_ErrSyntax), ("metrolab/touch.others", laid_metrolab_touch_others), ("unicode/utf8.first", laid_unicode_utf8_first)], narrowed := true }
def TouchFindsUptoSaid : Prop := touchFindsUptoRow.holds Tryz.pinned (OpenSpec.upto touchFindsSpec)

/-- 'metrolablaw41.TouchRests', WHERE WHAT IT READS IS OF BULK AT MOST 1048576: true; the input reads as it did. -/
def touchRestsUptoRow : OpenClaim := { program := "ytgepmbjmaljgoaagreatdoor", sum := "918ef6fed47fca89fff3a1510498d93ef366546c7b4d8d848c876a391b788d98", func := "metrolab/metrolablaw41.TouchRests", spec := "touchRests", inPlace := ["internal/bytealg.IndexByteString", "internal/bytealg.IndexString", "internal/abi.NoEscape", "internal/bytealg.abigen_runtime_cmpstring"], unfollowed := true, recurses := true, named := ["metrolab/touch.others", "internal/strconv.uint64pow10", "math/bits.deBruijn32tab", "math/bits.deBruijn64tab", "unicode/utf8.first", "unicode/utf8.acceptRanges", "strconv.ErrSyntax", "strconv.ErrRange", "internal/bytealg.MaxLen"], apart := false, laid := [("math/bits.deBruijn32tab", laid_math_bits_deBruijn32tab), ("math/bits.deBruijn64tab", laid_math_bits_deBruijn64tab), ("internal/strconv.uint64pow10", laid_internal_strconv_uint64pow10), ("unicode/utf8.acceptRanges", laid_unicode_utf8_acceptRanges), ("strconv.ErrRange", laid_strconv_ErrRange), ("strconv.ErrSyntax", laid_strconv_ErrSyntax), ("metrolab/touch.others", laid_metrolab_touch_others), ("unicode/utf8.first", laid_unicode_utf8_first)], narrowed := true }
def TouchRestsUptoSaid : Prop := touchRestsUptoRow.holds Tryz.pinned (OpenSpec.upto touchRestsSpec)

/-- 'metrolablaw41.TouchLevels', WHERE WHAT IT READS IS OF BULK AT MOST 1048576: true; the input reads as it did. -/
def touchLevelsUptoRow : OpenClaim := { program := "ytgepmbjmaljgoaagreatdoor", sum := "918ef6fed47fca89fff3a1510498d93ef366546c7b4d8d848c876a391b788d98", func := "metrolab/metrolablaw41.TouchLevels", spec := "touchLevels", inPlace := ["internal/bytealg.IndexByteString", "internal/bytealg.IndexString", "internal/abi.NoEscape", "internal/bytealg.abigen_runtime_cmpstring"], unfollowed := true, recurses := true, named := ["metrolab/touch.others", "internal/strconv.uint64pow10", "math/bits.deBruijn32tab", "math/bits.deBruijn64tab", "unicode/utf8.first", "unicode/utf8.acceptRanges", "strconv.ErrSyntax", "strconv.ErrRange", "internal/bytealg.MaxLen"], apart := false, laid := [("math/bits.deBruijn32tab", laid_math_bits_deBruijn32tab), ("math/bits.deBruijn64tab", laid_math_bits_deBruijn64tab), ("internal/strconv.uint64pow10", laid_internal_strconv_uint64pow10), ("unicode/utf8.acceptRanges", laid_unicode_utf8_acceptRanges), ("strconv.ErrRange", laid_strconv_ErrRange), ("strconv.ErrSyntax", laid_strconv_ErrSyntax), ("metrolab/touch.others", laid_metrolab_touch_others), ("unicode/utf8.first", laid_unicode_utf8_first)], narrowed := true }
def TouchLevelsUptoSaid : Prop := touchLevelsUptoRow.holds Tryz.pinned (OpenSpec.upto touchLevelsSpec)

/-- 'metrolablaw41.TouchVerifies', WHERE WHAT IT READS IS OF BULK AT MOST 1048576: true; the input reads as it did. -/
def touchVerifiesUptoRow : OpenClaim := { program := "ytgepmbjmaljgoaagreatdoor", sum := "918ef6fed47fca89fff3a1510498d93ef366546c7b4d8d848c876a391b788d98", func := "metrolab/metrolablaw41.TouchVerifies", spec := "touchVerifies", inPlace := ["internal/bytealg.IndexByteString", "internal/bytealg.IndexString", "internal/abi.NoEscape", "internal/bytealg.abigen_runtime_cmpstring"], unfollowed := true, recurses := true, named := ["metrolab/touch.others", "internal/strconv.uint64pow10", "math/bits.deBruijn32tab", "math/bits.deBruijn64tab", "unicode/utf8.first", "unicode/utf8.acceptRanges", "strconv.ErrSyntax", "strconv.ErrRange", "internal/bytealg.MaxLen"], apart := false, laid := [("math/bits.deBruijn32tab", laid_math_bits_deBruijn32tab), ("math/bits.deBruijn64tab", laid_math_bits_deBruijn64tab), ("internal/strconv.uint64pow10", laid_internal_strconv_uint64pow10), ("unicode/utf8.acceptRanges", laid_unicode_utf8_acceptRanges), ("strconv.ErrRange", laid_strconv_ErrRange), ("strconv.ErrSyntax", laid_strconv_ErrSyntax), ("metrolab/touch.others", laid_metrolab_touch_others), ("unicode/utf8.first", laid_unicode_utf8_first)], narrowed := true }
def TouchVerifiesUptoSaid : Prop := touchVerifiesUptoRow.holds Tryz.pinned (OpenSpec.upto touchVerifiesSpec)

/-- 'metrolablaw41.TouchBears', WHERE WHAT IT READS IS OF BULK AT MOST 1048576: true; the input reads as it did. -/
def touchBearsUptoRow : OpenClaim := { program := "ytgepmbjmaljgoaagreatdoor", sum := "918ef6fed47fca89fff3a1510498d93ef366546c7b4d8d848c876a391b788d98", func := "metrolab/metrolablaw41.TouchBears", spec := "touchBears", inPlace := ["internal/bytealg.IndexByteString", "internal/bytealg.IndexString", "internal/abi.NoEscape", "internal/bytealg.abigen_runtime_cmpstring"], unfollowed := true, recurses := true, named := ["metrolab/touch.others", "internal/strconv.uint64pow10", "math/bits.deBruijn32tab", "math/bits.deBruijn64tab", "unicode/utf8.first", "unicode/utf8.acceptRanges", "strconv.ErrSyntax", "strconv.ErrRange", "internal/bytealg.MaxLen"], apart := false, laid := [("math/bits.deBruijn32tab", laid_math_bits_deBruijn32tab), ("math/bits.deBruijn64tab", laid_math_bits_deBruijn64tab), ("internal/strconv.uint64pow10", laid_internal_strconv_uint64pow10), ("unicode/utf8.acceptRanges", laid_unicode_utf8_acceptRanges), ("strconv.ErrRange", laid_strconv_ErrRange), ("strconv.ErrSyntax", laid_strconv_ErrSyntax), ("metrolab/touch.others", laid_metrolab_touch_others), ("unicode/utf8.first", laid_unicode_utf8_first)], narrowed := true }
def TouchBearsUptoSaid : Prop := touchBearsUptoRow.holds Tryz.pinned (OpenSpec.upto touchBearsSpec)

/-- 'metrolablaw41.TouchProves', WHERE WHAT IT READS IS OF BULK AT MOST 1048576: true; the input reads as it did. -/
def touchProvesUptoRow : OpenClaim := { program := "ytgepmbjmaljgoaagreatdoor", sum := "918ef6fed47fca89fff3a1510498d93ef366546c7b4d8d848c876a391b788d98", func := "metrolab/metrolablaw41.TouchProves", spec := "touchProves", inPlace := ["internal/bytealg.IndexByteString", "internal/bytealg.IndexString", "internal/abi.NoEscape", "internal/bytealg.abigen_runtime_cmpstring"], unfollowed := true, recurses := true, named := ["metrolab/touch.others", "internal/strconv.uint64pow10", "math/bits.deBruijn32tab", "math/bits.deBruijn64tab", "unicode/utf8.first", "unicode/utf8.acceptRanges", "strconv.ErrSyntax", "strconv.ErrRange", "internal/bytealg.MaxLen"], apart := false, laid := [("math/bits.deBruijn32tab", laid_math_bits_deBruijn32tab), ("math/bits.deBruijn64tab", laid_math_bits_deBruijn64tab), ("internal/strconv.uint64pow10", laid_internal_strconv_uint64pow10), ("unicode/utf8.acceptRanges", laid_unicode_utf8_acceptRanges), ("strconv.ErrRange", laid_strconv_ErrRange), ("strconv.ErrSyntax", laid_strconv_ErrSyntax), ("metrolab/touch.others", laid_metrolab_touch_others), ("unicode/utf8.first", laid_unicode_utf8_first)], narrowed := true }
def TouchProvesUptoSaid : Prop := touchProvesUptoRow.holds Tryz.pinned (OpenSpec.upto touchProvesSpec)

/-- 'metrolablaw41.TouchPlaces', WHERE WHAT IT READS IS OF BULK AT MOST 1048576: true; the input reads as it did. -/
def touchPlacesUptoRow : OpenClaim := { program := "ytgepmbjmaljgoaagreatdoor", sum := "918ef6fed47fca89fff3a1510498d93ef366546c7b4d8d848c876a391b788d98", func := "metrolab/metrolablaw41.TouchPlaces", spec := "touchPlaces", inPlace := ["internal/bytealg.IndexByteString", "internal/bytealg.IndexString", "internal/abi.NoEscape", "internal/bytealg.abigen_runtime_cmpstring"], unfollowed := true, recurses := true, named := ["metrolab/touch.others", "internal/strconv.uint64pow10", "math/bits.deBruijn32tab", "math/bits.deBruijn64tab", "unicode/utf8.first", "unicode/utf8.acceptRanges", "strconv.ErrSyntax", "strconv.ErrRange", "internal/bytealg.MaxLen"], apart := false, laid := [("math/bits.deBruijn32tab", laid_math_bits_deBruijn32tab), ("math/bits.deBruijn64tab", laid_math_bits_deBruijn64tab), ("internal/strconv.uint64pow10", laid_internal_strconv_uint64pow10), ("unicode/utf8.acceptRanges", laid_unicode_utf8_acceptRanges), ("strconv.ErrRange", laid_strconv_ErrRange), ("strconv.ErrSyntax", laid_strconv_ErrSyntax), ("metrolab/touch.others", laid_metrolab_touch_others), ("unicode/utf8.first", laid_unicode_utf8_first)], narrowed := true }
def TouchPlacesUptoSaid : Prop := touchPlacesUptoRow.holds Tryz.pinned (OpenSpec.upto touchPlacesSpec)

/-- 'metrolablaw41.TouchFaces', WHERE WHAT IT READS IS OF BULK AT MOST 1048576: true; the input reads as it did. -/
def touchFacesUptoRow : OpenClaim := { program := "ytgepmbjmaljgoaagreatdoor", sum := "918ef6fed47fca89fff3a1510498d93ef366546c7b4d8d848c876a391b788d98", func := "metrolab/metrolablaw41.TouchFaces", spec := "touchFaces", inPlace := ["internal/bytealg.IndexByteString", "internal/bytealg.IndexString", "internal/abi.NoEscape", "internal/bytealg.abigen_runtime_cmpstring"], unfollowed := true, recurses := true, named := ["metrolab/touch.others", "internal/strconv.uint64pow10", "math/bits.deBruijn32tab", "math/bits.deBruijn64tab", "unicode/utf8.first", "unicode/utf8.acceptRanges", "strconv.ErrSyntax", "strconv.ErrRange", "internal/bytealg.MaxLen"], apart := false, laid := [("math/bits.deBruijn32tab", laid_math_bits_deBruijn32tab), ("math/bits.deBruijn64tab", laid_math_bits_deBruijn64tab), ("internal/strconv.uint64pow10", laid_internal_strconv_uint64pow10), ("unicode/utf8.acceptRanges", laid_unicode_utf8_acceptRanges), ("strconv.ErrRange", laid_strconv_ErrRange), ("strconv.ErrSyntax", laid_strconv_ErrSyntax), ("metrolab/touch.others", laid_metrolab_touch_others), ("unicode/utf8.first", laid_unicode_utf8_first)], narrowed := true }
def TouchFacesUptoSaid : Prop := touchFacesUptoRow.holds Tryz.pinned (OpenSpec.upto touchFacesSpec)

end Rows
end Go.Proofs.YtgepmbjmaljgoaaGreatDoor
