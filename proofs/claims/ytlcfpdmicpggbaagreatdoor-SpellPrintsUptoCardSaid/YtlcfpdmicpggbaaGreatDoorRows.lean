/-
  NARROWER THAN 'FOR EVERY INPUT', by the rows' own cells (each row's printed sentence says how): SpellTells: loops, laid · SpellPrints: loops, laid · SpellModules: loops, laid · SpellBlocks: loops, laid · SpellSigns: laid · SpellMay: loops, laid · SpellOne: loops, laid · SpellNames: loops, laid · SpellScans: loops, laid.
  DERIVED. THE GIVEN ROWS OF THIS SEAT. 9 by the template 'for every input the law returns true; each argument reads behind the call as it read before'; 0 by the template 'total and deterministic' (their statements: YtlcfpdmicpggbaaGreatDoorTotals.lean).
  GIVEN WITH THE SEED: the statements are not yours to turn. If you find one false, say at which input.
  Laid BY PROGRAM, IN A SANDBOX (cutbox-rows.mjs): the forced cells as the released guide's own fill.sh prints them over the translation bc79a16cd6bdcbb4… (all of the seat's roots in one cut). By AI agents, Wed Nov 11 2026. No macro, syntax, notation, axiom, sorry.
-/
import Derived.Test.YtlcfpdmicpggbaaGreatDoorChecked
import GoSem.PinnedTables
import GoSem.Claim
import GoSem.ClaimJoined
import GoSem.ClaimMapViews
import Derived.JoinedTies
import Derived.KernelRfl
namespace Go.Proofs.YtlcfpdmicpggbaaGreatDoor
/- THE CELL 'sum', in the pinned program and in every row, IS THE sha256 OF THE DUMP (.gsa) THAT YtlcfpdmicpggbaaGreatDoorProg.lean LOADS. Nothing in Lean hashes anything: it is a label: what it is worth is what the hold of that sum in a sandbox is worth. -/
noncomputable def Tryz.pinned : Pinned := { name := "ytlcfpdmicpggbaagreatdoor", sum := "bc79a16cd6bdcbb45c30da1b17d8007115a5bffc66399c227e34d4b3dafca29b", checked := Tryz.checked }
namespace Rows
def none {H : Type} : Left H := { results := [], args := [] }

/- WHAT THE LISTED PACKAGE-LEVEL VARIABLES READ AS WHEN THE CALL BEGINS. Each datum BY PROGRAM (the guide's laid-datum.mjs) off the statement by which the dump's own 'gosem.cut.vars' lays the variable. In a bare row this is a premise. The card (YtlcfpdmicpggbaaGreatDoorCards.lean) ties it to the program's text. -/
def laid_math_bits_deBruijn32tab {H : Type} : DataW H := .agg [.lit (.int .u8 0), .lit (.int .u8 1), .lit (.int .u8 28), .lit (.int .u8 2), .lit (.int .u8 29), .lit (.int .u8 14), .lit (.int .u8 24), .lit (.int .u8 3), .lit (.int .u8 30), .lit (.int .u8 22), .lit (.int .u8 20), .lit (.int .u8 15), .lit (.int .u8 25), .lit (.int .u8 17), .lit (.int .u8 4), .lit (.int .u8 8), .lit (.int .u8 31), .lit (.int .u8 27), .lit (.int .u8 13), .lit (.int .u8 23), .lit (.int .u8 21), .lit (.int .u8 19), .lit (.int .u8 16), .lit (.int .u8 7), .lit (.int .u8 26), .lit (.int .u8 12), .lit (.int .u8 18), .lit (.int .u8 6), .lit (.int .u8 11), .lit (.int .u8 5), .lit (.int .u8 10), .lit (.int .u8 9)]
def laid_math_bits_deBruijn64tab {H : Type} : DataW H := .agg [.lit (.int .u8 0), .lit (.int .u8 1), .lit (.int .u8 56), .lit (.int .u8 2), .lit (.int .u8 57), .lit (.int .u8 49), .lit (.int .u8 28), .lit (.int .u8 3), .lit (.int .u8 61), .lit (.int .u8 58), .lit (.int .u8 42), .lit (.int .u8 50), .lit (.int .u8 38), .lit (.int .u8 29), .lit (.int .u8 17), .lit (.int .u8 4), .lit (.int .u8 62), .lit (.int .u8 47), .lit (.int .u8 59), .lit (.int .u8 36), .lit (.int .u8 45), .lit (.int .u8 43), .lit (.int .u8 51), .lit (.int .u8 22), .lit (.int .u8 53), .lit (.int .u8 39), .lit (.int .u8 33), .lit (.int .u8 30), .lit (.int .u8 24), .lit (.int .u8 18), .lit (.int .u8 12), .lit (.int .u8 5), .lit (.int .u8 63), .lit (.int .u8 55), .lit (.int .u8 48), .lit (.int .u8 27), .lit (.int .u8 60), .lit (.int .u8 41), .lit (.int .u8 37), .lit (.int .u8 16), .lit (.int .u8 46), .lit (.int .u8 35), .lit (.int .u8 44), .lit (.int .u8 21), .lit (.int .u8 52), .lit (.int .u8 32), .lit (.int .u8 23), .lit (.int .u8 11), .lit (.int .u8 54), .lit (.int .u8 26), .lit (.int .u8 40), .lit (.int .u8 15), .lit (.int .u8 34), .lit (.int .u8 20), .lit (.int .u8 31), .lit (.int .u8 10), .lit (.int .u8 25), .lit (.int .u8 14), .lit (.int .u8 19), .lit (.int .u8 9), .lit (.int .u8 13), .lit (.int .u8 8), .lit (.int .u8 7), .lit (.int .u8 6)]
def laid_internal_strconv_uint64pow10 {H : Type} : DataW H := .agg [.lit (.int .u64 1), .lit (.int .u64 10), .lit (.int .u64 100), .lit (.int .u64 1000), .lit (.int .u64 10000), .lit (.int .u64 100000), .lit (.int .u64 1000000), .lit (.int .u64 10000000), .lit (.int .u64 100000000), .lit (.int .u64 1000000000), .lit (.int .u64 10000000000), .lit (.int .u64 100000000000), .lit (.int .u64 1000000000000), .lit (.int .u64 10000000000000), .lit (.int .u64 100000000000000), .lit (.int .u64 1000000000000000), .lit (.int .u64 10000000000000000), .lit (.int .u64 100000000000000000), .lit (.int .u64 1000000000000000000), .lit (.int .u64 10000000000000000000)]
def laid_filigree_ast_kinds {H : Type} : DataW H := .agg [.agg [.lit (.bool false), .lit (.int .i64 0), .lit (.int .i64 0), .lit (.int .i64 0), .lit (.int .i64 0)], .agg [.lit (.bool false), .lit (.int .i64 0), .lit (.int .i64 0), .lit (.int .i64 0), .lit (.int .i64 0)], .agg [.lit (.bool true), .lit (.int .i64 0), .lit (.int .i64 0), .lit (.int .i64 0), .lit (.int .i64 0)], .agg [.lit (.bool true), .lit (.int .i64 2), .lit (.int .i64 2), .lit (.int .i64 0), .lit (.int .i64 0)], .agg [.lit (.bool true), .lit (.int .i64 1), .lit (.int .i64 1), .lit (.int .i64 0), .lit (.int .i64 0)], .agg [.lit (.bool false), .lit (.int .i64 1), .lit (.int .i64 1), .lit (.int .i64 1), .lit (.int .i64 6)], .agg [.lit (.bool false), .lit (.int .i64 2), .lit (.int .i64 2), .lit (.int .i64 11), .lit (.int .i64 26)], .agg [.lit (.bool false), .lit (.int .i64 3), .lit (.int .i64 3), .lit (.int .i64 0), .lit (.int .i64 0)], .agg [.lit (.bool false), .lit (.int .i64 1), .lit (.int .i64 65536), .lit (.int .i64 0), .lit (.int .i64 0)], .agg [.lit (.bool false), .lit (.int .i64 2), .lit (.int .i64 2), .lit (.int .i64 0), .lit (.int .i64 0)], .agg [.lit (.bool false), .lit (.int .i64 2), .lit (.int .i64 2), .lit (.int .i64 31), .lit (.int .i64 33)]]
def laid_filigree_ast_shapes {H : Type} : DataW H := .agg [.agg [.lit (.bool false), .lit (.bool false), .lit (.int .i64 0), .lit (.bool false), .lit (.bool false), .lit (.bool false), .lit (.bool false)], .agg [.lit (.bool true), .lit (.bool false), .lit (.int .i64 1), .lit (.bool false), .lit (.bool false), .lit (.bool false), .lit (.bool false)], .agg [.lit (.bool true), .lit (.bool false), .lit (.int .i64 1), .lit (.bool false), .lit (.bool false), .lit (.bool false), .lit (.bool false)], .agg [.lit (.bool true), .lit (.bool false), .lit (.int .i64 2), .lit (.bool false), .lit (.bool false), .lit (.bool false), .lit (.bool false)], .agg [.lit (.bool false), .lit (.bool false), .lit (.int .i64 2), .lit (.bool false), .lit (.bool false), .lit (.bool false), .lit (.bool false)], .agg [.lit (.bool false), .lit (.bool false), .lit (.int .i64 0), .lit (.bool true), .lit (.bool false), .lit (.bool false), .lit (.bool false)], .agg [.lit (.bool false), .lit (.bool false), .lit (.int .i64 0), .lit (.bool true), .lit (.bool false), .lit (.bool false), .lit (.bool false)], .agg [.lit (.bool true), .lit (.bool true), .lit (.int .i64 0), .lit (.bool false), .lit (.bool false), .lit (.bool false), .lit (.bool true)], .agg [.lit (.bool false), .lit (.bool false), .lit (.int .i64 1), .lit (.bool false), .lit (.bool true), .lit (.bool true), .lit (.bool false)], .agg [.lit (.bool true), .lit (.bool true), .lit (.int .i64 2), .lit (.bool false), .lit (.bool true), .lit (.bool false), .lit (.bool false)], .agg [.lit (.bool true), .lit (.bool false), .lit (.int .i64 1), .lit (.bool false), .lit (.bool false), .lit (.bool false), .lit (.bool false)]]
def laid_unicode_utf8_acceptRanges {H : Type} : DataW H := .agg [.agg [.lit (.int .u8 128), .lit (.int .u8 191)], .agg [.lit (.int .u8 160), .lit (.int .u8 191)], .agg [.lit (.int .u8 128), .lit (.int .u8 159)], .agg [.lit (.int .u8 144), .lit (.int .u8 191)], .agg [.lit (.int .u8 128), .lit (.int .u8 143)], .agg [.lit (.int .u8 0), .lit (.int .u8 0)], .agg [.lit (.int .u8 0), .lit (.int .u8 0)], .agg [.lit (.int .u8 0), .lit (.int .u8 0)], .agg [.lit (.int .u8 0), .lit (.int .u8 0)], .agg [.lit (.int .u8 0), .lit (.int .u8 0)], .agg [.lit (.int .u8 0), .lit (.int .u8 0)], .agg [.lit (.int .u8 0), .lit (.int .u8 0)], .agg [.lit (.int .u8 0), .lit (.int .u8 0)], .agg [.lit (.int .u8 0), .lit (.int .u8 0)], .agg [.lit (.int .u8 0), .lit (.int .u8 0)], .agg [.lit (.int .u8 0), .lit (.int .u8 0)]]
/-- One of Go's own tables, pinned by name: the form's constant. -/
def laid_unicode_utf8_first : DataW Unit := Go.Pinned.utf8First

/-- 'filigreelaw04.SpellTells': WHATEVER THE INPUT: true; the input reads as it did. -/
def spellTellsSpec : ChangeSpec := { name := "spellTells", fn := fun _ => fun
  | [d1, d2, d3, d4] => { results := [.lit (.bool true)], args := [d1, d2, d3, d4] }
  | _ => none }
def spellTellsRow : OpenClaim := { program := "ytlcfpdmicpggbaagreatdoor", sum := "bc79a16cd6bdcbb45c30da1b17d8007115a5bffc66399c227e34d4b3dafca29b", func := "filigree/filigreelaw04.SpellTells", spec := "spellTells", inPlace := ["internal/bytealg.IndexByteString", "internal/bytealg.IndexString"], unfollowed := true, recurses := true, named := ["filigree/ast.kinds", "internal/bytealg.MaxLen", "internal/strconv.uint64pow10", "math/bits.deBruijn32tab", "math/bits.deBruijn64tab", "filigree/ast.shapes"], loops := true, apart := false, laid := [("math/bits.deBruijn32tab", laid_math_bits_deBruijn32tab), ("math/bits.deBruijn64tab", laid_math_bits_deBruijn64tab), ("internal/strconv.uint64pow10", laid_internal_strconv_uint64pow10), ("filigree/ast.kinds", laid_filigree_ast_kinds), ("filigree/ast.shapes", laid_filigree_ast_shapes)] }
def SpellTellsSaid : Prop := spellTellsRow.holds Tryz.pinned (OpenSpec.ofChange spellTellsSpec)

/-- ITS FALSE NEIGHBOUR: 'it returns false'. Refute it at one input. -/
def spellTellsWrong : ChangeSpec := { name := "spellTells", fn := fun _ => fun
  | [d1, d2, d3, d4] => { results := [.lit (.bool false)], args := [d1, d2, d3, d4] }
  | _ => none }
def SpellTellsWrongFalsely : Prop := spellTellsRow.holds Tryz.pinned (OpenSpec.ofChange spellTellsWrong)

/-- 'filigreelaw04.SpellPrints': WHATEVER THE INPUT: true; the input reads as it did. -/
def spellPrintsSpec : ChangeSpec := { name := "spellPrints", fn := fun _ => fun
  | [d1, d2] => { results := [.lit (.bool true)], args := [d1, d2] }
  | _ => none }
def spellPrintsRow : OpenClaim := { program := "ytlcfpdmicpggbaagreatdoor", sum := "bc79a16cd6bdcbb45c30da1b17d8007115a5bffc66399c227e34d4b3dafca29b", func := "filigree/filigreelaw04.SpellPrints", spec := "spellPrints", inPlace := ["internal/bytealg.IndexByteString", "internal/bytealg.IndexString"], unfollowed := true, recurses := true, named := ["filigree/ast.kinds", "internal/bytealg.MaxLen", "internal/strconv.uint64pow10", "math/bits.deBruijn32tab", "math/bits.deBruijn64tab", "filigree/ast.shapes"], loops := true, apart := false, laid := [("math/bits.deBruijn32tab", laid_math_bits_deBruijn32tab), ("math/bits.deBruijn64tab", laid_math_bits_deBruijn64tab), ("internal/strconv.uint64pow10", laid_internal_strconv_uint64pow10), ("filigree/ast.kinds", laid_filigree_ast_kinds), ("filigree/ast.shapes", laid_filigree_ast_shapes)] }
def SpellPrintsSaid : Prop := spellPrintsRow.holds Tryz.pinned (OpenSpec.ofChange spellPrintsSpec)

/-- ITS FALSE NEIGHBOUR: 'it returns false'. Refute it at one input. -/
def spellPrintsWrong : ChangeSpec := { name := "spellPrints", fn := fun _ => fun
  | [d1, d2] => { results := [.lit (.bool false)], args := [d1, d2] }
  | _ => none }
def SpellPrintsWrongFalsely : Prop := spellPrintsRow.holds Tryz.pinned (OpenSpec.ofChange spellPrintsWrong)

/-- 'filigreelaw04.SpellModules': WHATEVER THE INPUT: true; the input reads as it did. -/
def spellModulesSpec : ChangeSpec := { name := "spellModules", fn := fun _ => fun
  | [d] => { results := [.lit (.bool true)], args := [d] }
  | _ => none }
def spellModulesRow : OpenClaim := { program := "ytlcfpdmicpggbaagreatdoor", sum := "bc79a16cd6bdcbb45c30da1b17d8007115a5bffc66399c227e34d4b3dafca29b", func := "filigree/filigreelaw04.SpellModules", spec := "spellModules", inPlace := ["internal/bytealg.IndexByteString", "internal/bytealg.IndexString"], unfollowed := true, recurses := true, named := ["filigree/ast.kinds", "internal/bytealg.MaxLen", "internal/strconv.uint64pow10", "math/bits.deBruijn32tab", "math/bits.deBruijn64tab", "filigree/ast.shapes"], loops := true, apart := false, laid := [("math/bits.deBruijn32tab", laid_math_bits_deBruijn32tab), ("math/bits.deBruijn64tab", laid_math_bits_deBruijn64tab), ("internal/strconv.uint64pow10", laid_internal_strconv_uint64pow10), ("filigree/ast.kinds", laid_filigree_ast_kinds), ("filigree/ast.shapes", laid_filigree_ast_shapes)] }
def SpellModulesSaid : Prop := spellModulesRow.holds Tryz.pinned (OpenSpec.ofChange spellModulesSpec)

/-- ITS FALSE NEIGHBOUR: 'it returns false'. Refute it at one input. -/
def spellModulesWrong : ChangeSpec := { name := "spellModules", fn := fun _ => fun
  | [d] => { results := [.lit (.bool false)], args := [d] }
  | _ => none }
def SpellModulesWrongFalsely : Prop := spellModulesRow.holds Tryz.pinned (OpenSpec.ofChange spellModulesWrong)

/-- 'filigreelaw04.SpellBlocks': WHATEVER THE INPUT: true; the input reads as it did. -/
def spellBlocksSpec : ChangeSpec := { name := "spellBlocks", fn := fun _ => fun
  | [d1, d2, d3, d4] => { results := [.lit (.bool true)], args := [d1, d2, d3, d4] }
  | _ => none }
def spellBlocksRow : OpenClaim := { program := "ytlcfpdmicpggbaagreatdoor", sum := "bc79a16cd6bdcbb45c30da1b17d8007115a5bffc66399c227e34d4b3dafca29b", func := "filigree/filigreelaw04.SpellBlocks", spec := "spellBlocks", inPlace := ["internal/bytealg.IndexByteString", "internal/bytealg.IndexString"], unfollowed := true, recurses := true, named := ["filigree/ast.kinds", "internal/bytealg.MaxLen", "internal/strconv.uint64pow10", "math/bits.deBruijn32tab", "math/bits.deBruijn64tab", "filigree/ast.shapes"], loops := true, apart := false, laid := [("math/bits.deBruijn32tab", laid_math_bits_deBruijn32tab), ("math/bits.deBruijn64tab", laid_math_bits_deBruijn64tab), ("internal/strconv.uint64pow10", laid_internal_strconv_uint64pow10), ("filigree/ast.kinds", laid_filigree_ast_kinds), ("filigree/ast.shapes", laid_filigree_ast_shapes)] }
def SpellBlocksSaid : Prop := spellBlocksRow.holds Tryz.pinned (OpenSpec.ofChange spellBlocksSpec)

/-- ITS FALSE NEIGHBOUR: 'it returns false'. Refute it at one input. -/
def spellBlocksWrong : ChangeSpec := { name := "spellBlocks", fn := fun _ => fun
  | [d1, d2, d3, d4] => { results := [.lit (.bool false)], args := [d1, d2, d3, d4] }
  | _ => none }
def SpellBlocksWrongFalsely : Prop := spellBlocksRow.holds Tryz.pinned (OpenSpec.ofChange spellBlocksWrong)

/-- 'filigreelaw04.SpellSigns': WHATEVER THE INPUT: true; the input reads as it did. -/
def spellSignsSpec : ChangeSpec := { name := "spellSigns", fn := fun _ => fun
  | [d1, d2, d3, d4, d5] => { results := [.lit (.bool true)], args := [d1, d2, d3, d4, d5] }
  | _ => none }
def spellSignsRow : OpenClaim := { program := "ytlcfpdmicpggbaagreatdoor", sum := "bc79a16cd6bdcbb45c30da1b17d8007115a5bffc66399c227e34d4b3dafca29b", func := "filigree/filigreelaw04.SpellSigns", spec := "spellSigns", inPlace := ["internal/bytealg.IndexByteString", "internal/bytealg.IndexString"], unfollowed := true, recurses := true, named := ["filigree/ast.kinds", "internal/bytealg.MaxLen", "internal/strconv.uint64pow10", "math/bits.deBruijn32tab", "math/bits.deBruijn64tab", "filigree/ast.shapes"], apart := false, laid := [("math/bits.deBruijn32tab", laid_math_bits_deBruijn32tab), ("math/bits.deBruijn64tab", laid_math_bits_deBruijn64tab), ("internal/strconv.uint64pow10", laid_internal_strconv_uint64pow10), ("filigree/ast.kinds", laid_filigree_ast_kinds), ("filigree/ast.shapes", laid_filigree_ast_shapes)] }
def SpellSignsSaid : Prop := spellSignsRow.holds Tryz.pinned (OpenSpec.ofChange spellSignsSpec)

/-- ITS FALSE NEIGHBOUR: 'it returns false'. Refute it at one input. -/
def spellSignsWrong : ChangeSpec := { name := "spellSigns", fn := fun _ => fun
  | [d1, d2, d3, d4, d5] => { results := [.lit (.bool false)], args := [d1, d2, d3, d4, d5] }
  | _ => none }
def SpellSignsWrongFalsely : Prop := spellSignsRow.holds Tryz.pinned (OpenSpec.ofChange spellSignsWrong)

/-- 'filigreelaw04.SpellMay': WHATEVER THE INPUT: true; the input reads as it did. -/
def spellMaySpec : ChangeSpec := { name := "spellMay", fn := fun _ => fun
  | [d1, d2, d3] => { results := [.lit (.bool true)], args := [d1, d2, d3] }
  | _ => none }
def spellMayRow : OpenClaim := { program := "ytlcfpdmicpggbaagreatdoor", sum := "bc79a16cd6bdcbb45c30da1b17d8007115a5bffc66399c227e34d4b3dafca29b", func := "filigree/filigreelaw04.SpellMay", spec := "spellMay", inPlace := ["internal/bytealg.IndexByteString", "internal/bytealg.IndexString"], unfollowed := true, recurses := true, named := ["filigree/ast.kinds", "internal/bytealg.MaxLen", "internal/strconv.uint64pow10", "math/bits.deBruijn32tab", "math/bits.deBruijn64tab", "filigree/ast.shapes"], loops := true, apart := false, laid := [("math/bits.deBruijn32tab", laid_math_bits_deBruijn32tab), ("math/bits.deBruijn64tab", laid_math_bits_deBruijn64tab), ("internal/strconv.uint64pow10", laid_internal_strconv_uint64pow10), ("filigree/ast.kinds", laid_filigree_ast_kinds), ("filigree/ast.shapes", laid_filigree_ast_shapes)] }
def SpellMaySaid : Prop := spellMayRow.holds Tryz.pinned (OpenSpec.ofChange spellMaySpec)

/-- ITS FALSE NEIGHBOUR: 'it returns false'. Refute it at one input. -/
def spellMayWrong : ChangeSpec := { name := "spellMay", fn := fun _ => fun
  | [d1, d2, d3] => { results := [.lit (.bool false)], args := [d1, d2, d3] }
  | _ => none }
def SpellMayWrongFalsely : Prop := spellMayRow.holds Tryz.pinned (OpenSpec.ofChange spellMayWrong)

/-- 'filigreelaw04.SpellOne': WHATEVER THE INPUT: true; the input reads as it did. -/
def spellOneSpec : ChangeSpec := { name := "spellOne", fn := fun _ => fun
  | [d1, d2, d3, d4, d5, d6] => { results := [.lit (.bool true)], args := [d1, d2, d3, d4, d5, d6] }
  | _ => none }
def spellOneRow : OpenClaim := { program := "ytlcfpdmicpggbaagreatdoor", sum := "bc79a16cd6bdcbb45c30da1b17d8007115a5bffc66399c227e34d4b3dafca29b", func := "filigree/filigreelaw04.SpellOne", spec := "spellOne", inPlace := ["internal/bytealg.IndexByteString", "internal/bytealg.IndexString"], unfollowed := true, recurses := true, named := ["filigree/ast.kinds", "internal/bytealg.MaxLen", "internal/strconv.uint64pow10", "math/bits.deBruijn32tab", "math/bits.deBruijn64tab", "filigree/ast.shapes"], loops := true, apart := false, laid := [("math/bits.deBruijn32tab", laid_math_bits_deBruijn32tab), ("math/bits.deBruijn64tab", laid_math_bits_deBruijn64tab), ("internal/strconv.uint64pow10", laid_internal_strconv_uint64pow10), ("filigree/ast.kinds", laid_filigree_ast_kinds), ("filigree/ast.shapes", laid_filigree_ast_shapes)] }
def SpellOneSaid : Prop := spellOneRow.holds Tryz.pinned (OpenSpec.ofChange spellOneSpec)

/-- ITS FALSE NEIGHBOUR: 'it returns false'. Refute it at one input. -/
def spellOneWrong : ChangeSpec := { name := "spellOne", fn := fun _ => fun
  | [d1, d2, d3, d4, d5, d6] => { results := [.lit (.bool false)], args := [d1, d2, d3, d4, d5, d6] }
  | _ => none }
def SpellOneWrongFalsely : Prop := spellOneRow.holds Tryz.pinned (OpenSpec.ofChange spellOneWrong)

/-- 'filigreelaw04.SpellNames': WHATEVER THE INPUT: true; the input reads as it did. -/
def spellNamesSpec : ChangeSpec := { name := "spellNames", fn := fun _ => fun
  | [d] => { results := [.lit (.bool true)], args := [d] }
  | _ => none }
def spellNamesRow : OpenClaim := { program := "ytlcfpdmicpggbaagreatdoor", sum := "bc79a16cd6bdcbb45c30da1b17d8007115a5bffc66399c227e34d4b3dafca29b", func := "filigree/filigreelaw04.SpellNames", spec := "spellNames", inPlace := ["internal/bytealg.IndexByteString", "internal/bytealg.IndexString"], unfollowed := true, recurses := true, named := ["filigree/ast.kinds", "internal/bytealg.MaxLen", "internal/strconv.uint64pow10", "math/bits.deBruijn32tab", "math/bits.deBruijn64tab", "filigree/ast.shapes"], loops := true, apart := false, laid := [("math/bits.deBruijn32tab", laid_math_bits_deBruijn32tab), ("math/bits.deBruijn64tab", laid_math_bits_deBruijn64tab), ("internal/strconv.uint64pow10", laid_internal_strconv_uint64pow10), ("filigree/ast.kinds", laid_filigree_ast_kinds), ("filigree/ast.shapes", laid_filigree_ast_shapes)] }
def SpellNamesSaid : Prop := spellNamesRow.holds Tryz.pinned (OpenSpec.ofChange spellNamesSpec)

/-- ITS FALSE NEIGHBOUR: 'it returns false'. Refute it at one input. -/
def spellNamesWrong : ChangeSpec := { name := "spellNames", fn := fun _ => fun
  | [d] => { results := [.lit (.bool false)], args := [d] }
  | _ => none }
def SpellNamesWrongFalsely : Prop := spellNamesRow.holds Tryz.pinned (OpenSpec.ofChange spellNamesWrong)

/-- 'filigreelaw04.SpellScans': WHATEVER THE INPUT: true; the input reads as it did. -/
def spellScansSpec : ChangeSpec := { name := "spellScans", fn := fun _ => fun
  | [d1, d2] => { results := [.lit (.bool true)], args := [d1, d2] }
  | _ => none }
def spellScansRow : OpenClaim := { program := "ytlcfpdmicpggbaagreatdoor", sum := "bc79a16cd6bdcbb45c30da1b17d8007115a5bffc66399c227e34d4b3dafca29b", func := "filigree/filigreelaw04.SpellScans", spec := "spellScans", inPlace := ["internal/bytealg.IndexByteString", "internal/bytealg.IndexString", "math/bits.Add64"], unfollowed := true, recurses := true, named := ["filigree/ast.kinds", "internal/bytealg.MaxLen", "internal/strconv.uint64pow10", "math/bits.deBruijn32tab", "math/bits.deBruijn64tab", "filigree/ast.shapes", "unicode/utf8.first", "unicode/utf8.acceptRanges"], loops := true, apart := false, laid := [("math/bits.deBruijn32tab", laid_math_bits_deBruijn32tab), ("math/bits.deBruijn64tab", laid_math_bits_deBruijn64tab), ("internal/strconv.uint64pow10", laid_internal_strconv_uint64pow10), ("unicode/utf8.acceptRanges", laid_unicode_utf8_acceptRanges), ("filigree/ast.kinds", laid_filigree_ast_kinds), ("filigree/ast.shapes", laid_filigree_ast_shapes), ("unicode/utf8.first", laid_unicode_utf8_first)] }
def SpellScansSaid : Prop := spellScansRow.holds Tryz.pinned (OpenSpec.ofChange spellScansSpec)

/-- ITS FALSE NEIGHBOUR: 'it returns false'. Refute it at one input. -/
def spellScansWrong : ChangeSpec := { name := "spellScans", fn := fun _ => fun
  | [d1, d2] => { results := [.lit (.bool false)], args := [d1, d2] }
  | _ => none }
def SpellScansWrongFalsely : Prop := spellScansRow.holds Tryz.pinned (OpenSpec.ofChange spellScansWrong)

/- THE SECOND FORM. 'bulk': how many values and letters a reading holds, each counted each time it is reached (what is shared counts as often as it is met; a slice's spare places count too). A statement '..UptoSaid' is the law's where the arguments, and the package variables that the reading takes, are together of bulk at most 1048576: NARROWER than '..Said'. Prove '..Said' where nothing that the law and all that it calls make is longer than what came in: it says more and counts as full. Else prove '..UptoSaid'. A law counts once. -/
mutual
def uptoBulk {H : Type} : DataW H → Nat
  | .lit (.string bytes) => bytes.length + 1
  | .lit _ => 1
  | .nil => 1
  | .ptr d => uptoBulk d + 1
  | .slice elems spare => uptoBulkAll elems + uptoBulkAll spare + 1
  | .agg parts => uptoBulkAll parts + 1
  | .iface _ d => uptoBulk d + 1
  | .map entries => uptoBulkEntries entries + 1
  | .held _ => 1
def uptoBulkAll {H : Type} : List (DataW H) → Nat
  | [] => 0
  | d :: r => uptoBulk d + uptoBulkAll r
def uptoBulkEntries {H : Type} : List (Lit × DataW H) → Nat
  | [] => 0
  | x :: r => uptoBulkEntry x + uptoBulkEntries r
def uptoBulkEntry {H : Type} : Lit × DataW H → Nat
  | (.string bytes, d) => bytes.length + uptoBulk d + 1
  | (_, d) => uptoBulk d + 1
 end
def uptoSmall : (H : Type) → List (DataW H) → Bool := fun _ ds => decide (uptoBulkAll ds ≤ 1048576)
def OpenSpec.upto (s : _root_.Go.ChangeSpec) : _root_.Go.OpenSpec := { _root_.Go.OpenSpec.ofChange s with cond := some uptoSmall }

/-- 'filigreelaw04.SpellTells', WHERE WHAT IT READS IS OF BULK AT MOST 1048576: true; the input reads as it did. -/
def spellTellsUptoRow : OpenClaim := { program := "ytlcfpdmicpggbaagreatdoor", sum := "bc79a16cd6bdcbb45c30da1b17d8007115a5bffc66399c227e34d4b3dafca29b", func := "filigree/filigreelaw04.SpellTells", spec := "spellTells", inPlace := ["internal/bytealg.IndexByteString", "internal/bytealg.IndexString"], unfollowed := true, recurses := true, named := ["filigree/ast.kinds", "internal/bytealg.MaxLen", "internal/strconv.uint64pow10", "math/bits.deBruijn32tab", "math/bits.deBruijn64tab", "filigree/ast.shapes"], loops := true, apart := false, laid := [("math/bits.deBruijn32tab", laid_math_bits_deBruijn32tab), ("math/bits.deBruijn64tab", laid_math_bits_deBruijn64tab), ("internal/strconv.uint64pow10", laid_internal_strconv_uint64pow10), ("filigree/ast.kinds", laid_filigree_ast_kinds), ("filigree/ast.shapes", laid_filigree_ast_shapes)], narrowed := true }
def SpellTellsUptoSaid : Prop := spellTellsUptoRow.holds Tryz.pinned (OpenSpec.upto spellTellsSpec)

/-- 'filigreelaw04.SpellPrints', WHERE WHAT IT READS IS OF BULK AT MOST 1048576: true; the input reads as it did. -/
def spellPrintsUptoRow : OpenClaim := { program := "ytlcfpdmicpggbaagreatdoor", sum := "bc79a16cd6bdcbb45c30da1b17d8007115a5bffc66399c227e34d4b3dafca29b", func := "filigree/filigreelaw04.SpellPrints", spec := "spellPrints", inPlace := ["internal/bytealg.IndexByteString", "internal/bytealg.IndexString"], unfollowed := true, recurses := true, named := ["filigree/ast.kinds", "internal/bytealg.MaxLen", "internal/strconv.uint64pow10", "math/bits.deBruijn32tab", "math/bits.deBruijn64tab", "filigree/ast.shapes"], loops := true, apart := false, laid := [("math/bits.deBruijn32tab", laid_math_bits_deBruijn32tab), ("math/bits.deBruijn64tab", laid_math_bits_deBruijn64tab), ("internal/strconv.uint64pow10", laid_internal_strconv_uint64pow10), ("filigree/ast.kinds", laid_filigree_ast_kinds), ("filigree/ast.shapes", laid_filigree_ast_shapes)], narrowed := true }
def SpellPrintsUptoSaid : Prop := spellPrintsUptoRow.holds Tryz.pinned (OpenSpec.upto spellPrintsSpec)

/-- 'filigreelaw04.SpellModules', WHERE WHAT IT READS IS OF BULK AT MOST 1048576: true; the input reads as it did. -/
def spellModulesUptoRow : OpenClaim := { program := "ytlcfpdmicpggbaagreatdoor", sum := "bc79a16cd6bdcbb45c30da1b17d8007115a5bffc66399c227e34d4b3dafca29b", func := "filigree/filigreelaw04.SpellModules", spec := "spellModules", inPlace := ["internal/bytealg.IndexByteString", "internal/bytealg.IndexString"], unfollowed := true, recurses := true, named := ["filigree/ast.kinds", "internal/bytealg.MaxLen", "internal/strconv.uint64pow10", "math/bits.deBruijn32tab", "math/bits.deBruijn64tab", "filigree/ast.shapes"], loops := true, apart := false, laid := [("math/bits.deBruijn32tab", laid_math_bits_deBruijn32tab), ("math/bits.deBruijn64tab", laid_math_bits_deBruijn64tab), ("internal/strconv.uint64pow10", laid_internal_strconv_uint64pow10), ("filigree/ast.kinds", laid_filigree_ast_kinds), ("filigree/ast.shapes", laid_filigree_ast_shapes)], narrowed := true }
def SpellModulesUptoSaid : Prop := spellModulesUptoRow.holds Tryz.pinned (OpenSpec.upto spellModulesSpec)

/-- 'filigreelaw04.SpellBlocks', WHERE WHAT IT READS IS OF BULK AT MOST 1048576: true; the input reads as it did. -/
def spellBlocksUptoRow : OpenClaim := { program := "ytlcfpdmicpggbaagreatdoor", sum := "bc79a16cd6bdcbb45c30da1b17d8007115a5bffc66399c227e34d4b3dafca29b", func := "filigree/filigreelaw04.SpellBlocks", spec := "spellBlocks", inPlace := ["internal/bytealg.IndexByteString", "internal/bytealg.IndexString"], unfollowed := true, recurses := true, named := ["filigree/ast.kinds", "internal/bytealg.MaxLen", "internal/strconv.uint64pow10", "math/bits.deBruijn32tab", "math/bits.deBruijn64tab", "filigree/ast.shapes"], loops := true, apart := false, laid := [("math/bits.deBruijn32tab", laid_math_bits_deBruijn32tab), ("math/bits.deBruijn64tab", laid_math_bits_deBruijn64tab), ("internal/strconv.uint64pow10", laid_internal_strconv_uint64pow10), ("filigree/ast.kinds", laid_filigree_ast_kinds), ("filigree/ast.shapes", laid_filigree_ast_shapes)], narrowed := true }
def SpellBlocksUptoSaid : Prop := spellBlocksUptoRow.holds Tryz.pinned (OpenSpec.upto spellBlocksSpec)

/-- 'filigreelaw04.SpellSigns', WHERE WHAT IT READS IS OF BULK AT MOST 1048576: true; the input reads as it did. -/
def spellSignsUptoRow : OpenClaim := { program := "ytlcfpdmicpggbaagreatdoor", sum := "bc79a16cd6bdcbb45c30da1b17d8007115a5bffc66399c227e34d4b3dafca29b", func := "filigree/filigreelaw04.SpellSigns", spec := "spellSigns", inPlace := ["internal/bytealg.IndexByteString", "internal/bytealg.IndexString"], unfollowed := true, recurses := true, named := ["filigree/ast.kinds", "internal/bytealg.MaxLen", "internal/strconv.uint64pow10", "math/bits.deBruijn32tab", "math/bits.deBruijn64tab", "filigree/ast.shapes"], apart := false, laid := [("math/bits.deBruijn32tab", laid_math_bits_deBruijn32tab), ("math/bits.deBruijn64tab", laid_math_bits_deBruijn64tab), ("internal/strconv.uint64pow10", laid_internal_strconv_uint64pow10), ("filigree/ast.kinds", laid_filigree_ast_kinds), ("filigree/ast.shapes", laid_filigree_ast_shapes)], narrowed := true }
def SpellSignsUptoSaid : Prop := spellSignsUptoRow.holds Tryz.pinned (OpenSpec.upto spellSignsSpec)

/-- 'filigreelaw04.SpellMay', WHERE WHAT IT READS IS OF BULK AT MOST 1048576: true; the input reads as it did. -/
def spellMayUptoRow : OpenClaim := { program := "ytlcfpdmicpggbaagreatdoor", sum := "bc79a16cd6bdcbb45c30da1b17d8007115a5bffc66399c227e34d4b3dafca29b", func := "filigree/filigreelaw04.SpellMay", spec := "spellMay", inPlace := ["internal/bytealg.IndexByteString", "internal/bytealg.IndexString"], unfollowed := true, recurses := true, named := ["filigree/ast.kinds", "internal/bytealg.MaxLen", "internal/strconv.uint64pow10", "math/bits.deBruijn32tab", "math/bits.deBruijn64tab", "filigree/ast.shapes"], loops := true, apart := false, laid := [("math/bits.deBruijn32tab", laid_math_bits_deBruijn32tab), ("math/bits.deBruijn64tab", laid_math_bits_deBruijn64tab), ("internal/strconv.uint64pow10", laid_internal_strconv_uint64pow10), ("filigree/ast.kinds", laid_filigree_ast_kinds), ("filigree/ast.shapes", laid_filigree_ast_shapes)], narrowed := true }
def SpellMayUptoSaid : Prop := spellMayUptoRow.holds Tryz.pinned (OpenSpec.upto spellMaySpec)

/-- 'filigreelaw04.SpellOne', WHERE WHAT IT READS IS OF BULK AT MOST 1048576: true; the input reads as it did. -/
def spellOneUptoRow : OpenClaim := { program := "ytlcfpdmicpggbaagreatdoor", sum := "bc79a16cd6bdcbb45c30da1b17d8007115a5bffc66399c227e34d4b3dafca29b", func := "filigree/filigreelaw04.SpellOne", spec := "spellOne", inPlace := ["internal/bytealg.IndexByteString", "internal/bytealg.IndexString"], unfollowed := true, recurses := true, named := ["filigree/ast.kinds", "internal/bytealg.MaxLen", "internal/strconv.uint64pow10", "math/bits.deBruijn32tab", "math/bits.deBruijn64tab", "filigree/ast.shapes"], loops := true, apart := false, laid := [("math/bits.deBruijn32tab", laid_math_bits_deBruijn32tab), ("math/bits.deBruijn64tab", laid_math_bits_deBruijn64tab), ("internal/strconv.uint64pow10", laid_internal_strconv_uint64pow10), ("filigree/ast.kinds", laid_filigree_ast_kinds), ("filigree/ast.shapes", laid_filigree_ast_shapes)], narrowed := true }
def SpellOneUptoSaid : Prop := spellOneUptoRow.holds Tryz.pinned (OpenSpec.upto spellOneSpec)

/-- 'filigreelaw04.SpellNames', WHERE WHAT IT READS IS OF BULK AT MOST 1048576: true; the input reads as it did. -/
def spellNamesUptoRow : OpenClaim := { program := "ytlcfpdmicpggbaagreatdoor", sum := "bc79a16cd6bdcbb45c30da1b17d8007115a5bffc66399c227e34d4b3dafca29b", func := "filigree/filigreelaw04.SpellNames", spec := "spellNames", inPlace := ["internal/bytealg.IndexByteString", "internal/bytealg.IndexString"], unfollowed := true, recurses := true, named := ["filigree/ast.kinds", "internal/bytealg.MaxLen", "internal/strconv.uint64pow10", "math/bits.deBruijn32tab", "math/bits.deBruijn64tab", "filigree/ast.shapes"], loops := true, apart := false, laid := [("math/bits.deBruijn32tab", laid_math_bits_deBruijn32tab), ("math/bits.deBruijn64tab", laid_math_bits_deBruijn64tab), ("internal/strconv.uint64pow10", laid_internal_strconv_uint64pow10), ("filigree/ast.kinds", laid_filigree_ast_kinds), ("filigree/ast.shapes", laid_filigree_ast_shapes)], narrowed := true }
def SpellNamesUptoSaid : Prop := spellNamesUptoRow.holds Tryz.pinned (OpenSpec.upto spellNamesSpec)

/-- 'filigreelaw04.SpellScans', WHERE WHAT IT READS IS OF BULK AT MOST 1048576: true; the input reads as it did. -/
def spellScansUptoRow : OpenClaim := { program := "ytlcfpdmicpggbaagreatdoor", sum := "bc79a16cd6bdcbb45c30da1b17d8007115a5bffc66399c227e34d4b3dafca29b", func := "filigree/filigreelaw04.SpellScans", spec := "spellScans", inPlace := ["internal/bytealg.IndexByteString", "internal/bytealg.IndexString", "math/bits.Add64"], unfollowed := true, recurses := true, named := ["filigree/ast.kinds", "internal/bytealg.MaxLen", "internal/strconv.uint64pow10", "math/bits.deBruijn32tab", "math/bits.deBruijn64tab", "filigree/ast.shapes", "unicode/utf8.first", "unicode/utf8.acceptRanges"], loops := true, apart := false, laid := [("math/bits.deBruijn32tab", laid_math_bits_deBruijn32tab), ("math/bits.deBruijn64tab", laid_math_bits_deBruijn64tab), ("internal/strconv.uint64pow10", laid_internal_strconv_uint64pow10), ("unicode/utf8.acceptRanges", laid_unicode_utf8_acceptRanges), ("filigree/ast.kinds", laid_filigree_ast_kinds), ("filigree/ast.shapes", laid_filigree_ast_shapes), ("unicode/utf8.first", laid_unicode_utf8_first)], narrowed := true }
def SpellScansUptoSaid : Prop := spellScansUptoRow.holds Tryz.pinned (OpenSpec.upto spellScansSpec)

end Rows
end Go.Proofs.YtlcfpdmicpggbaaGreatDoor
