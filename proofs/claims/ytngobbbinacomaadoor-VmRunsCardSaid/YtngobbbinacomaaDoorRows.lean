/-
  NARROWER THAN 'FOR EVERY INPUT', by the rows' own cells (each row's printed sentence says how): VmRuns: laid · VmRows: laid · VmIndex: laid · VmLoops: laid · VmCalls: laid · VmTwins: laid · VmOuts: laid · VmBlocks: laid · VmStacks: laid · VmJumps: laid · VmTimes: laid · VmStores: laid · VmPorts: laid · VmBudgets: laid.
  DERIVED. THE GIVEN ROWS OF THIS SEAT. 14 by the template 'for every input the law returns true; each argument reads behind the call as it read before'; 0 by the template 'total and deterministic' (their statements: YtngobbbinacomaaDoorTotals.lean).
  GIVEN WITH THE SEED: the statements are not yours to turn. If you find one false, say at which input.
  Laid BY PROGRAM, IN A SANDBOX (cutbox-rows.mjs): the forced cells as the released guide's own fill.sh prints them over the translation 5ebbc95df73eff7b… (all of the seat's roots in one cut). By AI agents, Wed Nov 11 2026. No macro, syntax, notation, axiom, sorry.
-/
import Derived.Test.YtngobbbinacomaaDoorChecked
import GoSem.Claim
import GoSem.ClaimJoined
import GoSem.ClaimMapViews
import Derived.JoinedTies
import Derived.KernelRfl
namespace Go.Proofs.YtngobbbinacomaaDoor
/- THE CELL 'sum', in the pinned program and in every row, IS THE sha256 OF THE DUMP (.gsa) THAT YtngobbbinacomaaDoorProg.lean LOADS. Nothing in Lean hashes anything: it is a label: what it is worth is what the hold of that sum in a sandbox is worth. -/
noncomputable def Tryd.pinned : Pinned := { name := "ytngobbbinacomaadoor", sum := "5ebbc95df73eff7bd3bf86e024bf51936b0d1173a63f25802bbcc6ee7c4287b4", checked := Tryd.checked }
namespace Rows
def none {H : Type} : Left H := { results := [], args := [] }

/- WHAT THE LISTED PACKAGE-LEVEL VARIABLES READ AS WHEN THE CALL BEGINS. Each datum BY PROGRAM (the guide's laid-datum.mjs) off the statement by which the dump's own 'gosem.cut.vars' lays the variable. In a bare row this is a premise. The card (YtngobbbinacomaaDoorCards.lean) ties it to the program's text. -/
def laid_math_bits_deBruijn32tab {H : Type} : DataW H := .agg [.lit (.int .u8 0), .lit (.int .u8 1), .lit (.int .u8 28), .lit (.int .u8 2), .lit (.int .u8 29), .lit (.int .u8 14), .lit (.int .u8 24), .lit (.int .u8 3), .lit (.int .u8 30), .lit (.int .u8 22), .lit (.int .u8 20), .lit (.int .u8 15), .lit (.int .u8 25), .lit (.int .u8 17), .lit (.int .u8 4), .lit (.int .u8 8), .lit (.int .u8 31), .lit (.int .u8 27), .lit (.int .u8 13), .lit (.int .u8 23), .lit (.int .u8 21), .lit (.int .u8 19), .lit (.int .u8 16), .lit (.int .u8 7), .lit (.int .u8 26), .lit (.int .u8 12), .lit (.int .u8 18), .lit (.int .u8 6), .lit (.int .u8 11), .lit (.int .u8 5), .lit (.int .u8 10), .lit (.int .u8 9)]
def laid_math_bits_deBruijn64tab {H : Type} : DataW H := .agg [.lit (.int .u8 0), .lit (.int .u8 1), .lit (.int .u8 56), .lit (.int .u8 2), .lit (.int .u8 57), .lit (.int .u8 49), .lit (.int .u8 28), .lit (.int .u8 3), .lit (.int .u8 61), .lit (.int .u8 58), .lit (.int .u8 42), .lit (.int .u8 50), .lit (.int .u8 38), .lit (.int .u8 29), .lit (.int .u8 17), .lit (.int .u8 4), .lit (.int .u8 62), .lit (.int .u8 47), .lit (.int .u8 59), .lit (.int .u8 36), .lit (.int .u8 45), .lit (.int .u8 43), .lit (.int .u8 51), .lit (.int .u8 22), .lit (.int .u8 53), .lit (.int .u8 39), .lit (.int .u8 33), .lit (.int .u8 30), .lit (.int .u8 24), .lit (.int .u8 18), .lit (.int .u8 12), .lit (.int .u8 5), .lit (.int .u8 63), .lit (.int .u8 55), .lit (.int .u8 48), .lit (.int .u8 27), .lit (.int .u8 60), .lit (.int .u8 41), .lit (.int .u8 37), .lit (.int .u8 16), .lit (.int .u8 46), .lit (.int .u8 35), .lit (.int .u8 44), .lit (.int .u8 21), .lit (.int .u8 52), .lit (.int .u8 32), .lit (.int .u8 23), .lit (.int .u8 11), .lit (.int .u8 54), .lit (.int .u8 26), .lit (.int .u8 40), .lit (.int .u8 15), .lit (.int .u8 34), .lit (.int .u8 20), .lit (.int .u8 31), .lit (.int .u8 10), .lit (.int .u8 25), .lit (.int .u8 14), .lit (.int .u8 19), .lit (.int .u8 9), .lit (.int .u8 13), .lit (.int .u8 8), .lit (.int .u8 7), .lit (.int .u8 6)]
def laid_internal_strconv_uint64pow10 {H : Type} : DataW H := .agg [.lit (.int .u64 1), .lit (.int .u64 10), .lit (.int .u64 100), .lit (.int .u64 1000), .lit (.int .u64 10000), .lit (.int .u64 100000), .lit (.int .u64 1000000), .lit (.int .u64 10000000), .lit (.int .u64 100000000), .lit (.int .u64 1000000000), .lit (.int .u64 10000000000), .lit (.int .u64 100000000000), .lit (.int .u64 1000000000000), .lit (.int .u64 10000000000000), .lit (.int .u64 100000000000000), .lit (.int .u64 1000000000000000), .lit (.int .u64 10000000000000000), .lit (.int .u64 100000000000000000), .lit (.int .u64 1000000000000000000), .lit (.int .u64 10000000000000000000)]

/-- 'solenoidlaw14.VmRuns': WHATEVER THE INPUT: true; the input reads as it did. -/
def vmRunsSpec : ChangeSpec := { name := "vmRuns", fn := fun _ => fun
  | [d1, d2, d3, d4, d5, d6, d7] => { results := [.lit (.bool true)], args := [d1, d2, d3, d4, d5, d6, d7] }
  | _ => none }
def vmRunsRow : OpenClaim := { program := "ytngobbbinacomaadoor", sum := "5ebbc95df73eff7bd3bf86e024bf51936b0d1173a63f25802bbcc6ee7c4287b4", func := "solenoid/solenoidlaw14.VmRuns", spec := "vmRuns", unfollowed := true, recurses := true, named := ["internal/strconv.uint64pow10", "math/bits.deBruijn32tab", "math/bits.deBruijn64tab"], apart := false, laid := [("math/bits.deBruijn32tab", laid_math_bits_deBruijn32tab), ("math/bits.deBruijn64tab", laid_math_bits_deBruijn64tab), ("internal/strconv.uint64pow10", laid_internal_strconv_uint64pow10)] }
def VmRunsSaid : Prop := vmRunsRow.holds Tryd.pinned (OpenSpec.ofChange vmRunsSpec)

/-- ITS FALSE NEIGHBOUR: 'it returns false'. Refute it at one input. -/
def vmRunsWrong : ChangeSpec := { name := "vmRuns", fn := fun _ => fun
  | [d1, d2, d3, d4, d5, d6, d7] => { results := [.lit (.bool false)], args := [d1, d2, d3, d4, d5, d6, d7] }
  | _ => none }
def VmRunsWrongFalsely : Prop := vmRunsRow.holds Tryd.pinned (OpenSpec.ofChange vmRunsWrong)

/-- 'solenoidlaw14.VmRows': WHATEVER THE INPUT: true; the input reads as it did. -/
def vmRowsSpec : ChangeSpec := { name := "vmRows", fn := fun _ => fun
  | [d1, d2, d3] => { results := [.lit (.bool true)], args := [d1, d2, d3] }
  | _ => none }
def vmRowsRow : OpenClaim := { program := "ytngobbbinacomaadoor", sum := "5ebbc95df73eff7bd3bf86e024bf51936b0d1173a63f25802bbcc6ee7c4287b4", func := "solenoid/solenoidlaw14.VmRows", spec := "vmRows", unfollowed := true, recurses := true, named := ["internal/strconv.uint64pow10", "math/bits.deBruijn32tab", "math/bits.deBruijn64tab"], apart := false, laid := [("math/bits.deBruijn32tab", laid_math_bits_deBruijn32tab), ("math/bits.deBruijn64tab", laid_math_bits_deBruijn64tab), ("internal/strconv.uint64pow10", laid_internal_strconv_uint64pow10)] }
def VmRowsSaid : Prop := vmRowsRow.holds Tryd.pinned (OpenSpec.ofChange vmRowsSpec)

/-- ITS FALSE NEIGHBOUR: 'it returns false'. Refute it at one input. -/
def vmRowsWrong : ChangeSpec := { name := "vmRows", fn := fun _ => fun
  | [d1, d2, d3] => { results := [.lit (.bool false)], args := [d1, d2, d3] }
  | _ => none }
def VmRowsWrongFalsely : Prop := vmRowsRow.holds Tryd.pinned (OpenSpec.ofChange vmRowsWrong)

/-- 'solenoidlaw14.VmIndex': WHATEVER THE INPUT: true; the input reads as it did. -/
def vmIndexSpec : ChangeSpec := { name := "vmIndex", fn := fun _ => fun
  | [d1, d2, d3] => { results := [.lit (.bool true)], args := [d1, d2, d3] }
  | _ => none }
def vmIndexRow : OpenClaim := { program := "ytngobbbinacomaadoor", sum := "5ebbc95df73eff7bd3bf86e024bf51936b0d1173a63f25802bbcc6ee7c4287b4", func := "solenoid/solenoidlaw14.VmIndex", spec := "vmIndex", unfollowed := true, recurses := true, named := ["internal/strconv.uint64pow10", "math/bits.deBruijn32tab", "math/bits.deBruijn64tab"], apart := false, laid := [("math/bits.deBruijn32tab", laid_math_bits_deBruijn32tab), ("math/bits.deBruijn64tab", laid_math_bits_deBruijn64tab), ("internal/strconv.uint64pow10", laid_internal_strconv_uint64pow10)] }
def VmIndexSaid : Prop := vmIndexRow.holds Tryd.pinned (OpenSpec.ofChange vmIndexSpec)

/-- ITS FALSE NEIGHBOUR: 'it returns false'. Refute it at one input. -/
def vmIndexWrong : ChangeSpec := { name := "vmIndex", fn := fun _ => fun
  | [d1, d2, d3] => { results := [.lit (.bool false)], args := [d1, d2, d3] }
  | _ => none }
def VmIndexWrongFalsely : Prop := vmIndexRow.holds Tryd.pinned (OpenSpec.ofChange vmIndexWrong)

/-- 'solenoidlaw14.VmLoops': WHATEVER THE INPUT: true; the input reads as it did. -/
def vmLoopsSpec : ChangeSpec := { name := "vmLoops", fn := fun _ => fun
  | [d1, d2] => { results := [.lit (.bool true)], args := [d1, d2] }
  | _ => none }
def vmLoopsRow : OpenClaim := { program := "ytngobbbinacomaadoor", sum := "5ebbc95df73eff7bd3bf86e024bf51936b0d1173a63f25802bbcc6ee7c4287b4", func := "solenoid/solenoidlaw14.VmLoops", spec := "vmLoops", unfollowed := true, recurses := true, named := ["internal/strconv.uint64pow10", "math/bits.deBruijn32tab", "math/bits.deBruijn64tab"], apart := false, laid := [("math/bits.deBruijn32tab", laid_math_bits_deBruijn32tab), ("math/bits.deBruijn64tab", laid_math_bits_deBruijn64tab), ("internal/strconv.uint64pow10", laid_internal_strconv_uint64pow10)] }
def VmLoopsSaid : Prop := vmLoopsRow.holds Tryd.pinned (OpenSpec.ofChange vmLoopsSpec)

/-- ITS FALSE NEIGHBOUR: 'it returns false'. Refute it at one input. -/
def vmLoopsWrong : ChangeSpec := { name := "vmLoops", fn := fun _ => fun
  | [d1, d2] => { results := [.lit (.bool false)], args := [d1, d2] }
  | _ => none }
def VmLoopsWrongFalsely : Prop := vmLoopsRow.holds Tryd.pinned (OpenSpec.ofChange vmLoopsWrong)

/-- 'solenoidlaw14.VmCalls': WHATEVER THE INPUT: true; the input reads as it did. -/
def vmCallsSpec : ChangeSpec := { name := "vmCalls", fn := fun _ => fun
  | [d1, d2] => { results := [.lit (.bool true)], args := [d1, d2] }
  | _ => none }
def vmCallsRow : OpenClaim := { program := "ytngobbbinacomaadoor", sum := "5ebbc95df73eff7bd3bf86e024bf51936b0d1173a63f25802bbcc6ee7c4287b4", func := "solenoid/solenoidlaw14.VmCalls", spec := "vmCalls", unfollowed := true, recurses := true, named := ["internal/strconv.uint64pow10", "math/bits.deBruijn32tab", "math/bits.deBruijn64tab"], apart := false, laid := [("math/bits.deBruijn32tab", laid_math_bits_deBruijn32tab), ("math/bits.deBruijn64tab", laid_math_bits_deBruijn64tab), ("internal/strconv.uint64pow10", laid_internal_strconv_uint64pow10)] }
def VmCallsSaid : Prop := vmCallsRow.holds Tryd.pinned (OpenSpec.ofChange vmCallsSpec)

/-- ITS FALSE NEIGHBOUR: 'it returns false'. Refute it at one input. -/
def vmCallsWrong : ChangeSpec := { name := "vmCalls", fn := fun _ => fun
  | [d1, d2] => { results := [.lit (.bool false)], args := [d1, d2] }
  | _ => none }
def VmCallsWrongFalsely : Prop := vmCallsRow.holds Tryd.pinned (OpenSpec.ofChange vmCallsWrong)

/-- 'solenoidlaw14.VmTwins': WHATEVER THE INPUT: true; the input reads as it did. -/
def vmTwinsSpec : ChangeSpec := { name := "vmTwins", fn := fun _ => fun
  | [d1, d2, d3, d4, d5] => { results := [.lit (.bool true)], args := [d1, d2, d3, d4, d5] }
  | _ => none }
def vmTwinsRow : OpenClaim := { program := "ytngobbbinacomaadoor", sum := "5ebbc95df73eff7bd3bf86e024bf51936b0d1173a63f25802bbcc6ee7c4287b4", func := "solenoid/solenoidlaw14.VmTwins", spec := "vmTwins", unfollowed := true, recurses := true, named := ["internal/strconv.uint64pow10", "math/bits.deBruijn32tab", "math/bits.deBruijn64tab"], apart := false, laid := [("math/bits.deBruijn32tab", laid_math_bits_deBruijn32tab), ("math/bits.deBruijn64tab", laid_math_bits_deBruijn64tab), ("internal/strconv.uint64pow10", laid_internal_strconv_uint64pow10)] }
def VmTwinsSaid : Prop := vmTwinsRow.holds Tryd.pinned (OpenSpec.ofChange vmTwinsSpec)

/-- ITS FALSE NEIGHBOUR: 'it returns false'. Refute it at one input. -/
def vmTwinsWrong : ChangeSpec := { name := "vmTwins", fn := fun _ => fun
  | [d1, d2, d3, d4, d5] => { results := [.lit (.bool false)], args := [d1, d2, d3, d4, d5] }
  | _ => none }
def VmTwinsWrongFalsely : Prop := vmTwinsRow.holds Tryd.pinned (OpenSpec.ofChange vmTwinsWrong)

/-- 'solenoidlaw14.VmOuts': WHATEVER THE INPUT: true; the input reads as it did. -/
def vmOutsSpec : ChangeSpec := { name := "vmOuts", fn := fun _ => fun
  | [d1, d2] => { results := [.lit (.bool true)], args := [d1, d2] }
  | _ => none }
def vmOutsRow : OpenClaim := { program := "ytngobbbinacomaadoor", sum := "5ebbc95df73eff7bd3bf86e024bf51936b0d1173a63f25802bbcc6ee7c4287b4", func := "solenoid/solenoidlaw14.VmOuts", spec := "vmOuts", unfollowed := true, recurses := true, named := ["internal/strconv.uint64pow10", "math/bits.deBruijn32tab", "math/bits.deBruijn64tab"], apart := false, laid := [("math/bits.deBruijn32tab", laid_math_bits_deBruijn32tab), ("math/bits.deBruijn64tab", laid_math_bits_deBruijn64tab), ("internal/strconv.uint64pow10", laid_internal_strconv_uint64pow10)] }
def VmOutsSaid : Prop := vmOutsRow.holds Tryd.pinned (OpenSpec.ofChange vmOutsSpec)

/-- ITS FALSE NEIGHBOUR: 'it returns false'. Refute it at one input. -/
def vmOutsWrong : ChangeSpec := { name := "vmOuts", fn := fun _ => fun
  | [d1, d2] => { results := [.lit (.bool false)], args := [d1, d2] }
  | _ => none }
def VmOutsWrongFalsely : Prop := vmOutsRow.holds Tryd.pinned (OpenSpec.ofChange vmOutsWrong)

/-- 'solenoidlaw14.VmBlocks': WHATEVER THE INPUT: true; the input reads as it did. -/
def vmBlocksSpec : ChangeSpec := { name := "vmBlocks", fn := fun _ => fun
  | [d1, d2] => { results := [.lit (.bool true)], args := [d1, d2] }
  | _ => none }
def vmBlocksRow : OpenClaim := { program := "ytngobbbinacomaadoor", sum := "5ebbc95df73eff7bd3bf86e024bf51936b0d1173a63f25802bbcc6ee7c4287b4", func := "solenoid/solenoidlaw14.VmBlocks", spec := "vmBlocks", unfollowed := true, recurses := true, named := ["internal/strconv.uint64pow10", "math/bits.deBruijn32tab", "math/bits.deBruijn64tab"], apart := false, laid := [("math/bits.deBruijn32tab", laid_math_bits_deBruijn32tab), ("math/bits.deBruijn64tab", laid_math_bits_deBruijn64tab), ("internal/strconv.uint64pow10", laid_internal_strconv_uint64pow10)] }
def VmBlocksSaid : Prop := vmBlocksRow.holds Tryd.pinned (OpenSpec.ofChange vmBlocksSpec)

/-- ITS FALSE NEIGHBOUR: 'it returns false'. Refute it at one input. -/
def vmBlocksWrong : ChangeSpec := { name := "vmBlocks", fn := fun _ => fun
  | [d1, d2] => { results := [.lit (.bool false)], args := [d1, d2] }
  | _ => none }
def VmBlocksWrongFalsely : Prop := vmBlocksRow.holds Tryd.pinned (OpenSpec.ofChange vmBlocksWrong)

/-- 'solenoidlaw14.VmStacks': WHATEVER THE INPUT: true; the input reads as it did. -/
def vmStacksSpec : ChangeSpec := { name := "vmStacks", fn := fun _ => fun
  | [d1, d2, d3] => { results := [.lit (.bool true)], args := [d1, d2, d3] }
  | _ => none }
def vmStacksRow : OpenClaim := { program := "ytngobbbinacomaadoor", sum := "5ebbc95df73eff7bd3bf86e024bf51936b0d1173a63f25802bbcc6ee7c4287b4", func := "solenoid/solenoidlaw14.VmStacks", spec := "vmStacks", unfollowed := true, recurses := true, named := ["internal/strconv.uint64pow10", "math/bits.deBruijn32tab", "math/bits.deBruijn64tab"], apart := false, laid := [("math/bits.deBruijn32tab", laid_math_bits_deBruijn32tab), ("math/bits.deBruijn64tab", laid_math_bits_deBruijn64tab), ("internal/strconv.uint64pow10", laid_internal_strconv_uint64pow10)] }
def VmStacksSaid : Prop := vmStacksRow.holds Tryd.pinned (OpenSpec.ofChange vmStacksSpec)

/-- ITS FALSE NEIGHBOUR: 'it returns false'. Refute it at one input. -/
def vmStacksWrong : ChangeSpec := { name := "vmStacks", fn := fun _ => fun
  | [d1, d2, d3] => { results := [.lit (.bool false)], args := [d1, d2, d3] }
  | _ => none }
def VmStacksWrongFalsely : Prop := vmStacksRow.holds Tryd.pinned (OpenSpec.ofChange vmStacksWrong)

/-- 'solenoidlaw14.VmJumps': WHATEVER THE INPUT: true; the input reads as it did. -/
def vmJumpsSpec : ChangeSpec := { name := "vmJumps", fn := fun _ => fun
  | [d1, d2] => { results := [.lit (.bool true)], args := [d1, d2] }
  | _ => none }
def vmJumpsRow : OpenClaim := { program := "ytngobbbinacomaadoor", sum := "5ebbc95df73eff7bd3bf86e024bf51936b0d1173a63f25802bbcc6ee7c4287b4", func := "solenoid/solenoidlaw14.VmJumps", spec := "vmJumps", unfollowed := true, recurses := true, named := ["internal/strconv.uint64pow10", "math/bits.deBruijn32tab", "math/bits.deBruijn64tab"], apart := false, laid := [("math/bits.deBruijn32tab", laid_math_bits_deBruijn32tab), ("math/bits.deBruijn64tab", laid_math_bits_deBruijn64tab), ("internal/strconv.uint64pow10", laid_internal_strconv_uint64pow10)] }
def VmJumpsSaid : Prop := vmJumpsRow.holds Tryd.pinned (OpenSpec.ofChange vmJumpsSpec)

/-- ITS FALSE NEIGHBOUR: 'it returns false'. Refute it at one input. -/
def vmJumpsWrong : ChangeSpec := { name := "vmJumps", fn := fun _ => fun
  | [d1, d2] => { results := [.lit (.bool false)], args := [d1, d2] }
  | _ => none }
def VmJumpsWrongFalsely : Prop := vmJumpsRow.holds Tryd.pinned (OpenSpec.ofChange vmJumpsWrong)

/-- 'solenoidlaw14.VmTimes': WHATEVER THE INPUT: true; the input reads as it did. -/
def vmTimesSpec : ChangeSpec := { name := "vmTimes", fn := fun _ => fun
  | [d1, d2] => { results := [.lit (.bool true)], args := [d1, d2] }
  | _ => none }
def vmTimesRow : OpenClaim := { program := "ytngobbbinacomaadoor", sum := "5ebbc95df73eff7bd3bf86e024bf51936b0d1173a63f25802bbcc6ee7c4287b4", func := "solenoid/solenoidlaw14.VmTimes", spec := "vmTimes", unfollowed := true, recurses := true, named := ["internal/strconv.uint64pow10", "math/bits.deBruijn32tab", "math/bits.deBruijn64tab"], apart := false, laid := [("math/bits.deBruijn32tab", laid_math_bits_deBruijn32tab), ("math/bits.deBruijn64tab", laid_math_bits_deBruijn64tab), ("internal/strconv.uint64pow10", laid_internal_strconv_uint64pow10)] }
def VmTimesSaid : Prop := vmTimesRow.holds Tryd.pinned (OpenSpec.ofChange vmTimesSpec)

/-- ITS FALSE NEIGHBOUR: 'it returns false'. Refute it at one input. -/
def vmTimesWrong : ChangeSpec := { name := "vmTimes", fn := fun _ => fun
  | [d1, d2] => { results := [.lit (.bool false)], args := [d1, d2] }
  | _ => none }
def VmTimesWrongFalsely : Prop := vmTimesRow.holds Tryd.pinned (OpenSpec.ofChange vmTimesWrong)

/-- 'solenoidlaw14.VmStores': WHATEVER THE INPUT: true; the input reads as it did. -/
def vmStoresSpec : ChangeSpec := { name := "vmStores", fn := fun _ => fun
  | [d1, d2] => { results := [.lit (.bool true)], args := [d1, d2] }
  | _ => none }
def vmStoresRow : OpenClaim := { program := "ytngobbbinacomaadoor", sum := "5ebbc95df73eff7bd3bf86e024bf51936b0d1173a63f25802bbcc6ee7c4287b4", func := "solenoid/solenoidlaw14.VmStores", spec := "vmStores", unfollowed := true, recurses := true, named := ["internal/strconv.uint64pow10", "math/bits.deBruijn32tab", "math/bits.deBruijn64tab"], apart := false, laid := [("math/bits.deBruijn32tab", laid_math_bits_deBruijn32tab), ("math/bits.deBruijn64tab", laid_math_bits_deBruijn64tab), ("internal/strconv.uint64pow10", laid_internal_strconv_uint64pow10)] }
def VmStoresSaid : Prop := vmStoresRow.holds Tryd.pinned (OpenSpec.ofChange vmStoresSpec)

/-- ITS FALSE NEIGHBOUR: 'it returns false'. Refute it at one input. -/
def vmStoresWrong : ChangeSpec := { name := "vmStores", fn := fun _ => fun
  | [d1, d2] => { results := [.lit (.bool false)], args := [d1, d2] }
  | _ => none }
def VmStoresWrongFalsely : Prop := vmStoresRow.holds Tryd.pinned (OpenSpec.ofChange vmStoresWrong)

/-- 'solenoidlaw14.VmPorts': WHATEVER THE INPUT: true; the input reads as it did. -/
def vmPortsSpec : ChangeSpec := { name := "vmPorts", fn := fun _ => fun
  | [d1, d2] => { results := [.lit (.bool true)], args := [d1, d2] }
  | _ => none }
def vmPortsRow : OpenClaim := { program := "ytngobbbinacomaadoor", sum := "5ebbc95df73eff7bd3bf86e024bf51936b0d1173a63f25802bbcc6ee7c4287b4", func := "solenoid/solenoidlaw14.VmPorts", spec := "vmPorts", unfollowed := true, recurses := true, named := ["internal/strconv.uint64pow10", "math/bits.deBruijn32tab", "math/bits.deBruijn64tab"], apart := false, laid := [("math/bits.deBruijn32tab", laid_math_bits_deBruijn32tab), ("math/bits.deBruijn64tab", laid_math_bits_deBruijn64tab), ("internal/strconv.uint64pow10", laid_internal_strconv_uint64pow10)] }
def VmPortsSaid : Prop := vmPortsRow.holds Tryd.pinned (OpenSpec.ofChange vmPortsSpec)

/-- ITS FALSE NEIGHBOUR: 'it returns false'. Refute it at one input. -/
def vmPortsWrong : ChangeSpec := { name := "vmPorts", fn := fun _ => fun
  | [d1, d2] => { results := [.lit (.bool false)], args := [d1, d2] }
  | _ => none }
def VmPortsWrongFalsely : Prop := vmPortsRow.holds Tryd.pinned (OpenSpec.ofChange vmPortsWrong)

/-- 'solenoidlaw14.VmBudgets': WHATEVER THE INPUT: true; the input reads as it did. -/
def vmBudgetsSpec : ChangeSpec := { name := "vmBudgets", fn := fun _ => fun
  | [d1, d2, d3] => { results := [.lit (.bool true)], args := [d1, d2, d3] }
  | _ => none }
def vmBudgetsRow : OpenClaim := { program := "ytngobbbinacomaadoor", sum := "5ebbc95df73eff7bd3bf86e024bf51936b0d1173a63f25802bbcc6ee7c4287b4", func := "solenoid/solenoidlaw14.VmBudgets", spec := "vmBudgets", unfollowed := true, recurses := true, named := ["internal/strconv.uint64pow10", "math/bits.deBruijn32tab", "math/bits.deBruijn64tab"], apart := false, laid := [("math/bits.deBruijn32tab", laid_math_bits_deBruijn32tab), ("math/bits.deBruijn64tab", laid_math_bits_deBruijn64tab), ("internal/strconv.uint64pow10", laid_internal_strconv_uint64pow10)] }
def VmBudgetsSaid : Prop := vmBudgetsRow.holds Tryd.pinned (OpenSpec.ofChange vmBudgetsSpec)

/-- ITS FALSE NEIGHBOUR: 'it returns false'. Refute it at one input. -/
def vmBudgetsWrong : ChangeSpec := { name := "vmBudgets", fn := fun _ => fun
  | [d1, d2, d3] => { results := [.lit (.bool false)], args := [d1, d2, d3] }
  | _ => none }
def VmBudgetsWrongFalsely : Prop := vmBudgetsRow.holds Tryd.pinned (OpenSpec.ofChange vmBudgetsWrong)

/- THE SECOND FORM. 'bulk': how many values and letters a reading holds, each counted each time it is reached (what is shared counts as often as it is met; a slice's spare places count too). A statement '..UptoSaid' is the law's where the arguments, and the package variables that the reading takes, are together of bulk at most 1048576: NARROWER than '..Said'. Prove '..Said' where nothing that the law and all that it calls make is longer than what came in: it says more and counts as full. Else prove '..UptoSaid'. A law counts once. -/
mutual
def uptoBulk {H : Type} : DataW H → Nat
  | .lit (.string bytes) => bytes.length + 1
  | .lit _ => 1
  | .nil => 1
  | .ptr d => uptoBulk d + 1
  | .slice elems spare => uptoBulkAll elems + uptoBulkAll spare + 1
  | .agg parts => uptoBulkAll parts + 1
  | .iface _ d => uptoBulk d + 1
  | .map entries => uptoBulkEntries entries + 1
  | .held _ => 1
def uptoBulkAll {H : Type} : List (DataW H) → Nat
  | [] => 0
  | d :: r => uptoBulk d + uptoBulkAll r
def uptoBulkEntries {H : Type} : List (Lit × DataW H) → Nat
  | [] => 0
  | x :: r => uptoBulkEntry x + uptoBulkEntries r
def uptoBulkEntry {H : Type} : Lit × DataW H → Nat
  | (.string bytes, d) => bytes.length + uptoBulk d + 1
  | (_, d) => uptoBulk d + 1
 end
def uptoSmall : (H : Type) → List (DataW H) → Bool := fun _ ds => decide (uptoBulkAll ds ≤ 1048576)
def OpenSpec.upto (s : _root_.Go.ChangeSpec) : _root_.Go.OpenSpec := { _root_.Go.OpenSpec.ofChange s with cond := some uptoSmall }

/-- 'solenoidlaw14.VmRuns', WHERE WHAT IT READS IS OF BULK AT MOST 1048576: true; the input reads as it did. -/
def vmRunsUptoRow : OpenClaim := { program := "ytngobbbinacomaadoor", sum := "5ebbc95df73eff7bd3bf86e024bf51936b0d1173a63f25802bbcc6ee7c4287b4", func := "solenoid/solenoidlaw14.VmRuns", spec := "vmRuns", unfollowed := true, recurses := true, named := ["internal/strconv.uint64pow10", "math/bits.deBruijn32tab", "math/bits.deBruijn64tab"], apart := false, laid := [("math/bits.deBruijn32tab", laid_math_bits_deBruijn32tab), ("math/bits.deBruijn64tab", laid_math_bits_deBruijn64tab), ("internal/strconv.uint64pow10", laid_internal_strconv_uint64pow10)], narrowed := true }
def VmRunsUptoSaid : Prop := vmRunsUptoRow.holds Tryd.pinned (OpenSpec.upto vmRunsSpec)

/-- 'solenoidlaw14.VmRows', WHERE WHAT IT READS IS OF BULK AT MOST 1048576: true; the input reads as it did. -/
def vmRowsUptoRow : OpenClaim := { program := "ytngobbbinacomaadoor", sum := "5ebbc95df73eff7bd3bf86e024bf51936b0d1173a63f25802bbcc6ee7c4287b4", func := "solenoid/solenoidlaw14.VmRows", spec := "vmRows", unfollowed := true, recurses := true, named := ["internal/strconv.uint64pow10", "math/bits.deBruijn32tab", "math/bits.deBruijn64tab"], apart := false, laid := [("math/bits.deBruijn32tab", laid_math_bits_deBruijn32tab), ("math/bits.deBruijn64tab", laid_math_bits_deBruijn64tab), ("internal/strconv.uint64pow10", laid_internal_strconv_uint64pow10)], narrowed := true }
def VmRowsUptoSaid : Prop := vmRowsUptoRow.holds Tryd.pinned (OpenSpec.upto vmRowsSpec)

/-- 'solenoidlaw14.VmIndex', WHERE WHAT IT READS IS OF BULK AT MOST 1048576: true; the input reads as it did. -/
def vmIndexUptoRow : OpenClaim := { program := "ytngobbbinacomaadoor", sum := "5ebbc95df73eff7bd3bf86e024bf51936b0d1173a63f25802bbcc6ee7c4287b4", func := "solenoid/solenoidlaw14.VmIndex", spec := "vmIndex", unfollowed := true, recurses := true, named := ["internal/strconv.uint64pow10", "math/bits.deBruijn32tab", "math/bits.deBruijn64tab"], apart := false, laid := [("math/bits.deBruijn32tab", laid_math_bits_deBruijn32tab), ("math/bits.deBruijn64tab", laid_math_bits_deBruijn64tab), ("internal/strconv.uint64pow10", laid_internal_strconv_uint64pow10)], narrowed := true }
def VmIndexUptoSaid : Prop := vmIndexUptoRow.holds Tryd.pinned (OpenSpec.upto vmIndexSpec)

/-- 'solenoidlaw14.VmLoops', WHERE WHAT IT READS IS OF BULK AT MOST 1048576: true; the input reads as it did. -/
def vmLoopsUptoRow : OpenClaim := { program := "ytngobbbinacomaadoor", sum := "5ebbc95df73eff7bd3bf86e024bf51936b0d1173a63f25802bbcc6ee7c4287b4", func := "solenoid/solenoidlaw14.VmLoops", spec := "vmLoops", unfollowed := true, recurses := true, named := ["internal/strconv.uint64pow10", "math/bits.deBruijn32tab", "math/bits.deBruijn64tab"], apart := false, laid := [("math/bits.deBruijn32tab", laid_math_bits_deBruijn32tab), ("math/bits.deBruijn64tab", laid_math_bits_deBruijn64tab), ("internal/strconv.uint64pow10", laid_internal_strconv_uint64pow10)], narrowed := true }
def VmLoopsUptoSaid : Prop := vmLoopsUptoRow.holds Tryd.pinned (OpenSpec.upto vmLoopsSpec)

/-- 'solenoidlaw14.VmCalls', WHERE WHAT IT READS IS OF BULK AT MOST 1048576: true; the input reads as it did. -/
def vmCallsUptoRow : OpenClaim := { program := "ytngobbbinacomaadoor", sum := "5ebbc95df73eff7bd3bf86e024bf51936b0d1173a63f25802bbcc6ee7c4287b4", func := "solenoid/solenoidlaw14.VmCalls", spec := "vmCalls", unfollowed := true, recurses := true, named := ["internal/strconv.uint64pow10", "math/bits.deBruijn32tab", "math/bits.deBruijn64tab"], apart := false, laid := [("math/bits.deBruijn32tab", laid_math_bits_deBruijn32tab), ("math/bits.deBruijn64tab", laid_math_bits_deBruijn64tab), ("internal/strconv.uint64pow10", laid_internal_strconv_uint64pow10)], narrowed := true }
def VmCallsUptoSaid : Prop := vmCallsUptoRow.holds Tryd.pinned (OpenSpec.upto vmCallsSpec)

/-- 'solenoidlaw14.VmTwins', WHERE WHAT IT READS IS OF BULK AT MOST 1048576: true; the input reads as it did. -/
def vmTwinsUptoRow : OpenClaim := { program := "ytngobbbinacomaadoor", sum := "5ebbc95df73eff7bd3bf86e024bf51936b0d1173a63f25802bbcc6ee7c4287b4", func := "solenoid/solenoidlaw14.VmTwins", spec := "vmTwins", unfollowed := true, recurses := true, named := ["internal/strconv.uint64pow10", "math/bits.deBruijn32tab", "math/bits.deBruijn64tab"], apart := false, laid := [("math/bits.deBruijn32tab", laid_math_bits_deBruijn32tab), ("math/bits.deBruijn64tab", laid_math_bits_deBruijn64tab), ("internal/strconv.uint64pow10", laid_internal_strconv_uint64pow10)], narrowed := true }
def VmTwinsUptoSaid : Prop := vmTwinsUptoRow.holds Tryd.pinned (OpenSpec.upto vmTwinsSpec)

/-- 'solenoidlaw14.VmOuts', WHERE WHAT IT READS IS OF BULK AT MOST 1048576: true; the input reads as it did. -/
def vmOutsUptoRow : OpenClaim := { program := "ytngobbbinacomaadoor", sum := "5ebbc95df73eff7bd3bf86e024bf51936b0d1173a63f25802bbcc6ee7c4287b4", func := "solenoid/solenoidlaw14.VmOuts", spec := "vmOuts", unfollowed := true, recurses := true, named := ["internal/strconv.uint64pow10", "math/bits.deBruijn32tab", "math/bits.deBruijn64tab"], apart := false, laid := [("math/bits.deBruijn32tab", laid_math_bits_deBruijn32tab), ("math/bits.deBruijn64tab", laid_math_bits_deBruijn64tab), ("internal/strconv.uint64pow10", laid_internal_strconv_uint64pow10)], narrowed := true }
def VmOutsUptoSaid : Prop := vmOutsUptoRow.holds Tryd.pinned (OpenSpec.upto vmOutsSpec)

/-- 'solenoidlaw14.VmBlocks', WHERE WHAT IT READS IS OF BULK AT MOST 1048576: true; the input reads as it did. -/
def vmBlocksUptoRow : OpenClaim := { program := "ytngobbbinacomaadoor", sum := "5ebbc95df73eff7bd3bf86e024bf51936b0d1173a63f25802bbcc6ee7c4287b4", func := "solenoid/solenoidlaw14.VmBlocks", spec := "vmBlocks", unfollowed := true, recurses := true, named := ["internal/strconv.uint64pow10", "math/bits.deBruijn32tab", "math/bits.deBruijn64tab"], apart := false, laid := [("math/bits.deBruijn32tab", laid_math_bits_deBruijn32tab), ("math/bits.deBruijn64tab", laid_math_bits_deBruijn64tab), ("internal/strconv.uint64pow10", laid_internal_strconv_uint64pow10)], narrowed := true }
def VmBlocksUptoSaid : Prop := vmBlocksUptoRow.holds Tryd.pinned (OpenSpec.upto vmBlocksSpec)

/-- 'solenoidlaw14.VmStacks', WHERE WHAT IT READS IS OF BULK AT MOST 1048576: true; the input reads as it did. -/
def vmStacksUptoRow : OpenClaim := { program := "ytngobbbinacomaadoor", sum := "5ebbc95df73eff7bd3bf86e024bf51936b0d1173a63f25802bbcc6ee7c4287b4", func := "solenoid/solenoidlaw14.VmStacks", spec := "vmStacks", unfollowed := true, recurses := true, named := ["internal/strconv.uint64pow10", "math/bits.deBruijn32tab", "math/bits.deBruijn64tab"], apart := false, laid := [("math/bits.deBruijn32tab", laid_math_bits_deBruijn32tab), ("math/bits.deBruijn64tab", laid_math_bits_deBruijn64tab), ("internal/strconv.uint64pow10", laid_internal_strconv_uint64pow10)], narrowed := true }
def VmStacksUptoSaid : Prop := vmStacksUptoRow.holds Tryd.pinned (OpenSpec.upto vmStacksSpec)

/-- 'solenoidlaw14.VmJumps', WHERE WHAT IT READS IS OF BULK AT MOST 1048576: true; the input reads as it did. -/
def vmJumpsUptoRow : OpenClaim := { program := "ytngobbbinacomaadoor", sum := "5ebbc95df73eff7bd3bf86e024bf51936b0d1173a63f25802bbcc6ee7c4287b4", func := "solenoid/solenoidlaw14.VmJumps", spec := "vmJumps", unfollowed := true, recurses := true, named := ["internal/strconv.uint64pow10", "math/bits.deBruijn32tab", "math/bits.deBruijn64tab"], apart := false, laid := [("math/bits.deBruijn32tab", laid_math_bits_deBruijn32tab), ("math/bits.deBruijn64tab", laid_math_bits_deBruijn64tab), ("internal/strconv.uint64pow10", laid_internal_strconv_uint64pow10)], narrowed := true }
def VmJumpsUptoSaid : Prop := vmJumpsUptoRow.holds Tryd.pinned (OpenSpec.upto vmJumpsSpec)

/-- 'solenoidlaw14.VmTimes', WHERE WHAT IT READS IS OF BULK AT MOST 1048576: true; the input reads as it did. -/
def vmTimesUptoRow : OpenClaim := { program := "ytngobbbinacomaadoor", sum := "5ebbc95df73eff7bd3bf86e024bf51936b0d1173a63f25802bbcc6ee7c4287b4", func := "solenoid/solenoidlaw14.VmTimes", spec := "vmTimes", unfollowed := true, recurses := true, named := ["internal/strconv.uint64pow10", "math/bits.deBruijn32tab", "math/bits.deBruijn64tab"], apart := false, laid := [("math/bits.deBruijn32tab", laid_math_bits_deBruijn32tab), ("math/bits.deBruijn64tab", laid_math_bits_deBruijn64tab), ("internal/strconv.uint64pow10", laid_internal_strconv_uint64pow10)], narrowed := true }
def VmTimesUptoSaid : Prop := vmTimesUptoRow.holds Tryd.pinned (OpenSpec.upto vmTimesSpec)

/-- 'solenoidlaw14.VmStores', WHERE WHAT IT READS IS OF BULK AT MOST 1048576: true; the input reads as it did. -/
def vmStoresUptoRow : OpenClaim := { program := "ytngobbbinacomaadoor", sum := "5ebbc95df73eff7bd3bf86e024bf51936b0d1173a63f25802bbcc6ee7c4287b4", func := "solenoid/solenoidlaw14.VmStores", spec := "vmStores", unfollowed := true, recurses := true, named := ["internal/strconv.uint64pow10", "math/bits.deBruijn32tab", "math/bits.deBruijn64tab"], apart := false, laid := [("math/bits.deBruijn32tab", laid_math_bits_deBruijn32tab), ("math/bits.deBruijn64tab", laid_math_bits_deBruijn64tab), ("internal/strconv.uint64pow10", laid_internal_strconv_uint64pow10)], narrowed := true }
def VmStoresUptoSaid : Prop := vmStoresUptoRow.holds Tryd.pinned (OpenSpec.upto vmStoresSpec)

/-- 'solenoidlaw14.VmPorts', WHERE WHAT IT READS IS OF BULK AT MOST 1048576: true; the input reads as it did. -/
def vmPortsUptoRow : OpenClaim := { program := "ytngobbbinacomaadoor", sum := "5ebbc95df73eff7bd3bf86e024bf51936b0d1173a63f25802bbcc6ee7c4287b4", func := "solenoid/solenoidlaw14.VmPorts", spec := "vmPorts", unfollowed := true, recurses := true, named := ["internal/strconv.uint64pow10", "math/bits.deBruijn32tab", "math/bits.deBruijn64tab"], apart := false, laid := [("math/bits.deBruijn32tab", laid_math_bits_deBruijn32tab), ("math/bits.deBruijn64tab", laid_math_bits_deBruijn64tab), ("internal/strconv.uint64pow10", laid_internal_strconv_uint64pow10)], narrowed := true }
def VmPortsUptoSaid : Prop := vmPortsUptoRow.holds Tryd.pinned (OpenSpec.upto vmPortsSpec)

/-- 'solenoidlaw14.VmBudgets', WHERE WHAT IT READS IS OF BULK AT MOST 1048576: true; the input reads as it did. -/
def vmBudgetsUptoRow : OpenClaim := { program := "ytngobbbinacomaadoor", sum := "5ebbc95df73eff7bd3bf86e024bf51936b0d1173a63f25802bbcc6ee7c4287b4", func := "solenoid/solenoidlaw14.VmBudgets", spec := "vmBudgets", unfollowed := true, recurses := true, named := ["internal/strconv.uint64pow10", "math/bits.deBruijn32tab", "math/bits.deBruijn64tab"], apart := false, laid := [("math/bits.deBruijn32tab", laid_math_bits_deBruijn32tab), ("math/bits.deBruijn64tab", laid_math_bits_deBruijn64tab), ("internal/strconv.uint64pow10", laid_internal_strconv_uint64pow10)], narrowed := true }
def VmBudgetsUptoSaid : Prop := vmBudgetsUptoRow.holds Tryd.pinned (OpenSpec.upto vmBudgetsSpec)

end Rows
end Go.Proofs.YtngobbbinacomaaDoor
