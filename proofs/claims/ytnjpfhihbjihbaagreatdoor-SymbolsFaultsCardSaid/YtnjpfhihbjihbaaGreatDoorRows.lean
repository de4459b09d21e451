/-
  NARROWER THAN 'FOR EVERY INPUT', by the rows' own cells (each row's printed sentence says how): SymbolsValues: laid · SymbolsOrder: laid · SymbolsKnown: laid · SymbolsUses: laid · SymbolsNil: laid · SymbolsFaults: laid.
  DERIVED. THE GIVEN ROWS OF THIS SEAT. 6 by the template 'for every input the law returns true; each argument reads behind the call as it read before'; 0 by the template 'total and deterministic' (their statements: YtnjpfhihbjihbaaGreatDoorTotals.lean).
  GIVEN WITH THE SEED: the statements are not yours to turn. If you find one false, say at which input.
  Laid BY PROGRAM, IN A SANDBOX (cutbox-rows.mjs): the forced cells as the released guide's own fill.sh prints them over the translation 87e88c8b72ed6c50… (all of the seat's roots in one cut). By AI agents, Wed Nov 11 2026. No macro, syntax, notation, axiom, sorry.
-/
import Derived.Test.YtnjpfhihbjihbaaGreatDoorChecked
import GoSem.Claim
import GoSem.ClaimJoined
import GoSem.ClaimMapViews
import Derived.JoinedTies
import Derived.KernelRfl
namespace Go.Proofs.YtnjpfhihbjihbaaGreatDoor
/- THE CELL 'sum', in the pinned program and in every row, IS THE sha256 OF THE DUMP (.gsa) THAT YtnjpfhihbjihbaaGreatDoorProg.lean LOADS. Nothing in Lean hashes anything: it is a label: what it is worth is what the hold of that sum in a sandbox is worth. -/
noncomputable def Tryz.pinned : Pinned := { name := "ytnjpfhihbjihbaagreatdoor", sum := "87e88c8b72ed6c506e6ab1e7549d89f1fa14013a45ae8f6d98636827c2b46659", checked := Tryz.checked }
namespace Rows
def none {H : Type} : Left H := { results := [], args := [] }

/- WHAT THE LISTED PACKAGE-LEVEL VARIABLES READ AS WHEN THE CALL BEGINS. Each datum BY PROGRAM (the guide's laid-datum.mjs) off the statement by which the dump's own 'gosem.cut.vars' lays the variable. In a bare row this is a premise. The card (YtnjpfhihbjihbaaGreatDoorCards.lean) ties it to the program's text. -/
def laid_math_bits_deBruijn32tab {H : Type} : DataW H := .agg [.lit (.int .u8 0), .lit (.int .u8 1), .lit (.int .u8 28), .lit (.int .u8 2), .lit (.int .u8 29), .lit (.int .u8 14), .lit (.int .u8 24), .lit (.int .u8 3), .lit (.int .u8 30), .lit (.int .u8 22), .lit (.int .u8 20), .lit (.int .u8 15), .lit (.int .u8 25), .lit (.int .u8 17), .lit (.int .u8 4), .lit (.int .u8 8), .lit (.int .u8 31), .lit (.int .u8 27), .lit (.int .u8 13), .lit (.int .u8 23), .lit (.int .u8 21), .lit (.int .u8 19), .lit (.int .u8 16), .lit (.int .u8 7), .lit (.int .u8 26), .lit (.int .u8 12), .lit (.int .u8 18), .lit (.int .u8 6), .lit (.int .u8 11), .lit (.int .u8 5), .lit (.int .u8 10), .lit (.int .u8 9)]
def laid_math_bits_deBruijn64tab {H : Type} : DataW H := .agg [.lit (.int .u8 0), .lit (.int .u8 1), .lit (.int .u8 56), .lit (.int .u8 2), .lit (.int .u8 57), .lit (.int .u8 49), .lit (.int .u8 28), .lit (.int .u8 3), .lit (.int .u8 61), .lit (.int .u8 58), .lit (.int .u8 42), .lit (.int .u8 50), .lit (.int .u8 38), .lit (.int .u8 29), .lit (.int .u8 17), .lit (.int .u8 4), .lit (.int .u8 62), .lit (.int .u8 47), .lit (.int .u8 59), .lit (.int .u8 36), .lit (.int .u8 45), .lit (.int .u8 43), .lit (.int .u8 51), .lit (.int .u8 22), .lit (.int .u8 53), .lit (.int .u8 39), .lit (.int .u8 33), .lit (.int .u8 30), .lit (.int .u8 24), .lit (.int .u8 18), .lit (.int .u8 12), .lit (.int .u8 5), .lit (.int .u8 63), .lit (.int .u8 55), .lit (.int .u8 48), .lit (.int .u8 27), .lit (.int .u8 60), .lit (.int .u8 41), .lit (.int .u8 37), .lit (.int .u8 16), .lit (.int .u8 46), .lit (.int .u8 35), .lit (.int .u8 44), .lit (.int .u8 21), .lit (.int .u8 52), .lit (.int .u8 32), .lit (.int .u8 23), .lit (.int .u8 11), .lit (.int .u8 54), .lit (.int .u8 26), .lit (.int .u8 40), .lit (.int .u8 15), .lit (.int .u8 34), .lit (.int .u8 20), .lit (.int .u8 31), .lit (.int .u8 10), .lit (.int .u8 25), .lit (.int .u8 14), .lit (.int .u8 19), .lit (.int .u8 9), .lit (.int .u8 13), .lit (.int .u8 8), .lit (.int .u8 7), .lit (.int .u8 6)]
def laid_internal_strconv_uint64pow10 {H : Type} : DataW H := .agg [.lit (.int .u64 1), .lit (.int .u64 10), .lit (.int .u64 100), .lit (.int .u64 1000), .lit (.int .u64 10000), .lit (.int .u64 100000), .lit (.int .u64 1000000), .lit (.int .u64 10000000), .lit (.int .u64 100000000), .lit (.int .u64 1000000000), .lit (.int .u64 10000000000), .lit (.int .u64 100000000000), .lit (.int .u64 1000000000000), .lit (.int .u64 10000000000000), .lit (.int .u64 100000000000000), .lit (.int .u64 1000000000000000), .lit (.int .u64 10000000000000000), .lit (.int .u64 100000000000000000), .lit (.int .u64 1000000000000000000), .lit (.int .u64 10000000000000000000)]

/-- 'breadboardlaw20.SymbolsValues': WHATEVER THE INPUT: true; the input reads as it did. -/
def symbolsValuesSpec : ChangeSpec := { name := "symbolsValues", fn := fun _ => fun
  | [d1, d2] => { results := [.lit (.bool true)], args := [d1, d2] }
  | _ => none }
def symbolsValuesRow : OpenClaim := { program := "ytnjpfhihbjihbaagreatdoor", sum := "87e88c8b72ed6c506e6ab1e7549d89f1fa14013a45ae8f6d98636827c2b46659", func := "breadboard/breadboardlaw20.SymbolsValues", spec := "symbolsValues", inPlace := ["internal/bytealg.IndexByteString", "internal/abi.NoEscape"], unfollowed := true, recurses := true, named := ["internal/strconv.uint64pow10", "math/bits.deBruijn32tab", "math/bits.deBruijn64tab"], apart := false, laid := [("math/bits.deBruijn32tab", laid_math_bits_deBruijn32tab), ("math/bits.deBruijn64tab", laid_math_bits_deBruijn64tab), ("internal/strconv.uint64pow10", laid_internal_strconv_uint64pow10)] }
def SymbolsValuesSaid : Prop := symbolsValuesRow.holds Tryz.pinned (OpenSpec.ofChange symbolsValuesSpec)

/-- ITS FALSE NEIGHBOUR: 'it returns false'. Refute it at one input. -/
def symbolsValuesWrong : ChangeSpec := { name := "symbolsValues", fn := fun _ => fun
  | [d1, d2] => { results := [.lit (.bool false)], args := [d1, d2] }
  | _ => none }
def SymbolsValuesWrongFalsely : Prop := symbolsValuesRow.holds Tryz.pinned (OpenSpec.ofChange symbolsValuesWrong)

/-- 'breadboardlaw20.SymbolsOrder': WHATEVER THE INPUT: true; the input reads as it did. -/
def symbolsOrderSpec : ChangeSpec := { name := "symbolsOrder", fn := fun _ => fun
  | [d] => { results := [.lit (.bool true)], args := [d] }
  | _ => none }
def symbolsOrderRow : OpenClaim := { program := "ytnjpfhihbjihbaagreatdoor", sum := "87e88c8b72ed6c506e6ab1e7549d89f1fa14013a45ae8f6d98636827c2b46659", func := "breadboard/breadboardlaw20.SymbolsOrder", spec := "symbolsOrder", inPlace := ["internal/bytealg.IndexByteString", "internal/abi.NoEscape"], unfollowed := true, recurses := true, named := ["internal/strconv.uint64pow10", "math/bits.deBruijn32tab", "math/bits.deBruijn64tab"], apart := false, laid := [("math/bits.deBruijn32tab", laid_math_bits_deBruijn32tab), ("math/bits.deBruijn64tab", laid_math_bits_deBruijn64tab), ("internal/strconv.uint64pow10", laid_internal_strconv_uint64pow10)] }
def SymbolsOrderSaid : Prop := symbolsOrderRow.holds Tryz.pinned (OpenSpec.ofChange symbolsOrderSpec)

/-- ITS FALSE NEIGHBOUR: 'it returns false'. Refute it at one input. -/
def symbolsOrderWrong : ChangeSpec := { name := "symbolsOrder", fn := fun _ => fun
  | [d] => { results := [.lit (.bool false)], args := [d] }
  | _ => none }
def SymbolsOrderWrongFalsely : Prop := symbolsOrderRow.holds Tryz.pinned (OpenSpec.ofChange symbolsOrderWrong)

/-- 'breadboardlaw20.SymbolsKnown': WHATEVER THE INPUT: true; the input reads as it did. -/
def symbolsKnownSpec : ChangeSpec := { name := "symbolsKnown", fn := fun _ => fun
  | [d] => { results := [.lit (.bool true)], args := [d] }
  | _ => none }
def symbolsKnownRow : OpenClaim := { program := "ytnjpfhihbjihbaagreatdoor", sum := "87e88c8b72ed6c506e6ab1e7549d89f1fa14013a45ae8f6d98636827c2b46659", func := "breadboard/breadboardlaw20.SymbolsKnown", spec := "symbolsKnown", inPlace := ["internal/bytealg.IndexByteString", "internal/abi.NoEscape"], unfollowed := true, recurses := true, named := ["internal/strconv.uint64pow10", "math/bits.deBruijn32tab", "math/bits.deBruijn64tab"], apart := false, laid := [("math/bits.deBruijn32tab", laid_math_bits_deBruijn32tab), ("math/bits.deBruijn64tab", laid_math_bits_deBruijn64tab), ("internal/strconv.uint64pow10", laid_internal_strconv_uint64pow10)] }
def SymbolsKnownSaid : Prop := symbolsKnownRow.holds Tryz.pinned (OpenSpec.ofChange symbolsKnownSpec)

/-- ITS FALSE NEIGHBOUR: 'it returns false'. Refute it at one input. -/
def symbolsKnownWrong : ChangeSpec := { name := "symbolsKnown", fn := fun _ => fun
  | [d] => { results := [.lit (.bool false)], args := [d] }
  | _ => none }
def SymbolsKnownWrongFalsely : Prop := symbolsKnownRow.holds Tryz.pinned (OpenSpec.ofChange symbolsKnownWrong)

/-- 'breadboardlaw20.SymbolsUses': WHATEVER THE INPUT: true; the input reads as it did. -/
def symbolsUsesSpec : ChangeSpec := { name := "symbolsUses", fn := fun _ => fun
  | [d1, d2] => { results := [.lit (.bool true)], args := [d1, d2] }
  | _ => none }
def symbolsUsesRow : OpenClaim := { program := "ytnjpfhihbjihbaagreatdoor", sum := "87e88c8b72ed6c506e6ab1e7549d89f1fa14013a45ae8f6d98636827c2b46659", func := "breadboard/breadboardlaw20.SymbolsUses", spec := "symbolsUses", inPlace := ["internal/bytealg.IndexByteString", "internal/abi.NoEscape"], unfollowed := true, recurses := true, named := ["internal/strconv.uint64pow10", "math/bits.deBruijn32tab", "math/bits.deBruijn64tab"], apart := false, laid := [("math/bits.deBruijn32tab", laid_math_bits_deBruijn32tab), ("math/bits.deBruijn64tab", laid_math_bits_deBruijn64tab), ("internal/strconv.uint64pow10", laid_internal_strconv_uint64pow10)] }
def SymbolsUsesSaid : Prop := symbolsUsesRow.holds Tryz.pinned (OpenSpec.ofChange symbolsUsesSpec)

/-- ITS FALSE NEIGHBOUR: 'it returns false'. Refute it at one input. -/
def symbolsUsesWrong : ChangeSpec := { name := "symbolsUses", fn := fun _ => fun
  | [d1, d2] => { results := [.lit (.bool false)], args := [d1, d2] }
  | _ => none }
def SymbolsUsesWrongFalsely : Prop := symbolsUsesRow.holds Tryz.pinned (OpenSpec.ofChange symbolsUsesWrong)

/-- 'breadboardlaw20.SymbolsNil': WHATEVER THE INPUT: true; the input reads as it did. -/
def symbolsNilSpec : ChangeSpec := { name := "symbolsNil", fn := fun _ => fun
  | [d1, d2] => { results := [.lit (.bool true)], args := [d1, d2] }
  | _ => none }
def symbolsNilRow : OpenClaim := { program := "ytnjpfhihbjihbaagreatdoor", sum := "87e88c8b72ed6c506e6ab1e7549d89f1fa14013a45ae8f6d98636827c2b46659", func := "breadboard/breadboardlaw20.SymbolsNil", spec := "symbolsNil", inPlace := ["internal/bytealg.IndexByteString", "internal/abi.NoEscape"], unfollowed := true, recurses := true, named := ["internal/strconv.uint64pow10", "math/bits.deBruijn32tab", "math/bits.deBruijn64tab"], apart := false, laid := [("math/bits.deBruijn32tab", laid_math_bits_deBruijn32tab), ("math/bits.deBruijn64tab", laid_math_bits_deBruijn64tab), ("internal/strconv.uint64pow10", laid_internal_strconv_uint64pow10)] }
def SymbolsNilSaid : Prop := symbolsNilRow.holds Tryz.pinned (OpenSpec.ofChange symbolsNilSpec)

/-- ITS FALSE NEIGHBOUR: 'it returns false'. Refute it at one input. -/
def symbolsNilWrong : ChangeSpec := { name := "symbolsNil", fn := fun _ => fun
  | [d1, d2] => { results := [.lit (.bool false)], args := [d1, d2] }
  | _ => none }
def SymbolsNilWrongFalsely : Prop := symbolsNilRow.holds Tryz.pinned (OpenSpec.ofChange symbolsNilWrong)

/-- 'breadboardlaw20.SymbolsFaults': WHATEVER THE INPUT: true; the input reads as it did. -/
def symbolsFaultsSpec : ChangeSpec := { name := "symbolsFaults", fn := fun _ => fun
  | [d] => { results := [.lit (.bool true)], args := [d] }
  | _ => none }
def symbolsFaultsRow : OpenClaim := { program := "ytnjpfhihbjihbaagreatdoor", sum := "87e88c8b72ed6c506e6ab1e7549d89f1fa14013a45ae8f6d98636827c2b46659", func := "breadboard/breadboardlaw20.SymbolsFaults", spec := "symbolsFaults", inPlace := ["internal/bytealg.IndexByteString", "internal/abi.NoEscape"], unfollowed := true, recurses := true, named := ["internal/strconv.uint64pow10", "math/bits.deBruijn32tab", "math/bits.deBruijn64tab"], apart := false, laid := [("math/bits.deBruijn32tab", laid_math_bits_deBruijn32tab), ("math/bits.deBruijn64tab", laid_math_bits_deBruijn64tab), ("internal/strconv.uint64pow10", laid_internal_strconv_uint64pow10)] }
def SymbolsFaultsSaid : Prop := symbolsFaultsRow.holds Tryz.pinned (OpenSpec.ofChange symbolsFaultsSpec)

/-- ITS FALSE NEIGHBOUR: 'it returns false'. Refute it at one input. -/
def symbolsFaultsWrong : ChangeSpec := { name := "symbolsFaults", fn := fun _ => fun
  | [d] => { results := [.lit (.bool false)], args := [d] }
  | _ => none }
def SymbolsFaultsWrongFalsely : Prop := symbolsFaultsRow.holds Tryz.pinned (OpenSpec.ofChange symbolsFaultsWrong)

/- THE SECOND FORM. 'bulk': how many values and letters a reading holds, each counted each time it is reached (what is shared counts as often as it is met; a slice's spare places count too). A statement '..UptoSaid' is the law's where the arguments, and the package variables that the reading takes, are together of bulk at most 1048576: NARROWER than '..Said'. Prove '..Said' where nothing that the law and all that it calls make is longer than what came in: it says more and counts as full. Else prove '..UptoSaid'. A law counts once. -/
mutual
def uptoBulk {H : Type} : DataW H → Nat
  | .lit (.string bytes) => bytes.length + 1
  | .lit _ => 1
  | .nil => 1
  | .ptr d => uptoBulk d + 1
  | .slice elems spare => uptoBulkAll elems + uptoBulkAll spare + 1
  | .agg parts => uptoBulkAll parts + 1
  | .iface _ d => uptoBulk d + 1
  | .map entries => uptoBulkEntries entries + 1
  | .held _ => 1
def uptoBulkAll {H : Type} : List (DataW H) → Nat
  | [] => 0
  | d :: r => uptoBulk d + uptoBulkAll r
def uptoBulkEntries {H : Type} : List (Lit × DataW H) → Nat
  | [] => 0
  | x :: r => uptoBulkEntry x + uptoBulkEntries r
def uptoBulkEntry {H : Type} : Lit × DataW H → Nat
  | (.string bytes, d) => bytes.length + uptoBulk d + 1
  | (_, d) => uptoBulk d + 1
 end
def uptoSmall : (H : Type) → List (DataW H) → Bool := fun _ ds => decide (uptoBulkAll ds ≤ 1048576)
def OpenSpec.upto (s : _root_.Go.ChangeSpec) : _root_.Go.OpenSpec := { _root_.Go.OpenSpec.ofChange s with cond := some uptoSmall }

/-- 'breadboardlaw20.SymbolsValues', WHERE WHAT IT READS IS OF BULK AT MOST 1048576: true; the input reads as it did. -/
def symbolsValuesUptoRow : OpenClaim := { program := "ytnjpfhihbjihbaagreatdoor", sum := "87e88c8b72ed6c506e6ab1e7549d89f1fa14013a45ae8f6d98636827c2b46659", func := "breadboard/breadboardlaw20.SymbolsValues", spec := "symbolsValues", inPlace := ["internal/bytealg.IndexByteString", "internal/abi.NoEscape"], unfollowed := true, recurses := true, named := ["internal/strconv.uint64pow10", "math/bits.deBruijn32tab", "math/bits.deBruijn64tab"], apart := false, laid := [("math/bits.deBruijn32tab", laid_math_bits_deBruijn32tab), ("math/bits.deBruijn64tab", laid_math_bits_deBruijn64tab), ("internal/strconv.uint64pow10", laid_internal_strconv_uint64pow10)], narrowed := true }
def SymbolsValuesUptoSaid : Prop := symbolsValuesUptoRow.holds Tryz.pinned (OpenSpec.upto symbolsValuesSpec)

/-- 'breadboardlaw20.SymbolsOrder', WHERE WHAT IT READS IS OF BULK AT MOST 1048576: true; the input reads as it did. -/
def symbolsOrderUptoRow : OpenClaim := { program := "ytnjpfhihbjihbaagreatdoor", sum := "87e88c8b72ed6c506e6ab1e7549d89f1fa14013a45ae8f6d98636827c2b46659", func := "breadboard/breadboardlaw20.SymbolsOrder", spec := "symbolsOrder", inPlace := ["internal/bytealg.IndexByteString", "internal/abi.NoEscape"], unfollowed := true, recurses := true, named := ["internal/strconv.uint64pow10", "math/bits.deBruijn32tab", "math/bits.deBruijn64tab"], apart := false, laid := [("math/bits.deBruijn32tab", laid_math_bits_deBruijn32tab), ("math/bits.deBruijn64tab", laid_math_bits_deBruijn64tab), ("internal/strconv.uint64pow10", laid_internal_strconv_uint64pow10)], narrowed := true }
def SymbolsOrderUptoSaid : Prop := symbolsOrderUptoRow.holds Tryz.pinned (OpenSpec.upto symbolsOrderSpec)

/-- 'breadboardlaw20.SymbolsKnown', WHERE WHAT IT READS IS OF BULK AT MOST 1048576: true; the input reads as it did. -/
def symbolsKnownUptoRow : OpenClaim := { program := "ytnjpfhihbjihbaagreatdoor", sum := "87e88c8b72ed6c506e6ab1e7549d89f1fa14013a45ae8f6d98636827c2b46659", func := "breadboard/breadboardlaw20.SymbolsKnown", spec := "symbolsKnown", inPlace := ["internal/bytealg.IndexByteString", "internal/abi.NoEscape"], unfollowed := true, recurses := true, named := ["internal/strconv.uint64pow10", "math/bits.deBruijn32tab", "math/bits.deBruijn64tab"], apart := false, laid := [("math/bits.deBruijn32tab", laid_math_bits_deBruijn32tab), ("math/bits.deBruijn64tab", laid_math_bits_deBruijn64tab), ("internal/strconv.uint64pow10", laid_internal_strconv_uint64pow10)], narrowed := true }
def SymbolsKnownUptoSaid : Prop := symbolsKnownUptoRow.holds Tryz.pinned (OpenSpec.upto symbolsKnownSpec)

/-- 'breadboardlaw20.SymbolsUses', WHERE WHAT IT READS IS OF BULK AT MOST 1048576: true; the input reads as it did. -/
def symbolsUsesUptoRow : OpenClaim := { program := "ytnjpfhihbjihbaagreatdoor", sum := "87e88c8b72ed6c506e6ab1e7549d89f1fa14013a45ae8f6d98636827c2b46659", func := "breadboard/breadboardlaw20.SymbolsUses", spec := "symbolsUses", inPlace := ["internal/bytealg.IndexByteString", "internal/abi.NoEscape"], unfollowed := true, recurses := true, named := ["internal/strconv.uint64pow10", "math/bits.deBruijn32tab", "math/bits.deBruijn64tab"], apart := false, laid := [("math/bits.deBruijn32tab", laid_math_bits_deBruijn32tab), ("math/bits.deBruijn64tab", laid_math_bits_deBruijn64tab), ("internal/strconv.uint64pow10", laid_internal_strconv_uint64pow10)], narrowed := true }
def SymbolsUsesUptoSaid : Prop := symbolsUsesUptoRow.holds Tryz.pinned (OpenSpec.upto symbolsUsesSpec)

/-- 'breadboardlaw20.SymbolsNil', WHERE WHAT IT READS IS OF BULK AT MOST 1048576: true; the input reads as it did. -/
def symbolsNilUptoRow : OpenClaim := { program := "ytnjpfhihbjihbaagreatdoor", sum := "87e88c8b72ed6c506e6ab1e7549d89f1fa14013a45ae8f6d98636827c2b46659", func := "breadboard/breadboardlaw20.SymbolsNil", spec := "symbolsNil", inPlace := ["internal/bytealg.IndexByteString", "internal/abi.NoEscape"], unfollowed := true, recurses := true, named := ["internal/strconv.uint64pow10", "math/bits.deBruijn32tab", "math/bits.deBruijn64tab"], apart := false, laid := [("math/bits.deBruijn32tab", laid_math_bits_deBruijn32tab), ("math/bits.deBruijn64tab", laid_math_bits_deBruijn64tab), ("internal/strconv.uint64pow10", laid_internal_strconv_uint64pow10)], narrowed := true }
def SymbolsNilUptoSaid : Prop := symbolsNilUptoRow.holds Tryz.pinned (OpenSpec.upto symbolsNilSpec)

/-- 'breadboardlaw20.SymbolsFaults', WHERE WHAT IT READS IS OF BULK AT MOST 1048576: true; the input reads as it did. -/
def symbolsFaultsUptoRow : OpenClaim := { program := "ytnjpfhihbjihbaagreatdoor", sum := "87e88c8b72ed6c506e6ab1e7549d89f1fa14013a45ae8f6d98636827c2b46659", func := "breadboard/breadboardlaw20.SymbolsFaults", spec := "symbolsFaults", inPlace := ["internal/bytealg.IndexByteString", "internal/abi.NoEscape"], unfollowed := true, recurses := true, named := ["internal/strconv.uint64pow10", "math/bits.deBruijn32tab", "math/bits.deBruijn64tab"], apart := false, laid := [("math/bits.deBruijn32tab", laid_math_bits_deBruijn32tab), ("math/bits.deBruijn64tab", laid_math_bits_deBruijn64tab), ("internal/strconv.uint64pow10", laid_internal_strconv_uint64pow10)], narrowed := true }
def SymbolsFaultsUptoSaid : Prop := symbolsFaultsUptoRow.holds Tryz.pinned (OpenSpec.upto symbolsFaultsSpec)

end Rows
end Go.Proofs.YtnjpfhihbjihbaaGreatDoor
