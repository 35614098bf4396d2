/-
  No cell of these rows narrows 'for every input' (looked for: loops, veiled, ifaces, maps, wideKeys, modest, calm, conditions, laid).
  DERIVED. THE GIVEN ROWS OF THIS SEAT. 15 by the template 'for every input the law returns true; each argument reads behind the call as it read before'; 0 by the template 'total and deterministic' (their statements: YtkabmmpccfeffaaTotals.lean).
  GIVEN WITH THE SEED: the statements are not yours to turn. If you find one false, say at which input.
  Laid BY PROGRAM, IN A SANDBOX (cutbox-rows.mjs): the forced cells as the released guide's own fill.sh prints them over the translation 43e077045bb21d0c… (all of the seat's roots in one cut). By AI agents, Wed Nov 11 2026. No macro, syntax, notation, axiom, sorry.
-/
import Derived.Test.YtkabmmpccfeffaaChecked
import GoSem.Claim
import GoSem.ClaimJoined
import GoSem.ClaimMapViews
import Derived.JoinedTies
import Derived.KernelRfl
namespace Go.Proofs.Ytkabmmpccfeffaa
/- THE CELL 'sum', in the pinned program and in every row, IS THE sha256 OF THE DUMP (.gsa) THAT YtkabmmpccfeffaaProg.lean LOADS. Nothing in Lean hashes anything: it is a label: what it is worth is what the hold of that sum in a sandbox is worth. -/
noncomputable def Try.pinned : Pinned := { name := "ytkabmmpccfeffaa", sum := "43e077045bb21d0cebbbcda74c1626c347ec0feb9eba9c954a61902d84ca23df", checked := Try.checked }
namespace Rows
def none {H : Type} : Left H := { results := [], args := [] }

/-- 'gantletlaw16.OrderPlays': WHATEVER THE INPUT: true; the input reads as it did. -/
def orderPlaysSpec : ChangeSpec := { name := "orderPlays", fn := fun _ => fun
  | [d1, d2] => { results := [.lit (.bool true)], args := [d1, d2] }
  | _ => none }
def orderPlaysRow : OpenClaim := { program := "ytkabmmpccfeffaa", sum := "43e077045bb21d0cebbbcda74c1626c347ec0feb9eba9c954a61902d84ca23df", func := "gantlet/gantletlaw16.OrderPlays", spec := "orderPlays", apart := false }
def OrderPlaysSaid : Prop := orderPlaysRow.holds Try.pinned (OpenSpec.ofChange orderPlaysSpec)

/-- ITS FALSE NEIGHBOUR: 'it returns false'. Refute it at one input. -/
def orderPlaysWrong : ChangeSpec := { name := "orderPlays", fn := fun _ => fun
  | [d1, d2] => { results := [.lit (.bool false)], args := [d1, d2] }
  | _ => none }
def OrderPlaysWrongFalsely : Prop := orderPlaysRow.holds Try.pinned (OpenSpec.ofChange orderPlaysWrong)

/-- 'gantletlaw19.EncodeOne': WHATEVER THE INPUT: true; the input reads as it did. -/
def encodeOneSpec : ChangeSpec := { name := "encodeOne", fn := fun _ => fun
  | [d1, d2] => { results := [.lit (.bool true)], args := [d1, d2] }
  | _ => none }
def encodeOneRow : OpenClaim := { program := "ytkabmmpccfeffaa", sum := "43e077045bb21d0cebbbcda74c1626c347ec0feb9eba9c954a61902d84ca23df", func := "gantlet/gantletlaw19.EncodeOne", spec := "encodeOne", inPlace := ["internal/abi.NoEscape", "internal/bytealg.MakeNoZero", "internal/bytealg.IndexByteString"], unfollowed := true, recurses := true, apart := false }
def EncodeOneSaid : Prop := encodeOneRow.holds Try.pinned (OpenSpec.ofChange encodeOneSpec)

/-- ITS FALSE NEIGHBOUR: 'it returns false'. Refute it at one input. -/
def encodeOneWrong : ChangeSpec := { name := "encodeOne", fn := fun _ => fun
  | [d1, d2] => { results := [.lit (.bool false)], args := [d1, d2] }
  | _ => none }
def EncodeOneWrongFalsely : Prop := encodeOneRow.holds Try.pinned (OpenSpec.ofChange encodeOneWrong)

/-- 'gantletlaw16.OrderSorts': WHATEVER THE INPUT: true; the input reads as it did. -/
def orderSortsSpec : ChangeSpec := { name := "orderSorts", fn := fun _ => fun
  | [d] => { results := [.lit (.bool true)], args := [d] }
  | _ => none }
def orderSortsRow : OpenClaim := { program := "ytkabmmpccfeffaa", sum := "43e077045bb21d0cebbbcda74c1626c347ec0feb9eba9c954a61902d84ca23df", func := "gantlet/gantletlaw16.OrderSorts", spec := "orderSorts", unfollowed := true, recurses := true, apart := false }
def OrderSortsSaid : Prop := orderSortsRow.holds Try.pinned (OpenSpec.ofChange orderSortsSpec)

/-- ITS FALSE NEIGHBOUR: 'it returns false'. Refute it at one input. -/
def orderSortsWrong : ChangeSpec := { name := "orderSorts", fn := fun _ => fun
  | [d] => { results := [.lit (.bool false)], args := [d] }
  | _ => none }
def OrderSortsWrongFalsely : Prop := orderSortsRow.holds Try.pinned (OpenSpec.ofChange orderSortsWrong)

/-- 'gantletlaw15.ValueWhole': WHATEVER THE INPUT: true; the input reads as it did. -/
def valueWholeSpec : ChangeSpec := { name := "valueWhole", fn := fun _ => fun
  | [d1, d2] => { results := [.lit (.bool true)], args := [d1, d2] }
  | _ => none }
def valueWholeRow : OpenClaim := { program := "ytkabmmpccfeffaa", sum := "43e077045bb21d0cebbbcda74c1626c347ec0feb9eba9c954a61902d84ca23df", func := "gantlet/gantletlaw15.ValueWhole", spec := "valueWhole", unfollowed := true, recurses := true, apart := false }
def ValueWholeSaid : Prop := valueWholeRow.holds Try.pinned (OpenSpec.ofChange valueWholeSpec)

/-- ITS FALSE NEIGHBOUR: 'it returns false'. Refute it at one input. -/
def valueWholeWrong : ChangeSpec := { name := "valueWhole", fn := fun _ => fun
  | [d1, d2] => { results := [.lit (.bool false)], args := [d1, d2] }
  | _ => none }
def ValueWholeWrongFalsely : Prop := valueWholeRow.holds Try.pinned (OpenSpec.ofChange valueWholeWrong)

/-- 'gantletlaw15.ValuePushes': WHATEVER THE INPUT: true; the input reads as it did. -/
def valuePushesSpec : ChangeSpec := { name := "valuePushes", fn := fun _ => fun
  | [d1, d2] => { results := [.lit (.bool true)], args := [d1, d2] }
  | _ => none }
def valuePushesRow : OpenClaim := { program := "ytkabmmpccfeffaa", sum := "43e077045bb21d0cebbbcda74c1626c347ec0feb9eba9c954a61902d84ca23df", func := "gantlet/gantletlaw15.ValuePushes", spec := "valuePushes", unfollowed := true, recurses := true, apart := false }
def ValuePushesSaid : Prop := valuePushesRow.holds Try.pinned (OpenSpec.ofChange valuePushesSpec)

/-- ITS FALSE NEIGHBOUR: 'it returns false'. Refute it at one input. -/
def valuePushesWrong : ChangeSpec := { name := "valuePushes", fn := fun _ => fun
  | [d1, d2] => { results := [.lit (.bool false)], args := [d1, d2] }
  | _ => none }
def ValuePushesWrongFalsely : Prop := valuePushesRow.holds Try.pinned (OpenSpec.ofChange valuePushesWrong)

/-- 'gantletlaw15.ValueFront': WHATEVER THE INPUT: true; the input reads as it did. -/
def valueFrontSpec : ChangeSpec := { name := "valueFront", fn := fun _ => fun
  | [d1, d2, d3] => { results := [.lit (.bool true)], args := [d1, d2, d3] }
  | _ => none }
def valueFrontRow : OpenClaim := { program := "ytkabmmpccfeffaa", sum := "43e077045bb21d0cebbbcda74c1626c347ec0feb9eba9c954a61902d84ca23df", func := "gantlet/gantletlaw15.ValueFront", spec := "valueFront", unfollowed := true, recurses := true, apart := false }
def ValueFrontSaid : Prop := valueFrontRow.holds Try.pinned (OpenSpec.ofChange valueFrontSpec)

/-- ITS FALSE NEIGHBOUR: 'it returns false'. Refute it at one input. -/
def valueFrontWrong : ChangeSpec := { name := "valueFront", fn := fun _ => fun
  | [d1, d2, d3] => { results := [.lit (.bool false)], args := [d1, d2, d3] }
  | _ => none }
def ValueFrontWrongFalsely : Prop := valueFrontRow.holds Try.pinned (OpenSpec.ofChange valueFrontWrong)

/-- 'gantletlaw15.ValueRight': WHATEVER THE INPUT: true; the input reads as it did. -/
def valueRightSpec : ChangeSpec := { name := "valueRight", fn := fun _ => fun
  | [d1, d2] => { results := [.lit (.bool true)], args := [d1, d2] }
  | _ => none }
def valueRightRow : OpenClaim := { program := "ytkabmmpccfeffaa", sum := "43e077045bb21d0cebbbcda74c1626c347ec0feb9eba9c954a61902d84ca23df", func := "gantlet/gantletlaw15.ValueRight", spec := "valueRight", unfollowed := true, recurses := true, apart := false }
def ValueRightSaid : Prop := valueRightRow.holds Try.pinned (OpenSpec.ofChange valueRightSpec)

/-- ITS FALSE NEIGHBOUR: 'it returns false'. Refute it at one input. -/
def valueRightWrong : ChangeSpec := { name := "valueRight", fn := fun _ => fun
  | [d1, d2] => { results := [.lit (.bool false)], args := [d1, d2] }
  | _ => none }
def ValueRightWrongFalsely : Prop := valueRightRow.holds Try.pinned (OpenSpec.ofChange valueRightWrong)

/-- 'gantletlaw15.ValueHeads': WHATEVER THE INPUT: true; the input reads as it did. -/
def valueHeadsSpec : ChangeSpec := { name := "valueHeads", fn := fun _ => fun
  | [d] => { results := [.lit (.bool true)], args := [d] }
  | _ => none }
def valueHeadsRow : OpenClaim := { program := "ytkabmmpccfeffaa", sum := "43e077045bb21d0cebbbcda74c1626c347ec0feb9eba9c954a61902d84ca23df", func := "gantlet/gantletlaw15.ValueHeads", spec := "valueHeads", unfollowed := true, recurses := true, apart := false }
def ValueHeadsSaid : Prop := valueHeadsRow.holds Try.pinned (OpenSpec.ofChange valueHeadsSpec)

/-- ITS FALSE NEIGHBOUR: 'it returns false'. Refute it at one input. -/
def valueHeadsWrong : ChangeSpec := { name := "valueHeads", fn := fun _ => fun
  | [d] => { results := [.lit (.bool false)], args := [d] }
  | _ => none }
def ValueHeadsWrongFalsely : Prop := valueHeadsRow.holds Try.pinned (OpenSpec.ofChange valueHeadsWrong)

/-- 'gantletlaw20.GrammarParts': WHATEVER THE INPUT: true; the input reads as it did. -/
def grammarPartsSpec : ChangeSpec := { name := "grammarParts", fn := fun _ => fun
  | [d1, d2] => { results := [.lit (.bool true)], args := [d1, d2] }
  | _ => none }
def grammarPartsRow : OpenClaim := { program := "ytkabmmpccfeffaa", sum := "43e077045bb21d0cebbbcda74c1626c347ec0feb9eba9c954a61902d84ca23df", func := "gantlet/gantletlaw20.GrammarParts", spec := "grammarParts", unfollowed := true, recurses := true, apart := false }
def GrammarPartsSaid : Prop := grammarPartsRow.holds Try.pinned (OpenSpec.ofChange grammarPartsSpec)

/-- ITS FALSE NEIGHBOUR: 'it returns false'. Refute it at one input. -/
def grammarPartsWrong : ChangeSpec := { name := "grammarParts", fn := fun _ => fun
  | [d1, d2] => { results := [.lit (.bool false)], args := [d1, d2] }
  | _ => none }
def GrammarPartsWrongFalsely : Prop := grammarPartsRow.holds Try.pinned (OpenSpec.ofChange grammarPartsWrong)

/-- 'gantletlaw20.GrammarTakes': WHATEVER THE INPUT: true; the input reads as it did. -/
def grammarTakesSpec : ChangeSpec := { name := "grammarTakes", fn := fun _ => fun
  | [d1, d2, d3] => { results := [.lit (.bool true)], args := [d1, d2, d3] }
  | _ => none }
def grammarTakesRow : OpenClaim := { program := "ytkabmmpccfeffaa", sum := "43e077045bb21d0cebbbcda74c1626c347ec0feb9eba9c954a61902d84ca23df", func := "gantlet/gantletlaw20.GrammarTakes", spec := "grammarTakes", unfollowed := true, recurses := true, apart := false }
def GrammarTakesSaid : Prop := grammarTakesRow.holds Try.pinned (OpenSpec.ofChange grammarTakesSpec)

/-- ITS FALSE NEIGHBOUR: 'it returns false'. Refute it at one input. -/
def grammarTakesWrong : ChangeSpec := { name := "grammarTakes", fn := fun _ => fun
  | [d1, d2, d3] => { results := [.lit (.bool false)], args := [d1, d2, d3] }
  | _ => none }
def GrammarTakesWrongFalsely : Prop := grammarTakesRow.holds Try.pinned (OpenSpec.ofChange grammarTakesWrong)

/-- 'gantletlaw20.GrammarFront': WHATEVER THE INPUT: true; the input reads as it did. -/
def grammarFrontSpec : ChangeSpec := { name := "grammarFront", fn := fun _ => fun
  | [d1, d2, d3] => { results := [.lit (.bool true)], args := [d1, d2, d3] }
  | _ => none }
def grammarFrontRow : OpenClaim := { program := "ytkabmmpccfeffaa", sum := "43e077045bb21d0cebbbcda74c1626c347ec0feb9eba9c954a61902d84ca23df", func := "gantlet/gantletlaw20.GrammarFront", spec := "grammarFront", unfollowed := true, recurses := true, apart := false }
def GrammarFrontSaid : Prop := grammarFrontRow.holds Try.pinned (OpenSpec.ofChange grammarFrontSpec)

/-- ITS FALSE NEIGHBOUR: 'it returns false'. Refute it at one input. -/
def grammarFrontWrong : ChangeSpec := { name := "grammarFront", fn := fun _ => fun
  | [d1, d2, d3] => { results := [.lit (.bool false)], args := [d1, d2, d3] }
  | _ => none }
def GrammarFrontWrongFalsely : Prop := grammarFrontRow.holds Try.pinned (OpenSpec.ofChange grammarFrontWrong)

/-- 'gantletlaw19.EncodeLists': WHATEVER THE INPUT: true; the input reads as it did. -/
def encodeListsSpec : ChangeSpec := { name := "encodeLists", fn := fun _ => fun
  | [d] => { results := [.lit (.bool true)], args := [d] }
  | _ => none }
def encodeListsRow : OpenClaim := { program := "ytkabmmpccfeffaa", sum := "43e077045bb21d0cebbbcda74c1626c347ec0feb9eba9c954a61902d84ca23df", func := "gantlet/gantletlaw19.EncodeLists", spec := "encodeLists", inPlace := ["internal/abi.NoEscape", "internal/bytealg.MakeNoZero", "internal/bytealg.IndexByteString"], unfollowed := true, recurses := true, apart := false }
def EncodeListsSaid : Prop := encodeListsRow.holds Try.pinned (OpenSpec.ofChange encodeListsSpec)

/-- ITS FALSE NEIGHBOUR: 'it returns false'. Refute it at one input. -/
def encodeListsWrong : ChangeSpec := { name := "encodeLists", fn := fun _ => fun
  | [d] => { results := [.lit (.bool false)], args := [d] }
  | _ => none }
def EncodeListsWrongFalsely : Prop := encodeListsRow.holds Try.pinned (OpenSpec.ofChange encodeListsWrong)

/-- 'gantletlaw19.EncodeParts': WHATEVER THE INPUT: true; the input reads as it did. -/
def encodePartsSpec : ChangeSpec := { name := "encodeParts", fn := fun _ => fun
  | [d1, d2, d3] => { results := [.lit (.bool true)], args := [d1, d2, d3] }
  | _ => none }
def encodePartsRow : OpenClaim := { program := "ytkabmmpccfeffaa", sum := "43e077045bb21d0cebbbcda74c1626c347ec0feb9eba9c954a61902d84ca23df", func := "gantlet/gantletlaw19.EncodeParts", spec := "encodeParts", inPlace := ["internal/abi.NoEscape", "internal/bytealg.MakeNoZero", "internal/bytealg.IndexByteString"], unfollowed := true, recurses := true, apart := false }
def EncodePartsSaid : Prop := encodePartsRow.holds Try.pinned (OpenSpec.ofChange encodePartsSpec)

/-- ITS FALSE NEIGHBOUR: 'it returns false'. Refute it at one input. -/
def encodePartsWrong : ChangeSpec := { name := "encodeParts", fn := fun _ => fun
  | [d1, d2, d3] => { results := [.lit (.bool false)], args := [d1, d2, d3] }
  | _ => none }
def EncodePartsWrongFalsely : Prop := encodePartsRow.holds Try.pinned (OpenSpec.ofChange encodePartsWrong)

/-- 'gantletlaw19.EncodeSorts': WHATEVER THE INPUT: true; the input reads as it did. -/
def encodeSortsSpec : ChangeSpec := { name := "encodeSorts", fn := fun _ => fun
  | [d] => { results := [.lit (.bool true)], args := [d] }
  | _ => none }
def encodeSortsRow : OpenClaim := { program := "ytkabmmpccfeffaa", sum := "43e077045bb21d0cebbbcda74c1626c347ec0feb9eba9c954a61902d84ca23df", func := "gantlet/gantletlaw19.EncodeSorts", spec := "encodeSorts", inPlace := ["internal/abi.NoEscape", "internal/bytealg.MakeNoZero", "internal/bytealg.IndexByteString"], unfollowed := true, recurses := true, apart := false }
def EncodeSortsSaid : Prop := encodeSortsRow.holds Try.pinned (OpenSpec.ofChange encodeSortsSpec)

/-- ITS FALSE NEIGHBOUR: 'it returns false'. Refute it at one input. -/
def encodeSortsWrong : ChangeSpec := { name := "encodeSorts", fn := fun _ => fun
  | [d] => { results := [.lit (.bool false)], args := [d] }
  | _ => none }
def EncodeSortsWrongFalsely : Prop := encodeSortsRow.holds Try.pinned (OpenSpec.ofChange encodeSortsWrong)

/-- 'gantletlaw19.EncodeSigned': WHATEVER THE INPUT: true; the input reads as it did. -/
def encodeSignedSpec : ChangeSpec := { name := "encodeSigned", fn := fun _ => fun
  | [d1, d2] => { results := [.lit (.bool true)], args := [d1, d2] }
  | _ => none }
def encodeSignedRow : OpenClaim := { program := "ytkabmmpccfeffaa", sum := "43e077045bb21d0cebbbcda74c1626c347ec0feb9eba9c954a61902d84ca23df", func := "gantlet/gantletlaw19.EncodeSigned", spec := "encodeSigned", inPlace := ["internal/abi.NoEscape", "internal/bytealg.MakeNoZero", "internal/bytealg.IndexByteString"], unfollowed := true, recurses := true, apart := false }
def EncodeSignedSaid : Prop := encodeSignedRow.holds Try.pinned (OpenSpec.ofChange encodeSignedSpec)

/-- ITS FALSE NEIGHBOUR: 'it returns false'. Refute it at one input. -/
def encodeSignedWrong : ChangeSpec := { name := "encodeSigned", fn := fun _ => fun
  | [d1, d2] => { results := [.lit (.bool false)], args := [d1, d2] }
  | _ => none }
def EncodeSignedWrongFalsely : Prop := encodeSignedRow.holds Try.pinned (OpenSpec.ofChange encodeSignedWrong)

/- THE SECOND FORM. 'bulk': how many values and letters a reading holds, each counted each time it is reached (what is shared counts as often as it is met; a slice's spare places count too). A statement '..UptoSaid' is the law's where the arguments, and the package variables that the reading takes, are together of bulk at most 1048576: NARROWER than '..Said'. Prove '..Said' where nothing that the law and all that it calls make is longer than what came in: it says more and counts as full. Else prove '..UptoSaid'. A law counts once. -/
mutual
def uptoBulk {H : Type} : DataW H → Nat
  | .lit (.string bytes) => bytes.length + 1
  | .lit _ => 1
  | .nil => 1
  | .ptr d => uptoBulk d + 1
  | .slice elems spare => uptoBulkAll elems + uptoBulkAll spare + 1
  | .agg parts => uptoBulkAll parts + 1
  | .iface _ d => uptoBulk d + 1
  | .map entries => uptoBulkEntries entries + 1
  | .held _ => 1
def uptoBulkAll {H : Type} : List (DataW H) → Nat
  | [] => 0
  | d :: r => uptoBulk d + uptoBulkAll r
def uptoBulkEntries {H : Type} : List (Lit × DataW H) → Nat
  | [] => 0
  | x :: r => uptoBulkEntry x + uptoBulkEntries r
def uptoBulkEntry {H : Type} : Lit × DataW H → Nat
  | (.string bytes, d) => bytes.length + uptoBulk d + 1
  | (_, d) => uptoBulk d + 1
 end
def uptoSmall : (H : Type) → List (DataW H) → Bool := fun _ ds => decide (uptoBulkAll ds ≤ 1048576)
def OpenSpec.upto (s : _root_.Go.ChangeSpec) : _root_.Go.OpenSpec := { _root_.Go.OpenSpec.ofChange s with cond := some uptoSmall }

/-- 'gantletlaw16.OrderPlays', WHERE WHAT IT READS IS OF BULK AT MOST 1048576: true; the input reads as it did. -/
def orderPlaysUptoRow : OpenClaim := { program := "ytkabmmpccfeffaa", sum := "43e077045bb21d0cebbbcda74c1626c347ec0feb9eba9c954a61902d84ca23df", func := "gantlet/gantletlaw16.OrderPlays", spec := "orderPlays", apart := false, narrowed := true }
def OrderPlaysUptoSaid : Prop := orderPlaysUptoRow.holds Try.pinned (OpenSpec.upto orderPlaysSpec)

/-- 'gantletlaw19.EncodeOne', WHERE WHAT IT READS IS OF BULK AT MOST 1048576: true; the input reads as it did. -/
def encodeOneUptoRow : OpenClaim := { program := "ytkabmmpccfeffaa", sum := "43e077045bb21d0cebbbcda74c1626c347ec0feb9eba9c954a61902d84ca23df", func := "gantlet/gantletlaw19.EncodeOne", spec := "encodeOne", inPlace := ["internal/abi.NoEscape", "internal/bytealg.MakeNoZero", "internal/bytealg.IndexByteString"], unfollowed := true, recurses := true, apart := false, narrowed := true }
def EncodeOneUptoSaid : Prop := encodeOneUptoRow.holds Try.pinned (OpenSpec.upto encodeOneSpec)

/-- 'gantletlaw16.OrderSorts', WHERE WHAT IT READS IS OF BULK AT MOST 1048576: true; the input reads as it did. -/
def orderSortsUptoRow : OpenClaim := { program := "ytkabmmpccfeffaa", sum := "43e077045bb21d0cebbbcda74c1626c347ec0feb9eba9c954a61902d84ca23df", func := "gantlet/gantletlaw16.OrderSorts", spec := "orderSorts", unfollowed := true, recurses := true, apart := false, narrowed := true }
def OrderSortsUptoSaid : Prop := orderSortsUptoRow.holds Try.pinned (OpenSpec.upto orderSortsSpec)

/-- 'gantletlaw15.ValueWhole', WHERE WHAT IT READS IS OF BULK AT MOST 1048576: true; the input reads as it did. -/
def valueWholeUptoRow : OpenClaim := { program := "ytkabmmpccfeffaa", sum := "43e077045bb21d0cebbbcda74c1626c347ec0feb9eba9c954a61902d84ca23df", func := "gantlet/gantletlaw15.ValueWhole", spec := "valueWhole", unfollowed := true, recurses := true, apart := false, narrowed := true }
def ValueWholeUptoSaid : Prop := valueWholeUptoRow.holds Try.pinned (OpenSpec.upto valueWholeSpec)

/-- 'gantletlaw15.ValuePushes', WHERE WHAT IT READS IS OF BULK AT MOST 1048576: true; the input reads as it did. -/
def valuePushesUptoRow : OpenClaim := { program := "ytkabmmpccfeffaa", sum := "43e077045bb21d0cebbbcda74c1626c347ec0feb9eba9c954a61902d84ca23df", func := "gantlet/gantletlaw15.ValuePushes", spec := "valuePushes", unfollowed := true, recurses := true, apart := false, narrowed := true }
def ValuePushesUptoSaid : Prop := valuePushesUptoRow.holds Try.pinned (OpenSpec.upto valuePushesSpec)

/-- 'gantletlaw15.ValueFront', WHERE WHAT IT READS IS OF BULK AT MOST 1048576: true; the input reads as it did. -/
def valueFrontUptoRow : OpenClaim := { program := "ytkabmmpccfeffaa", sum := "43e077045bb21d0cebbbcda74c1626c347ec0feb9eba9c954a61902d84ca23df", func := "gantlet/gantletlaw15.ValueFront", spec := "valueFront", unfollowed := true, recurses := true, apart := false, narrowed := true }
def ValueFrontUptoSaid : Prop := valueFrontUptoRow.holds Try.pinned (OpenSpec.upto valueFrontSpec)

/-- 'gantletlaw15.ValueRight', WHERE WHAT IT READS IS OF BULK AT MOST 1048576: true; the input reads as it did. -/
def valueRightUptoRow : OpenClaim := { program := "ytkabmmpccfeffaa", sum := "43e077045bb21d0cebbbcda74c1626c347ec0feb9eba9c954a61902d84ca23df", func := "gantlet/gantletlaw15.ValueRight", spec := "valueRight", unfollowed := true, recurses := true, apart := false, narrowed := true }
def ValueRightUptoSaid : Prop := valueRightUptoRow.holds Try.pinned (OpenSpec.upto valueRightSpec)

/-- 'gantletlaw15.ValueHeads', WHERE WHAT IT READS IS OF BULK AT MOST 1048576: true; the input reads as it did. -/
def valueHeadsUptoRow : OpenClaim := { program := "ytkabmmpccfeffaa", sum := "43e077045bb21d0cebbbcda74c1626c347ec0feb9eba9c954a61902d84ca23df", func := "gantlet/gantletlaw15.ValueHeads", spec := "valueHeads", unfollowed := true, recurses := true, apart := false, narrowed := true }
def ValueHeadsUptoSaid : Prop := valueHeadsUptoRow.holds Try.pinned (OpenSpec.upto valueHeadsSpec)

/-- 'gantletlaw20.GrammarParts', WHERE WHAT IT READS IS OF BULK AT MOST 1048576: true; the input reads as it did. -/
def grammarPartsUptoRow : OpenClaim := { program := "ytkabmmpccfeffaa", sum := "43e077045bb21d0cebbbcda74c1626c347ec0feb9eba9c954a61902d84ca23df", func := "gantlet/gantletlaw20.GrammarParts", spec := "grammarParts", unfollowed := true, recurses := true, apart := false, narrowed := true }
def GrammarPartsUptoSaid : Prop := grammarPartsUptoRow.holds Try.pinned (OpenSpec.upto grammarPartsSpec)

/-- 'gantletlaw20.GrammarTakes', WHERE WHAT IT READS IS OF BULK AT MOST 1048576: true; the input reads as it did. -/
def grammarTakesUptoRow : OpenClaim := { program := "ytkabmmpccfeffaa", sum := "43e077045bb21d0cebbbcda74c1626c347ec0feb9eba9c954a61902d84ca23df", func := "gantlet/gantletlaw20.GrammarTakes", spec := "grammarTakes", unfollowed := true, recurses := true, apart := false, narrowed := true }
def GrammarTakesUptoSaid : Prop := grammarTakesUptoRow.holds Try.pinned (OpenSpec.upto grammarTakesSpec)

/-- 'gantletlaw20.GrammarFront', WHERE WHAT IT READS IS OF BULK AT MOST 1048576: true; the input reads as it did. -/
def grammarFrontUptoRow : OpenClaim := { program := "ytkabmmpccfeffaa", sum := "43e077045bb21d0cebbbcda74c1626c347ec0feb9eba9c954a61902d84ca23df", func := "gantlet/gantletlaw20.GrammarFront", spec := "grammarFront", unfollowed := true, recurses := true, apart := false, narrowed := true }
def GrammarFrontUptoSaid : Prop := grammarFrontUptoRow.holds Try.pinned (OpenSpec.upto grammarFrontSpec)

/-- 'gantletlaw19.EncodeLists', WHERE WHAT IT READS IS OF BULK AT MOST 1048576: true; the input reads as it did. -/
def encodeListsUptoRow : OpenClaim := { program := "ytkabmmpccfeffaa", sum := "43e077045bb21d0cebbbcda74c1626c347ec0feb9eba9c954a61902d84ca23df", func := "gantlet/gantletlaw19.EncodeLists", spec := "encodeLists", inPlace := ["internal/abi.NoEscape", "internal/bytealg.MakeNoZero", "internal/bytealg.IndexByteString"], unfollowed := true, recurses := true, apart := false, narrowed := true }
def EncodeListsUptoSaid : Prop := encodeListsUptoRow.holds Try.pinned (OpenSpec.upto encodeListsSpec)

/-- 'gantletlaw19.EncodeParts', WHERE WHAT IT READS IS OF BULK AT MOST 1048576: true; the input reads as it did. -/
def encodePartsUptoRow : OpenClaim := { program := "ytkabmmpccfeffaa", sum := "43e077045bb21d0cebbbcda74c1626c347ec0feb9eba9c954a61902d84ca23df", func := "gantlet/gantletlaw19.EncodeParts", spec := "encodeParts", inPlace := ["internal/abi.NoEscape", "internal/bytealg.MakeNoZero", "internal/bytealg.IndexByteString"], unfollowed := true, recurses := true, apart := false, narrowed := true }
def EncodePartsUptoSaid : Prop := encodePartsUptoRow.holds Try.pinned (OpenSpec.upto encodePartsSpec)

/-- 'gantletlaw19.EncodeSorts', WHERE WHAT IT READS IS OF BULK AT MOST 1048576: true; the input reads as it did. -/
def encodeSortsUptoRow : OpenClaim := { program := "ytkabmmpccfeffaa", sum := "43e077045bb21d0cebbbcda74c1626c347ec0feb9eba9c954a61902d84ca23df", func := "gantlet/gantletlaw19.EncodeSorts", spec := "encodeSorts", inPlace := ["internal/abi.NoEscape", "internal/bytealg.MakeNoZero", "internal/bytealg.IndexByteString"], unfollowed := true, recurses := true, apart := false, narrowed := true }
def EncodeSortsUptoSaid : Prop := encodeSortsUptoRow.holds Try.pinned (OpenSpec.upto encodeSortsSpec)

/-- 'gantletlaw19.EncodeSigned', WHERE WHAT IT READS IS OF BULK AT MOST 1048576: true; the input reads as it did. -/
def encodeSignedUptoRow : OpenClaim := { program := "ytkabmmpccfeffaa", sum := "43e077045bb21d0cebbbcda74c1626c347ec0feb9eba9c954a61902d84ca23df", func := "gantlet/gantletlaw19.EncodeSigned", spec := "encodeSigned", inPlace := ["internal/abi.NoEscape", "internal/bytealg.MakeNoZero", "internal/bytealg.IndexByteString"], unfollowed := true, recurses := true, apart := false, narrowed := true }
def EncodeSignedUptoSaid : Prop := encodeSignedUptoRow.holds Try.pinned (OpenSpec.upto encodeSignedSpec)

end Rows
end Go.Proofs.Ytkabmmpccfeffaa
