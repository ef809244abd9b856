/-
  No cell of these rows narrows 'for every input' (looked for: loops, veiled, ifaces, maps, wideKeys, modest, calm, conditions, laid).
  DERIVED. THE GIVEN ROWS OF THIS SEAT. 17 by the template 'for every input the law returns true; each argument reads behind the call as it read before'; 0 by the template 'total and deterministic' (their statements: YtaeocbbapnfcaaaTotals.lean).
  GIVEN WITH THE SEED: the statements are not yours to turn. If you find one false, say at which input.
  Laid BY PROGRAM, IN A SANDBOX (cutbox-rows.mjs): the forced cells as the released guide's own fill.sh prints them over the translation be8f9c958d225625… (all of the seat's roots in one cut). By AI agents, Wed Nov 11 2026. No macro, syntax, notation, axiom, sorry.
-/
import Derived.Test.YtaeocbbapnfcaaaChecked
import GoSem.Claim
import GoSem.ClaimJoined
import GoSem.ClaimMapViews
import Derived.JoinedTies
import Derived.KernelRfl
namespace Go.Proofs.Ytaeocbbapnfcaaa
/- THE CELL 'sum', in the pinned program and in every row, IS THE sha256 OF THE DUMP (.gsa) THAT YtaeocbbapnfcaaaProg.lean LOADS. Nothing in Lean hashes anything: it is a label: what it is worth is what the hold of that sum in a sandbox is worth. -/
noncomputable def Try.pinned : Pinned := { name := "ytaeocbbapnfcaaa", sum := "be8f9c958d2256256d1d0033e44d654f92f106c97f4cd1fb4f19dc8345fd9ce4", checked := Try.checked }
namespace Rows
def none {H : Type} : Left H := { results := [], args := [] }

/-- 'transhumancelaw02.CrcTells': WHATEVER THE INPUT: true; the input reads as it did. -/
def crcTellsSpec : ChangeSpec := { name := "crcTells", fn := fun _ => fun
  | [d1, d2] => { results := [.lit (.bool true)], args := [d1, d2] }
  | _ => none }
def crcTellsRow : OpenClaim := { program := "ytaeocbbapnfcaaa", sum := "be8f9c958d2256256d1d0033e44d654f92f106c97f4cd1fb4f19dc8345fd9ce4", func := "transhumance/transhumancelaw02.CrcTells", spec := "crcTells", recurses := true, apart := false }
def CrcTellsSaid : Prop := crcTellsRow.holds Try.pinned (OpenSpec.ofChange crcTellsSpec)

/-- ITS FALSE NEIGHBOUR: 'it returns false'. Refute it at one input. -/
def crcTellsWrong : ChangeSpec := { name := "crcTells", fn := fun _ => fun
  | [d1, d2] => { results := [.lit (.bool false)], args := [d1, d2] }
  | _ => none }
def CrcTellsWrongFalsely : Prop := crcTellsRow.holds Try.pinned (OpenSpec.ofChange crcTellsWrong)

/-- 'transhumancelaw02.CrcParts': WHATEVER THE INPUT: true; the input reads as it did. -/
def crcPartsSpec : ChangeSpec := { name := "crcParts", fn := fun _ => fun
  | [d1, d2, d3] => { results := [.lit (.bool true)], args := [d1, d2, d3] }
  | _ => none }
def crcPartsRow : OpenClaim := { program := "ytaeocbbapnfcaaa", sum := "be8f9c958d2256256d1d0033e44d654f92f106c97f4cd1fb4f19dc8345fd9ce4", func := "transhumance/transhumancelaw02.CrcParts", spec := "crcParts", apart := false }
def CrcPartsSaid : Prop := crcPartsRow.holds Try.pinned (OpenSpec.ofChange crcPartsSpec)

/-- ITS FALSE NEIGHBOUR: 'it returns false'. Refute it at one input. -/
def crcPartsWrong : ChangeSpec := { name := "crcParts", fn := fun _ => fun
  | [d1, d2, d3] => { results := [.lit (.bool false)], args := [d1, d2, d3] }
  | _ => none }
def CrcPartsWrongFalsely : Prop := crcPartsRow.holds Try.pinned (OpenSpec.ofChange crcPartsWrong)

/-- 'transhumancelaw02.CrcBurst': WHATEVER THE INPUT: true; the input reads as it did. -/
def crcBurstSpec : ChangeSpec := { name := "crcBurst", fn := fun _ => fun
  | [d1, d2, d3] => { results := [.lit (.bool true)], args := [d1, d2, d3] }
  | _ => none }
def crcBurstRow : OpenClaim := { program := "ytaeocbbapnfcaaa", sum := "be8f9c958d2256256d1d0033e44d654f92f106c97f4cd1fb4f19dc8345fd9ce4", func := "transhumance/transhumancelaw02.CrcBurst", spec := "crcBurst", apart := false }
def CrcBurstSaid : Prop := crcBurstRow.holds Try.pinned (OpenSpec.ofChange crcBurstSpec)

/-- ITS FALSE NEIGHBOUR: 'it returns false'. Refute it at one input. -/
def crcBurstWrong : ChangeSpec := { name := "crcBurst", fn := fun _ => fun
  | [d1, d2, d3] => { results := [.lit (.bool false)], args := [d1, d2, d3] }
  | _ => none }
def CrcBurstWrongFalsely : Prop := crcBurstRow.holds Try.pinned (OpenSpec.ofChange crcBurstWrong)

/-- 'transhumancelaw02.CrcAlone': WHATEVER THE INPUT: true; the input reads as it did. -/
def crcAloneSpec : ChangeSpec := { name := "crcAlone", fn := fun _ => fun
  | [d1, d2, d3] => { results := [.lit (.bool true)], args := [d1, d2, d3] }
  | _ => none }
def crcAloneRow : OpenClaim := { program := "ytaeocbbapnfcaaa", sum := "be8f9c958d2256256d1d0033e44d654f92f106c97f4cd1fb4f19dc8345fd9ce4", func := "transhumance/transhumancelaw02.CrcAlone", spec := "crcAlone", apart := false }
def CrcAloneSaid : Prop := crcAloneRow.holds Try.pinned (OpenSpec.ofChange crcAloneSpec)

/-- ITS FALSE NEIGHBOUR: 'it returns false'. Refute it at one input. -/
def crcAloneWrong : ChangeSpec := { name := "crcAlone", fn := fun _ => fun
  | [d1, d2, d3] => { results := [.lit (.bool false)], args := [d1, d2, d3] }
  | _ => none }
def CrcAloneWrongFalsely : Prop := crcAloneRow.holds Try.pinned (OpenSpec.ofChange crcAloneWrong)

/-- 'transhumancelaw02.CrcApart': WHATEVER THE INPUT: true; the input reads as it did. -/
def crcApartSpec : ChangeSpec := { name := "crcApart", fn := fun _ => fun
  | [d1, d2, d3] => { results := [.lit (.bool true)], args := [d1, d2, d3] }
  | _ => none }
def crcApartRow : OpenClaim := { program := "ytaeocbbapnfcaaa", sum := "be8f9c958d2256256d1d0033e44d654f92f106c97f4cd1fb4f19dc8345fd9ce4", func := "transhumance/transhumancelaw02.CrcApart", spec := "crcApart", apart := false }
def CrcApartSaid : Prop := crcApartRow.holds Try.pinned (OpenSpec.ofChange crcApartSpec)

/-- ITS FALSE NEIGHBOUR: 'it returns false'. Refute it at one input. -/
def crcApartWrong : ChangeSpec := { name := "crcApart", fn := fun _ => fun
  | [d1, d2, d3] => { results := [.lit (.bool false)], args := [d1, d2, d3] }
  | _ => none }
def CrcApartWrongFalsely : Prop := crcApartRow.holds Try.pinned (OpenSpec.ofChange crcApartWrong)

/-- 'transhumancelaw02.CrcBytes': WHATEVER THE INPUT: true; the input reads as it did. -/
def crcBytesSpec : ChangeSpec := { name := "crcBytes", fn := fun _ => fun
  | [d1, d2, d3] => { results := [.lit (.bool true)], args := [d1, d2, d3] }
  | _ => none }
def crcBytesRow : OpenClaim := { program := "ytaeocbbapnfcaaa", sum := "be8f9c958d2256256d1d0033e44d654f92f106c97f4cd1fb4f19dc8345fd9ce4", func := "transhumance/transhumancelaw02.CrcBytes", spec := "crcBytes", apart := false }
def CrcBytesSaid : Prop := crcBytesRow.holds Try.pinned (OpenSpec.ofChange crcBytesSpec)

/-- ITS FALSE NEIGHBOUR: 'it returns false'. Refute it at one input. -/
def crcBytesWrong : ChangeSpec := { name := "crcBytes", fn := fun _ => fun
  | [d1, d2, d3] => { results := [.lit (.bool false)], args := [d1, d2, d3] }
  | _ => none }
def CrcBytesWrongFalsely : Prop := crcBytesRow.holds Try.pinned (OpenSpec.ofChange crcBytesWrong)

/-- 'transhumancelaw01.WireBack': WHATEVER THE INPUT: true; the input reads as it did. -/
def wireBackSpec : ChangeSpec := { name := "wireBack", fn := fun _ => fun
  | [d1, d2, d3] => { results := [.lit (.bool true)], args := [d1, d2, d3] }
  | _ => none }
def wireBackRow : OpenClaim := { program := "ytaeocbbapnfcaaa", sum := "be8f9c958d2256256d1d0033e44d654f92f106c97f4cd1fb4f19dc8345fd9ce4", func := "transhumance/transhumancelaw01.WireBack", spec := "wireBack", apart := false }
def WireBackSaid : Prop := wireBackRow.holds Try.pinned (OpenSpec.ofChange wireBackSpec)

/-- ITS FALSE NEIGHBOUR: 'it returns false'. Refute it at one input. -/
def wireBackWrong : ChangeSpec := { name := "wireBack", fn := fun _ => fun
  | [d1, d2, d3] => { results := [.lit (.bool false)], args := [d1, d2, d3] }
  | _ => none }
def WireBackWrongFalsely : Prop := wireBackRow.holds Try.pinned (OpenSpec.ofChange wireBackWrong)

/-- 'transhumancelaw01.WireOrder': WHATEVER THE INPUT: true; the input reads as it did. -/
def wireOrderSpec : ChangeSpec := { name := "wireOrder", fn := fun _ => fun
  | [d1, d2, d3] => { results := [.lit (.bool true)], args := [d1, d2, d3] }
  | _ => none }
def wireOrderRow : OpenClaim := { program := "ytaeocbbapnfcaaa", sum := "be8f9c958d2256256d1d0033e44d654f92f106c97f4cd1fb4f19dc8345fd9ce4", func := "transhumance/transhumancelaw01.WireOrder", spec := "wireOrder", apart := false }
def WireOrderSaid : Prop := wireOrderRow.holds Try.pinned (OpenSpec.ofChange wireOrderSpec)

/-- ITS FALSE NEIGHBOUR: 'it returns false'. Refute it at one input. -/
def wireOrderWrong : ChangeSpec := { name := "wireOrder", fn := fun _ => fun
  | [d1, d2, d3] => { results := [.lit (.bool false)], args := [d1, d2, d3] }
  | _ => none }
def WireOrderWrongFalsely : Prop := wireOrderRow.holds Try.pinned (OpenSpec.ofChange wireOrderWrong)

/-- 'transhumancelaw01.WireTexts': WHATEVER THE INPUT: true; the input reads as it did. -/
def wireTextsSpec : ChangeSpec := { name := "wireTexts", fn := fun _ => fun
  | [d1, d2] => { results := [.lit (.bool true)], args := [d1, d2] }
  | _ => none }
def wireTextsRow : OpenClaim := { program := "ytaeocbbapnfcaaa", sum := "be8f9c958d2256256d1d0033e44d654f92f106c97f4cd1fb4f19dc8345fd9ce4", func := "transhumance/transhumancelaw01.WireTexts", spec := "wireTexts", apart := false }
def WireTextsSaid : Prop := wireTextsRow.holds Try.pinned (OpenSpec.ofChange wireTextsSpec)

/-- ITS FALSE NEIGHBOUR: 'it returns false'. Refute it at one input. -/
def wireTextsWrong : ChangeSpec := { name := "wireTexts", fn := fun _ => fun
  | [d1, d2] => { results := [.lit (.bool false)], args := [d1, d2] }
  | _ => none }
def WireTextsWrongFalsely : Prop := wireTextsRow.holds Try.pinned (OpenSpec.ofChange wireTextsWrong)

/-- 'transhumancelaw01.WireReads': WHATEVER THE INPUT: true; the input reads as it did. -/
def wireReadsSpec : ChangeSpec := { name := "wireReads", fn := fun _ => fun
  | [d1, d2] => { results := [.lit (.bool true)], args := [d1, d2] }
  | _ => none }
def wireReadsRow : OpenClaim := { program := "ytaeocbbapnfcaaa", sum := "be8f9c958d2256256d1d0033e44d654f92f106c97f4cd1fb4f19dc8345fd9ce4", func := "transhumance/transhumancelaw01.WireReads", spec := "wireReads", apart := false }
def WireReadsSaid : Prop := wireReadsRow.holds Try.pinned (OpenSpec.ofChange wireReadsSpec)

/-- ITS FALSE NEIGHBOUR: 'it returns false'. Refute it at one input. -/
def wireReadsWrong : ChangeSpec := { name := "wireReads", fn := fun _ => fun
  | [d1, d2] => { results := [.lit (.bool false)], args := [d1, d2] }
  | _ => none }
def WireReadsWrongFalsely : Prop := wireReadsRow.holds Try.pinned (OpenSpec.ofChange wireReadsWrong)

/-- 'transhumancelaw01.WireNil': WHATEVER THE INPUT: true; the input reads as it did. -/
def wireNilSpec : ChangeSpec := { name := "wireNil", fn := fun _ => fun
  | [d] => { results := [.lit (.bool true)], args := [d] }
  | _ => none }
def wireNilRow : OpenClaim := { program := "ytaeocbbapnfcaaa", sum := "be8f9c958d2256256d1d0033e44d654f92f106c97f4cd1fb4f19dc8345fd9ce4", func := "transhumance/transhumancelaw01.WireNil", spec := "wireNil", apart := false }
def WireNilSaid : Prop := wireNilRow.holds Try.pinned (OpenSpec.ofChange wireNilSpec)

/-- ITS FALSE NEIGHBOUR: 'it returns false'. Refute it at one input. -/
def wireNilWrong : ChangeSpec := { name := "wireNil", fn := fun _ => fun
  | [d] => { results := [.lit (.bool false)], args := [d] }
  | _ => none }
def WireNilWrongFalsely : Prop := wireNilRow.holds Try.pinned (OpenSpec.ofChange wireNilWrong)

/-- 'transhumancelaw03.SectTells': WHATEVER THE INPUT: true; the input reads as it did. -/
def sectTellsSpec : ChangeSpec := { name := "sectTells", fn := fun _ => fun
  | [d1, d2, d3] => { results := [.lit (.bool true)], args := [d1, d2, d3] }
  | _ => none }
def sectTellsRow : OpenClaim := { program := "ytaeocbbapnfcaaa", sum := "be8f9c958d2256256d1d0033e44d654f92f106c97f4cd1fb4f19dc8345fd9ce4", func := "transhumance/transhumancelaw03.SectTells", spec := "sectTells", inPlace := ["internal/abi.NoEscape"], recurses := true, apart := false }
def SectTellsSaid : Prop := sectTellsRow.holds Try.pinned (OpenSpec.ofChange sectTellsSpec)

/-- ITS FALSE NEIGHBOUR: 'it returns false'. Refute it at one input. -/
def sectTellsWrong : ChangeSpec := { name := "sectTells", fn := fun _ => fun
  | [d1, d2, d3] => { results := [.lit (.bool false)], args := [d1, d2, d3] }
  | _ => none }
def SectTellsWrongFalsely : Prop := sectTellsRow.holds Try.pinned (OpenSpec.ofChange sectTellsWrong)

/-- 'transhumancelaw03.SectBack': WHATEVER THE INPUT: true; the input reads as it did. -/
def sectBackSpec : ChangeSpec := { name := "sectBack", fn := fun _ => fun
  | [d1, d2] => { results := [.lit (.bool true)], args := [d1, d2] }
  | _ => none }
def sectBackRow : OpenClaim := { program := "ytaeocbbapnfcaaa", sum := "be8f9c958d2256256d1d0033e44d654f92f106c97f4cd1fb4f19dc8345fd9ce4", func := "transhumance/transhumancelaw03.SectBack", spec := "sectBack", inPlace := ["internal/abi.NoEscape"], apart := false }
def SectBackSaid : Prop := sectBackRow.holds Try.pinned (OpenSpec.ofChange sectBackSpec)

/-- ITS FALSE NEIGHBOUR: 'it returns false'. Refute it at one input. -/
def sectBackWrong : ChangeSpec := { name := "sectBack", fn := fun _ => fun
  | [d1, d2] => { results := [.lit (.bool false)], args := [d1, d2] }
  | _ => none }
def SectBackWrongFalsely : Prop := sectBackRow.holds Try.pinned (OpenSpec.ofChange sectBackWrong)

/-- 'transhumancelaw03.SectBurst': WHATEVER THE INPUT: true; the input reads as it did. -/
def sectBurstSpec : ChangeSpec := { name := "sectBurst", fn := fun _ => fun
  | [d1, d2, d3] => { results := [.lit (.bool true)], args := [d1, d2, d3] }
  | _ => none }
def sectBurstRow : OpenClaim := { program := "ytaeocbbapnfcaaa", sum := "be8f9c958d2256256d1d0033e44d654f92f106c97f4cd1fb4f19dc8345fd9ce4", func := "transhumance/transhumancelaw03.SectBurst", spec := "sectBurst", inPlace := ["internal/abi.NoEscape"], apart := false }
def SectBurstSaid : Prop := sectBurstRow.holds Try.pinned (OpenSpec.ofChange sectBurstSpec)

/-- ITS FALSE NEIGHBOUR: 'it returns false'. Refute it at one input. -/
def sectBurstWrong : ChangeSpec := { name := "sectBurst", fn := fun _ => fun
  | [d1, d2, d3] => { results := [.lit (.bool false)], args := [d1, d2, d3] }
  | _ => none }
def SectBurstWrongFalsely : Prop := sectBurstRow.holds Try.pinned (OpenSpec.ofChange sectBurstWrong)

/-- 'transhumancelaw03.SectCut': WHATEVER THE INPUT: true; the input reads as it did. -/
def sectCutSpec : ChangeSpec := { name := "sectCut", fn := fun _ => fun
  | [d1, d2, d3] => { results := [.lit (.bool true)], args := [d1, d2, d3] }
  | _ => none }
def sectCutRow : OpenClaim := { program := "ytaeocbbapnfcaaa", sum := "be8f9c958d2256256d1d0033e44d654f92f106c97f4cd1fb4f19dc8345fd9ce4", func := "transhumance/transhumancelaw03.SectCut", spec := "sectCut", inPlace := ["internal/abi.NoEscape"], apart := false }
def SectCutSaid : Prop := sectCutRow.holds Try.pinned (OpenSpec.ofChange sectCutSpec)

/-- ITS FALSE NEIGHBOUR: 'it returns false'. Refute it at one input. -/
def sectCutWrong : ChangeSpec := { name := "sectCut", fn := fun _ => fun
  | [d1, d2, d3] => { results := [.lit (.bool false)], args := [d1, d2, d3] }
  | _ => none }
def SectCutWrongFalsely : Prop := sectCutRow.holds Try.pinned (OpenSpec.ofChange sectCutWrong)

/-- 'transhumancelaw03.SectBoth': WHATEVER THE INPUT: true; the input reads as it did. -/
def sectBothSpec : ChangeSpec := { name := "sectBoth", fn := fun _ => fun
  | [d1, d2] => { results := [.lit (.bool true)], args := [d1, d2] }
  | _ => none }
def sectBothRow : OpenClaim := { program := "ytaeocbbapnfcaaa", sum := "be8f9c958d2256256d1d0033e44d654f92f106c97f4cd1fb4f19dc8345fd9ce4", func := "transhumance/transhumancelaw03.SectBoth", spec := "sectBoth", inPlace := ["internal/abi.NoEscape"], apart := false }
def SectBothSaid : Prop := sectBothRow.holds Try.pinned (OpenSpec.ofChange sectBothSpec)

/-- ITS FALSE NEIGHBOUR: 'it returns false'. Refute it at one input. -/
def sectBothWrong : ChangeSpec := { name := "sectBoth", fn := fun _ => fun
  | [d1, d2] => { results := [.lit (.bool false)], args := [d1, d2] }
  | _ => none }
def SectBothWrongFalsely : Prop := sectBothRow.holds Try.pinned (OpenSpec.ofChange sectBothWrong)

/-- 'transhumancelaw03.SectEach': WHATEVER THE INPUT: true; the input reads as it did. -/
def sectEachSpec : ChangeSpec := { name := "sectEach", fn := fun _ => fun
  | [d1, d2] => { results := [.lit (.bool true)], args := [d1, d2] }
  | _ => none }
def sectEachRow : OpenClaim := { program := "ytaeocbbapnfcaaa", sum := "be8f9c958d2256256d1d0033e44d654f92f106c97f4cd1fb4f19dc8345fd9ce4", func := "transhumance/transhumancelaw03.SectEach", spec := "sectEach", inPlace := ["internal/abi.NoEscape"], apart := false }
def SectEachSaid : Prop := sectEachRow.holds Try.pinned (OpenSpec.ofChange sectEachSpec)

/-- ITS FALSE NEIGHBOUR: 'it returns false'. Refute it at one input. -/
def sectEachWrong : ChangeSpec := { name := "sectEach", fn := fun _ => fun
  | [d1, d2] => { results := [.lit (.bool false)], args := [d1, d2] }
  | _ => none }
def SectEachWrongFalsely : Prop := sectEachRow.holds Try.pinned (OpenSpec.ofChange sectEachWrong)

/- THE SECOND FORM. 'bulk': how many values and letters a reading holds, each counted each time it is reached (what is shared counts as often as it is met; a slice's spare places count too). A statement '..UptoSaid' is the law's where the arguments, and the package variables that the reading takes, are together of bulk at most 1048576: NARROWER than '..Said'. Prove '..Said' where nothing that the law and all that it calls make is longer than what came in: it says more and counts as full. Else prove '..UptoSaid'. A law counts once. -/
mutual
def uptoBulk {H : Type} : DataW H → Nat
  | .lit (.string bytes) => bytes.length + 1
  | .lit _ => 1
  | .nil => 1
  | .ptr d => uptoBulk d + 1
  | .slice elems spare => uptoBulkAll elems + uptoBulkAll spare + 1
  | .agg parts => uptoBulkAll parts + 1
  | .iface _ d => uptoBulk d + 1
  | .map entries => uptoBulkEntries entries + 1
  | .held _ => 1
def uptoBulkAll {H : Type} : List (DataW H) → Nat
  | [] => 0
  | d :: r => uptoBulk d + uptoBulkAll r
def uptoBulkEntries {H : Type} : List (Lit × DataW H) → Nat
  | [] => 0
  | x :: r => uptoBulkEntry x + uptoBulkEntries r
def uptoBulkEntry {H : Type} : Lit × DataW H → Nat
  | (.string bytes, d) => bytes.length + uptoBulk d + 1
  | (_, d) => uptoBulk d + 1
 end
def uptoSmall : (H : Type) → List (DataW H) → Bool := fun _ ds => decide (uptoBulkAll ds ≤ 1048576)
def OpenSpec.upto (s : _root_.Go.ChangeSpec) : _root_.Go.OpenSpec := { _root_.Go.OpenSpec.ofChange s with cond := some uptoSmall }

/-- 'transhumancelaw02.CrcTells', WHERE WHAT IT READS IS OF BULK AT MOST 1048576: true; the input reads as it did. -/
def crcTellsUptoRow : OpenClaim := { program := "ytaeocbbapnfcaaa", sum := "be8f9c958d2256256d1d0033e44d654f92f106c97f4cd1fb4f19dc8345fd9ce4", func := "transhumance/transhumancelaw02.CrcTells", spec := "crcTells", recurses := true, apart := false, narrowed := true }
def CrcTellsUptoSaid : Prop := crcTellsUptoRow.holds Try.pinned (OpenSpec.upto crcTellsSpec)

/-- 'transhumancelaw02.CrcParts', WHERE WHAT IT READS IS OF BULK AT MOST 1048576: true; the input reads as it did. -/
def crcPartsUptoRow : OpenClaim := { program := "ytaeocbbapnfcaaa", sum := "be8f9c958d2256256d1d0033e44d654f92f106c97f4cd1fb4f19dc8345fd9ce4", func := "transhumance/transhumancelaw02.CrcParts", spec := "crcParts", apart := false, narrowed := true }
def CrcPartsUptoSaid : Prop := crcPartsUptoRow.holds Try.pinned (OpenSpec.upto crcPartsSpec)

/-- 'transhumancelaw02.CrcBurst', WHERE WHAT IT READS IS OF BULK AT MOST 1048576: true; the input reads as it did. -/
def crcBurstUptoRow : OpenClaim := { program := "ytaeocbbapnfcaaa", sum := "be8f9c958d2256256d1d0033e44d654f92f106c97f4cd1fb4f19dc8345fd9ce4", func := "transhumance/transhumancelaw02.CrcBurst", spec := "crcBurst", apart := false, narrowed := true }
def CrcBurstUptoSaid : Prop := crcBurstUptoRow.holds Try.pinned (OpenSpec.upto crcBurstSpec)

/-- 'transhumancelaw02.CrcAlone', WHERE WHAT IT READS IS OF BULK AT MOST 1048576: true; the input reads as it did. -/
def crcAloneUptoRow : OpenClaim := { program := "ytaeocbbapnfcaaa", sum := "be8f9c958d2256256d1d0033e44d654f92f106c97f4cd1fb4f19dc8345fd9ce4", func := "transhumance/transhumancelaw02.CrcAlone", spec := "crcAlone", apart := false, narrowed := true }
def CrcAloneUptoSaid : Prop := crcAloneUptoRow.holds Try.pinned (OpenSpec.upto crcAloneSpec)

/-- 'transhumancelaw02.CrcApart', WHERE WHAT IT READS IS OF BULK AT MOST 1048576: true; the input reads as it did. -/
def crcApartUptoRow : OpenClaim := { program := "ytaeocbbapnfcaaa", sum := "be8f9c958d2256256d1d0033e44d654f92f106c97f4cd1fb4f19dc8345fd9ce4", func := "transhumance/transhumancelaw02.CrcApart", spec := "crcApart", apart := false, narrowed := true }
def CrcApartUptoSaid : Prop := crcApartUptoRow.holds Try.pinned (OpenSpec.upto crcApartSpec)

/-- 'transhumancelaw02.CrcBytes', WHERE WHAT IT READS IS OF BULK AT MOST 1048576: true; the input reads as it did. -/
def crcBytesUptoRow : OpenClaim := { program := "ytaeocbbapnfcaaa", sum := "be8f9c958d2256256d1d0033e44d654f92f106c97f4cd1fb4f19dc8345fd9ce4", func := "transhumance/transhumancelaw02.CrcBytes", spec := "crcBytes", apart := false, narrowed := true }
def CrcBytesUptoSaid : Prop := crcBytesUptoRow.holds Try.pinned (OpenSpec.upto crcBytesSpec)

/-- 'transhumancelaw01.WireBack', WHERE WHAT IT READS IS OF BULK AT MOST 1048576: true; the input reads as it did. -/
def wireBackUptoRow : OpenClaim := { program := "ytaeocbbapnfcaaa", sum := "be8f9c958d2256256d1d0033e44d654f92f106c97f4cd1fb4f19dc8345fd9ce4", func := "transhumance/transhumancelaw01.WireBack", spec := "wireBack", apart := false, narrowed := true }
def WireBackUptoSaid : Prop := wireBackUptoRow.holds Try.pinned (OpenSpec.upto wireBackSpec)

/-- 'transhumancelaw01.WireOrder', WHERE WHAT IT READS IS OF BULK AT MOST 1048576: true; the input reads as it did. -/
def wireOrderUptoRow : OpenClaim := { program := "ytaeocbbapnfcaaa", sum := "be8f9c958d2256256d1d0033e44d654f92f106c97f4cd1fb4f19dc8345fd9ce4", func := "transhumance/transhumancelaw01.WireOrder", spec := "wireOrder", apart := false, narrowed := true }
def WireOrderUptoSaid : Prop := wireOrderUptoRow.holds Try.pinned (OpenSpec.upto wireOrderSpec)

/-- 'transhumancelaw01.WireTexts', WHERE WHAT IT READS IS OF BULK AT MOST 1048576: true; the input reads as it did. -/
def wireTextsUptoRow : OpenClaim := { program := "ytaeocbbapnfcaaa", sum := "be8f9c958d2256256d1d0033e44d654f92f106c97f4cd1fb4f19dc8345fd9ce4", func := "transhumance/transhumancelaw01.WireTexts", spec := "wireTexts", apart := false, narrowed := true }
def WireTextsUptoSaid : Prop := wireTextsUptoRow.holds Try.pinned (OpenSpec.upto wireTextsSpec)

/-- 'transhumancelaw01.WireReads', WHERE WHAT IT READS IS OF BULK AT MOST 1048576: true; the input reads as it did. -/
def wireReadsUptoRow : OpenClaim := { program := "ytaeocbbapnfcaaa", sum := "be8f9c958d2256256d1d0033e44d654f92f106c97f4cd1fb4f19dc8345fd9ce4", func := "transhumance/transhumancelaw01.WireReads", spec := "wireReads", apart := false, narrowed := true }
def WireReadsUptoSaid : Prop := wireReadsUptoRow.holds Try.pinned (OpenSpec.upto wireReadsSpec)

/-- 'transhumancelaw01.WireNil', WHERE WHAT IT READS IS OF BULK AT MOST 1048576: true; the input reads as it did. -/
def wireNilUptoRow : OpenClaim := { program := "ytaeocbbapnfcaaa", sum := "be8f9c958d2256256d1d0033e44d654f92f106c97f4cd1fb4f19dc8345fd9ce4", func := "transhumance/transhumancelaw01.WireNil", spec := "wireNil", apart := false, narrowed := true }
def WireNilUptoSaid : Prop := wireNilUptoRow.holds Try.pinned (OpenSpec.upto wireNilSpec)

/-- 'transhumancelaw03.SectTells', WHERE WHAT IT READS IS OF BULK AT MOST 1048576: true; the input reads as it did. -/
def sectTellsUptoRow : OpenClaim := { program := "ytaeocbbapnfcaaa", sum := "be8f9c958d2256256d1d0033e44d654f92f106c97f4cd1fb4f19dc8345fd9ce4", func := "transhumance/transhumancelaw03.SectTells", spec := "sectTells", inPlace := ["internal/abi.NoEscape"], recurses := true, apart := false, narrowed := true }
def SectTellsUptoSaid : Prop := sectTellsUptoRow.holds Try.pinned (OpenSpec.upto sectTellsSpec)

/-- 'transhumancelaw03.SectBack', WHERE WHAT IT READS IS OF BULK AT MOST 1048576: true; the input reads as it did. -/
def sectBackUptoRow : OpenClaim := { program := "ytaeocbbapnfcaaa", sum := "be8f9c958d2256256d1d0033e44d654f92f106c97f4cd1fb4f19dc8345fd9ce4", func := "transhumance/transhumancelaw03.SectBack", spec := "sectBack", inPlace := ["internal/abi.NoEscape"], apart := false, narrowed := true }
def SectBackUptoSaid : Prop := sectBackUptoRow.holds Try.pinned (OpenSpec.upto sectBackSpec)

/-- 'transhumancelaw03.SectBurst', WHERE WHAT IT READS IS OF BULK AT MOST 1048576: true; the input reads as it did. -/
def sectBurstUptoRow : OpenClaim := { program := "ytaeocbbapnfcaaa", sum := "be8f9c958d2256256d1d0033e44d654f92f106c97f4cd1fb4f19dc8345fd9ce4", func := "transhumance/transhumancelaw03.SectBurst", spec := "sectBurst", inPlace := ["internal/abi.NoEscape"], apart := false, narrowed := true }
def SectBurstUptoSaid : Prop := sectBurstUptoRow.holds Try.pinned (OpenSpec.upto sectBurstSpec)

/-- 'transhumancelaw03.SectCut', WHERE WHAT IT READS IS OF BULK AT MOST 1048576: true; the input reads as it did. -/
def sectCutUptoRow : OpenClaim := { program := "ytaeocbbapnfcaaa", sum := "be8f9c958d2256256d1d0033e44d654f92f106c97f4cd1fb4f19dc8345fd9ce4", func := "transhumance/transhumancelaw03.SectCut", spec := "sectCut", inPlace := ["internal/abi.NoEscape"], apart := false, narrowed := true }
def SectCutUptoSaid : Prop := sectCutUptoRow.holds Try.pinned (OpenSpec.upto sectCutSpec)

/-- 'transhumancelaw03.SectBoth', WHERE WHAT IT READS IS OF BULK AT MOST 1048576: true; the input reads as it did. -/
def sectBothUptoRow : OpenClaim := { program := "ytaeocbbapnfcaaa", sum := "be8f9c958d2256256d1d0033e44d654f92f106c97f4cd1fb4f19dc8345fd9ce4", func := "transhumance/transhumancelaw03.SectBoth", spec := "sectBoth", inPlace := ["internal/abi.NoEscape"], apart := false, narrowed := true }
def SectBothUptoSaid : Prop := sectBothUptoRow.holds Try.pinned (OpenSpec.upto sectBothSpec)

/-- 'transhumancelaw03.SectEach', WHERE WHAT IT READS IS OF BULK AT MOST 1048576: true; the input reads as it did. -/
def sectEachUptoRow : OpenClaim := { program := "ytaeocbbapnfcaaa", sum := "be8f9c958d2256256d1d0033e44d654f92f106c97f4cd1fb4f19dc8345fd9ce4", func := "transhumance/transhumancelaw03.SectEach", spec := "sectEach", inPlace := ["internal/abi.NoEscape"], apart := false, narrowed := true }
def SectEachUptoSaid : Prop := sectEachUptoRow.holds Try.pinned (OpenSpec.upto sectEachSpec)

end Rows
end Go.Proofs.Ytaeocbbapnfcaaa
