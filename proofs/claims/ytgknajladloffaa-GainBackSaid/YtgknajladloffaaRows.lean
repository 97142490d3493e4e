/-
  No cell of these rows narrows 'for every input' (looked for: loops, veiled, ifaces, maps, wideKeys, modest, calm, conditions, laid).
  DERIVED. THE GIVEN ROWS OF THIS SEAT. 16 by the template 'for every input the law returns true; each argument reads behind the call as it read before'; 0 by the template 'total and deterministic' (their statements: YtgknajladloffaaTotals.lean).
  GIVEN WITH THE SEED: the statements are not yours to turn. If you find one false, say at which input.
  Laid BY PROGRAM, IN A SANDBOX (cutbox-rows.mjs): the forced cells as the released guide's own fill.sh prints them over the translation 7ffe262f34d527b0… (all of the seat's roots in one cut). By AI agents, Wed Nov 11 2026. No macro, syntax, notation, axiom, sorry.
-/
import Derived.Test.YtgknajladloffaaChecked
import GoSem.Claim
import GoSem.ClaimJoined
import GoSem.ClaimMapViews
import Derived.JoinedTies
import Derived.KernelRfl
namespace Go.Proofs.Ytgknajladloffaa
/- THE CELL 'sum', in the pinned program and in every row, IS THE sha256 OF THE DUMP (.gsa) THAT YtgknajladloffaaProg.lean LOADS. Nothing in Lean hashes anything: it is a label: what it is worth is what the hold of that sum in a sandbox is worth. -/
noncomputable def Try.pinned : Pinned := { name := "ytgknajladloffaa", sum := "7ffe262f34d527b04857481150f39b7469be0e370e0653dab765e374dfbe0386", checked := Try.checked }
namespace Rows
def none {H : Type} : Left H := { results := [], args := [] }

/-- 'psalterylaw13.PackFits': WHATEVER THE INPUT: true; the input reads as it did. -/
def packFitsSpec : ChangeSpec := { name := "packFits", fn := fun _ => fun
  | [d1, d2, d3, d4] => { results := [.lit (.bool true)], args := [d1, d2, d3, d4] }
  | _ => none }
def packFitsRow : OpenClaim := { program := "ytgknajladloffaa", sum := "7ffe262f34d527b04857481150f39b7469be0e370e0653dab765e374dfbe0386", func := "psaltery/psalterylaw13.PackFits", spec := "packFits", unfollowed := true, recurses := true, apart := false }
def PackFitsSaid : Prop := packFitsRow.holds Try.pinned (OpenSpec.ofChange packFitsSpec)

/-- ITS FALSE NEIGHBOUR: 'it returns false'. Refute it at one input. -/
def packFitsWrong : ChangeSpec := { name := "packFits", fn := fun _ => fun
  | [d1, d2, d3, d4] => { results := [.lit (.bool false)], args := [d1, d2, d3, d4] }
  | _ => none }
def PackFitsWrongFalsely : Prop := packFitsRow.holds Try.pinned (OpenSpec.ofChange packFitsWrong)

/-- 'psalterylaw23.ToneWrites': WHATEVER THE INPUT: true; the input reads as it did. -/
def toneWritesSpec : ChangeSpec := { name := "toneWrites", fn := fun _ => fun
  | [d1, d2, d3, d4, d5] => { results := [.lit (.bool true)], args := [d1, d2, d3, d4, d5] }
  | _ => none }
def toneWritesRow : OpenClaim := { program := "ytgknajladloffaa", sum := "7ffe262f34d527b04857481150f39b7469be0e370e0653dab765e374dfbe0386", func := "psaltery/psalterylaw23.ToneWrites", spec := "toneWrites", unfollowed := true, recurses := true, apart := false }
def ToneWritesSaid : Prop := toneWritesRow.holds Try.pinned (OpenSpec.ofChange toneWritesSpec)

/-- ITS FALSE NEIGHBOUR: 'it returns false'. Refute it at one input. -/
def toneWritesWrong : ChangeSpec := { name := "toneWrites", fn := fun _ => fun
  | [d1, d2, d3, d4, d5] => { results := [.lit (.bool false)], args := [d1, d2, d3, d4, d5] }
  | _ => none }
def ToneWritesWrongFalsely : Prop := toneWritesRow.holds Try.pinned (OpenSpec.ofChange toneWritesWrong)

/-- 'psalterylaw11.GainBack': WHATEVER THE INPUT: true; the input reads as it did. -/
def gainBackSpec : ChangeSpec := { name := "gainBack", fn := fun _ => fun
  | [d] => { results := [.lit (.bool true)], args := [d] }
  | _ => none }
def gainBackRow : OpenClaim := { program := "ytgknajladloffaa", sum := "7ffe262f34d527b04857481150f39b7469be0e370e0653dab765e374dfbe0386", func := "psaltery/psalterylaw11.GainBack", spec := "gainBack", apart := false }
def GainBackSaid : Prop := gainBackRow.holds Try.pinned (OpenSpec.ofChange gainBackSpec)

/-- ITS FALSE NEIGHBOUR: 'it returns false'. Refute it at one input. -/
def gainBackWrong : ChangeSpec := { name := "gainBack", fn := fun _ => fun
  | [d] => { results := [.lit (.bool false)], args := [d] }
  | _ => none }
def GainBackWrongFalsely : Prop := gainBackRow.holds Try.pinned (OpenSpec.ofChange gainBackWrong)

/-- 'psalterylaw11.GainShort': WHATEVER THE INPUT: true; the input reads as it did. -/
def gainShortSpec : ChangeSpec := { name := "gainShort", fn := fun _ => fun
  | [d] => { results := [.lit (.bool true)], args := [d] }
  | _ => none }
def gainShortRow : OpenClaim := { program := "ytgknajladloffaa", sum := "7ffe262f34d527b04857481150f39b7469be0e370e0653dab765e374dfbe0386", func := "psaltery/psalterylaw11.GainShort", spec := "gainShort", apart := false }
def GainShortSaid : Prop := gainShortRow.holds Try.pinned (OpenSpec.ofChange gainShortSpec)

/-- ITS FALSE NEIGHBOUR: 'it returns false'. Refute it at one input. -/
def gainShortWrong : ChangeSpec := { name := "gainShort", fn := fun _ => fun
  | [d] => { results := [.lit (.bool false)], args := [d] }
  | _ => none }
def GainShortWrongFalsely : Prop := gainShortRow.holds Try.pinned (OpenSpec.ofChange gainShortWrong)

/-- 'psalterylaw23.ToneEncodes': WHATEVER THE INPUT: true; the input reads as it did. -/
def toneEncodesSpec : ChangeSpec := { name := "toneEncodes", fn := fun _ => fun
  | [d1, d2, d3, d4] => { results := [.lit (.bool true)], args := [d1, d2, d3, d4] }
  | _ => none }
def toneEncodesRow : OpenClaim := { program := "ytgknajladloffaa", sum := "7ffe262f34d527b04857481150f39b7469be0e370e0653dab765e374dfbe0386", func := "psaltery/psalterylaw23.ToneEncodes", spec := "toneEncodes", unfollowed := true, recurses := true, apart := false }
def ToneEncodesSaid : Prop := toneEncodesRow.holds Try.pinned (OpenSpec.ofChange toneEncodesSpec)

/-- ITS FALSE NEIGHBOUR: 'it returns false'. Refute it at one input. -/
def toneEncodesWrong : ChangeSpec := { name := "toneEncodes", fn := fun _ => fun
  | [d1, d2, d3, d4] => { results := [.lit (.bool false)], args := [d1, d2, d3, d4] }
  | _ => none }
def ToneEncodesWrongFalsely : Prop := toneEncodesRow.holds Try.pinned (OpenSpec.ofChange toneEncodesWrong)

/-- 'psalterylaw23.ToneDecodes': WHATEVER THE INPUT: true; the input reads as it did. -/
def toneDecodesSpec : ChangeSpec := { name := "toneDecodes", fn := fun _ => fun
  | [d1, d2, d3] => { results := [.lit (.bool true)], args := [d1, d2, d3] }
  | _ => none }
def toneDecodesRow : OpenClaim := { program := "ytgknajladloffaa", sum := "7ffe262f34d527b04857481150f39b7469be0e370e0653dab765e374dfbe0386", func := "psaltery/psalterylaw23.ToneDecodes", spec := "toneDecodes", unfollowed := true, recurses := true, apart := false }
def ToneDecodesSaid : Prop := toneDecodesRow.holds Try.pinned (OpenSpec.ofChange toneDecodesSpec)

/-- ITS FALSE NEIGHBOUR: 'it returns false'. Refute it at one input. -/
def toneDecodesWrong : ChangeSpec := { name := "toneDecodes", fn := fun _ => fun
  | [d1, d2, d3] => { results := [.lit (.bool false)], args := [d1, d2, d3] }
  | _ => none }
def ToneDecodesWrongFalsely : Prop := toneDecodesRow.holds Try.pinned (OpenSpec.ofChange toneDecodesWrong)

/-- 'psalterylaw23.ToneSigns': WHATEVER THE INPUT: true; the input reads as it did. -/
def toneSignsSpec : ChangeSpec := { name := "toneSigns", fn := fun _ => fun
  | [d1, d2, d3] => { results := [.lit (.bool true)], args := [d1, d2, d3] }
  | _ => none }
def toneSignsRow : OpenClaim := { program := "ytgknajladloffaa", sum := "7ffe262f34d527b04857481150f39b7469be0e370e0653dab765e374dfbe0386", func := "psaltery/psalterylaw23.ToneSigns", spec := "toneSigns", unfollowed := true, recurses := true, apart := false }
def ToneSignsSaid : Prop := toneSignsRow.holds Try.pinned (OpenSpec.ofChange toneSignsSpec)

/-- ITS FALSE NEIGHBOUR: 'it returns false'. Refute it at one input. -/
def toneSignsWrong : ChangeSpec := { name := "toneSigns", fn := fun _ => fun
  | [d1, d2, d3] => { results := [.lit (.bool false)], args := [d1, d2, d3] }
  | _ => none }
def ToneSignsWrongFalsely : Prop := toneSignsRow.holds Try.pinned (OpenSpec.ofChange toneSignsWrong)

/-- 'psalterylaw23.ToneNorms': WHATEVER THE INPUT: true; the input reads as it did. -/
def toneNormsSpec : ChangeSpec := { name := "toneNorms", fn := fun _ => fun
  | [d1, d2, d3] => { results := [.lit (.bool true)], args := [d1, d2, d3] }
  | _ => none }
def toneNormsRow : OpenClaim := { program := "ytgknajladloffaa", sum := "7ffe262f34d527b04857481150f39b7469be0e370e0653dab765e374dfbe0386", func := "psaltery/psalterylaw23.ToneNorms", spec := "toneNorms", unfollowed := true, recurses := true, apart := false }
def ToneNormsSaid : Prop := toneNormsRow.holds Try.pinned (OpenSpec.ofChange toneNormsSpec)

/-- ITS FALSE NEIGHBOUR: 'it returns false'. Refute it at one input. -/
def toneNormsWrong : ChangeSpec := { name := "toneNorms", fn := fun _ => fun
  | [d1, d2, d3] => { results := [.lit (.bool false)], args := [d1, d2, d3] }
  | _ => none }
def ToneNormsWrongFalsely : Prop := toneNormsRow.holds Try.pinned (OpenSpec.ofChange toneNormsWrong)

/-- 'psalterylaw23.ToneAny': WHATEVER THE INPUT: true; the input reads as it did. -/
def toneAnySpec : ChangeSpec := { name := "toneAny", fn := fun _ => fun
  | [d1, d2, d3] => { results := [.lit (.bool true)], args := [d1, d2, d3] }
  | _ => none }
def toneAnyRow : OpenClaim := { program := "ytgknajladloffaa", sum := "7ffe262f34d527b04857481150f39b7469be0e370e0653dab765e374dfbe0386", func := "psaltery/psalterylaw23.ToneAny", spec := "toneAny", unfollowed := true, recurses := true, apart := false }
def ToneAnySaid : Prop := toneAnyRow.holds Try.pinned (OpenSpec.ofChange toneAnySpec)

/-- ITS FALSE NEIGHBOUR: 'it returns false'. Refute it at one input. -/
def toneAnyWrong : ChangeSpec := { name := "toneAny", fn := fun _ => fun
  | [d1, d2, d3] => { results := [.lit (.bool false)], args := [d1, d2, d3] }
  | _ => none }
def ToneAnyWrongFalsely : Prop := toneAnyRow.holds Try.pinned (OpenSpec.ofChange toneAnyWrong)

/-- 'psalterylaw23.ToneSilent': WHATEVER THE INPUT: true; the input reads as it did. -/
def toneSilentSpec : ChangeSpec := { name := "toneSilent", fn := fun _ => fun
  | [d1, d2, d3] => { results := [.lit (.bool true)], args := [d1, d2, d3] }
  | _ => none }
def toneSilentRow : OpenClaim := { program := "ytgknajladloffaa", sum := "7ffe262f34d527b04857481150f39b7469be0e370e0653dab765e374dfbe0386", func := "psaltery/psalterylaw23.ToneSilent", spec := "toneSilent", unfollowed := true, recurses := true, apart := false }
def ToneSilentSaid : Prop := toneSilentRow.holds Try.pinned (OpenSpec.ofChange toneSilentSpec)

/-- ITS FALSE NEIGHBOUR: 'it returns false'. Refute it at one input. -/
def toneSilentWrong : ChangeSpec := { name := "toneSilent", fn := fun _ => fun
  | [d1, d2, d3] => { results := [.lit (.bool false)], args := [d1, d2, d3] }
  | _ => none }
def ToneSilentWrongFalsely : Prop := toneSilentRow.holds Try.pinned (OpenSpec.ofChange toneSilentWrong)

/-- 'psalterylaw13.PackRights': WHATEVER THE INPUT: true; the input reads as it did. -/
def packRightsSpec : ChangeSpec := { name := "packRights", fn := fun _ => fun
  | [d1, d2, d3] => { results := [.lit (.bool true)], args := [d1, d2, d3] }
  | _ => none }
def packRightsRow : OpenClaim := { program := "ytgknajladloffaa", sum := "7ffe262f34d527b04857481150f39b7469be0e370e0653dab765e374dfbe0386", func := "psaltery/psalterylaw13.PackRights", spec := "packRights", unfollowed := true, recurses := true, apart := false }
def PackRightsSaid : Prop := packRightsRow.holds Try.pinned (OpenSpec.ofChange packRightsSpec)

/-- ITS FALSE NEIGHBOUR: 'it returns false'. Refute it at one input. -/
def packRightsWrong : ChangeSpec := { name := "packRights", fn := fun _ => fun
  | [d1, d2, d3] => { results := [.lit (.bool false)], args := [d1, d2, d3] }
  | _ => none }
def PackRightsWrongFalsely : Prop := packRightsRow.holds Try.pinned (OpenSpec.ofChange packRightsWrong)

/-- 'psalterylaw13.PackWrites': WHATEVER THE INPUT: true; the input reads as it did. -/
def packWritesSpec : ChangeSpec := { name := "packWrites", fn := fun _ => fun
  | [d1, d2, d3, d4] => { results := [.lit (.bool true)], args := [d1, d2, d3, d4] }
  | _ => none }
def packWritesRow : OpenClaim := { program := "ytgknajladloffaa", sum := "7ffe262f34d527b04857481150f39b7469be0e370e0653dab765e374dfbe0386", func := "psaltery/psalterylaw13.PackWrites", spec := "packWrites", unfollowed := true, recurses := true, apart := false }
def PackWritesSaid : Prop := packWritesRow.holds Try.pinned (OpenSpec.ofChange packWritesSpec)

/-- ITS FALSE NEIGHBOUR: 'it returns false'. Refute it at one input. -/
def packWritesWrong : ChangeSpec := { name := "packWrites", fn := fun _ => fun
  | [d1, d2, d3, d4] => { results := [.lit (.bool false)], args := [d1, d2, d3, d4] }
  | _ => none }
def PackWritesWrongFalsely : Prop := packWritesRow.holds Try.pinned (OpenSpec.ofChange packWritesWrong)

/-- 'psalterylaw13.PackReads': WHATEVER THE INPUT: true; the input reads as it did. -/
def packReadsSpec : ChangeSpec := { name := "packReads", fn := fun _ => fun
  | [d1, d2, d3, d4] => { results := [.lit (.bool true)], args := [d1, d2, d3, d4] }
  | _ => none }
def packReadsRow : OpenClaim := { program := "ytgknajladloffaa", sum := "7ffe262f34d527b04857481150f39b7469be0e370e0653dab765e374dfbe0386", func := "psaltery/psalterylaw13.PackReads", spec := "packReads", unfollowed := true, recurses := true, apart := false }
def PackReadsSaid : Prop := packReadsRow.holds Try.pinned (OpenSpec.ofChange packReadsSpec)

/-- ITS FALSE NEIGHBOUR: 'it returns false'. Refute it at one input. -/
def packReadsWrong : ChangeSpec := { name := "packReads", fn := fun _ => fun
  | [d1, d2, d3, d4] => { results := [.lit (.bool false)], args := [d1, d2, d3, d4] }
  | _ => none }
def PackReadsWrongFalsely : Prop := packReadsRow.holds Try.pinned (OpenSpec.ofChange packReadsWrong)

/-- 'psalterylaw13.PackBack': WHATEVER THE INPUT: true; the input reads as it did. -/
def packBackSpec : ChangeSpec := { name := "packBack", fn := fun _ => fun
  | [d1, d2, d3, d4] => { results := [.lit (.bool true)], args := [d1, d2, d3, d4] }
  | _ => none }
def packBackRow : OpenClaim := { program := "ytgknajladloffaa", sum := "7ffe262f34d527b04857481150f39b7469be0e370e0653dab765e374dfbe0386", func := "psaltery/psalterylaw13.PackBack", spec := "packBack", unfollowed := true, recurses := true, apart := false }
def PackBackSaid : Prop := packBackRow.holds Try.pinned (OpenSpec.ofChange packBackSpec)

/-- ITS FALSE NEIGHBOUR: 'it returns false'. Refute it at one input. -/
def packBackWrong : ChangeSpec := { name := "packBack", fn := fun _ => fun
  | [d1, d2, d3, d4] => { results := [.lit (.bool false)], args := [d1, d2, d3, d4] }
  | _ => none }
def PackBackWrongFalsely : Prop := packBackRow.holds Try.pinned (OpenSpec.ofChange packBackWrong)

/-- 'psalterylaw13.PackAny': WHATEVER THE INPUT: true; the input reads as it did. -/
def packAnySpec : ChangeSpec := { name := "packAny", fn := fun _ => fun
  | [d1, d2, d3, d4] => { results := [.lit (.bool true)], args := [d1, d2, d3, d4] }
  | _ => none }
def packAnyRow : OpenClaim := { program := "ytgknajladloffaa", sum := "7ffe262f34d527b04857481150f39b7469be0e370e0653dab765e374dfbe0386", func := "psaltery/psalterylaw13.PackAny", spec := "packAny", unfollowed := true, recurses := true, apart := false }
def PackAnySaid : Prop := packAnyRow.holds Try.pinned (OpenSpec.ofChange packAnySpec)

/-- ITS FALSE NEIGHBOUR: 'it returns false'. Refute it at one input. -/
def packAnyWrong : ChangeSpec := { name := "packAny", fn := fun _ => fun
  | [d1, d2, d3, d4] => { results := [.lit (.bool false)], args := [d1, d2, d3, d4] }
  | _ => none }
def PackAnyWrongFalsely : Prop := packAnyRow.holds Try.pinned (OpenSpec.ofChange packAnyWrong)

/-- 'psalterylaw13.PackAlone': WHATEVER THE INPUT: true; the input reads as it did. -/
def packAloneSpec : ChangeSpec := { name := "packAlone", fn := fun _ => fun
  | [d1, d2, d3, d4, d5] => { results := [.lit (.bool true)], args := [d1, d2, d3, d4, d5] }
  | _ => none }
def packAloneRow : OpenClaim := { program := "ytgknajladloffaa", sum := "7ffe262f34d527b04857481150f39b7469be0e370e0653dab765e374dfbe0386", func := "psaltery/psalterylaw13.PackAlone", spec := "packAlone", unfollowed := true, recurses := true, apart := false }
def PackAloneSaid : Prop := packAloneRow.holds Try.pinned (OpenSpec.ofChange packAloneSpec)

/-- ITS FALSE NEIGHBOUR: 'it returns false'. Refute it at one input. -/
def packAloneWrong : ChangeSpec := { name := "packAlone", fn := fun _ => fun
  | [d1, d2, d3, d4, d5] => { results := [.lit (.bool false)], args := [d1, d2, d3, d4, d5] }
  | _ => none }
def PackAloneWrongFalsely : Prop := packAloneRow.holds Try.pinned (OpenSpec.ofChange packAloneWrong)

/- THE SECOND FORM. 'bulk': how many values and letters a reading holds, each counted each time it is reached (what is shared counts as often as it is met; a slice's spare places count too). A statement '..UptoSaid' is the law's where the arguments, and the package variables that the reading takes, are together of bulk at most 1048576: NARROWER than '..Said'. Prove '..Said' where nothing that the law and all that it calls make is longer than what came in: it says more and counts as full. Else prove '..UptoSaid'. A law counts once. -/
mutual
def uptoBulk {H : Type} : DataW H → Nat
  | .lit (.string bytes) => bytes.length + 1
  | .lit _ => 1
  | .nil => 1
  | .ptr d => uptoBulk d + 1
  | .slice elems spare => uptoBulkAll elems + uptoBulkAll spare + 1
  | .agg parts => uptoBulkAll parts + 1
  | .iface _ d => uptoBulk d + 1
  | .map entries => uptoBulkEntries entries + 1
  | .held _ => 1
def uptoBulkAll {H : Type} : List (DataW H) → Nat
  | [] => 0
  | d :: r => uptoBulk d + uptoBulkAll r
def uptoBulkEntries {H : Type} : List (Lit × DataW H) → Nat
  | [] => 0
  | x :: r => uptoBulkEntry x + uptoBulkEntries r
def uptoBulkEntry {H : Type} : Lit × DataW H → Nat
  | (.string bytes, d) => bytes.length + uptoBulk d + 1
  | (_, d) => uptoBulk d + 1
 end
def uptoSmall : (H : Type) → List (DataW H) → Bool := fun _ ds => decide (uptoBulkAll ds ≤ 1048576)
def OpenSpec.upto (s : _root_.Go.ChangeSpec) : _root_.Go.OpenSpec := { _root_.Go.OpenSpec.ofChange s with cond := some uptoSmall }

/-- 'psalterylaw13.PackFits', WHERE WHAT IT READS IS OF BULK AT MOST 1048576: true; the input reads as it did. -/
def packFitsUptoRow : OpenClaim := { program := "ytgknajladloffaa", sum := "7ffe262f34d527b04857481150f39b7469be0e370e0653dab765e374dfbe0386", func := "psaltery/psalterylaw13.PackFits", spec := "packFits", unfollowed := true, recurses := true, apart := false, narrowed := true }
def PackFitsUptoSaid : Prop := packFitsUptoRow.holds Try.pinned (OpenSpec.upto packFitsSpec)

/-- 'psalterylaw23.ToneWrites', WHERE WHAT IT READS IS OF BULK AT MOST 1048576: true; the input reads as it did. -/
def toneWritesUptoRow : OpenClaim := { program := "ytgknajladloffaa", sum := "7ffe262f34d527b04857481150f39b7469be0e370e0653dab765e374dfbe0386", func := "psaltery/psalterylaw23.ToneWrites", spec := "toneWrites", unfollowed := true, recurses := true, apart := false, narrowed := true }
def ToneWritesUptoSaid : Prop := toneWritesUptoRow.holds Try.pinned (OpenSpec.upto toneWritesSpec)

/-- 'psalterylaw11.GainBack', WHERE WHAT IT READS IS OF BULK AT MOST 1048576: true; the input reads as it did. -/
def gainBackUptoRow : OpenClaim := { program := "ytgknajladloffaa", sum := "7ffe262f34d527b04857481150f39b7469be0e370e0653dab765e374dfbe0386", func := "psaltery/psalterylaw11.GainBack", spec := "gainBack", apart := false, narrowed := true }
def GainBackUptoSaid : Prop := gainBackUptoRow.holds Try.pinned (OpenSpec.upto gainBackSpec)

/-- 'psalterylaw11.GainShort', WHERE WHAT IT READS IS OF BULK AT MOST 1048576: true; the input reads as it did. -/
def gainShortUptoRow : OpenClaim := { program := "ytgknajladloffaa", sum := "7ffe262f34d527b04857481150f39b7469be0e370e0653dab765e374dfbe0386", func := "psaltery/psalterylaw11.GainShort", spec := "gainShort", apart := false, narrowed := true }
def GainShortUptoSaid : Prop := gainShortUptoRow.holds Try.pinned (OpenSpec.upto gainShortSpec)

/-- 'psalterylaw23.ToneEncodes', WHERE WHAT IT READS IS OF BULK AT MOST 1048576: true; the input reads as it did. -/
def toneEncodesUptoRow : OpenClaim := { program := "ytgknajladloffaa", sum := "7ffe262f34d527b04857481150f39b7469be0e370e0653dab765e374dfbe0386", func := "psaltery/psalterylaw23.ToneEncodes", spec := "toneEncodes", unfollowed := true, recurses := true, apart := false, narrowed := true }
def ToneEncodesUptoSaid : Prop := toneEncodesUptoRow.holds Try.pinned (OpenSpec.upto toneEncodesSpec)

/-- 'psalterylaw23.ToneDecodes', WHERE WHAT IT READS IS OF BULK AT MOST 1048576: true; the input reads as it did. -/
def toneDecodesUptoRow : OpenClaim := { program := "ytgknajladloffaa", sum := "7ffe262f34d527b04857481150f39b7469be0e370e0653dab765e374dfbe0386", func := "psaltery/psalterylaw23.ToneDecodes", spec := "toneDecodes", unfollowed := true, recurses := true, apart := false, narrowed := true }
def ToneDecodesUptoSaid : Prop := toneDecodesUptoRow.holds Try.pinned (OpenSpec.upto toneDecodesSpec)

/-- 'psalterylaw23.ToneSigns', WHERE WHAT IT READS IS OF BULK AT MOST 1048576: true; the input reads as it did. -/
def toneSignsUptoRow : OpenClaim := { program := "ytgknajladloffaa", sum := "7ffe262f34d527b04857481150f39b7469be0e370e0653dab765e374dfbe0386", func := "psaltery/psalterylaw23.ToneSigns", spec := "toneSigns", unfollowed := true, recurses := true, apart := false, narrowed := true }
def ToneSignsUptoSaid : Prop := toneSignsUptoRow.holds Try.pinned (OpenSpec.upto toneSignsSpec)

/-- 'psalterylaw23.ToneNorms', WHERE WHAT IT READS IS OF BULK AT MOST 1048576: true; the input reads as it did. -/
def toneNormsUptoRow : OpenClaim := { program := "ytgknajladloffaa", sum := "7ffe262f34d527b04857481150f39b7469be0e370e0653dab765e374dfbe0386", func := "psaltery/psalterylaw23.ToneNorms", spec := "toneNorms", unfollowed := true, recurses := true, apart := false, narrowed := true }
def ToneNormsUptoSaid : Prop := toneNormsUptoRow.holds Try.pinned (OpenSpec.upto toneNormsSpec)

/-- 'psalterylaw23.ToneAny', WHERE WHAT IT READS IS OF BULK AT MOST 1048576: true; the input reads as it did. -/
def toneAnyUptoRow : OpenClaim := { program := "ytgknajladloffaa", sum := "7ffe262f34d527b04857481150f39b7469be0e370e0653dab765e374dfbe0386", func := "psaltery/psalterylaw23.ToneAny", spec := "toneAny", unfollowed := true, recurses := true, apart := false, narrowed := true }
def ToneAnyUptoSaid : Prop := toneAnyUptoRow.holds Try.pinned (OpenSpec.upto toneAnySpec)

/-- 'psalterylaw23.ToneSilent', WHERE WHAT IT READS IS OF BULK AT MOST 1048576: true; the input reads as it did. -/
def toneSilentUptoRow : OpenClaim := { program := "ytgknajladloffaa", sum := "7ffe262f34d527b04857481150f39b7469be0e370e0653dab765e374dfbe0386", func := "psaltery/psalterylaw23.ToneSilent", spec := "toneSilent", unfollowed := true, recurses := true, apart := false, narrowed := true }
def ToneSilentUptoSaid : Prop := toneSilentUptoRow.holds Try.pinned (OpenSpec.upto toneSilentSpec)

/-- 'psalterylaw13.PackRights', WHERE WHAT IT READS IS OF BULK AT MOST 1048576: true; the input reads as it did. -/
def packRightsUptoRow : OpenClaim := { program := "ytgknajladloffaa", sum := "7ffe262f34d527b04857481150f39b7469be0e370e0653dab765e374dfbe0386", func := "psaltery/psalterylaw13.PackRights", spec := "packRights", unfollowed := true, recurses := true, apart := false, narrowed := true }
def PackRightsUptoSaid : Prop := packRightsUptoRow.holds Try.pinned (OpenSpec.upto packRightsSpec)

/-- 'psalterylaw13.PackWrites', WHERE WHAT IT READS IS OF BULK AT MOST 1048576: true; the input reads as it did. -/
def packWritesUptoRow : OpenClaim := { program := "ytgknajladloffaa", sum := "7ffe262f34d527b04857481150f39b7469be0e370e0653dab765e374dfbe0386", func := "psaltery/psalterylaw13.PackWrites", spec := "packWrites", unfollowed := true, recurses := true, apart := false, narrowed := true }
def PackWritesUptoSaid : Prop := packWritesUptoRow.holds Try.pinned (OpenSpec.upto packWritesSpec)

/-- 'psalterylaw13.PackReads', WHERE WHAT IT READS IS OF BULK AT MOST 1048576: true; the input reads as it did. -/
def packReadsUptoRow : OpenClaim := { program := "ytgknajladloffaa", sum := "7ffe262f34d527b04857481150f39b7469be0e370e0653dab765e374dfbe0386", func := "psaltery/psalterylaw13.PackReads", spec := "packReads", unfollowed := true, recurses := true, apart := false, narrowed := true }
def PackReadsUptoSaid : Prop := packReadsUptoRow.holds Try.pinned (OpenSpec.upto packReadsSpec)

/-- 'psalterylaw13.PackBack', WHERE WHAT IT READS IS OF BULK AT MOST 1048576: true; the input reads as it did. -/
def packBackUptoRow : OpenClaim := { program := "ytgknajladloffaa", sum := "7ffe262f34d527b04857481150f39b7469be0e370e0653dab765e374dfbe0386", func := "psaltery/psalterylaw13.PackBack", spec := "packBack", unfollowed := true, recurses := true, apart := false, narrowed := true }
def PackBackUptoSaid : Prop := packBackUptoRow.holds Try.pinned (OpenSpec.upto packBackSpec)

/-- 'psalterylaw13.PackAny', WHERE WHAT IT READS IS OF BULK AT MOST 1048576: true; the input reads as it did. -/
def packAnyUptoRow : OpenClaim := { program := "ytgknajladloffaa", sum := "7ffe262f34d527b04857481150f39b7469be0e370e0653dab765e374dfbe0386", func := "psaltery/psalterylaw13.PackAny", spec := "packAny", unfollowed := true, recurses := true, apart := false, narrowed := true }
def PackAnyUptoSaid : Prop := packAnyUptoRow.holds Try.pinned (OpenSpec.upto packAnySpec)

/-- 'psalterylaw13.PackAlone', WHERE WHAT IT READS IS OF BULK AT MOST 1048576: true; the input reads as it did. -/
def packAloneUptoRow : OpenClaim := { program := "ytgknajladloffaa", sum := "7ffe262f34d527b04857481150f39b7469be0e370e0653dab765e374dfbe0386", func := "psaltery/psalterylaw13.PackAlone", spec := "packAlone", unfollowed := true, recurses := true, apart := false, narrowed := true }
def PackAloneUptoSaid : Prop := packAloneUptoRow.holds Try.pinned (OpenSpec.upto packAloneSpec)

end Rows
end Go.Proofs.Ytgknajladloffaa
