/-
  No cell of these rows narrows 'for every input' (looked for: loops, veiled, ifaces, maps, wideKeys, modest, calm, conditions, laid).
  DERIVED. THE GIVEN ROWS OF THIS SEAT. 12 by the template 'for every input the law returns true; each argument reads behind the call as it read before'; 0 by the template 'total and deterministic' (their statements: YtnccebppgmnmfaaTotals.lean).
  GIVEN WITH THE SEED: the statements are not yours to turn. If you find one false, say at which input.
  Laid BY PROGRAM, IN A SANDBOX (cutbox-rows.mjs): the forced cells as the released guide's own fill.sh prints them over the translation debd377996761acb… (all of the seat's roots in one cut). By AI agents, Wed Nov 11 2026. No macro, syntax, notation, axiom, sorry.
-/
import Derived.Test.YtnccebppgmnmfaaChecked
import GoSem.Claim
import GoSem.ClaimJoined
import GoSem.ClaimMapViews
import Derived.JoinedTies
import Derived.KernelRfl
namespace Go.Proofs.Ytnccebppgmnmfaa
/- THE CELL 'sum', in the pinned program and in every row, IS THE sha256 OF THE DUMP (.gsa) THAT YtnccebppgmnmfaaProg.lean LOADS. Nothing in Lean hashes anything: it is a label: what it is worth is what the hold of that sum in a sandbox is worth. -/
noncomputable def Try.pinned : Pinned := { name := "ytnccebppgmnmfaa", sum := "debd377996761acbc52b7dd18e4849bdb9d218e4cd5c84bb5b332273632ab62d", checked := Try.checked }
namespace Rows
def none {H : Type} : Left H := { results := [], args := [] }

/-- 'isoglosslaw05.MsgLong': WHATEVER THE INPUT: true; the input reads as it did. -/
def msgLongSpec : ChangeSpec := { name := "msgLong", fn := fun _ => fun
  | [d1, d2, d3] => { results := [.lit (.bool true)], args := [d1, d2, d3] }
  | _ => none }
def msgLongRow : OpenClaim := { program := "ytnccebppgmnmfaa", sum := "debd377996761acbc52b7dd18e4849bdb9d218e4cd5c84bb5b332273632ab62d", func := "isogloss/isoglosslaw05.MsgLong", spec := "msgLong", unfollowed := true, recurses := true, plainKeys := false, apart := false }
def MsgLongSaid : Prop := msgLongRow.holds Try.pinned (OpenSpec.ofChange msgLongSpec)

/-- ITS FALSE NEIGHBOUR: 'it returns false'. Refute it at one input. -/
def msgLongWrong : ChangeSpec := { name := "msgLong", fn := fun _ => fun
  | [d1, d2, d3] => { results := [.lit (.bool false)], args := [d1, d2, d3] }
  | _ => none }
def MsgLongWrongFalsely : Prop := msgLongRow.holds Try.pinned (OpenSpec.ofChange msgLongWrong)

/-- 'isoglosslaw13.PartFirst': WHATEVER THE INPUT: true; the input reads as it did. -/
def partFirstSpec : ChangeSpec := { name := "partFirst", fn := fun _ => fun
  | [d] => { results := [.lit (.bool true)], args := [d] }
  | _ => none }
def partFirstRow : OpenClaim := { program := "ytnccebppgmnmfaa", sum := "debd377996761acbc52b7dd18e4849bdb9d218e4cd5c84bb5b332273632ab62d", func := "isogloss/isoglosslaw13.PartFirst", spec := "partFirst", inPlace := ["internal/bytealg.abigen_runtime_cmpstring", "slices.overlaps[isogloss/block.Entry]"], unfollowed := true, recurses := true, plainKeys := false, apart := false }
def PartFirstSaid : Prop := partFirstRow.holds Try.pinned (OpenSpec.ofChange partFirstSpec)

/-- ITS FALSE NEIGHBOUR: 'it returns false'. Refute it at one input. -/
def partFirstWrong : ChangeSpec := { name := "partFirst", fn := fun _ => fun
  | [d] => { results := [.lit (.bool false)], args := [d] }
  | _ => none }
def PartFirstWrongFalsely : Prop := partFirstRow.holds Try.pinned (OpenSpec.ofChange partFirstWrong)

/-- 'isoglosslaw10.BlockBent': WHATEVER THE INPUT: true; the input reads as it did. -/
def blockBentSpec : ChangeSpec := { name := "blockBent", fn := fun _ => fun
  | [d1, d2, d3] => { results := [.lit (.bool true)], args := [d1, d2, d3] }
  | _ => none }
def blockBentRow : OpenClaim := { program := "ytnccebppgmnmfaa", sum := "debd377996761acbc52b7dd18e4849bdb9d218e4cd5c84bb5b332273632ab62d", func := "isogloss/isoglosslaw10.BlockBent", spec := "blockBent", inPlace := ["internal/abi.NoEscape"], plainKeys := false, apart := false }
def BlockBentSaid : Prop := blockBentRow.holds Try.pinned (OpenSpec.ofChange blockBentSpec)

/-- ITS FALSE NEIGHBOUR: 'it returns false'. Refute it at one input. -/
def blockBentWrong : ChangeSpec := { name := "blockBent", fn := fun _ => fun
  | [d1, d2, d3] => { results := [.lit (.bool false)], args := [d1, d2, d3] }
  | _ => none }
def BlockBentWrongFalsely : Prop := blockBentRow.holds Try.pinned (OpenSpec.ofChange blockBentWrong)

/-- 'isoglosslaw10.BlockBack': WHATEVER THE INPUT: true; the input reads as it did. -/
def blockBackSpec : ChangeSpec := { name := "blockBack", fn := fun _ => fun
  | [d] => { results := [.lit (.bool true)], args := [d] }
  | _ => none }
def blockBackRow : OpenClaim := { program := "ytnccebppgmnmfaa", sum := "debd377996761acbc52b7dd18e4849bdb9d218e4cd5c84bb5b332273632ab62d", func := "isogloss/isoglosslaw10.BlockBack", spec := "blockBack", inPlace := ["internal/abi.NoEscape"], plainKeys := false, apart := false }
def BlockBackSaid : Prop := blockBackRow.holds Try.pinned (OpenSpec.ofChange blockBackSpec)

/-- ITS FALSE NEIGHBOUR: 'it returns false'. Refute it at one input. -/
def blockBackWrong : ChangeSpec := { name := "blockBack", fn := fun _ => fun
  | [d] => { results := [.lit (.bool false)], args := [d] }
  | _ => none }
def BlockBackWrongFalsely : Prop := blockBackRow.holds Try.pinned (OpenSpec.ofChange blockBackWrong)

/-- 'isoglosslaw08.LogWrites': WHATEVER THE INPUT: true; the input reads as it did. -/
def logWritesSpec : ChangeSpec := { name := "logWrites", fn := fun _ => fun
  | [d1, d2] => { results := [.lit (.bool true)], args := [d1, d2] }
  | _ => none }
def logWritesRow : OpenClaim := { program := "ytnccebppgmnmfaa", sum := "debd377996761acbc52b7dd18e4849bdb9d218e4cd5c84bb5b332273632ab62d", func := "isogloss/isoglosslaw08.LogWrites", spec := "logWrites", inPlace := ["internal/abi.NoEscape", "internal/bytealg.MakeNoZero"], plainKeys := false, apart := false }
def LogWritesSaid : Prop := logWritesRow.holds Try.pinned (OpenSpec.ofChange logWritesSpec)

/-- ITS FALSE NEIGHBOUR: 'it returns false'. Refute it at one input. -/
def logWritesWrong : ChangeSpec := { name := "logWrites", fn := fun _ => fun
  | [d1, d2] => { results := [.lit (.bool false)], args := [d1, d2] }
  | _ => none }
def LogWritesWrongFalsely : Prop := logWritesRow.holds Try.pinned (OpenSpec.ofChange logWritesWrong)

/-- 'isoglosslaw08.LogStands': WHATEVER THE INPUT: true; the input reads as it did. -/
def logStandsSpec : ChangeSpec := { name := "logStands", fn := fun _ => fun
  | [d1, d2, d3] => { results := [.lit (.bool true)], args := [d1, d2, d3] }
  | _ => none }
def logStandsRow : OpenClaim := { program := "ytnccebppgmnmfaa", sum := "debd377996761acbc52b7dd18e4849bdb9d218e4cd5c84bb5b332273632ab62d", func := "isogloss/isoglosslaw08.LogStands", spec := "logStands", inPlace := ["internal/abi.NoEscape", "internal/bytealg.MakeNoZero"], plainKeys := false, apart := false }
def LogStandsSaid : Prop := logStandsRow.holds Try.pinned (OpenSpec.ofChange logStandsSpec)

/-- ITS FALSE NEIGHBOUR: 'it returns false'. Refute it at one input. -/
def logStandsWrong : ChangeSpec := { name := "logStands", fn := fun _ => fun
  | [d1, d2, d3] => { results := [.lit (.bool false)], args := [d1, d2, d3] }
  | _ => none }
def LogStandsWrongFalsely : Prop := logStandsRow.holds Try.pinned (OpenSpec.ofChange logStandsWrong)

/-- 'isoglosslaw16.WireFlips': WHATEVER THE INPUT: true; the input reads as it did. -/
def wireFlipsSpec : ChangeSpec := { name := "wireFlips", fn := fun _ => fun
  | [d1, d2, d3] => { results := [.lit (.bool true)], args := [d1, d2, d3] }
  | _ => none }
def wireFlipsRow : OpenClaim := { program := "ytnccebppgmnmfaa", sum := "debd377996761acbc52b7dd18e4849bdb9d218e4cd5c84bb5b332273632ab62d", func := "isogloss/isoglosslaw16.WireFlips", spec := "wireFlips", unfollowed := true, recurses := true, plainKeys := false, apart := false }
def WireFlipsSaid : Prop := wireFlipsRow.holds Try.pinned (OpenSpec.ofChange wireFlipsSpec)

/-- ITS FALSE NEIGHBOUR: 'it returns false'. Refute it at one input. -/
def wireFlipsWrong : ChangeSpec := { name := "wireFlips", fn := fun _ => fun
  | [d1, d2, d3] => { results := [.lit (.bool false)], args := [d1, d2, d3] }
  | _ => none }
def WireFlipsWrongFalsely : Prop := wireFlipsRow.holds Try.pinned (OpenSpec.ofChange wireFlipsWrong)

/-- 'isoglosslaw16.WirePlays': WHATEVER THE INPUT: true; the input reads as it did. -/
def wirePlaysSpec : ChangeSpec := { name := "wirePlays", fn := fun _ => fun
  | [d] => { results := [.lit (.bool true)], args := [d] }
  | _ => none }
def wirePlaysRow : OpenClaim := { program := "ytnccebppgmnmfaa", sum := "debd377996761acbc52b7dd18e4849bdb9d218e4cd5c84bb5b332273632ab62d", func := "isogloss/isoglosslaw16.WirePlays", spec := "wirePlays", unfollowed := true, recurses := true, plainKeys := false, apart := false }
def WirePlaysSaid : Prop := wirePlaysRow.holds Try.pinned (OpenSpec.ofChange wirePlaysSpec)

/-- ITS FALSE NEIGHBOUR: 'it returns false'. Refute it at one input. -/
def wirePlaysWrong : ChangeSpec := { name := "wirePlays", fn := fun _ => fun
  | [d] => { results := [.lit (.bool false)], args := [d] }
  | _ => none }
def WirePlaysWrongFalsely : Prop := wirePlaysRow.holds Try.pinned (OpenSpec.ofChange wirePlaysWrong)

/-- 'isoglosslaw14.CoordEnds': WHATEVER THE INPUT: true; the input reads as it did. -/
def coordEndsSpec : ChangeSpec := { name := "coordEnds", fn := fun _ => fun
  | [d1, d2] => { results := [.lit (.bool true)], args := [d1, d2] }
  | _ => none }
def coordEndsRow : OpenClaim := { program := "ytnccebppgmnmfaa", sum := "debd377996761acbc52b7dd18e4849bdb9d218e4cd5c84bb5b332273632ab62d", func := "isogloss/isoglosslaw14.CoordEnds", spec := "coordEnds", unfollowed := true, recurses := true, plainKeys := false, apart := false }
def CoordEndsSaid : Prop := coordEndsRow.holds Try.pinned (OpenSpec.ofChange coordEndsSpec)

/-- ITS FALSE NEIGHBOUR: 'it returns false'. Refute it at one input. -/
def coordEndsWrong : ChangeSpec := { name := "coordEnds", fn := fun _ => fun
  | [d1, d2] => { results := [.lit (.bool false)], args := [d1, d2] }
  | _ => none }
def CoordEndsWrongFalsely : Prop := coordEndsRow.holds Try.pinned (OpenSpec.ofChange coordEndsWrong)

/-- 'isoglosslaw14.CoordPlays': WHATEVER THE INPUT: true; the input reads as it did. -/
def coordPlaysSpec : ChangeSpec := { name := "coordPlays", fn := fun _ => fun
  | [d1, d2, d3] => { results := [.lit (.bool true)], args := [d1, d2, d3] }
  | _ => none }
def coordPlaysRow : OpenClaim := { program := "ytnccebppgmnmfaa", sum := "debd377996761acbc52b7dd18e4849bdb9d218e4cd5c84bb5b332273632ab62d", func := "isogloss/isoglosslaw14.CoordPlays", spec := "coordPlays", unfollowed := true, recurses := true, plainKeys := false, apart := false }
def CoordPlaysSaid : Prop := coordPlaysRow.holds Try.pinned (OpenSpec.ofChange coordPlaysSpec)

/-- ITS FALSE NEIGHBOUR: 'it returns false'. Refute it at one input. -/
def coordPlaysWrong : ChangeSpec := { name := "coordPlays", fn := fun _ => fun
  | [d1, d2, d3] => { results := [.lit (.bool false)], args := [d1, d2, d3] }
  | _ => none }
def CoordPlaysWrongFalsely : Prop := coordPlaysRow.holds Try.pinned (OpenSpec.ofChange coordPlaysWrong)

/-- 'isoglosslaw11.MvccBad': WHATEVER THE INPUT: true; the input reads as it did. -/
def mvccBadSpec : ChangeSpec := { name := "mvccBad", fn := fun _ => fun
  | [d1, d2] => { results := [.lit (.bool true)], args := [d1, d2] }
  | _ => none }
def mvccBadRow : OpenClaim := { program := "ytnccebppgmnmfaa", sum := "debd377996761acbc52b7dd18e4849bdb9d218e4cd5c84bb5b332273632ab62d", func := "isogloss/isoglosslaw11.MvccBad", spec := "mvccBad", inPlace := ["internal/bytealg.abigen_runtime_cmpstring", "slices.overlaps[isogloss/block.Entry]", "internal/abi.NoEscape"], unfollowed := true, recurses := true, plainKeys := false, apart := false }
def MvccBadSaid : Prop := mvccBadRow.holds Try.pinned (OpenSpec.ofChange mvccBadSpec)

/-- ITS FALSE NEIGHBOUR: 'it returns false'. Refute it at one input. -/
def mvccBadWrong : ChangeSpec := { name := "mvccBad", fn := fun _ => fun
  | [d1, d2] => { results := [.lit (.bool false)], args := [d1, d2] }
  | _ => none }
def MvccBadWrongFalsely : Prop := mvccBadRow.holds Try.pinned (OpenSpec.ofChange mvccBadWrong)

/-- 'isoglosslaw11.MvccLoads': WHATEVER THE INPUT: true; the input reads as it did. -/
def mvccLoadsSpec : ChangeSpec := { name := "mvccLoads", fn := fun _ => fun
  | [d1, d2] => { results := [.lit (.bool true)], args := [d1, d2] }
  | _ => none }
def mvccLoadsRow : OpenClaim := { program := "ytnccebppgmnmfaa", sum := "debd377996761acbc52b7dd18e4849bdb9d218e4cd5c84bb5b332273632ab62d", func := "isogloss/isoglosslaw11.MvccLoads", spec := "mvccLoads", inPlace := ["internal/bytealg.abigen_runtime_cmpstring", "slices.overlaps[isogloss/block.Entry]", "internal/abi.NoEscape"], unfollowed := true, recurses := true, plainKeys := false, apart := false }
def MvccLoadsSaid : Prop := mvccLoadsRow.holds Try.pinned (OpenSpec.ofChange mvccLoadsSpec)

/-- ITS FALSE NEIGHBOUR: 'it returns false'. Refute it at one input. -/
def mvccLoadsWrong : ChangeSpec := { name := "mvccLoads", fn := fun _ => fun
  | [d1, d2] => { results := [.lit (.bool false)], args := [d1, d2] }
  | _ => none }
def MvccLoadsWrongFalsely : Prop := mvccLoadsRow.holds Try.pinned (OpenSpec.ofChange mvccLoadsWrong)

/- THE SECOND FORM. 'bulk': how many values and letters a reading holds, each counted each time it is reached (what is shared counts as often as it is met; a slice's spare places count too). A statement '..UptoSaid' is the law's where the arguments, and the package variables that the reading takes, are together of bulk at most 1048576: NARROWER than '..Said'. Prove '..Said' where nothing that the law and all that it calls make is longer than what came in: it says more and counts as full. Else prove '..UptoSaid'. A law counts once. -/
mutual
def uptoBulk {H : Type} : DataW H → Nat
  | .lit (.string bytes) => bytes.length + 1
  | .lit _ => 1
  | .nil => 1
  | .ptr d => uptoBulk d + 1
  | .slice elems spare => uptoBulkAll elems + uptoBulkAll spare + 1
  | .agg parts => uptoBulkAll parts + 1
  | .iface _ d => uptoBulk d + 1
  | .map entries => uptoBulkEntries entries + 1
  | .held _ => 1
def uptoBulkAll {H : Type} : List (DataW H) → Nat
  | [] => 0
  | d :: r => uptoBulk d + uptoBulkAll r
def uptoBulkEntries {H : Type} : List (Lit × DataW H) → Nat
  | [] => 0
  | x :: r => uptoBulkEntry x + uptoBulkEntries r
def uptoBulkEntry {H : Type} : Lit × DataW H → Nat
  | (.string bytes, d) => bytes.length + uptoBulk d + 1
  | (_, d) => uptoBulk d + 1
 end
def uptoSmall : (H : Type) → List (DataW H) → Bool := fun _ ds => decide (uptoBulkAll ds ≤ 1048576)
def OpenSpec.upto (s : _root_.Go.ChangeSpec) : _root_.Go.OpenSpec := { _root_.Go.OpenSpec.ofChange s with cond := some uptoSmall }

/-- 'isoglosslaw05.MsgLong', WHERE WHAT IT READS IS OF BULK AT MOST 1048576: true; the input reads as it did. -/
def msgLongUptoRow : OpenClaim := { program := "ytnccebppgmnmfaa", sum := "debd377996761acbc52b7dd18e4849bdb9d218e4cd5c84bb5b332273632ab62d", func := "isogloss/isoglosslaw05.MsgLong", spec := "msgLong", unfollowed := true, recurses := true, plainKeys := false, apart := false, narrowed := true }
def MsgLongUptoSaid : Prop := msgLongUptoRow.holds Try.pinned (OpenSpec.upto msgLongSpec)

/-- 'isoglosslaw13.PartFirst', WHERE WHAT IT READS IS OF BULK AT MOST 1048576: true; the input reads as it did. -/
def partFirstUptoRow : OpenClaim := { program := "ytnccebppgmnmfaa", sum := "debd377996761acbc52b7dd18e4849bdb9d218e4cd5c84bb5b332273632ab62d", func := "isogloss/isoglosslaw13.PartFirst", spec := "partFirst", inPlace := ["internal/bytealg.abigen_runtime_cmpstring", "slices.overlaps[isogloss/block.Entry]"], unfollowed := true, recurses := true, plainKeys := false, apart := false, narrowed := true }
def PartFirstUptoSaid : Prop := partFirstUptoRow.holds Try.pinned (OpenSpec.upto partFirstSpec)

/-- 'isoglosslaw10.BlockBent', WHERE WHAT IT READS IS OF BULK AT MOST 1048576: true; the input reads as it did. -/
def blockBentUptoRow : OpenClaim := { program := "ytnccebppgmnmfaa", sum := "debd377996761acbc52b7dd18e4849bdb9d218e4cd5c84bb5b332273632ab62d", func := "isogloss/isoglosslaw10.BlockBent", spec := "blockBent", inPlace := ["internal/abi.NoEscape"], plainKeys := false, apart := false, narrowed := true }
def BlockBentUptoSaid : Prop := blockBentUptoRow.holds Try.pinned (OpenSpec.upto blockBentSpec)

/-- 'isoglosslaw10.BlockBack', WHERE WHAT IT READS IS OF BULK AT MOST 1048576: true; the input reads as it did. -/
def blockBackUptoRow : OpenClaim := { program := "ytnccebppgmnmfaa", sum := "debd377996761acbc52b7dd18e4849bdb9d218e4cd5c84bb5b332273632ab62d", func := "isogloss/isoglosslaw10.BlockBack", spec := "blockBack", inPlace := ["internal/abi.NoEscape"], plainKeys := false, apart := false, narrowed := true }
def BlockBackUptoSaid : Prop := blockBackUptoRow.holds Try.pinned (OpenSpec.upto blockBackSpec)

/-- 'isoglosslaw08.LogWrites', WHERE WHAT IT READS IS OF BULK AT MOST 1048576: true; the input reads as it did. -/
def logWritesUptoRow : OpenClaim := { program := "ytnccebppgmnmfaa", sum := "debd377996761acbc52b7dd18e4849bdb9d218e4cd5c84bb5b332273632ab62d", func := "isogloss/isoglosslaw08.LogWrites", spec := "logWrites", inPlace := ["internal/abi.NoEscape", "internal/bytealg.MakeNoZero"], plainKeys := false, apart := false, narrowed := true }
def LogWritesUptoSaid : Prop := logWritesUptoRow.holds Try.pinned (OpenSpec.upto logWritesSpec)

/-- 'isoglosslaw08.LogStands', WHERE WHAT IT READS IS OF BULK AT MOST 1048576: true; the input reads as it did. -/
def logStandsUptoRow : OpenClaim := { program := "ytnccebppgmnmfaa", sum := "debd377996761acbc52b7dd18e4849bdb9d218e4cd5c84bb5b332273632ab62d", func := "isogloss/isoglosslaw08.LogStands", spec := "logStands", inPlace := ["internal/abi.NoEscape", "internal/bytealg.MakeNoZero"], plainKeys := false, apart := false, narrowed := true }
def LogStandsUptoSaid : Prop := logStandsUptoRow.holds Try.pinned (OpenSpec.upto logStandsSpec)

/-- 'isoglosslaw16.WireFlips', WHERE WHAT IT READS IS OF BULK AT MOST 1048576: true; the input reads as it did. -/
def wireFlipsUptoRow : OpenClaim := { program := "ytnccebppgmnmfaa", sum := "debd377996761acbc52b7dd18e4849bdb9d218e4cd5c84bb5b332273632ab62d", func := "isogloss/isoglosslaw16.WireFlips", spec := "wireFlips", unfollowed := true, recurses := true, plainKeys := false, apart := false, narrowed := true }
def WireFlipsUptoSaid : Prop := wireFlipsUptoRow.holds Try.pinned (OpenSpec.upto wireFlipsSpec)

/-- 'isoglosslaw16.WirePlays', WHERE WHAT IT READS IS OF BULK AT MOST 1048576: true; the input reads as it did. -/
def wirePlaysUptoRow : OpenClaim := { program := "ytnccebppgmnmfaa", sum := "debd377996761acbc52b7dd18e4849bdb9d218e4cd5c84bb5b332273632ab62d", func := "isogloss/isoglosslaw16.WirePlays", spec := "wirePlays", unfollowed := true, recurses := true, plainKeys := false, apart := false, narrowed := true }
def WirePlaysUptoSaid : Prop := wirePlaysUptoRow.holds Try.pinned (OpenSpec.upto wirePlaysSpec)

/-- 'isoglosslaw14.CoordEnds', WHERE WHAT IT READS IS OF BULK AT MOST 1048576: true; the input reads as it did. -/
def coordEndsUptoRow : OpenClaim := { program := "ytnccebppgmnmfaa", sum := "debd377996761acbc52b7dd18e4849bdb9d218e4cd5c84bb5b332273632ab62d", func := "isogloss/isoglosslaw14.CoordEnds", spec := "coordEnds", unfollowed := true, recurses := true, plainKeys := false, apart := false, narrowed := true }
def CoordEndsUptoSaid : Prop := coordEndsUptoRow.holds Try.pinned (OpenSpec.upto coordEndsSpec)

/-- 'isoglosslaw14.CoordPlays', WHERE WHAT IT READS IS OF BULK AT MOST 1048576: true; the input reads as it did. -/
def coordPlaysUptoRow : OpenClaim := { program := "ytnccebppgmnmfaa", sum := "debd377996761acbc52b7dd18e4849bdb9d218e4cd5c84bb5b332273632ab62d", func := "isogloss/isoglosslaw14.CoordPlays", spec := "coordPlays", unfollowed := true, recurses := true, plainKeys := false, apart := false, narrowed := true }
def CoordPlaysUptoSaid : Prop := coordPlaysUptoRow.holds Try.pinned (OpenSpec.upto coordPlaysSpec)

/-- 'isoglosslaw11.MvccBad', WHERE WHAT IT READS IS OF BULK AT MOST 1048576: true; the input reads as it did. -/
def mvccBadUptoRow : OpenClaim := { program := "ytnccebppgmnmfaa", sum := "debd377996761acbc52b7dd18e4849bdb9d218e4cd5c84bb5b332273632ab62d", func := "isogloss/isoglosslaw11.MvccBad", spec := "mvccBad", inPlace := ["internal/bytealg.abigen_runtime_cmpstring", "slices.overlaps[isogloss/block.Entry]", "internal/abi.NoEscape"], unfollowed := true, recurses := true, plainKeys := false, apart := false, narrowed := true }
def MvccBadUptoSaid : Prop := mvccBadUptoRow.holds Try.pinned (OpenSpec.upto mvccBadSpec)

/-- 'isoglosslaw11.MvccLoads', WHERE WHAT IT READS IS OF BULK AT MOST 1048576: true; the input reads as it did. -/
def mvccLoadsUptoRow : OpenClaim := { program := "ytnccebppgmnmfaa", sum := "debd377996761acbc52b7dd18e4849bdb9d218e4cd5c84bb5b332273632ab62d", func := "isogloss/isoglosslaw11.MvccLoads", spec := "mvccLoads", inPlace := ["internal/bytealg.abigen_runtime_cmpstring", "slices.overlaps[isogloss/block.Entry]", "internal/abi.NoEscape"], unfollowed := true, recurses := true, plainKeys := false, apart := false, narrowed := true }
def MvccLoadsUptoSaid : Prop := mvccLoadsUptoRow.holds Try.pinned (OpenSpec.upto mvccLoadsSpec)

end Rows
end Go.Proofs.Ytnccebppgmnmfaa
