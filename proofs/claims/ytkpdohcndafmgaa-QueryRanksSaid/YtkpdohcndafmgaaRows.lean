/-
  No cell of these rows narrows 'for every input' (looked for: loops, veiled, ifaces, maps, wideKeys, modest, calm, conditions, laid).
  DERIVED. THE GIVEN ROWS OF THIS SEAT. 10 by the template 'for every input the law returns true; each argument reads behind the call as it read before'; 0 by the template 'total and deterministic' (their statements: YtkpdohcndafmgaaTotals.lean).
  GIVEN WITH THE SEED: the statements are not yours to turn. If you find one false, say at which input.
  Laid BY PROGRAM, IN A SANDBOX (cutbox-rows.mjs): the forced cells as the released guide's own fill.sh prints them over the translation 6f44a908f50aa4e0… (all of the seat's roots in one cut). By AI agents, Wed Nov 11 2026. No macro, syntax, notation, axiom, sorry.
-/
import Derived.Test.YtkpdohcndafmgaaChecked
import GoSem.Claim
import GoSem.ClaimJoined
import GoSem.ClaimMapViews
import Derived.JoinedTies
import Derived.KernelRfl
namespace Go.Proofs.Ytkpdohcndafmgaa
/- THE CELL 'sum', in the pinned program and in every row, IS THE sha256 OF THE DUMP (.gsa) THAT YtkpdohcndafmgaaProg.lean LOADS. Nothing in Lean hashes anything: it is a label: what it is worth is what the hold of that sum in a sandbox is worth. -/
noncomputable def Try.pinned : Pinned := { name := "ytkpdohcndafmgaa", sum := "6f44a908f50aa4e0d9f09884252c61b5735e84701918f36f7dd6ae775a3ab6a5", checked := Try.checked }
namespace Rows
def none {H : Type} : Left H := { results := [], args := [] }

/-- 'haycroftlaw30.DifferDiffs': WHATEVER THE INPUT: true; the input reads as it did. -/
def differDiffsSpec : ChangeSpec := { name := "differDiffs", fn := fun _ => fun
  | [d1, d2] => { results := [.lit (.bool true)], args := [d1, d2] }
  | _ => none }
def differDiffsRow : OpenClaim := { program := "ytkpdohcndafmgaa", sum := "6f44a908f50aa4e0d9f09884252c61b5735e84701918f36f7dd6ae775a3ab6a5", func := "haycroft/haycroftlaw30.DifferDiffs", spec := "differDiffs", inPlace := ["internal/bytealg.abigen_runtime_cmpstring"], unfollowed := true, recurses := true, apart := false }
def DifferDiffsSaid : Prop := differDiffsRow.holds Try.pinned (OpenSpec.ofChange differDiffsSpec)

/-- ITS FALSE NEIGHBOUR: 'it returns false'. Refute it at one input. -/
def differDiffsWrong : ChangeSpec := { name := "differDiffs", fn := fun _ => fun
  | [d1, d2] => { results := [.lit (.bool false)], args := [d1, d2] }
  | _ => none }
def DifferDiffsWrongFalsely : Prop := differDiffsRow.holds Try.pinned (OpenSpec.ofChange differDiffsWrong)

/-- 'haycroftlaw30.DifferSame': WHATEVER THE INPUT: true; the input reads as it did. -/
def differSameSpec : ChangeSpec := { name := "differSame", fn := fun _ => fun
  | [d1, d2] => { results := [.lit (.bool true)], args := [d1, d2] }
  | _ => none }
def differSameRow : OpenClaim := { program := "ytkpdohcndafmgaa", sum := "6f44a908f50aa4e0d9f09884252c61b5735e84701918f36f7dd6ae775a3ab6a5", func := "haycroft/haycroftlaw30.DifferSame", spec := "differSame", inPlace := ["internal/bytealg.abigen_runtime_cmpstring"], unfollowed := true, recurses := true, apart := false }
def DifferSameSaid : Prop := differSameRow.holds Try.pinned (OpenSpec.ofChange differSameSpec)

/-- ITS FALSE NEIGHBOUR: 'it returns false'. Refute it at one input. -/
def differSameWrong : ChangeSpec := { name := "differSame", fn := fun _ => fun
  | [d1, d2] => { results := [.lit (.bool false)], args := [d1, d2] }
  | _ => none }
def DifferSameWrongFalsely : Prop := differSameRow.holds Try.pinned (OpenSpec.ofChange differSameWrong)

/-- 'haycroftlaw35.QueryGroups': WHATEVER THE INPUT: true; the input reads as it did. -/
def queryGroupsSpec : ChangeSpec := { name := "queryGroups", fn := fun _ => fun
  | [d1, d2] => { results := [.lit (.bool true)], args := [d1, d2] }
  | _ => none }
def queryGroupsRow : OpenClaim := { program := "ytkpdohcndafmgaa", sum := "6f44a908f50aa4e0d9f09884252c61b5735e84701918f36f7dd6ae775a3ab6a5", func := "haycroft/haycroftlaw35.QueryGroups", spec := "queryGroups", apart := false }
def QueryGroupsSaid : Prop := queryGroupsRow.holds Try.pinned (OpenSpec.ofChange queryGroupsSpec)

/-- ITS FALSE NEIGHBOUR: 'it returns false'. Refute it at one input. -/
def queryGroupsWrong : ChangeSpec := { name := "queryGroups", fn := fun _ => fun
  | [d1, d2] => { results := [.lit (.bool false)], args := [d1, d2] }
  | _ => none }
def QueryGroupsWrongFalsely : Prop := queryGroupsRow.holds Try.pinned (OpenSpec.ofChange queryGroupsWrong)

/-- 'haycroftlaw30.DifferBehind': WHATEVER THE INPUT: true; the input reads as it did. -/
def differBehindSpec : ChangeSpec := { name := "differBehind", fn := fun _ => fun
  | [d1, d2, d3, d4] => { results := [.lit (.bool true)], args := [d1, d2, d3, d4] }
  | _ => none }
def differBehindRow : OpenClaim := { program := "ytkpdohcndafmgaa", sum := "6f44a908f50aa4e0d9f09884252c61b5735e84701918f36f7dd6ae775a3ab6a5", func := "haycroft/haycroftlaw30.DifferBehind", spec := "differBehind", inPlace := ["internal/bytealg.abigen_runtime_cmpstring"], unfollowed := true, recurses := true, apart := false }
def DifferBehindSaid : Prop := differBehindRow.holds Try.pinned (OpenSpec.ofChange differBehindSpec)

/-- ITS FALSE NEIGHBOUR: 'it returns false'. Refute it at one input. -/
def differBehindWrong : ChangeSpec := { name := "differBehind", fn := fun _ => fun
  | [d1, d2, d3, d4] => { results := [.lit (.bool false)], args := [d1, d2, d3, d4] }
  | _ => none }
def DifferBehindWrongFalsely : Prop := differBehindRow.holds Try.pinned (OpenSpec.ofChange differBehindWrong)

/-- 'haycroftlaw30.DifferApplies': WHATEVER THE INPUT: true; the input reads as it did. -/
def differAppliesSpec : ChangeSpec := { name := "differApplies", fn := fun _ => fun
  | [d1, d2] => { results := [.lit (.bool true)], args := [d1, d2] }
  | _ => none }
def differAppliesRow : OpenClaim := { program := "ytkpdohcndafmgaa", sum := "6f44a908f50aa4e0d9f09884252c61b5735e84701918f36f7dd6ae775a3ab6a5", func := "haycroft/haycroftlaw30.DifferApplies", spec := "differApplies", inPlace := ["internal/bytealg.abigen_runtime_cmpstring"], unfollowed := true, recurses := true, apart := false }
def DifferAppliesSaid : Prop := differAppliesRow.holds Try.pinned (OpenSpec.ofChange differAppliesSpec)

/-- ITS FALSE NEIGHBOUR: 'it returns false'. Refute it at one input. -/
def differAppliesWrong : ChangeSpec := { name := "differApplies", fn := fun _ => fun
  | [d1, d2] => { results := [.lit (.bool false)], args := [d1, d2] }
  | _ => none }
def DifferAppliesWrongFalsely : Prop := differAppliesRow.holds Try.pinned (OpenSpec.ofChange differAppliesWrong)

/-- 'haycroftlaw30.DifferBack': WHATEVER THE INPUT: true; the input reads as it did. -/
def differBackSpec : ChangeSpec := { name := "differBack", fn := fun _ => fun
  | [d1, d2] => { results := [.lit (.bool true)], args := [d1, d2] }
  | _ => none }
def differBackRow : OpenClaim := { program := "ytkpdohcndafmgaa", sum := "6f44a908f50aa4e0d9f09884252c61b5735e84701918f36f7dd6ae775a3ab6a5", func := "haycroft/haycroftlaw30.DifferBack", spec := "differBack", inPlace := ["internal/bytealg.abigen_runtime_cmpstring"], unfollowed := true, recurses := true, apart := false }
def DifferBackSaid : Prop := differBackRow.holds Try.pinned (OpenSpec.ofChange differBackSpec)

/-- ITS FALSE NEIGHBOUR: 'it returns false'. Refute it at one input. -/
def differBackWrong : ChangeSpec := { name := "differBack", fn := fun _ => fun
  | [d1, d2] => { results := [.lit (.bool false)], args := [d1, d2] }
  | _ => none }
def DifferBackWrongFalsely : Prop := differBackRow.holds Try.pinned (OpenSpec.ofChange differBackWrong)

/-- 'haycroftlaw35.QuerySelects': WHATEVER THE INPUT: true; the input reads as it did. -/
def querySelectsSpec : ChangeSpec := { name := "querySelects", fn := fun _ => fun
  | [d1, d2] => { results := [.lit (.bool true)], args := [d1, d2] }
  | _ => none }
def querySelectsRow : OpenClaim := { program := "ytkpdohcndafmgaa", sum := "6f44a908f50aa4e0d9f09884252c61b5735e84701918f36f7dd6ae775a3ab6a5", func := "haycroft/haycroftlaw35.QuerySelects", spec := "querySelects", unfollowed := true, recurses := true, apart := false }
def QuerySelectsSaid : Prop := querySelectsRow.holds Try.pinned (OpenSpec.ofChange querySelectsSpec)

/-- ITS FALSE NEIGHBOUR: 'it returns false'. Refute it at one input. -/
def querySelectsWrong : ChangeSpec := { name := "querySelects", fn := fun _ => fun
  | [d1, d2] => { results := [.lit (.bool false)], args := [d1, d2] }
  | _ => none }
def QuerySelectsWrongFalsely : Prop := querySelectsRow.holds Try.pinned (OpenSpec.ofChange querySelectsWrong)

/-- 'haycroftlaw35.QueryTurns': WHATEVER THE INPUT: true; the input reads as it did. -/
def queryTurnsSpec : ChangeSpec := { name := "queryTurns", fn := fun _ => fun
  | [d1, d2] => { results := [.lit (.bool true)], args := [d1, d2] }
  | _ => none }
def queryTurnsRow : OpenClaim := { program := "ytkpdohcndafmgaa", sum := "6f44a908f50aa4e0d9f09884252c61b5735e84701918f36f7dd6ae775a3ab6a5", func := "haycroft/haycroftlaw35.QueryTurns", spec := "queryTurns", unfollowed := true, recurses := true, apart := false }
def QueryTurnsSaid : Prop := queryTurnsRow.holds Try.pinned (OpenSpec.ofChange queryTurnsSpec)

/-- ITS FALSE NEIGHBOUR: 'it returns false'. Refute it at one input. -/
def queryTurnsWrong : ChangeSpec := { name := "queryTurns", fn := fun _ => fun
  | [d1, d2] => { results := [.lit (.bool false)], args := [d1, d2] }
  | _ => none }
def QueryTurnsWrongFalsely : Prop := queryTurnsRow.holds Try.pinned (OpenSpec.ofChange queryTurnsWrong)

/-- 'haycroftlaw35.QuerySums': WHATEVER THE INPUT: true; the input reads as it did. -/
def querySumsSpec : ChangeSpec := { name := "querySums", fn := fun _ => fun
  | [d1, d2] => { results := [.lit (.bool true)], args := [d1, d2] }
  | _ => none }
def querySumsRow : OpenClaim := { program := "ytkpdohcndafmgaa", sum := "6f44a908f50aa4e0d9f09884252c61b5735e84701918f36f7dd6ae775a3ab6a5", func := "haycroft/haycroftlaw35.QuerySums", spec := "querySums", unfollowed := true, recurses := true, apart := false }
def QuerySumsSaid : Prop := querySumsRow.holds Try.pinned (OpenSpec.ofChange querySumsSpec)

/-- ITS FALSE NEIGHBOUR: 'it returns false'. Refute it at one input. -/
def querySumsWrong : ChangeSpec := { name := "querySums", fn := fun _ => fun
  | [d1, d2] => { results := [.lit (.bool false)], args := [d1, d2] }
  | _ => none }
def QuerySumsWrongFalsely : Prop := querySumsRow.holds Try.pinned (OpenSpec.ofChange querySumsWrong)

/-- 'haycroftlaw35.QueryRanks': WHATEVER THE INPUT: true; the input reads as it did. -/
def queryRanksSpec : ChangeSpec := { name := "queryRanks", fn := fun _ => fun
  | [d1, d2, d3] => { results := [.lit (.bool true)], args := [d1, d2, d3] }
  | _ => none }
def queryRanksRow : OpenClaim := { program := "ytkpdohcndafmgaa", sum := "6f44a908f50aa4e0d9f09884252c61b5735e84701918f36f7dd6ae775a3ab6a5", func := "haycroft/haycroftlaw35.QueryRanks", spec := "queryRanks", inPlace := ["internal/bytealg.abigen_runtime_cmpstring"], unfollowed := true, recurses := true, apart := false }
def QueryRanksSaid : Prop := queryRanksRow.holds Try.pinned (OpenSpec.ofChange queryRanksSpec)

/-- ITS FALSE NEIGHBOUR: 'it returns false'. Refute it at one input. -/
def queryRanksWrong : ChangeSpec := { name := "queryRanks", fn := fun _ => fun
  | [d1, d2, d3] => { results := [.lit (.bool false)], args := [d1, d2, d3] }
  | _ => none }
def QueryRanksWrongFalsely : Prop := queryRanksRow.holds Try.pinned (OpenSpec.ofChange queryRanksWrong)

/- THE SECOND FORM. 'bulk': how many values and letters a reading holds, each counted each time it is reached (what is shared counts as often as it is met; a slice's spare places count too). A statement '..UptoSaid' is the law's where the arguments, and the package variables that the reading takes, are together of bulk at most 1048576: NARROWER than '..Said'. Prove '..Said' where nothing that the law and all that it calls make is longer than what came in: it says more and counts as full. Else prove '..UptoSaid'. A law counts once. -/
mutual
def uptoBulk {H : Type} : DataW H → Nat
  | .lit (.string bytes) => bytes.length + 1
  | .lit _ => 1
  | .nil => 1
  | .ptr d => uptoBulk d + 1
  | .slice elems spare => uptoBulkAll elems + uptoBulkAll spare + 1
  | .agg parts => uptoBulkAll parts + 1
  | .iface _ d => uptoBulk d + 1
  | .map entries => uptoBulkEntries entries + 1
  | .held _ => 1
def uptoBulkAll {H : Type} : List (DataW H) → Nat
  | [] => 0
  | d :: r => uptoBulk d + uptoBulkAll r
def uptoBulkEntries {H : Type} : List (Lit × DataW H) → Nat
  | [] => 0
  | x :: r => uptoBulkEntry x + uptoBulkEntries r
def uptoBulkEntry {H : Type} : Lit × DataW H → Nat
  | (.string bytes, d) => bytes.length + uptoBulk d + 1
  | (_, d) => uptoBulk d + 1
 end
def uptoSmall : (H : Type) → List (DataW H) → Bool := fun _ ds => decide (uptoBulkAll ds ≤ 1048576)
def OpenSpec.upto (s : _root_.Go.ChangeSpec) : _root_.Go.OpenSpec := { _root_.Go.OpenSpec.ofChange s with cond := some uptoSmall }

/-- 'haycroftlaw30.DifferDiffs', WHERE WHAT IT READS IS OF BULK AT MOST 1048576: true; the input reads as it did. -/
def differDiffsUptoRow : OpenClaim := { program := "ytkpdohcndafmgaa", sum := "6f44a908f50aa4e0d9f09884252c61b5735e84701918f36f7dd6ae775a3ab6a5", func := "haycroft/haycroftlaw30.DifferDiffs", spec := "differDiffs", inPlace := ["internal/bytealg.abigen_runtime_cmpstring"], unfollowed := true, recurses := true, apart := false, narrowed := true }
def DifferDiffsUptoSaid : Prop := differDiffsUptoRow.holds Try.pinned (OpenSpec.upto differDiffsSpec)

/-- 'haycroftlaw30.DifferSame', WHERE WHAT IT READS IS OF BULK AT MOST 1048576: true; the input reads as it did. -/
def differSameUptoRow : OpenClaim := { program := "ytkpdohcndafmgaa", sum := "6f44a908f50aa4e0d9f09884252c61b5735e84701918f36f7dd6ae775a3ab6a5", func := "haycroft/haycroftlaw30.DifferSame", spec := "differSame", inPlace := ["internal/bytealg.abigen_runtime_cmpstring"], unfollowed := true, recurses := true, apart := false, narrowed := true }
def DifferSameUptoSaid : Prop := differSameUptoRow.holds Try.pinned (OpenSpec.upto differSameSpec)

/-- 'haycroftlaw35.QueryGroups', WHERE WHAT IT READS IS OF BULK AT MOST 1048576: true; the input reads as it did. -/
def queryGroupsUptoRow : OpenClaim := { program := "ytkpdohcndafmgaa", sum := "6f44a908f50aa4e0d9f09884252c61b5735e84701918f36f7dd6ae775a3ab6a5", func := "haycroft/haycroftlaw35.QueryGroups", spec := "queryGroups", apart := false, narrowed := true }
def QueryGroupsUptoSaid : Prop := queryGroupsUptoRow.holds Try.pinned (OpenSpec.upto queryGroupsSpec)

/-- 'haycroftlaw30.DifferBehind', WHERE WHAT IT READS IS OF BULK AT MOST 1048576: true; the input reads as it did. -/
def differBehindUptoRow : OpenClaim := { program := "ytkpdohcndafmgaa", sum := "6f44a908f50aa4e0d9f09884252c61b5735e84701918f36f7dd6ae775a3ab6a5", func := "haycroft/haycroftlaw30.DifferBehind", spec := "differBehind", inPlace := ["internal/bytealg.abigen_runtime_cmpstring"], unfollowed := true, recurses := true, apart := false, narrowed := true }
def DifferBehindUptoSaid : Prop := differBehindUptoRow.holds Try.pinned (OpenSpec.upto differBehindSpec)

/-- 'haycroftlaw30.DifferApplies', WHERE WHAT IT READS IS OF BULK AT MOST 1048576: true; the input reads as it did. -/
def differAppliesUptoRow : OpenClaim := { program := "ytkpdohcndafmgaa", sum := "6f44a908f50aa4e0d9f09884252c61b5735e84701918f36f7dd6ae775a3ab6a5", func := "haycroft/haycroftlaw30.DifferApplies", spec := "differApplies", inPlace := ["internal/bytealg.abigen_runtime_cmpstring"], unfollowed := true, recurses := true, apart := false, narrowed := true }
def DifferAppliesUptoSaid : Prop := differAppliesUptoRow.holds Try.pinned (OpenSpec.upto differAppliesSpec)

/-- 'haycroftlaw30.DifferBack', WHERE WHAT IT READS IS OF BULK AT MOST 1048576: true; the input reads as it did. -/
def differBackUptoRow : OpenClaim := { program := "ytkpdohcndafmgaa", sum := "6f44a908f50aa4e0d9f09884252c61b5735e84701918f36f7dd6ae775a3ab6a5", func := "haycroft/haycroftlaw30.DifferBack", spec := "differBack", inPlace := ["internal/bytealg.abigen_runtime_cmpstring"], unfollowed := true, recurses := true, apart := false, narrowed := true }
def DifferBackUptoSaid : Prop := differBackUptoRow.holds Try.pinned (OpenSpec.upto differBackSpec)

/-- 'haycroftlaw35.QuerySelects', WHERE WHAT IT READS IS OF BULK AT MOST 1048576: true; the input reads as it did. -/
def querySelectsUptoRow : OpenClaim := { program := "ytkpdohcndafmgaa", sum := "6f44a908f50aa4e0d9f09884252c61b5735e84701918f36f7dd6ae775a3ab6a5", func := "haycroft/haycroftlaw35.QuerySelects", spec := "querySelects", unfollowed := true, recurses := true, apart := false, narrowed := true }
def QuerySelectsUptoSaid : Prop := querySelectsUptoRow.holds Try.pinned (OpenSpec.upto querySelectsSpec)

/-- 'haycroftlaw35.QueryTurns', WHERE WHAT IT READS IS OF BULK AT MOST 1048576: true; the input reads as it did. -/
def queryTurnsUptoRow : OpenClaim := { program := "ytkpdohcndafmgaa", sum := "6f44a908f50aa4e0d9f09884252c61b5735e84701918f36f7dd6ae775a3ab6a5", func := "haycroft/haycroftlaw35.QueryTurns", spec := "queryTurns", unfollowed := true, recurses := true, apart := false, narrowed := true }
def QueryTurnsUptoSaid : Prop := queryTurnsUptoRow.holds Try.pinned (OpenSpec.upto queryTurnsSpec)

/-- 'haycroftlaw35.QuerySums', WHERE WHAT IT READS IS OF BULK AT MOST 1048576: true; the input reads as it did. -/
def querySumsUptoRow : OpenClaim := { program := "ytkpdohcndafmgaa", sum := "6f44a908f50aa4e0d9f09884252c61b5735e84701918f36f7dd6ae775a3ab6a5", func := "haycroft/haycroftlaw35.QuerySums", spec := "querySums", unfollowed := true, recurses := true, apart := false, narrowed := true }
def QuerySumsUptoSaid : Prop := querySumsUptoRow.holds Try.pinned (OpenSpec.upto querySumsSpec)

/-- 'haycroftlaw35.QueryRanks', WHERE WHAT IT READS IS OF BULK AT MOST 1048576: true; the input reads as it did. -/
def queryRanksUptoRow : OpenClaim := { program := "ytkpdohcndafmgaa", sum := "6f44a908f50aa4e0d9f09884252c61b5735e84701918f36f7dd6ae775a3ab6a5", func := "haycroft/haycroftlaw35.QueryRanks", spec := "queryRanks", inPlace := ["internal/bytealg.abigen_runtime_cmpstring"], unfollowed := true, recurses := true, apart := false, narrowed := true }
def QueryRanksUptoSaid : Prop := queryRanksUptoRow.holds Try.pinned (OpenSpec.upto queryRanksSpec)

end Rows
end Go.Proofs.Ytkpdohcndafmgaa
