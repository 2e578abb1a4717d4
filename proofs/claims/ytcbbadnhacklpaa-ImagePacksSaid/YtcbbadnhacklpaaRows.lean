/-
  No cell of these rows narrows 'for every input' (looked for: loops, veiled, ifaces, maps, wideKeys, modest, calm, conditions, laid).
  DERIVED. THE GIVEN ROWS OF THIS SEAT. 11 by the template 'for every input the law returns true; each argument reads behind the call as it read before'; 0 by the template 'total and deterministic' (their statements: YtcbbadnhacklpaaTotals.lean).
  GIVEN WITH THE SEED: the statements are not yours to turn. If you find one false, say at which input.
  Laid BY PROGRAM, IN A SANDBOX (cutbox-rows.mjs): the forced cells as the released guide's own fill.sh prints them over the translation 7f298a802874eab8… (all of the seat's roots in one cut). By AI agents, Wed Nov 11 2026. No macro, syntax, notation, axiom, sorry.
-/
import Derived.Test.YtcbbadnhacklpaaChecked
import GoSem.Claim
import GoSem.ClaimJoined
import GoSem.ClaimMapViews
import Derived.JoinedTies
import Derived.KernelRfl
namespace Go.Proofs.Ytcbbadnhacklpaa
/- THE CELL 'sum', in the pinned program and in every row, IS THE sha256 OF THE DUMP (.gsa) THAT YtcbbadnhacklpaaProg.lean LOADS. Nothing in Lean hashes anything: it is a label: what it is worth is what the hold of that sum in a sandbox is worth. -/
noncomputable def Try.pinned : Pinned := { name := "ytcbbadnhacklpaa", sum := "7f298a802874eab8b8c5dffcf74b0b3f3a534c9d4828be34b688d2e7dce0df1f", checked := Try.checked }
namespace Rows
def none {H : Type} : Left H := { results := [], args := [] }

/-- 'haycroftlaw04.SealSums': WHATEVER THE INPUT: true; the input reads as it did. -/
def sealSumsSpec : ChangeSpec := { name := "sealSums", fn := fun _ => fun
  | [d1, d2] => { results := [.lit (.bool true)], args := [d1, d2] }
  | _ => none }
def sealSumsRow : OpenClaim := { program := "ytcbbadnhacklpaa", sum := "7f298a802874eab8b8c5dffcf74b0b3f3a534c9d4828be34b688d2e7dce0df1f", func := "haycroft/haycroftlaw04.SealSums", spec := "sealSums", apart := false }
def SealSumsSaid : Prop := sealSumsRow.holds Try.pinned (OpenSpec.ofChange sealSumsSpec)

/-- ITS FALSE NEIGHBOUR: 'it returns false'. Refute it at one input. -/
def sealSumsWrong : ChangeSpec := { name := "sealSums", fn := fun _ => fun
  | [d1, d2] => { results := [.lit (.bool false)], args := [d1, d2] }
  | _ => none }
def SealSumsWrongFalsely : Prop := sealSumsRow.holds Try.pinned (OpenSpec.ofChange sealSumsWrong)

/-- 'haycroftlaw04.SealOpens': WHATEVER THE INPUT: true; the input reads as it did. -/
def sealOpensSpec : ChangeSpec := { name := "sealOpens", fn := fun _ => fun
  | [d1, d2] => { results := [.lit (.bool true)], args := [d1, d2] }
  | _ => none }
def sealOpensRow : OpenClaim := { program := "ytcbbadnhacklpaa", sum := "7f298a802874eab8b8c5dffcf74b0b3f3a534c9d4828be34b688d2e7dce0df1f", func := "haycroft/haycroftlaw04.SealOpens", spec := "sealOpens", apart := false }
def SealOpensSaid : Prop := sealOpensRow.holds Try.pinned (OpenSpec.ofChange sealOpensSpec)

/-- ITS FALSE NEIGHBOUR: 'it returns false'. Refute it at one input. -/
def sealOpensWrong : ChangeSpec := { name := "sealOpens", fn := fun _ => fun
  | [d1, d2] => { results := [.lit (.bool false)], args := [d1, d2] }
  | _ => none }
def SealOpensWrongFalsely : Prop := sealOpensRow.holds Try.pinned (OpenSpec.ofChange sealOpensWrong)

/-- 'haycroftlaw04.SealTells': WHATEVER THE INPUT: true; the input reads as it did. -/
def sealTellsSpec : ChangeSpec := { name := "sealTells", fn := fun _ => fun
  | [d1, d2, d3] => { results := [.lit (.bool true)], args := [d1, d2, d3] }
  | _ => none }
def sealTellsRow : OpenClaim := { program := "ytcbbadnhacklpaa", sum := "7f298a802874eab8b8c5dffcf74b0b3f3a534c9d4828be34b688d2e7dce0df1f", func := "haycroft/haycroftlaw04.SealTells", spec := "sealTells", apart := false }
def SealTellsSaid : Prop := sealTellsRow.holds Try.pinned (OpenSpec.ofChange sealTellsSpec)

/-- ITS FALSE NEIGHBOUR: 'it returns false'. Refute it at one input. -/
def sealTellsWrong : ChangeSpec := { name := "sealTells", fn := fun _ => fun
  | [d1, d2, d3] => { results := [.lit (.bool false)], args := [d1, d2, d3] }
  | _ => none }
def SealTellsWrongFalsely : Prop := sealTellsRow.holds Try.pinned (OpenSpec.ofChange sealTellsWrong)

/-- 'haycroftlaw21.ImageTorn': WHATEVER THE INPUT: true; the input reads as it did. -/
def imageTornSpec : ChangeSpec := { name := "imageTorn", fn := fun _ => fun
  | [d1, d2, d3] => { results := [.lit (.bool true)], args := [d1, d2, d3] }
  | _ => none }
def imageTornRow : OpenClaim := { program := "ytcbbadnhacklpaa", sum := "7f298a802874eab8b8c5dffcf74b0b3f3a534c9d4828be34b688d2e7dce0df1f", func := "haycroft/haycroftlaw21.ImageTorn", spec := "imageTorn", apart := false }
def ImageTornSaid : Prop := imageTornRow.holds Try.pinned (OpenSpec.ofChange imageTornSpec)

/-- ITS FALSE NEIGHBOUR: 'it returns false'. Refute it at one input. -/
def imageTornWrong : ChangeSpec := { name := "imageTorn", fn := fun _ => fun
  | [d1, d2, d3] => { results := [.lit (.bool false)], args := [d1, d2, d3] }
  | _ => none }
def ImageTornWrongFalsely : Prop := imageTornRow.holds Try.pinned (OpenSpec.ofChange imageTornWrong)

/-- 'haycroftlaw21.ImageNewest': WHATEVER THE INPUT: true; the input reads as it did. -/
def imageNewestSpec : ChangeSpec := { name := "imageNewest", fn := fun _ => fun
  | [d] => { results := [.lit (.bool true)], args := [d] }
  | _ => none }
def imageNewestRow : OpenClaim := { program := "ytcbbadnhacklpaa", sum := "7f298a802874eab8b8c5dffcf74b0b3f3a534c9d4828be34b688d2e7dce0df1f", func := "haycroft/haycroftlaw21.ImageNewest", spec := "imageNewest", apart := false }
def ImageNewestSaid : Prop := imageNewestRow.holds Try.pinned (OpenSpec.ofChange imageNewestSpec)

/-- ITS FALSE NEIGHBOUR: 'it returns false'. Refute it at one input. -/
def imageNewestWrong : ChangeSpec := { name := "imageNewest", fn := fun _ => fun
  | [d] => { results := [.lit (.bool false)], args := [d] }
  | _ => none }
def ImageNewestWrongFalsely : Prop := imageNewestRow.holds Try.pinned (OpenSpec.ofChange imageNewestWrong)

/-- 'haycroftlaw10.FrameReads': WHATEVER THE INPUT: true; the input reads as it did. -/
def frameReadsSpec : ChangeSpec := { name := "frameReads", fn := fun _ => fun
  | [d1, d2] => { results := [.lit (.bool true)], args := [d1, d2] }
  | _ => none }
def frameReadsRow : OpenClaim := { program := "ytcbbadnhacklpaa", sum := "7f298a802874eab8b8c5dffcf74b0b3f3a534c9d4828be34b688d2e7dce0df1f", func := "haycroft/haycroftlaw10.FrameReads", spec := "frameReads", apart := false }
def FrameReadsSaid : Prop := frameReadsRow.holds Try.pinned (OpenSpec.ofChange frameReadsSpec)

/-- ITS FALSE NEIGHBOUR: 'it returns false'. Refute it at one input. -/
def frameReadsWrong : ChangeSpec := { name := "frameReads", fn := fun _ => fun
  | [d1, d2] => { results := [.lit (.bool false)], args := [d1, d2] }
  | _ => none }
def FrameReadsWrongFalsely : Prop := frameReadsRow.holds Try.pinned (OpenSpec.ofChange frameReadsWrong)

/-- 'haycroftlaw10.FrameCuts': WHATEVER THE INPUT: true; the input reads as it did. -/
def frameCutsSpec : ChangeSpec := { name := "frameCuts", fn := fun _ => fun
  | [d1, d2, d3, d4] => { results := [.lit (.bool true)], args := [d1, d2, d3, d4] }
  | _ => none }
def frameCutsRow : OpenClaim := { program := "ytcbbadnhacklpaa", sum := "7f298a802874eab8b8c5dffcf74b0b3f3a534c9d4828be34b688d2e7dce0df1f", func := "haycroft/haycroftlaw10.FrameCuts", spec := "frameCuts", apart := false }
def FrameCutsSaid : Prop := frameCutsRow.holds Try.pinned (OpenSpec.ofChange frameCutsSpec)

/-- ITS FALSE NEIGHBOUR: 'it returns false'. Refute it at one input. -/
def frameCutsWrong : ChangeSpec := { name := "frameCuts", fn := fun _ => fun
  | [d1, d2, d3, d4] => { results := [.lit (.bool false)], args := [d1, d2, d3, d4] }
  | _ => none }
def FrameCutsWrongFalsely : Prop := frameCutsRow.holds Try.pinned (OpenSpec.ofChange frameCutsWrong)

/-- 'haycroftlaw21.ImageCommits': WHATEVER THE INPUT: true; the input reads as it did. -/
def imageCommitsSpec : ChangeSpec := { name := "imageCommits", fn := fun _ => fun
  | [d1, d2, d3] => { results := [.lit (.bool true)], args := [d1, d2, d3] }
  | _ => none }
def imageCommitsRow : OpenClaim := { program := "ytcbbadnhacklpaa", sum := "7f298a802874eab8b8c5dffcf74b0b3f3a534c9d4828be34b688d2e7dce0df1f", func := "haycroft/haycroftlaw21.ImageCommits", spec := "imageCommits", apart := false }
def ImageCommitsSaid : Prop := imageCommitsRow.holds Try.pinned (OpenSpec.ofChange imageCommitsSpec)

/-- ITS FALSE NEIGHBOUR: 'it returns false'. Refute it at one input. -/
def imageCommitsWrong : ChangeSpec := { name := "imageCommits", fn := fun _ => fun
  | [d1, d2, d3] => { results := [.lit (.bool false)], args := [d1, d2, d3] }
  | _ => none }
def ImageCommitsWrongFalsely : Prop := imageCommitsRow.holds Try.pinned (OpenSpec.ofChange imageCommitsWrong)

/-- 'haycroftlaw10.FramePacks': WHATEVER THE INPUT: true; the input reads as it did. -/
def framePacksSpec : ChangeSpec := { name := "framePacks", fn := fun _ => fun
  | [d1, d2, d3] => { results := [.lit (.bool true)], args := [d1, d2, d3] }
  | _ => none }
def framePacksRow : OpenClaim := { program := "ytcbbadnhacklpaa", sum := "7f298a802874eab8b8c5dffcf74b0b3f3a534c9d4828be34b688d2e7dce0df1f", func := "haycroft/haycroftlaw10.FramePacks", spec := "framePacks", apart := false }
def FramePacksSaid : Prop := framePacksRow.holds Try.pinned (OpenSpec.ofChange framePacksSpec)

/-- ITS FALSE NEIGHBOUR: 'it returns false'. Refute it at one input. -/
def framePacksWrong : ChangeSpec := { name := "framePacks", fn := fun _ => fun
  | [d1, d2, d3] => { results := [.lit (.bool false)], args := [d1, d2, d3] }
  | _ => none }
def FramePacksWrongFalsely : Prop := framePacksRow.holds Try.pinned (OpenSpec.ofChange framePacksWrong)

/-- 'haycroftlaw21.ImageReads': WHATEVER THE INPUT: true; the input reads as it did. -/
def imageReadsSpec : ChangeSpec := { name := "imageReads", fn := fun _ => fun
  | [d] => { results := [.lit (.bool true)], args := [d] }
  | _ => none }
def imageReadsRow : OpenClaim := { program := "ytcbbadnhacklpaa", sum := "7f298a802874eab8b8c5dffcf74b0b3f3a534c9d4828be34b688d2e7dce0df1f", func := "haycroft/haycroftlaw21.ImageReads", spec := "imageReads", unfollowed := true, recurses := true, apart := false }
def ImageReadsSaid : Prop := imageReadsRow.holds Try.pinned (OpenSpec.ofChange imageReadsSpec)

/-- ITS FALSE NEIGHBOUR: 'it returns false'. Refute it at one input. -/
def imageReadsWrong : ChangeSpec := { name := "imageReads", fn := fun _ => fun
  | [d] => { results := [.lit (.bool false)], args := [d] }
  | _ => none }
def ImageReadsWrongFalsely : Prop := imageReadsRow.holds Try.pinned (OpenSpec.ofChange imageReadsWrong)

/-- 'haycroftlaw21.ImagePacks': WHATEVER THE INPUT: true; the input reads as it did. -/
def imagePacksSpec : ChangeSpec := { name := "imagePacks", fn := fun _ => fun
  | [d] => { results := [.lit (.bool true)], args := [d] }
  | _ => none }
def imagePacksRow : OpenClaim := { program := "ytcbbadnhacklpaa", sum := "7f298a802874eab8b8c5dffcf74b0b3f3a534c9d4828be34b688d2e7dce0df1f", func := "haycroft/haycroftlaw21.ImagePacks", spec := "imagePacks", unfollowed := true, recurses := true, apart := false }
def ImagePacksSaid : Prop := imagePacksRow.holds Try.pinned (OpenSpec.ofChange imagePacksSpec)

/-- ITS FALSE NEIGHBOUR: 'it returns false'. Refute it at one input. -/
def imagePacksWrong : ChangeSpec := { name := "imagePacks", fn := fun _ => fun
  | [d] => { results := [.lit (.bool false)], args := [d] }
  | _ => none }
def ImagePacksWrongFalsely : Prop := imagePacksRow.holds Try.pinned (OpenSpec.ofChange imagePacksWrong)

/- THE SECOND FORM. 'bulk': how many values and letters a reading holds, each counted each time it is reached (what is shared counts as often as it is met; a slice's spare places count too). A statement '..UptoSaid' is the law's where the arguments, and the package variables that the reading takes, are together of bulk at most 1048576: NARROWER than '..Said'. Prove '..Said' where nothing that the law and all that it calls make is longer than what came in: it says more and counts as full. Else prove '..UptoSaid'. A law counts once. -/
mutual
def uptoBulk {H : Type} : DataW H → Nat
  | .lit (.string bytes) => bytes.length + 1
  | .lit _ => 1
  | .nil => 1
  | .ptr d => uptoBulk d + 1
  | .slice elems spare => uptoBulkAll elems + uptoBulkAll spare + 1
  | .agg parts => uptoBulkAll parts + 1
  | .iface _ d => uptoBulk d + 1
  | .map entries => uptoBulkEntries entries + 1
  | .held _ => 1
def uptoBulkAll {H : Type} : List (DataW H) → Nat
  | [] => 0
  | d :: r => uptoBulk d + uptoBulkAll r
def uptoBulkEntries {H : Type} : List (Lit × DataW H) → Nat
  | [] => 0
  | x :: r => uptoBulkEntry x + uptoBulkEntries r
def uptoBulkEntry {H : Type} : Lit × DataW H → Nat
  | (.string bytes, d) => bytes.length + uptoBulk d + 1
  | (_, d) => uptoBulk d + 1
 end
def uptoSmall : (H : Type) → List (DataW H) → Bool := fun _ ds => decide (uptoBulkAll ds ≤ 1048576)
def OpenSpec.upto (s : _root_.Go.ChangeSpec) : _root_.Go.OpenSpec := { _root_.Go.OpenSpec.ofChange s with cond := some uptoSmall }

/-- 'haycroftlaw04.SealSums', WHERE WHAT IT READS IS OF BULK AT MOST 1048576: true; the input reads as it did. -/
def sealSumsUptoRow : OpenClaim := { program := "ytcbbadnhacklpaa", sum := "7f298a802874eab8b8c5dffcf74b0b3f3a534c9d4828be34b688d2e7dce0df1f", func := "haycroft/haycroftlaw04.SealSums", spec := "sealSums", apart := false, narrowed := true }
def SealSumsUptoSaid : Prop := sealSumsUptoRow.holds Try.pinned (OpenSpec.upto sealSumsSpec)

/-- 'haycroftlaw04.SealOpens', WHERE WHAT IT READS IS OF BULK AT MOST 1048576: true; the input reads as it did. -/
def sealOpensUptoRow : OpenClaim := { program := "ytcbbadnhacklpaa", sum := "7f298a802874eab8b8c5dffcf74b0b3f3a534c9d4828be34b688d2e7dce0df1f", func := "haycroft/haycroftlaw04.SealOpens", spec := "sealOpens", apart := false, narrowed := true }
def SealOpensUptoSaid : Prop := sealOpensUptoRow.holds Try.pinned (OpenSpec.upto sealOpensSpec)

/-- 'haycroftlaw04.SealTells', WHERE WHAT IT READS IS OF BULK AT MOST 1048576: true; the input reads as it did. -/
def sealTellsUptoRow : OpenClaim := { program := "ytcbbadnhacklpaa", sum := "7f298a802874eab8b8c5dffcf74b0b3f3a534c9d4828be34b688d2e7dce0df1f", func := "haycroft/haycroftlaw04.SealTells", spec := "sealTells", apart := false, narrowed := true }
def SealTellsUptoSaid : Prop := sealTellsUptoRow.holds Try.pinned (OpenSpec.upto sealTellsSpec)

/-- 'haycroftlaw21.ImageTorn', WHERE WHAT IT READS IS OF BULK AT MOST 1048576: true; the input reads as it did. -/
def imageTornUptoRow : OpenClaim := { program := "ytcbbadnhacklpaa", sum := "7f298a802874eab8b8c5dffcf74b0b3f3a534c9d4828be34b688d2e7dce0df1f", func := "haycroft/haycroftlaw21.ImageTorn", spec := "imageTorn", apart := false, narrowed := true }
def ImageTornUptoSaid : Prop := imageTornUptoRow.holds Try.pinned (OpenSpec.upto imageTornSpec)

/-- 'haycroftlaw21.ImageNewest', WHERE WHAT IT READS IS OF BULK AT MOST 1048576: true; the input reads as it did. -/
def imageNewestUptoRow : OpenClaim := { program := "ytcbbadnhacklpaa", sum := "7f298a802874eab8b8c5dffcf74b0b3f3a534c9d4828be34b688d2e7dce0df1f", func := "haycroft/haycroftlaw21.ImageNewest", spec := "imageNewest", apart := false, narrowed := true }
def ImageNewestUptoSaid : Prop := imageNewestUptoRow.holds Try.pinned (OpenSpec.upto imageNewestSpec)

/-- 'haycroftlaw10.FrameReads', WHERE WHAT IT READS IS OF BULK AT MOST 1048576: true; the input reads as it did. -/
def frameReadsUptoRow : OpenClaim := { program := "ytcbbadnhacklpaa", sum := "7f298a802874eab8b8c5dffcf74b0b3f3a534c9d4828be34b688d2e7dce0df1f", func := "haycroft/haycroftlaw10.FrameReads", spec := "frameReads", apart := false, narrowed := true }
def FrameReadsUptoSaid : Prop := frameReadsUptoRow.holds Try.pinned (OpenSpec.upto frameReadsSpec)

/-- 'haycroftlaw10.FrameCuts', WHERE WHAT IT READS IS OF BULK AT MOST 1048576: true; the input reads as it did. -/
def frameCutsUptoRow : OpenClaim := { program := "ytcbbadnhacklpaa", sum := "7f298a802874eab8b8c5dffcf74b0b3f3a534c9d4828be34b688d2e7dce0df1f", func := "haycroft/haycroftlaw10.FrameCuts", spec := "frameCuts", apart := false, narrowed := true }
def FrameCutsUptoSaid : Prop := frameCutsUptoRow.holds Try.pinned (OpenSpec.upto frameCutsSpec)

/-- 'haycroftlaw21.ImageCommits', WHERE WHAT IT READS IS OF BULK AT MOST 1048576: true; the input reads as it did. -/
def imageCommitsUptoRow : OpenClaim := { program := "ytcbbadnhacklpaa", sum := "7f298a802874eab8b8c5dffcf74b0b3f3a534c9d4828be34b688d2e7dce0df1f", func := "haycroft/haycroftlaw21.ImageCommits", spec := "imageCommits", apart := false, narrowed := true }
def ImageCommitsUptoSaid : Prop := imageCommitsUptoRow.holds Try.pinned (OpenSpec.upto imageCommitsSpec)

/-- 'haycroftlaw10.FramePacks', WHERE WHAT IT READS IS OF BULK AT MOST 1048576: true; the input reads as it did. -/
def framePacksUptoRow : OpenClaim := { program := "ytcbbadnhacklpaa", sum := "7f298a802874eab8b8c5dffcf74b0b3f3a534c9d4828be34b688d2e7dce0df1f", func := "haycroft/haycroftlaw10.FramePacks", spec := "framePacks", apart := false, narrowed := true }
def FramePacksUptoSaid : Prop := framePacksUptoRow.holds Try.pinned (OpenSpec.upto framePacksSpec)

/-- 'haycroftlaw21.ImageReads', WHERE WHAT IT READS IS OF BULK AT MOST 1048576: true; the input reads as it did. -/
def imageReadsUptoRow : OpenClaim := { program := "ytcbbadnhacklpaa", sum := "7f298a802874eab8b8c5dffcf74b0b3f3a534c9d4828be34b688d2e7dce0df1f", func := "haycroft/haycroftlaw21.ImageReads", spec := "imageReads", unfollowed := true, recurses := true, apart := false, narrowed := true }
def ImageReadsUptoSaid : Prop := imageReadsUptoRow.holds Try.pinned (OpenSpec.upto imageReadsSpec)

/-- 'haycroftlaw21.ImagePacks', WHERE WHAT IT READS IS OF BULK AT MOST 1048576: true; the input reads as it did. -/
def imagePacksUptoRow : OpenClaim := { program := "ytcbbadnhacklpaa", sum := "7f298a802874eab8b8c5dffcf74b0b3f3a534c9d4828be34b688d2e7dce0df1f", func := "haycroft/haycroftlaw21.ImagePacks", spec := "imagePacks", unfollowed := true, recurses := true, apart := false, narrowed := true }
def ImagePacksUptoSaid : Prop := imagePacksUptoRow.holds Try.pinned (OpenSpec.upto imagePacksSpec)

end Rows
end Go.Proofs.Ytcbbadnhacklpaa
