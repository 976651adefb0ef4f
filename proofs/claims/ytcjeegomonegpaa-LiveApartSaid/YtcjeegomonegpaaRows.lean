/-
  No cell of these rows narrows 'for every input' (looked for: loops, veiled, ifaces, maps, wideKeys, modest, calm, conditions, laid).
  DERIVED. THE GIVEN ROWS OF THIS SEAT. 8 by the template 'for every input the law returns true; each argument reads behind the call as it read before'; 0 by the template 'total and deterministic' (their statements: YtcjeegomonegpaaTotals.lean).
  GIVEN WITH THE SEED: the statements are not yours to turn. If you find one false, say at which input.
  Laid BY PROGRAM, IN A SANDBOX (cutbox-rows.mjs): the forced cells as the released guide's own fill.sh prints them over the translation 503b9338fc4a92af… (all of the seat's roots in one cut). By AI agents, Wed Nov 11 2026. No macro, syntax, notation, axiom, sorry.
-/
import Derived.Test.YtcjeegomonegpaaChecked
import GoSem.Claim
import GoSem.ClaimJoined
import GoSem.ClaimMapViews
import Derived.JoinedTies
import Derived.KernelRfl
namespace Go.Proofs.Ytcjeegomonegpaa
/- THE CELL 'sum', in the pinned program and in every row, IS THE sha256 OF THE DUMP (.gsa) THAT YtcjeegomonegpaaProg.lean LOADS. Nothing in Lean hashes anything: it is a label: what it is worth is what the hold of that sum in a sandbox is worth. -/
noncomputable def Try.pinned : Pinned := { name := "ytcjeegomonegpaa", sum := "503b9338fc4a92af879cc5a18eb69a95fd42017cca1eeeeab761540edb98ac29", checked := Try.checked }
namespace Rows
def none {H : Type} : Left H := { results := [], args := [] }

/-- 'lighterlaw08.LiveParts': WHATEVER THE INPUT: true; the input reads as it did. -/
def livePartsSpec : ChangeSpec := { name := "liveParts", fn := fun _ => fun
  | [d] => { results := [.lit (.bool true)], args := [d] }
  | _ => none }
def livePartsRow : OpenClaim := { program := "ytcjeegomonegpaa", sum := "503b9338fc4a92af879cc5a18eb69a95fd42017cca1eeeeab761540edb98ac29", func := "lighter/lighterlaw08.LiveParts", spec := "liveParts", inPlace := ["maps.clone"], unfollowed := true, recurses := true, apart := false }
def LivePartsSaid : Prop := livePartsRow.holds Try.pinned (OpenSpec.ofChange livePartsSpec)

/-- ITS FALSE NEIGHBOUR: 'it returns false'. Refute it at one input. -/
def livePartsWrong : ChangeSpec := { name := "liveParts", fn := fun _ => fun
  | [d] => { results := [.lit (.bool false)], args := [d] }
  | _ => none }
def LivePartsWrongFalsely : Prop := livePartsRow.holds Try.pinned (OpenSpec.ofChange livePartsWrong)

/-- 'lighterlaw08.LiveCounts': WHATEVER THE INPUT: true; the input reads as it did. -/
def liveCountsSpec : ChangeSpec := { name := "liveCounts", fn := fun _ => fun
  | [d] => { results := [.lit (.bool true)], args := [d] }
  | _ => none }
def liveCountsRow : OpenClaim := { program := "ytcjeegomonegpaa", sum := "503b9338fc4a92af879cc5a18eb69a95fd42017cca1eeeeab761540edb98ac29", func := "lighter/lighterlaw08.LiveCounts", spec := "liveCounts", inPlace := ["maps.clone"], unfollowed := true, recurses := true, apart := false }
def LiveCountsSaid : Prop := liveCountsRow.holds Try.pinned (OpenSpec.ofChange liveCountsSpec)

/-- ITS FALSE NEIGHBOUR: 'it returns false'. Refute it at one input. -/
def liveCountsWrong : ChangeSpec := { name := "liveCounts", fn := fun _ => fun
  | [d] => { results := [.lit (.bool false)], args := [d] }
  | _ => none }
def LiveCountsWrongFalsely : Prop := liveCountsRow.holds Try.pinned (OpenSpec.ofChange liveCountsWrong)

/-- 'lighterlaw08.LiveVictims': WHATEVER THE INPUT: true; the input reads as it did. -/
def liveVictimsSpec : ChangeSpec := { name := "liveVictims", fn := fun _ => fun
  | [d1, d2] => { results := [.lit (.bool true)], args := [d1, d2] }
  | _ => none }
def liveVictimsRow : OpenClaim := { program := "ytcjeegomonegpaa", sum := "503b9338fc4a92af879cc5a18eb69a95fd42017cca1eeeeab761540edb98ac29", func := "lighter/lighterlaw08.LiveVictims", spec := "liveVictims", inPlace := ["maps.clone"], unfollowed := true, recurses := true, apart := false }
def LiveVictimsSaid : Prop := liveVictimsRow.holds Try.pinned (OpenSpec.ofChange liveVictimsSpec)

/-- ITS FALSE NEIGHBOUR: 'it returns false'. Refute it at one input. -/
def liveVictimsWrong : ChangeSpec := { name := "liveVictims", fn := fun _ => fun
  | [d1, d2] => { results := [.lit (.bool false)], args := [d1, d2] }
  | _ => none }
def LiveVictimsWrongFalsely : Prop := liveVictimsRow.holds Try.pinned (OpenSpec.ofChange liveVictimsWrong)

/-- 'lighterlaw08.LiveDrops': WHATEVER THE INPUT: true; the input reads as it did. -/
def liveDropsSpec : ChangeSpec := { name := "liveDrops", fn := fun _ => fun
  | [d1, d2] => { results := [.lit (.bool true)], args := [d1, d2] }
  | _ => none }
def liveDropsRow : OpenClaim := { program := "ytcjeegomonegpaa", sum := "503b9338fc4a92af879cc5a18eb69a95fd42017cca1eeeeab761540edb98ac29", func := "lighter/lighterlaw08.LiveDrops", spec := "liveDrops", inPlace := ["maps.clone"], unfollowed := true, recurses := true, apart := false }
def LiveDropsSaid : Prop := liveDropsRow.holds Try.pinned (OpenSpec.ofChange liveDropsSpec)

/-- ITS FALSE NEIGHBOUR: 'it returns false'. Refute it at one input. -/
def liveDropsWrong : ChangeSpec := { name := "liveDrops", fn := fun _ => fun
  | [d1, d2] => { results := [.lit (.bool false)], args := [d1, d2] }
  | _ => none }
def LiveDropsWrongFalsely : Prop := liveDropsRow.holds Try.pinned (OpenSpec.ofChange liveDropsWrong)

/-- 'lighterlaw08.LivePlays': WHATEVER THE INPUT: true; the input reads as it did. -/
def livePlaysSpec : ChangeSpec := { name := "livePlays", fn := fun _ => fun
  | [d] => { results := [.lit (.bool true)], args := [d] }
  | _ => none }
def livePlaysRow : OpenClaim := { program := "ytcjeegomonegpaa", sum := "503b9338fc4a92af879cc5a18eb69a95fd42017cca1eeeeab761540edb98ac29", func := "lighter/lighterlaw08.LivePlays", spec := "livePlays", inPlace := ["maps.clone"], unfollowed := true, recurses := true, apart := false }
def LivePlaysSaid : Prop := livePlaysRow.holds Try.pinned (OpenSpec.ofChange livePlaysSpec)

/-- ITS FALSE NEIGHBOUR: 'it returns false'. Refute it at one input. -/
def livePlaysWrong : ChangeSpec := { name := "livePlays", fn := fun _ => fun
  | [d] => { results := [.lit (.bool false)], args := [d] }
  | _ => none }
def LivePlaysWrongFalsely : Prop := livePlaysRow.holds Try.pinned (OpenSpec.ofChange livePlaysWrong)

/-- 'lighterlaw08.LiveBack': WHATEVER THE INPUT: true; the input reads as it did. -/
def liveBackSpec : ChangeSpec := { name := "liveBack", fn := fun _ => fun
  | [d1, d2, d3] => { results := [.lit (.bool true)], args := [d1, d2, d3] }
  | _ => none }
def liveBackRow : OpenClaim := { program := "ytcjeegomonegpaa", sum := "503b9338fc4a92af879cc5a18eb69a95fd42017cca1eeeeab761540edb98ac29", func := "lighter/lighterlaw08.LiveBack", spec := "liveBack", inPlace := ["maps.clone"], unfollowed := true, recurses := true, apart := false }
def LiveBackSaid : Prop := liveBackRow.holds Try.pinned (OpenSpec.ofChange liveBackSpec)

/-- ITS FALSE NEIGHBOUR: 'it returns false'. Refute it at one input. -/
def liveBackWrong : ChangeSpec := { name := "liveBack", fn := fun _ => fun
  | [d1, d2, d3] => { results := [.lit (.bool false)], args := [d1, d2, d3] }
  | _ => none }
def LiveBackWrongFalsely : Prop := liveBackRow.holds Try.pinned (OpenSpec.ofChange liveBackWrong)

/-- 'lighterlaw08.LiveNil': WHATEVER THE INPUT: true; the input reads as it did. -/
def liveNilSpec : ChangeSpec := { name := "liveNil", fn := fun _ => fun
  | [d] => { results := [.lit (.bool true)], args := [d] }
  | _ => none }
def liveNilRow : OpenClaim := { program := "ytcjeegomonegpaa", sum := "503b9338fc4a92af879cc5a18eb69a95fd42017cca1eeeeab761540edb98ac29", func := "lighter/lighterlaw08.LiveNil", spec := "liveNil", inPlace := ["maps.clone"], unfollowed := true, recurses := true, apart := false }
def LiveNilSaid : Prop := liveNilRow.holds Try.pinned (OpenSpec.ofChange liveNilSpec)

/-- ITS FALSE NEIGHBOUR: 'it returns false'. Refute it at one input. -/
def liveNilWrong : ChangeSpec := { name := "liveNil", fn := fun _ => fun
  | [d] => { results := [.lit (.bool false)], args := [d] }
  | _ => none }
def LiveNilWrongFalsely : Prop := liveNilRow.holds Try.pinned (OpenSpec.ofChange liveNilWrong)

/-- 'lighterlaw08.LiveApart': WHATEVER THE INPUT: true; the input reads as it did. -/
def liveApartSpec : ChangeSpec := { name := "liveApart", fn := fun _ => fun
  | [d1, d2, d3] => { results := [.lit (.bool true)], args := [d1, d2, d3] }
  | _ => none }
def liveApartRow : OpenClaim := { program := "ytcjeegomonegpaa", sum := "503b9338fc4a92af879cc5a18eb69a95fd42017cca1eeeeab761540edb98ac29", func := "lighter/lighterlaw08.LiveApart", spec := "liveApart", inPlace := ["maps.clone"], unfollowed := true, recurses := true, apart := false }
def LiveApartSaid : Prop := liveApartRow.holds Try.pinned (OpenSpec.ofChange liveApartSpec)

/-- ITS FALSE NEIGHBOUR: 'it returns false'. Refute it at one input. -/
def liveApartWrong : ChangeSpec := { name := "liveApart", fn := fun _ => fun
  | [d1, d2, d3] => { results := [.lit (.bool false)], args := [d1, d2, d3] }
  | _ => none }
def LiveApartWrongFalsely : Prop := liveApartRow.holds Try.pinned (OpenSpec.ofChange liveApartWrong)

/- THE SECOND FORM. 'bulk': how many values and letters a reading holds, each counted each time it is reached (what is shared counts as often as it is met; a slice's spare places count too). A statement '..UptoSaid' is the law's where the arguments, and the package variables that the reading takes, are together of bulk at most 1048576: NARROWER than '..Said'. Prove '..Said' where nothing that the law and all that it calls make is longer than what came in: it says more and counts as full. Else prove '..UptoSaid'. A law counts once. -/
mutual
def uptoBulk {H : Type} : DataW H → Nat
  | .lit (.string bytes) => bytes.length + 1
  | .lit _ => 1
  | .nil => 1
  | .ptr d => uptoBulk d + 1
  | .slice elems spare => uptoBulkAll elems + uptoBulkAll spare + 1
  | .agg parts => uptoBulkAll parts + 1
  | .iface _ d => uptoBulk d + 1
  | .map entries => uptoBulkEntries entries + 1
  | .held _ => 1
def uptoBulkAll {H : Type} : List (DataW H) → Nat
  | [] => 0
  | d :: r => uptoBulk d + uptoBulkAll r
def uptoBulkEntries {H : Type} : List (Lit × DataW H) → Nat
  | [] => 0
  | x :: r => uptoBulkEntry x + uptoBulkEntries r
def uptoBulkEntry {H : Type} : Lit × DataW H → Nat
  | (.string bytes, d) => bytes.length + uptoBulk d + 1
  | (_, d) => uptoBulk d + 1
 end
def uptoSmall : (H : Type) → List (DataW H) → Bool := fun _ ds => decide (uptoBulkAll ds ≤ 1048576)
def OpenSpec.upto (s : _root_.Go.ChangeSpec) : _root_.Go.OpenSpec := { _root_.Go.OpenSpec.ofChange s with cond := some uptoSmall }

/-- 'lighterlaw08.LiveParts', WHERE WHAT IT READS IS OF BULK AT MOST 1048576: true; the input reads as it did. -/
def livePartsUptoRow : OpenClaim := { program := "ytcjeegomonegpaa", sum := "503b9338fc4a92af879cc5a18eb69a95fd42017cca1eeeeab761540edb98ac29", func := "lighter/lighterlaw08.LiveParts", spec := "liveParts", inPlace := ["maps.clone"], unfollowed := true, recurses := true, apart := false, narrowed := true }
def LivePartsUptoSaid : Prop := livePartsUptoRow.holds Try.pinned (OpenSpec.upto livePartsSpec)

/-- 'lighterlaw08.LiveCounts', WHERE WHAT IT READS IS OF BULK AT MOST 1048576: true; the input reads as it did. -/
def liveCountsUptoRow : OpenClaim := { program := "ytcjeegomonegpaa", sum := "503b9338fc4a92af879cc5a18eb69a95fd42017cca1eeeeab761540edb98ac29", func := "lighter/lighterlaw08.LiveCounts", spec := "liveCounts", inPlace := ["maps.clone"], unfollowed := true, recurses := true, apart := false, narrowed := true }
def LiveCountsUptoSaid : Prop := liveCountsUptoRow.holds Try.pinned (OpenSpec.upto liveCountsSpec)

/-- 'lighterlaw08.LiveVictims', WHERE WHAT IT READS IS OF BULK AT MOST 1048576: true; the input reads as it did. -/
def liveVictimsUptoRow : OpenClaim := { program := "ytcjeegomonegpaa", sum := "503b9338fc4a92af879cc5a18eb69a95fd42017cca1eeeeab761540edb98ac29", func := "lighter/lighterlaw08.LiveVictims", spec := "liveVictims", inPlace := ["maps.clone"], unfollowed := true, recurses := true, apart := false, narrowed := true }
def LiveVictimsUptoSaid : Prop := liveVictimsUptoRow.holds Try.pinned (OpenSpec.upto liveVictimsSpec)

/-- 'lighterlaw08.LiveDrops', WHERE WHAT IT READS IS OF BULK AT MOST 1048576: true; the input reads as it did. -/
def liveDropsUptoRow : OpenClaim := { program := "ytcjeegomonegpaa", sum := "503b9338fc4a92af879cc5a18eb69a95fd42017cca1eeeeab761540edb98ac29", func := "lighter/lighterlaw08.LiveDrops", spec := "liveDrops", inPlace := ["maps.clone"], unfollowed := true, recurses := true, apart := false, narrowed := true }
def LiveDropsUptoSaid : Prop := liveDropsUptoRow.holds Try.pinned (OpenSpec.upto liveDropsSpec)

/-- 'lighterlaw08.LivePlays', WHERE WHAT IT READS IS OF BULK AT MOST 1048576: true; the input reads as it did. -/
def livePlaysUptoRow : OpenClaim := { program := "ytcjeegomonegpaa", sum := "503b9338fc4a92af879cc5a18eb69a95fd42017cca1eeeeab761540edb98ac29", func := "lighter/lighterlaw08.LivePlays", spec := "livePlays", inPlace := ["maps.clone"], unfollowed := true, recurses := true, apart := false, narrowed := true }
def LivePlaysUptoSaid : Prop := livePlaysUptoRow.holds Try.pinned (OpenSpec.upto livePlaysSpec)

/-- 'lighterlaw08.LiveBack', WHERE WHAT IT READS IS OF BULK AT MOST 1048576: true; the input reads as it did. -/
def liveBackUptoRow : OpenClaim := { program := "ytcjeegomonegpaa", sum := "503b9338fc4a92af879cc5a18eb69a95fd42017cca1eeeeab761540edb98ac29", func := "lighter/lighterlaw08.LiveBack", spec := "liveBack", inPlace := ["maps.clone"], unfollowed := true, recurses := true, apart := false, narrowed := true }
def LiveBackUptoSaid : Prop := liveBackUptoRow.holds Try.pinned (OpenSpec.upto liveBackSpec)

/-- 'lighterlaw08.LiveNil', WHERE WHAT IT READS IS OF BULK AT MOST 1048576: true; the input reads as it did. -/
def liveNilUptoRow : OpenClaim := { program := "ytcjeegomonegpaa", sum := "503b9338fc4a92af879cc5a18eb69a95fd42017cca1eeeeab761540edb98ac29", func := "lighter/lighterlaw08.LiveNil", spec := "liveNil", inPlace := ["maps.clone"], unfollowed := true, recurses := true, apart := false, narrowed := true }
def LiveNilUptoSaid : Prop := liveNilUptoRow.holds Try.pinned (OpenSpec.upto liveNilSpec)

/-- 'lighterlaw08.LiveApart', WHERE WHAT IT READS IS OF BULK AT MOST 1048576: true; the input reads as it did. -/
def liveApartUptoRow : OpenClaim := { program := "ytcjeegomonegpaa", sum := "503b9338fc4a92af879cc5a18eb69a95fd42017cca1eeeeab761540edb98ac29", func := "lighter/lighterlaw08.LiveApart", spec := "liveApart", inPlace := ["maps.clone"], unfollowed := true, recurses := true, apart := false, narrowed := true }
def LiveApartUptoSaid : Prop := liveApartUptoRow.holds Try.pinned (OpenSpec.upto liveApartSpec)

end Rows
end Go.Proofs.Ytcjeegomonegpaa
