/-
  No cell of these rows narrows 'for every input' (looked for: loops, veiled, ifaces, maps, wideKeys, modest, calm, conditions, laid).
  DERIVED. THE GIVEN ROWS OF THIS SEAT. 5 by the template 'for every input the law returns true; each argument reads behind the call as it read before'; 0 by the template 'total and deterministic' (their statements: YtkbohbelmgmlnaaTotals.lean).
  GIVEN WITH THE SEED: the statements are not yours to turn. If you find one false, say at which input.
  Laid BY PROGRAM, IN A SANDBOX (cutbox-rows.mjs): the forced cells as the released guide's own fill.sh prints them over the translation b3d5c38aee713244… (all of the seat's roots in one cut). By AI agents, Wed Nov 11 2026. No macro, syntax, notation, axiom, sorry.
-/
import Derived.Test.YtkbohbelmgmlnaaChecked
import GoSem.Claim
import GoSem.ClaimJoined
import GoSem.ClaimMapViews
import Derived.JoinedTies
import Derived.KernelRfl
namespace Go.Proofs.Ytkbohbelmgmlnaa
/- THE CELL 'sum', in the pinned program and in every row, IS THE sha256 OF THE DUMP (.gsa) THAT YtkbohbelmgmlnaaProg.lean LOADS. Nothing in Lean hashes anything: it is a label: what it is worth is what the hold of that sum in a sandbox is worth. -/
noncomputable def Try.pinned : Pinned := { name := "ytkbohbelmgmlnaa", sum := "b3d5c38aee7132447a16d025170dc414b2ea32a1a798d6c1eaf373f97c0d34e5", checked := Try.checked }
namespace Rows
def none {H : Type} : Left H := { results := [], args := [] }

/-- 'lighterlaw09.RingTurns': WHATEVER THE INPUT: true; the input reads as it did. -/
def ringTurnsSpec : ChangeSpec := { name := "ringTurns", fn := fun _ => fun
  | [d1, d2] => { results := [.lit (.bool true)], args := [d1, d2] }
  | _ => none }
def ringTurnsRow : OpenClaim := { program := "ytkbohbelmgmlnaa", sum := "b3d5c38aee7132447a16d025170dc414b2ea32a1a798d6c1eaf373f97c0d34e5", func := "lighter/lighterlaw09.RingTurns", spec := "ringTurns", apart := false }
def RingTurnsSaid : Prop := ringTurnsRow.holds Try.pinned (OpenSpec.ofChange ringTurnsSpec)

/-- ITS FALSE NEIGHBOUR: 'it returns false'. Refute it at one input. -/
def ringTurnsWrong : ChangeSpec := { name := "ringTurns", fn := fun _ => fun
  | [d1, d2] => { results := [.lit (.bool false)], args := [d1, d2] }
  | _ => none }
def RingTurnsWrongFalsely : Prop := ringTurnsRow.holds Try.pinned (OpenSpec.ofChange ringTurnsWrong)

/-- 'lighterlaw09.RingJoins': WHATEVER THE INPUT: true; the input reads as it did. -/
def ringJoinsSpec : ChangeSpec := { name := "ringJoins", fn := fun _ => fun
  | [d1, d2] => { results := [.lit (.bool true)], args := [d1, d2] }
  | _ => none }
def ringJoinsRow : OpenClaim := { program := "ytkbohbelmgmlnaa", sum := "b3d5c38aee7132447a16d025170dc414b2ea32a1a798d6c1eaf373f97c0d34e5", func := "lighter/lighterlaw09.RingJoins", spec := "ringJoins", apart := false }
def RingJoinsSaid : Prop := ringJoinsRow.holds Try.pinned (OpenSpec.ofChange ringJoinsSpec)

/-- ITS FALSE NEIGHBOUR: 'it returns false'. Refute it at one input. -/
def ringJoinsWrong : ChangeSpec := { name := "ringJoins", fn := fun _ => fun
  | [d1, d2] => { results := [.lit (.bool false)], args := [d1, d2] }
  | _ => none }
def RingJoinsWrongFalsely : Prop := ringJoinsRow.holds Try.pinned (OpenSpec.ofChange ringJoinsWrong)

/-- 'lighterlaw09.RingRound': WHATEVER THE INPUT: true; the input reads as it did. -/
def ringRoundSpec : ChangeSpec := { name := "ringRound", fn := fun _ => fun
  | [d1, d2, d3] => { results := [.lit (.bool true)], args := [d1, d2, d3] }
  | _ => none }
def ringRoundRow : OpenClaim := { program := "ytkbohbelmgmlnaa", sum := "b3d5c38aee7132447a16d025170dc414b2ea32a1a798d6c1eaf373f97c0d34e5", func := "lighter/lighterlaw09.RingRound", spec := "ringRound", apart := false }
def RingRoundSaid : Prop := ringRoundRow.holds Try.pinned (OpenSpec.ofChange ringRoundSpec)

/-- ITS FALSE NEIGHBOUR: 'it returns false'. Refute it at one input. -/
def ringRoundWrong : ChangeSpec := { name := "ringRound", fn := fun _ => fun
  | [d1, d2, d3] => { results := [.lit (.bool false)], args := [d1, d2, d3] }
  | _ => none }
def RingRoundWrongFalsely : Prop := ringRoundRow.holds Try.pinned (OpenSpec.ofChange ringRoundWrong)

/-- 'lighterlaw09.RingAsks': WHATEVER THE INPUT: true; the input reads as it did. -/
def ringAsksSpec : ChangeSpec := { name := "ringAsks", fn := fun _ => fun
  | [d1, d2, d3] => { results := [.lit (.bool true)], args := [d1, d2, d3] }
  | _ => none }
def ringAsksRow : OpenClaim := { program := "ytkbohbelmgmlnaa", sum := "b3d5c38aee7132447a16d025170dc414b2ea32a1a798d6c1eaf373f97c0d34e5", func := "lighter/lighterlaw09.RingAsks", spec := "ringAsks", apart := false }
def RingAsksSaid : Prop := ringAsksRow.holds Try.pinned (OpenSpec.ofChange ringAsksSpec)

/-- ITS FALSE NEIGHBOUR: 'it returns false'. Refute it at one input. -/
def ringAsksWrong : ChangeSpec := { name := "ringAsks", fn := fun _ => fun
  | [d1, d2, d3] => { results := [.lit (.bool false)], args := [d1, d2, d3] }
  | _ => none }
def RingAsksWrongFalsely : Prop := ringAsksRow.holds Try.pinned (OpenSpec.ofChange ringAsksWrong)

/-- 'lighterlaw09.RingBack': WHATEVER THE INPUT: true; the input reads as it did. -/
def ringBackSpec : ChangeSpec := { name := "ringBack", fn := fun _ => fun
  | [d1, d2] => { results := [.lit (.bool true)], args := [d1, d2] }
  | _ => none }
def ringBackRow : OpenClaim := { program := "ytkbohbelmgmlnaa", sum := "b3d5c38aee7132447a16d025170dc414b2ea32a1a798d6c1eaf373f97c0d34e5", func := "lighter/lighterlaw09.RingBack", spec := "ringBack", apart := false }
def RingBackSaid : Prop := ringBackRow.holds Try.pinned (OpenSpec.ofChange ringBackSpec)

/-- ITS FALSE NEIGHBOUR: 'it returns false'. Refute it at one input. -/
def ringBackWrong : ChangeSpec := { name := "ringBack", fn := fun _ => fun
  | [d1, d2] => { results := [.lit (.bool false)], args := [d1, d2] }
  | _ => none }
def RingBackWrongFalsely : Prop := ringBackRow.holds Try.pinned (OpenSpec.ofChange ringBackWrong)

/- THE SECOND FORM. 'bulk': how many values and letters a reading holds, each counted each time it is reached (what is shared counts as often as it is met; a slice's spare places count too). A statement '..UptoSaid' is the law's where the arguments, and the package variables that the reading takes, are together of bulk at most 1048576: NARROWER than '..Said'. Prove '..Said' where nothing that the law and all that it calls make is longer than what came in: it says more and counts as full. Else prove '..UptoSaid'. A law counts once. -/
mutual
def uptoBulk {H : Type} : DataW H → Nat
  | .lit (.string bytes) => bytes.length + 1
  | .lit _ => 1
  | .nil => 1
  | .ptr d => uptoBulk d + 1
  | .slice elems spare => uptoBulkAll elems + uptoBulkAll spare + 1
  | .agg parts => uptoBulkAll parts + 1
  | .iface _ d => uptoBulk d + 1
  | .map entries => uptoBulkEntries entries + 1
  | .held _ => 1
def uptoBulkAll {H : Type} : List (DataW H) → Nat
  | [] => 0
  | d :: r => uptoBulk d + uptoBulkAll r
def uptoBulkEntries {H : Type} : List (Lit × DataW H) → Nat
  | [] => 0
  | x :: r => uptoBulkEntry x + uptoBulkEntries r
def uptoBulkEntry {H : Type} : Lit × DataW H → Nat
  | (.string bytes, d) => bytes.length + uptoBulk d + 1
  | (_, d) => uptoBulk d + 1
 end
def uptoSmall : (H : Type) → List (DataW H) → Bool := fun _ ds => decide (uptoBulkAll ds ≤ 1048576)
def OpenSpec.upto (s : _root_.Go.ChangeSpec) : _root_.Go.OpenSpec := { _root_.Go.OpenSpec.ofChange s with cond := some uptoSmall }

/-- 'lighterlaw09.RingTurns', WHERE WHAT IT READS IS OF BULK AT MOST 1048576: true; the input reads as it did. -/
def ringTurnsUptoRow : OpenClaim := { program := "ytkbohbelmgmlnaa", sum := "b3d5c38aee7132447a16d025170dc414b2ea32a1a798d6c1eaf373f97c0d34e5", func := "lighter/lighterlaw09.RingTurns", spec := "ringTurns", apart := false, narrowed := true }
def RingTurnsUptoSaid : Prop := ringTurnsUptoRow.holds Try.pinned (OpenSpec.upto ringTurnsSpec)

/-- 'lighterlaw09.RingJoins', WHERE WHAT IT READS IS OF BULK AT MOST 1048576: true; the input reads as it did. -/
def ringJoinsUptoRow : OpenClaim := { program := "ytkbohbelmgmlnaa", sum := "b3d5c38aee7132447a16d025170dc414b2ea32a1a798d6c1eaf373f97c0d34e5", func := "lighter/lighterlaw09.RingJoins", spec := "ringJoins", apart := false, narrowed := true }
def RingJoinsUptoSaid : Prop := ringJoinsUptoRow.holds Try.pinned (OpenSpec.upto ringJoinsSpec)

/-- 'lighterlaw09.RingRound', WHERE WHAT IT READS IS OF BULK AT MOST 1048576: true; the input reads as it did. -/
def ringRoundUptoRow : OpenClaim := { program := "ytkbohbelmgmlnaa", sum := "b3d5c38aee7132447a16d025170dc414b2ea32a1a798d6c1eaf373f97c0d34e5", func := "lighter/lighterlaw09.RingRound", spec := "ringRound", apart := false, narrowed := true }
def RingRoundUptoSaid : Prop := ringRoundUptoRow.holds Try.pinned (OpenSpec.upto ringRoundSpec)

/-- 'lighterlaw09.RingAsks', WHERE WHAT IT READS IS OF BULK AT MOST 1048576: true; the input reads as it did. -/
def ringAsksUptoRow : OpenClaim := { program := "ytkbohbelmgmlnaa", sum := "b3d5c38aee7132447a16d025170dc414b2ea32a1a798d6c1eaf373f97c0d34e5", func := "lighter/lighterlaw09.RingAsks", spec := "ringAsks", apart := false, narrowed := true }
def RingAsksUptoSaid : Prop := ringAsksUptoRow.holds Try.pinned (OpenSpec.upto ringAsksSpec)

/-- 'lighterlaw09.RingBack', WHERE WHAT IT READS IS OF BULK AT MOST 1048576: true; the input reads as it did. -/
def ringBackUptoRow : OpenClaim := { program := "ytkbohbelmgmlnaa", sum := "b3d5c38aee7132447a16d025170dc414b2ea32a1a798d6c1eaf373f97c0d34e5", func := "lighter/lighterlaw09.RingBack", spec := "ringBack", apart := false, narrowed := true }
def RingBackUptoSaid : Prop := ringBackUptoRow.holds Try.pinned (OpenSpec.upto ringBackSpec)

end Rows
end Go.Proofs.Ytkbohbelmgmlnaa
