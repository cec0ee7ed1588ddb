/-
  No cell of these rows narrows 'for every input' (looked for: loops, veiled, ifaces, maps, wideKeys, modest, calm, conditions, laid).
  DERIVED. THE GIVEN ROWS OF THIS SEAT. 4 by the template 'for every input the law returns true; each argument reads behind the call as it read before'; 0 by the template 'total and deterministic' (their statements: YtlkakkgmjihlaaaTotals.lean).
  GIVEN WITH THE SEED: the statements are not yours to turn. If you find one false, say at which input.
  Laid BY PROGRAM, IN A SANDBOX (cutbox-rows.mjs): the forced cells as the released guide's own fill.sh prints them over the translation 79d27f9e619d5ae3… (all of the seat's roots in one cut). By AI agents, Wed Nov 11 2026. No macro, syntax, notation, axiom, sorry.
-/
import Derived.Test.YtlkakkgmjihlaaaChecked
import GoSem.Claim
import GoSem.ClaimJoined
import GoSem.ClaimMapViews
import Derived.JoinedTies
import Derived.KernelRfl
namespace Go.Proofs.Ytlkakkgmjihlaaa
/- THE CELL 'sum', in the pinned program and in every row, IS THE sha256 OF THE DUMP (.gsa) THAT YtlkakkgmjihlaaaProg.lean LOADS. Nothing in Lean hashes anything: it is a label: what it is worth is what the hold of that sum in a sandbox is worth. -/
noncomputable def Try.pinned : Pinned := { name := "ytlkakkgmjihlaaa", sum := "79d27f9e619d5ae334af245f0709e0f4f6f2ef50299016c5dcc117e000c61332", checked := Try.checked }
namespace Rows
def none {H : Type} : Left H := { results := [], args := [] }

/-- 'ramagelaw06.ArenaFull': WHATEVER THE INPUT: true; the input reads as it did. -/
def arenaFullSpec : ChangeSpec := { name := "arenaFull", fn := fun _ => fun
  | [d] => { results := [.lit (.bool true)], args := [d] }
  | _ => none }
def arenaFullRow : OpenClaim := { program := "ytlkakkgmjihlaaa", sum := "79d27f9e619d5ae334af245f0709e0f4f6f2ef50299016c5dcc117e000c61332", func := "ramage/ramagelaw06.ArenaFull", spec := "arenaFull", apart := false }
def ArenaFullSaid : Prop := arenaFullRow.holds Try.pinned (OpenSpec.ofChange arenaFullSpec)

/-- ITS FALSE NEIGHBOUR: 'it returns false'. Refute it at one input. -/
def arenaFullWrong : ChangeSpec := { name := "arenaFull", fn := fun _ => fun
  | [d] => { results := [.lit (.bool false)], args := [d] }
  | _ => none }
def ArenaFullWrongFalsely : Prop := arenaFullRow.holds Try.pinned (OpenSpec.ofChange arenaFullWrong)

/-- 'ramagelaw06.ArenaKeeps': WHATEVER THE INPUT: true; the input reads as it did. -/
def arenaKeepsSpec : ChangeSpec := { name := "arenaKeeps", fn := fun _ => fun
  | [d1, d2] => { results := [.lit (.bool true)], args := [d1, d2] }
  | _ => none }
def arenaKeepsRow : OpenClaim := { program := "ytlkakkgmjihlaaa", sum := "79d27f9e619d5ae334af245f0709e0f4f6f2ef50299016c5dcc117e000c61332", func := "ramage/ramagelaw06.ArenaKeeps", spec := "arenaKeeps", apart := false }
def ArenaKeepsSaid : Prop := arenaKeepsRow.holds Try.pinned (OpenSpec.ofChange arenaKeepsSpec)

/-- ITS FALSE NEIGHBOUR: 'it returns false'. Refute it at one input. -/
def arenaKeepsWrong : ChangeSpec := { name := "arenaKeeps", fn := fun _ => fun
  | [d1, d2] => { results := [.lit (.bool false)], args := [d1, d2] }
  | _ => none }
def ArenaKeepsWrongFalsely : Prop := arenaKeepsRow.holds Try.pinned (OpenSpec.ofChange arenaKeepsWrong)

/-- 'ramagelaw06.ArenaPlays': WHATEVER THE INPUT: true; the input reads as it did. -/
def arenaPlaysSpec : ChangeSpec := { name := "arenaPlays", fn := fun _ => fun
  | [d1, d2] => { results := [.lit (.bool true)], args := [d1, d2] }
  | _ => none }
def arenaPlaysRow : OpenClaim := { program := "ytlkakkgmjihlaaa", sum := "79d27f9e619d5ae334af245f0709e0f4f6f2ef50299016c5dcc117e000c61332", func := "ramage/ramagelaw06.ArenaPlays", spec := "arenaPlays", unfollowed := true, recurses := true, apart := false }
def ArenaPlaysSaid : Prop := arenaPlaysRow.holds Try.pinned (OpenSpec.ofChange arenaPlaysSpec)

/-- ITS FALSE NEIGHBOUR: 'it returns false'. Refute it at one input. -/
def arenaPlaysWrong : ChangeSpec := { name := "arenaPlays", fn := fun _ => fun
  | [d1, d2] => { results := [.lit (.bool false)], args := [d1, d2] }
  | _ => none }
def ArenaPlaysWrongFalsely : Prop := arenaPlaysRow.holds Try.pinned (OpenSpec.ofChange arenaPlaysWrong)

/-- 'ramagelaw06.ArenaNil': WHATEVER THE INPUT: true; the input reads as it did. -/
def arenaNilSpec : ChangeSpec := { name := "arenaNil", fn := fun _ => fun
  | [d1, d2] => { results := [.lit (.bool true)], args := [d1, d2] }
  | _ => none }
def arenaNilRow : OpenClaim := { program := "ytlkakkgmjihlaaa", sum := "79d27f9e619d5ae334af245f0709e0f4f6f2ef50299016c5dcc117e000c61332", func := "ramage/ramagelaw06.ArenaNil", spec := "arenaNil", unfollowed := true, recurses := true, apart := false }
def ArenaNilSaid : Prop := arenaNilRow.holds Try.pinned (OpenSpec.ofChange arenaNilSpec)

/-- ITS FALSE NEIGHBOUR: 'it returns false'. Refute it at one input. -/
def arenaNilWrong : ChangeSpec := { name := "arenaNil", fn := fun _ => fun
  | [d1, d2] => { results := [.lit (.bool false)], args := [d1, d2] }
  | _ => none }
def ArenaNilWrongFalsely : Prop := arenaNilRow.holds Try.pinned (OpenSpec.ofChange arenaNilWrong)

/- THE SECOND FORM. 'bulk': how many values and letters a reading holds, each counted each time it is reached (what is shared counts as often as it is met; a slice's spare places count too). A statement '..UptoSaid' is the law's where the arguments, and the package variables that the reading takes, are together of bulk at most 1048576: NARROWER than '..Said'. Prove '..Said' where nothing that the law and all that it calls make is longer than what came in: it says more and counts as full. Else prove '..UptoSaid'. A law counts once. -/
mutual
def uptoBulk {H : Type} : DataW H → Nat
  | .lit (.string bytes) => bytes.length + 1
  | .lit _ => 1
  | .nil => 1
  | .ptr d => uptoBulk d + 1
  | .slice elems spare => uptoBulkAll elems + uptoBulkAll spare + 1
  | .agg parts => uptoBulkAll parts + 1
  | .iface _ d => uptoBulk d + 1
  | .map entries => uptoBulkEntries entries + 1
  | .held _ => 1
def uptoBulkAll {H : Type} : List (DataW H) → Nat
  | [] => 0
  | d :: r => uptoBulk d + uptoBulkAll r
def uptoBulkEntries {H : Type} : List (Lit × DataW H) → Nat
  | [] => 0
  | x :: r => uptoBulkEntry x + uptoBulkEntries r
def uptoBulkEntry {H : Type} : Lit × DataW H → Nat
  | (.string bytes, d) => bytes.length + uptoBulk d + 1
  | (_, d) => uptoBulk d + 1
 end
def uptoSmall : (H : Type) → List (DataW H) → Bool := fun _ ds => decide (uptoBulkAll ds ≤ 1048576)
def OpenSpec.upto (s : _root_.Go.ChangeSpec) : _root_.Go.OpenSpec := { _root_.Go.OpenSpec.ofChange s with cond := some uptoSmall }

/-- 'ramagelaw06.ArenaFull', WHERE WHAT IT READS IS OF BULK AT MOST 1048576: true; the input reads as it did. -/
def arenaFullUptoRow : OpenClaim := { program := "ytlkakkgmjihlaaa", sum := "79d27f9e619d5ae334af245f0709e0f4f6f2ef50299016c5dcc117e000c61332", func := "ramage/ramagelaw06.ArenaFull", spec := "arenaFull", apart := false, narrowed := true }
def ArenaFullUptoSaid : Prop := arenaFullUptoRow.holds Try.pinned (OpenSpec.upto arenaFullSpec)

/-- 'ramagelaw06.ArenaKeeps', WHERE WHAT IT READS IS OF BULK AT MOST 1048576: true; the input reads as it did. -/
def arenaKeepsUptoRow : OpenClaim := { program := "ytlkakkgmjihlaaa", sum := "79d27f9e619d5ae334af245f0709e0f4f6f2ef50299016c5dcc117e000c61332", func := "ramage/ramagelaw06.ArenaKeeps", spec := "arenaKeeps", apart := false, narrowed := true }
def ArenaKeepsUptoSaid : Prop := arenaKeepsUptoRow.holds Try.pinned (OpenSpec.upto arenaKeepsSpec)

/-- 'ramagelaw06.ArenaPlays', WHERE WHAT IT READS IS OF BULK AT MOST 1048576: true; the input reads as it did. -/
def arenaPlaysUptoRow : OpenClaim := { program := "ytlkakkgmjihlaaa", sum := "79d27f9e619d5ae334af245f0709e0f4f6f2ef50299016c5dcc117e000c61332", func := "ramage/ramagelaw06.ArenaPlays", spec := "arenaPlays", unfollowed := true, recurses := true, apart := false, narrowed := true }
def ArenaPlaysUptoSaid : Prop := arenaPlaysUptoRow.holds Try.pinned (OpenSpec.upto arenaPlaysSpec)

/-- 'ramagelaw06.ArenaNil', WHERE WHAT IT READS IS OF BULK AT MOST 1048576: true; the input reads as it did. -/
def arenaNilUptoRow : OpenClaim := { program := "ytlkakkgmjihlaaa", sum := "79d27f9e619d5ae334af245f0709e0f4f6f2ef50299016c5dcc117e000c61332", func := "ramage/ramagelaw06.ArenaNil", spec := "arenaNil", unfollowed := true, recurses := true, apart := false, narrowed := true }
def ArenaNilUptoSaid : Prop := arenaNilUptoRow.holds Try.pinned (OpenSpec.upto arenaNilSpec)

end Rows
end Go.Proofs.Ytlkakkgmjihlaaa
