/-
  No cell of these rows narrows 'for every input' (looked for: loops, veiled, ifaces, maps, wideKeys, modest, calm, conditions, laid).
  DERIVED. THE GIVEN ROWS OF THIS SEAT. 6 by the template 'for every input the law returns true; each argument reads behind the call as it read before'; 0 by the template 'total and deterministic' (their statements: YtchbgnfmmplinaaTotals.lean).
  GIVEN WITH THE SEED: the statements are not yours to turn. If you find one false, say at which input.
  Laid BY PROGRAM, IN A SANDBOX (cutbox-rows.mjs): the forced cells as the released guide's own fill.sh prints them over the translation 82269da26abe4f6f… (all of the seat's roots in one cut). By AI agents, Wed Nov 11 2026. No macro, syntax, notation, axiom, sorry.
-/
import Derived.Test.YtchbgnfmmplinaaChecked
import GoSem.Claim
import GoSem.ClaimJoined
import GoSem.ClaimMapViews
import Derived.JoinedTies
import Derived.KernelRfl
namespace Go.Proofs.Ytchbgnfmmplinaa
/- THE CELL 'sum', in the pinned program and in every row, IS THE sha256 OF THE DUMP (.gsa) THAT YtchbgnfmmplinaaProg.lean LOADS. Nothing in Lean hashes anything: it is a label: what it is worth is what the hold of that sum in a sandbox is worth. -/
noncomputable def Try.pinned : Pinned := { name := "ytchbgnfmmplinaa", sum := "82269da26abe4f6f41f3eb144e4385353ba035bac8ca2835c69b7752f1d2629e", checked := Try.checked }
namespace Rows
def none {H : Type} : Left H := { results := [], args := [] }

/-- 'ramagelaw03.SeqRanges': WHATEVER THE INPUT: true; the input reads as it did. -/
def seqRangesSpec : ChangeSpec := { name := "seqRanges", fn := fun _ => fun
  | [d1, d2, d3, d4] => { results := [.lit (.bool true)], args := [d1, d2, d3, d4] }
  | _ => none }
def seqRangesRow : OpenClaim := { program := "ytchbgnfmmplinaa", sum := "82269da26abe4f6f41f3eb144e4385353ba035bac8ca2835c69b7752f1d2629e", func := "ramage/ramagelaw03.SeqRanges", spec := "seqRanges", unfollowed := true, recurses := true, apart := false }
def SeqRangesSaid : Prop := seqRangesRow.holds Try.pinned (OpenSpec.ofChange seqRangesSpec)

/-- ITS FALSE NEIGHBOUR: 'it returns false'. Refute it at one input. -/
def seqRangesWrong : ChangeSpec := { name := "seqRanges", fn := fun _ => fun
  | [d1, d2, d3, d4] => { results := [.lit (.bool false)], args := [d1, d2, d3, d4] }
  | _ => none }
def SeqRangesWrongFalsely : Prop := seqRangesRow.holds Try.pinned (OpenSpec.ofChange seqRangesWrong)

/-- 'ramagelaw03.SeqParts': WHATEVER THE INPUT: true; the input reads as it did. -/
def seqPartsSpec : ChangeSpec := { name := "seqParts", fn := fun _ => fun
  | [d1, d2, d3] => { results := [.lit (.bool true)], args := [d1, d2, d3] }
  | _ => none }
def seqPartsRow : OpenClaim := { program := "ytchbgnfmmplinaa", sum := "82269da26abe4f6f41f3eb144e4385353ba035bac8ca2835c69b7752f1d2629e", func := "ramage/ramagelaw03.SeqParts", spec := "seqParts", unfollowed := true, recurses := true, apart := false }
def SeqPartsSaid : Prop := seqPartsRow.holds Try.pinned (OpenSpec.ofChange seqPartsSpec)

/-- ITS FALSE NEIGHBOUR: 'it returns false'. Refute it at one input. -/
def seqPartsWrong : ChangeSpec := { name := "seqParts", fn := fun _ => fun
  | [d1, d2, d3] => { results := [.lit (.bool false)], args := [d1, d2, d3] }
  | _ => none }
def SeqPartsWrongFalsely : Prop := seqPartsRow.holds Try.pinned (OpenSpec.ofChange seqPartsWrong)

/-- 'ramagelaw03.SeqMerges': WHATEVER THE INPUT: true; the input reads as it did. -/
def seqMergesSpec : ChangeSpec := { name := "seqMerges", fn := fun _ => fun
  | [d1, d2, d3] => { results := [.lit (.bool true)], args := [d1, d2, d3] }
  | _ => none }
def seqMergesRow : OpenClaim := { program := "ytchbgnfmmplinaa", sum := "82269da26abe4f6f41f3eb144e4385353ba035bac8ca2835c69b7752f1d2629e", func := "ramage/ramagelaw03.SeqMerges", spec := "seqMerges", unfollowed := true, recurses := true, apart := false }
def SeqMergesSaid : Prop := seqMergesRow.holds Try.pinned (OpenSpec.ofChange seqMergesSpec)

/-- ITS FALSE NEIGHBOUR: 'it returns false'. Refute it at one input. -/
def seqMergesWrong : ChangeSpec := { name := "seqMerges", fn := fun _ => fun
  | [d1, d2, d3] => { results := [.lit (.bool false)], args := [d1, d2, d3] }
  | _ => none }
def SeqMergesWrongFalsely : Prop := seqMergesRow.holds Try.pinned (OpenSpec.ofChange seqMergesWrong)

/-- 'ramagelaw03.SeqAll': WHATEVER THE INPUT: true; the input reads as it did. -/
def seqAllSpec : ChangeSpec := { name := "seqAll", fn := fun _ => fun
  | [d1, d2] => { results := [.lit (.bool true)], args := [d1, d2] }
  | _ => none }
def seqAllRow : OpenClaim := { program := "ytchbgnfmmplinaa", sum := "82269da26abe4f6f41f3eb144e4385353ba035bac8ca2835c69b7752f1d2629e", func := "ramage/ramagelaw03.SeqAll", spec := "seqAll", unfollowed := true, recurses := true, apart := false }
def SeqAllSaid : Prop := seqAllRow.holds Try.pinned (OpenSpec.ofChange seqAllSpec)

/-- ITS FALSE NEIGHBOUR: 'it returns false'. Refute it at one input. -/
def seqAllWrong : ChangeSpec := { name := "seqAll", fn := fun _ => fun
  | [d1, d2] => { results := [.lit (.bool false)], args := [d1, d2] }
  | _ => none }
def SeqAllWrongFalsely : Prop := seqAllRow.holds Try.pinned (OpenSpec.ofChange seqAllWrong)

/-- 'ramagelaw03.SeqLazy': WHATEVER THE INPUT: true; the input reads as it did. -/
def seqLazySpec : ChangeSpec := { name := "seqLazy", fn := fun _ => fun
  | [d1, d2, d3, d4] => { results := [.lit (.bool true)], args := [d1, d2, d3, d4] }
  | _ => none }
def seqLazyRow : OpenClaim := { program := "ytchbgnfmmplinaa", sum := "82269da26abe4f6f41f3eb144e4385353ba035bac8ca2835c69b7752f1d2629e", func := "ramage/ramagelaw03.SeqLazy", spec := "seqLazy", unfollowed := true, recurses := true, apart := false }
def SeqLazySaid : Prop := seqLazyRow.holds Try.pinned (OpenSpec.ofChange seqLazySpec)

/-- ITS FALSE NEIGHBOUR: 'it returns false'. Refute it at one input. -/
def seqLazyWrong : ChangeSpec := { name := "seqLazy", fn := fun _ => fun
  | [d1, d2, d3, d4] => { results := [.lit (.bool false)], args := [d1, d2, d3, d4] }
  | _ => none }
def SeqLazyWrongFalsely : Prop := seqLazyRow.holds Try.pinned (OpenSpec.ofChange seqLazyWrong)

/-- 'ramagelaw03.SeqNil': WHATEVER THE INPUT: true; the input reads as it did. -/
def seqNilSpec : ChangeSpec := { name := "seqNil", fn := fun _ => fun
  | [d1, d2] => { results := [.lit (.bool true)], args := [d1, d2] }
  | _ => none }
def seqNilRow : OpenClaim := { program := "ytchbgnfmmplinaa", sum := "82269da26abe4f6f41f3eb144e4385353ba035bac8ca2835c69b7752f1d2629e", func := "ramage/ramagelaw03.SeqNil", spec := "seqNil", unfollowed := true, recurses := true, apart := false }
def SeqNilSaid : Prop := seqNilRow.holds Try.pinned (OpenSpec.ofChange seqNilSpec)

/-- ITS FALSE NEIGHBOUR: 'it returns false'. Refute it at one input. -/
def seqNilWrong : ChangeSpec := { name := "seqNil", fn := fun _ => fun
  | [d1, d2] => { results := [.lit (.bool false)], args := [d1, d2] }
  | _ => none }
def SeqNilWrongFalsely : Prop := seqNilRow.holds Try.pinned (OpenSpec.ofChange seqNilWrong)

/- THE SECOND FORM. 'bulk': how many values and letters a reading holds, each counted each time it is reached (what is shared counts as often as it is met; a slice's spare places count too). A statement '..UptoSaid' is the law's where the arguments, and the package variables that the reading takes, are together of bulk at most 1048576: NARROWER than '..Said'. Prove '..Said' where nothing that the law and all that it calls make is longer than what came in: it says more and counts as full. Else prove '..UptoSaid'. A law counts once. -/
mutual
def uptoBulk {H : Type} : DataW H → Nat
  | .lit (.string bytes) => bytes.length + 1
  | .lit _ => 1
  | .nil => 1
  | .ptr d => uptoBulk d + 1
  | .slice elems spare => uptoBulkAll elems + uptoBulkAll spare + 1
  | .agg parts => uptoBulkAll parts + 1
  | .iface _ d => uptoBulk d + 1
  | .map entries => uptoBulkEntries entries + 1
  | .held _ => 1
def uptoBulkAll {H : Type} : List (DataW H) → Nat
  | [] => 0
  | d :: r => uptoBulk d + uptoBulkAll r
def uptoBulkEntries {H : Type} : List (Lit × DataW H) → Nat
  | [] => 0
  | x :: r => uptoBulkEntry x + uptoBulkEntries r
def uptoBulkEntry {H : Type} : Lit × DataW H → Nat
  | (.string bytes, d) => bytes.length + uptoBulk d + 1
  | (_, d) => uptoBulk d + 1
 end
def uptoSmall : (H : Type) → List (DataW H) → Bool := fun _ ds => decide (uptoBulkAll ds ≤ 1048576)
def OpenSpec.upto (s : _root_.Go.ChangeSpec) : _root_.Go.OpenSpec := { _root_.Go.OpenSpec.ofChange s with cond := some uptoSmall }

/-- 'ramagelaw03.SeqRanges', WHERE WHAT IT READS IS OF BULK AT MOST 1048576: true; the input reads as it did. -/
def seqRangesUptoRow : OpenClaim := { program := "ytchbgnfmmplinaa", sum := "82269da26abe4f6f41f3eb144e4385353ba035bac8ca2835c69b7752f1d2629e", func := "ramage/ramagelaw03.SeqRanges", spec := "seqRanges", unfollowed := true, recurses := true, apart := false, narrowed := true }
def SeqRangesUptoSaid : Prop := seqRangesUptoRow.holds Try.pinned (OpenSpec.upto seqRangesSpec)

/-- 'ramagelaw03.SeqParts', WHERE WHAT IT READS IS OF BULK AT MOST 1048576: true; the input reads as it did. -/
def seqPartsUptoRow : OpenClaim := { program := "ytchbgnfmmplinaa", sum := "82269da26abe4f6f41f3eb144e4385353ba035bac8ca2835c69b7752f1d2629e", func := "ramage/ramagelaw03.SeqParts", spec := "seqParts", unfollowed := true, recurses := true, apart := false, narrowed := true }
def SeqPartsUptoSaid : Prop := seqPartsUptoRow.holds Try.pinned (OpenSpec.upto seqPartsSpec)

/-- 'ramagelaw03.SeqMerges', WHERE WHAT IT READS IS OF BULK AT MOST 1048576: true; the input reads as it did. -/
def seqMergesUptoRow : OpenClaim := { program := "ytchbgnfmmplinaa", sum := "82269da26abe4f6f41f3eb144e4385353ba035bac8ca2835c69b7752f1d2629e", func := "ramage/ramagelaw03.SeqMerges", spec := "seqMerges", unfollowed := true, recurses := true, apart := false, narrowed := true }
def SeqMergesUptoSaid : Prop := seqMergesUptoRow.holds Try.pinned (OpenSpec.upto seqMergesSpec)

/-- 'ramagelaw03.SeqAll', WHERE WHAT IT READS IS OF BULK AT MOST 1048576: true; the input reads as it did. -/
def seqAllUptoRow : OpenClaim := { program := "ytchbgnfmmplinaa", sum := "82269da26abe4f6f41f3eb144e4385353ba035bac8ca2835c69b7752f1d2629e", func := "ramage/ramagelaw03.SeqAll", spec := "seqAll", unfollowed := true, recurses := true, apart := false, narrowed := true }
def SeqAllUptoSaid : Prop := seqAllUptoRow.holds Try.pinned (OpenSpec.upto seqAllSpec)

/-- 'ramagelaw03.SeqLazy', WHERE WHAT IT READS IS OF BULK AT MOST 1048576: true; the input reads as it did. -/
def seqLazyUptoRow : OpenClaim := { program := "ytchbgnfmmplinaa", sum := "82269da26abe4f6f41f3eb144e4385353ba035bac8ca2835c69b7752f1d2629e", func := "ramage/ramagelaw03.SeqLazy", spec := "seqLazy", unfollowed := true, recurses := true, apart := false, narrowed := true }
def SeqLazyUptoSaid : Prop := seqLazyUptoRow.holds Try.pinned (OpenSpec.upto seqLazySpec)

/-- 'ramagelaw03.SeqNil', WHERE WHAT IT READS IS OF BULK AT MOST 1048576: true; the input reads as it did. -/
def seqNilUptoRow : OpenClaim := { program := "ytchbgnfmmplinaa", sum := "82269da26abe4f6f41f3eb144e4385353ba035bac8ca2835c69b7752f1d2629e", func := "ramage/ramagelaw03.SeqNil", spec := "seqNil", unfollowed := true, recurses := true, apart := false, narrowed := true }
def SeqNilUptoSaid : Prop := seqNilUptoRow.holds Try.pinned (OpenSpec.upto seqNilSpec)

end Rows
end Go.Proofs.Ytchbgnfmmplinaa
