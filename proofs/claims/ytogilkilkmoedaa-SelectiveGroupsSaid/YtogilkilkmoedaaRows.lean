/-
  No cell of these rows narrows 'for every input' (looked for: loops, veiled, ifaces, maps, wideKeys, modest, calm, conditions, laid).
  DERIVED. THE GIVEN ROWS OF THIS SEAT. 9 by the template 'for every input the law returns true; each argument reads behind the call as it read before'; 0 by the template 'total and deterministic' (their statements: YtogilkilkmoedaaTotals.lean).
  GIVEN WITH THE SEED: the statements are not yours to turn. If you find one false, say at which input.
  Laid BY PROGRAM, IN A SANDBOX (cutbox-rows.mjs): the forced cells as the released guide's own fill.sh prints them over the translation 4ace1fd0ee76d0e2… (all of the seat's roots in one cut). By AI agents, Wed Nov 11 2026. No macro, syntax, notation, axiom, sorry.
-/
import Derived.Test.YtogilkilkmoedaaChecked
import GoSem.Claim
import GoSem.ClaimJoined
import GoSem.ClaimMapViews
import Derived.JoinedTies
import Derived.KernelRfl
namespace Go.Proofs.Ytogilkilkmoedaa
/- THE CELL 'sum', in the pinned program and in every row, IS THE sha256 OF THE DUMP (.gsa) THAT YtogilkilkmoedaaProg.lean LOADS. Nothing in Lean hashes anything: it is a label: what it is worth is what the hold of that sum in a sandbox is worth. -/
noncomputable def Try.pinned : Pinned := { name := "ytogilkilkmoedaa", sum := "4ace1fd0ee76d0e2179a87f6cd221ac4629165b868fc5b532beabbc8a32d43b1", checked := Try.checked }
namespace Rows
def none {H : Type} : Left H := { results := [], args := [] }

/-- 'metrolablaw29.SelectiveProves': WHATEVER THE INPUT: true; the input reads as it did. -/
def selectiveProvesSpec : ChangeSpec := { name := "selectiveProves", fn := fun _ => fun
  | [d1, d2, d3] => { results := [.lit (.bool true)], args := [d1, d2, d3] }
  | _ => none }
def selectiveProvesRow : OpenClaim := { program := "ytogilkilkmoedaa", sum := "4ace1fd0ee76d0e2179a87f6cd221ac4629165b868fc5b532beabbc8a32d43b1", func := "metrolab/metrolablaw29.SelectiveProves", spec := "selectiveProves", unfollowed := true, recurses := true, apart := false }
def SelectiveProvesSaid : Prop := selectiveProvesRow.holds Try.pinned (OpenSpec.ofChange selectiveProvesSpec)

/-- ITS FALSE NEIGHBOUR: 'it returns false'. Refute it at one input. -/
def selectiveProvesWrong : ChangeSpec := { name := "selectiveProves", fn := fun _ => fun
  | [d1, d2, d3] => { results := [.lit (.bool false)], args := [d1, d2, d3] }
  | _ => none }
def SelectiveProvesWrongFalsely : Prop := selectiveProvesRow.holds Try.pinned (OpenSpec.ofChange selectiveProvesWrong)

/-- 'metrolablaw29.SelectivePairs': WHATEVER THE INPUT: true; the input reads as it did. -/
def selectivePairsSpec : ChangeSpec := { name := "selectivePairs", fn := fun _ => fun
  | [d1, d2, d3] => { results := [.lit (.bool true)], args := [d1, d2, d3] }
  | _ => none }
def selectivePairsRow : OpenClaim := { program := "ytogilkilkmoedaa", sum := "4ace1fd0ee76d0e2179a87f6cd221ac4629165b868fc5b532beabbc8a32d43b1", func := "metrolab/metrolablaw29.SelectivePairs", spec := "selectivePairs", unfollowed := true, recurses := true, apart := false }
def SelectivePairsSaid : Prop := selectivePairsRow.holds Try.pinned (OpenSpec.ofChange selectivePairsSpec)

/-- ITS FALSE NEIGHBOUR: 'it returns false'. Refute it at one input. -/
def selectivePairsWrong : ChangeSpec := { name := "selectivePairs", fn := fun _ => fun
  | [d1, d2, d3] => { results := [.lit (.bool false)], args := [d1, d2, d3] }
  | _ => none }
def SelectivePairsWrongFalsely : Prop := selectivePairsRow.holds Try.pinned (OpenSpec.ofChange selectivePairsWrong)

/-- 'metrolablaw29.SelectiveWidens': WHATEVER THE INPUT: true; the input reads as it did. -/
def selectiveWidensSpec : ChangeSpec := { name := "selectiveWidens", fn := fun _ => fun
  | [d1, d2, d3] => { results := [.lit (.bool true)], args := [d1, d2, d3] }
  | _ => none }
def selectiveWidensRow : OpenClaim := { program := "ytogilkilkmoedaa", sum := "4ace1fd0ee76d0e2179a87f6cd221ac4629165b868fc5b532beabbc8a32d43b1", func := "metrolab/metrolablaw29.SelectiveWidens", spec := "selectiveWidens", unfollowed := true, recurses := true, apart := false }
def SelectiveWidensSaid : Prop := selectiveWidensRow.holds Try.pinned (OpenSpec.ofChange selectiveWidensSpec)

/-- ITS FALSE NEIGHBOUR: 'it returns false'. Refute it at one input. -/
def selectiveWidensWrong : ChangeSpec := { name := "selectiveWidens", fn := fun _ => fun
  | [d1, d2, d3] => { results := [.lit (.bool false)], args := [d1, d2, d3] }
  | _ => none }
def SelectiveWidensWrongFalsely : Prop := selectiveWidensRow.holds Try.pinned (OpenSpec.ofChange selectiveWidensWrong)

/-- 'metrolablaw29.SelectivePlans': WHATEVER THE INPUT: true; the input reads as it did. -/
def selectivePlansSpec : ChangeSpec := { name := "selectivePlans", fn := fun _ => fun
  | [d1, d2, d3] => { results := [.lit (.bool true)], args := [d1, d2, d3] }
  | _ => none }
def selectivePlansRow : OpenClaim := { program := "ytogilkilkmoedaa", sum := "4ace1fd0ee76d0e2179a87f6cd221ac4629165b868fc5b532beabbc8a32d43b1", func := "metrolab/metrolablaw29.SelectivePlans", spec := "selectivePlans", unfollowed := true, recurses := true, apart := false }
def SelectivePlansSaid : Prop := selectivePlansRow.holds Try.pinned (OpenSpec.ofChange selectivePlansSpec)

/-- ITS FALSE NEIGHBOUR: 'it returns false'. Refute it at one input. -/
def selectivePlansWrong : ChangeSpec := { name := "selectivePlans", fn := fun _ => fun
  | [d1, d2, d3] => { results := [.lit (.bool false)], args := [d1, d2, d3] }
  | _ => none }
def SelectivePlansWrongFalsely : Prop := selectivePlansRow.holds Try.pinned (OpenSpec.ofChange selectivePlansWrong)

/-- 'metrolablaw29.SelectiveChecks': WHATEVER THE INPUT: true; the input reads as it did. -/
def selectiveChecksSpec : ChangeSpec := { name := "selectiveChecks", fn := fun _ => fun
  | [d1, d2, d3] => { results := [.lit (.bool true)], args := [d1, d2, d3] }
  | _ => none }
def selectiveChecksRow : OpenClaim := { program := "ytogilkilkmoedaa", sum := "4ace1fd0ee76d0e2179a87f6cd221ac4629165b868fc5b532beabbc8a32d43b1", func := "metrolab/metrolablaw29.SelectiveChecks", spec := "selectiveChecks", unfollowed := true, recurses := true, apart := false }
def SelectiveChecksSaid : Prop := selectiveChecksRow.holds Try.pinned (OpenSpec.ofChange selectiveChecksSpec)

/-- ITS FALSE NEIGHBOUR: 'it returns false'. Refute it at one input. -/
def selectiveChecksWrong : ChangeSpec := { name := "selectiveChecks", fn := fun _ => fun
  | [d1, d2, d3] => { results := [.lit (.bool false)], args := [d1, d2, d3] }
  | _ => none }
def SelectiveChecksWrongFalsely : Prop := selectiveChecksRow.holds Try.pinned (OpenSpec.ofChange selectiveChecksWrong)

/-- 'metrolablaw29.SelectiveSorts': WHATEVER THE INPUT: true; the input reads as it did. -/
def selectiveSortsSpec : ChangeSpec := { name := "selectiveSorts", fn := fun _ => fun
  | [d1, d2] => { results := [.lit (.bool true)], args := [d1, d2] }
  | _ => none }
def selectiveSortsRow : OpenClaim := { program := "ytogilkilkmoedaa", sum := "4ace1fd0ee76d0e2179a87f6cd221ac4629165b868fc5b532beabbc8a32d43b1", func := "metrolab/metrolablaw29.SelectiveSorts", spec := "selectiveSorts", unfollowed := true, recurses := true, apart := false }
def SelectiveSortsSaid : Prop := selectiveSortsRow.holds Try.pinned (OpenSpec.ofChange selectiveSortsSpec)

/-- ITS FALSE NEIGHBOUR: 'it returns false'. Refute it at one input. -/
def selectiveSortsWrong : ChangeSpec := { name := "selectiveSorts", fn := fun _ => fun
  | [d1, d2] => { results := [.lit (.bool false)], args := [d1, d2] }
  | _ => none }
def SelectiveSortsWrongFalsely : Prop := selectiveSortsRow.holds Try.pinned (OpenSpec.ofChange selectiveSortsWrong)

/-- 'metrolablaw29.SelectiveGroups': WHATEVER THE INPUT: true; the input reads as it did. -/
def selectiveGroupsSpec : ChangeSpec := { name := "selectiveGroups", fn := fun _ => fun
  | [d1, d2, d3] => { results := [.lit (.bool true)], args := [d1, d2, d3] }
  | _ => none }
def selectiveGroupsRow : OpenClaim := { program := "ytogilkilkmoedaa", sum := "4ace1fd0ee76d0e2179a87f6cd221ac4629165b868fc5b532beabbc8a32d43b1", func := "metrolab/metrolablaw29.SelectiveGroups", spec := "selectiveGroups", unfollowed := true, recurses := true, apart := false }
def SelectiveGroupsSaid : Prop := selectiveGroupsRow.holds Try.pinned (OpenSpec.ofChange selectiveGroupsSpec)

/-- ITS FALSE NEIGHBOUR: 'it returns false'. Refute it at one input. -/
def selectiveGroupsWrong : ChangeSpec := { name := "selectiveGroups", fn := fun _ => fun
  | [d1, d2, d3] => { results := [.lit (.bool false)], args := [d1, d2, d3] }
  | _ => none }
def SelectiveGroupsWrongFalsely : Prop := selectiveGroupsRow.holds Try.pinned (OpenSpec.ofChange selectiveGroupsWrong)

/-- 'metrolablaw29.SelectiveVerifies': WHATEVER THE INPUT: true; the input reads as it did. -/
def selectiveVerifiesSpec : ChangeSpec := { name := "selectiveVerifies", fn := fun _ => fun
  | [d1, d2, d3] => { results := [.lit (.bool true)], args := [d1, d2, d3] }
  | _ => none }
def selectiveVerifiesRow : OpenClaim := { program := "ytogilkilkmoedaa", sum := "4ace1fd0ee76d0e2179a87f6cd221ac4629165b868fc5b532beabbc8a32d43b1", func := "metrolab/metrolablaw29.SelectiveVerifies", spec := "selectiveVerifies", unfollowed := true, recurses := true, apart := false }
def SelectiveVerifiesSaid : Prop := selectiveVerifiesRow.holds Try.pinned (OpenSpec.ofChange selectiveVerifiesSpec)

/-- ITS FALSE NEIGHBOUR: 'it returns false'. Refute it at one input. -/
def selectiveVerifiesWrong : ChangeSpec := { name := "selectiveVerifies", fn := fun _ => fun
  | [d1, d2, d3] => { results := [.lit (.bool false)], args := [d1, d2, d3] }
  | _ => none }
def SelectiveVerifiesWrongFalsely : Prop := selectiveVerifiesRow.holds Try.pinned (OpenSpec.ofChange selectiveVerifiesWrong)

/-- 'metrolablaw29.SelectiveMost': WHATEVER THE INPUT: true; the input reads as it did. -/
def selectiveMostSpec : ChangeSpec := { name := "selectiveMost", fn := fun _ => fun
  | [d1, d2, d3] => { results := [.lit (.bool true)], args := [d1, d2, d3] }
  | _ => none }
def selectiveMostRow : OpenClaim := { program := "ytogilkilkmoedaa", sum := "4ace1fd0ee76d0e2179a87f6cd221ac4629165b868fc5b532beabbc8a32d43b1", func := "metrolab/metrolablaw29.SelectiveMost", spec := "selectiveMost", unfollowed := true, recurses := true, apart := false }
def SelectiveMostSaid : Prop := selectiveMostRow.holds Try.pinned (OpenSpec.ofChange selectiveMostSpec)

/-- ITS FALSE NEIGHBOUR: 'it returns false'. Refute it at one input. -/
def selectiveMostWrong : ChangeSpec := { name := "selectiveMost", fn := fun _ => fun
  | [d1, d2, d3] => { results := [.lit (.bool false)], args := [d1, d2, d3] }
  | _ => none }
def SelectiveMostWrongFalsely : Prop := selectiveMostRow.holds Try.pinned (OpenSpec.ofChange selectiveMostWrong)

/- THE SECOND FORM. 'bulk': how many values and letters a reading holds, each counted each time it is reached (what is shared counts as often as it is met; a slice's spare places count too). A statement '..UptoSaid' is the law's where the arguments, and the package variables that the reading takes, are together of bulk at most 1048576: NARROWER than '..Said'. Prove '..Said' where nothing that the law and all that it calls make is longer than what came in: it says more and counts as full. Else prove '..UptoSaid'. A law counts once. -/
mutual
def uptoBulk {H : Type} : DataW H → Nat
  | .lit (.string bytes) => bytes.length + 1
  | .lit _ => 1
  | .nil => 1
  | .ptr d => uptoBulk d + 1
  | .slice elems spare => uptoBulkAll elems + uptoBulkAll spare + 1
  | .agg parts => uptoBulkAll parts + 1
  | .iface _ d => uptoBulk d + 1
  | .map entries => uptoBulkEntries entries + 1
  | .held _ => 1
def uptoBulkAll {H : Type} : List (DataW H) → Nat
  | [] => 0
  | d :: r => uptoBulk d + uptoBulkAll r
def uptoBulkEntries {H : Type} : List (Lit × DataW H) → Nat
  | [] => 0
  | x :: r => uptoBulkEntry x + uptoBulkEntries r
def uptoBulkEntry {H : Type} : Lit × DataW H → Nat
  | (.string bytes, d) => bytes.length + uptoBulk d + 1
  | (_, d) => uptoBulk d + 1
 end
def uptoSmall : (H : Type) → List (DataW H) → Bool := fun _ ds => decide (uptoBulkAll ds ≤ 1048576)
def OpenSpec.upto (s : _root_.Go.ChangeSpec) : _root_.Go.OpenSpec := { _root_.Go.OpenSpec.ofChange s with cond := some uptoSmall }

/-- 'metrolablaw29.SelectiveProves', WHERE WHAT IT READS IS OF BULK AT MOST 1048576: true; the input reads as it did. -/
def selectiveProvesUptoRow : OpenClaim := { program := "ytogilkilkmoedaa", sum := "4ace1fd0ee76d0e2179a87f6cd221ac4629165b868fc5b532beabbc8a32d43b1", func := "metrolab/metrolablaw29.SelectiveProves", spec := "selectiveProves", unfollowed := true, recurses := true, apart := false, narrowed := true }
def SelectiveProvesUptoSaid : Prop := selectiveProvesUptoRow.holds Try.pinned (OpenSpec.upto selectiveProvesSpec)

/-- 'metrolablaw29.SelectivePairs', WHERE WHAT IT READS IS OF BULK AT MOST 1048576: true; the input reads as it did. -/
def selectivePairsUptoRow : OpenClaim := { program := "ytogilkilkmoedaa", sum := "4ace1fd0ee76d0e2179a87f6cd221ac4629165b868fc5b532beabbc8a32d43b1", func := "metrolab/metrolablaw29.SelectivePairs", spec := "selectivePairs", unfollowed := true, recurses := true, apart := false, narrowed := true }
def SelectivePairsUptoSaid : Prop := selectivePairsUptoRow.holds Try.pinned (OpenSpec.upto selectivePairsSpec)

/-- 'metrolablaw29.SelectiveWidens', WHERE WHAT IT READS IS OF BULK AT MOST 1048576: true; the input reads as it did. -/
def selectiveWidensUptoRow : OpenClaim := { program := "ytogilkilkmoedaa", sum := "4ace1fd0ee76d0e2179a87f6cd221ac4629165b868fc5b532beabbc8a32d43b1", func := "metrolab/metrolablaw29.SelectiveWidens", spec := "selectiveWidens", unfollowed := true, recurses := true, apart := false, narrowed := true }
def SelectiveWidensUptoSaid : Prop := selectiveWidensUptoRow.holds Try.pinned (OpenSpec.upto selectiveWidensSpec)

/-- 'metrolablaw29.SelectivePlans', WHERE WHAT IT READS IS OF BULK AT MOST 1048576: true; the input reads as it did. -/
def selectivePlansUptoRow : OpenClaim := { program := "ytogilkilkmoedaa", sum := "4ace1fd0ee76d0e2179a87f6cd221ac4629165b868fc5b532beabbc8a32d43b1", func := "metrolab/metrolablaw29.SelectivePlans", spec := "selectivePlans", unfollowed := true, recurses := true, apart := false, narrowed := true }
def SelectivePlansUptoSaid : Prop := selectivePlansUptoRow.holds Try.pinned (OpenSpec.upto selectivePlansSpec)

/-- 'metrolablaw29.SelectiveChecks', WHERE WHAT IT READS IS OF BULK AT MOST 1048576: true; the input reads as it did. -/
def selectiveChecksUptoRow : OpenClaim := { program := "ytogilkilkmoedaa", sum := "4ace1fd0ee76d0e2179a87f6cd221ac4629165b868fc5b532beabbc8a32d43b1", func := "metrolab/metrolablaw29.SelectiveChecks", spec := "selectiveChecks", unfollowed := true, recurses := true, apart := false, narrowed := true }
def SelectiveChecksUptoSaid : Prop := selectiveChecksUptoRow.holds Try.pinned (OpenSpec.upto selectiveChecksSpec)

/-- 'metrolablaw29.SelectiveSorts', WHERE WHAT IT READS IS OF BULK AT MOST 1048576: true; the input reads as it did. -/
def selectiveSortsUptoRow : OpenClaim := { program := "ytogilkilkmoedaa", sum := "4ace1fd0ee76d0e2179a87f6cd221ac4629165b868fc5b532beabbc8a32d43b1", func := "metrolab/metrolablaw29.SelectiveSorts", spec := "selectiveSorts", unfollowed := true, recurses := true, apart := false, narrowed := true }
def SelectiveSortsUptoSaid : Prop := selectiveSortsUptoRow.holds Try.pinned (OpenSpec.upto selectiveSortsSpec)

/-- 'metrolablaw29.SelectiveGroups', WHERE WHAT IT READS IS OF BULK AT MOST 1048576: true; the input reads as it did. -/
def selectiveGroupsUptoRow : OpenClaim := { program := "ytogilkilkmoedaa", sum := "4ace1fd0ee76d0e2179a87f6cd221ac4629165b868fc5b532beabbc8a32d43b1", func := "metrolab/metrolablaw29.SelectiveGroups", spec := "selectiveGroups", unfollowed := true, recurses := true, apart := false, narrowed := true }
def SelectiveGroupsUptoSaid : Prop := selectiveGroupsUptoRow.holds Try.pinned (OpenSpec.upto selectiveGroupsSpec)

/-- 'metrolablaw29.SelectiveVerifies', WHERE WHAT IT READS IS OF BULK AT MOST 1048576: true; the input reads as it did. -/
def selectiveVerifiesUptoRow : OpenClaim := { program := "ytogilkilkmoedaa", sum := "4ace1fd0ee76d0e2179a87f6cd221ac4629165b868fc5b532beabbc8a32d43b1", func := "metrolab/metrolablaw29.SelectiveVerifies", spec := "selectiveVerifies", unfollowed := true, recurses := true, apart := false, narrowed := true }
def SelectiveVerifiesUptoSaid : Prop := selectiveVerifiesUptoRow.holds Try.pinned (OpenSpec.upto selectiveVerifiesSpec)

/-- 'metrolablaw29.SelectiveMost', WHERE WHAT IT READS IS OF BULK AT MOST 1048576: true; the input reads as it did. -/
def selectiveMostUptoRow : OpenClaim := { program := "ytogilkilkmoedaa", sum := "4ace1fd0ee76d0e2179a87f6cd221ac4629165b868fc5b532beabbc8a32d43b1", func := "metrolab/metrolablaw29.SelectiveMost", spec := "selectiveMost", unfollowed := true, recurses := true, apart := false, narrowed := true }
def SelectiveMostUptoSaid : Prop := selectiveMostUptoRow.holds Try.pinned (OpenSpec.upto selectiveMostSpec)

end Rows
end Go.Proofs.Ytogilkilkmoedaa
