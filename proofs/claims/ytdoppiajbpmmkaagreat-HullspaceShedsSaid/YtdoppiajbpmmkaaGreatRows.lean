/-
  No cell of these rows narrows 'for every input' (looked for: loops, veiled, ifaces, maps, wideKeys, modest, calm, conditions, laid).
  DERIVED. THE GIVEN ROWS OF THIS SEAT. 6 by the template 'for every input the law returns true; each argument reads behind the call as it read before'; 0 by the template 'total and deterministic' (their statements: YtdoppiajbpmmkaaGreatTotals.lean).
  GIVEN WITH THE SEED: the statements are not yours to turn. If you find one false, say at which input.
  Laid BY PROGRAM, IN A SANDBOX (cutbox-rows.mjs): the forced cells as the released guide's own fill.sh prints them over the translation a19a0fc4c831cad5… (all of the seat's roots in one cut). By AI agents, Wed Nov 11 2026. No macro, syntax, notation, axiom, sorry.
-/
import Derived.Test.YtdoppiajbpmmkaaGreatChecked
import GoSem.Claim
import GoSem.ClaimJoined
import GoSem.ClaimMapViews
import Derived.JoinedTies
import Derived.KernelRfl
namespace Go.Proofs.YtdoppiajbpmmkaaGreat
/- THE CELL 'sum', in the pinned program and in every row, IS THE sha256 OF THE DUMP (.gsa) THAT YtdoppiajbpmmkaaGreatProg.lean LOADS. Nothing in Lean hashes anything: it is a label: what it is worth is what the hold of that sum in a sandbox is worth. -/
noncomputable def Tryz.pinned : Pinned := { name := "ytdoppiajbpmmkaagreat", sum := "a19a0fc4c831cad5132c27b8465de777911f7535acdbed918e624894dd59237a", checked := Tryz.checked }
namespace Rows
def none {H : Type} : Left H := { results := [], args := [] }

/-- 'metrolablaw09.HullspaceSupports': WHATEVER THE INPUT: true; the input reads as it did. -/
def hullspaceSupportsSpec : ChangeSpec := { name := "hullspaceSupports", fn := fun _ => fun
  | [d1, d2] => { results := [.lit (.bool true)], args := [d1, d2] }
  | _ => none }
def hullspaceSupportsRow : OpenClaim := { program := "ytdoppiajbpmmkaagreat", sum := "a19a0fc4c831cad5132c27b8465de777911f7535acdbed918e624894dd59237a", func := "metrolab/metrolablaw09.HullspaceSupports", spec := "hullspaceSupports", unfollowed := true, recurses := true, apart := false }
def HullspaceSupportsSaid : Prop := hullspaceSupportsRow.holds Tryz.pinned (OpenSpec.ofChange hullspaceSupportsSpec)

/-- ITS FALSE NEIGHBOUR: 'it returns false'. Refute it at one input. -/
def hullspaceSupportsWrong : ChangeSpec := { name := "hullspaceSupports", fn := fun _ => fun
  | [d1, d2] => { results := [.lit (.bool false)], args := [d1, d2] }
  | _ => none }
def HullspaceSupportsWrongFalsely : Prop := hullspaceSupportsRow.holds Tryz.pinned (OpenSpec.ofChange hullspaceSupportsWrong)

/-- 'metrolablaw09.HullspaceTurns': WHATEVER THE INPUT: true; the input reads as it did. -/
def hullspaceTurnsSpec : ChangeSpec := { name := "hullspaceTurns", fn := fun _ => fun
  | [d] => { results := [.lit (.bool true)], args := [d] }
  | _ => none }
def hullspaceTurnsRow : OpenClaim := { program := "ytdoppiajbpmmkaagreat", sum := "a19a0fc4c831cad5132c27b8465de777911f7535acdbed918e624894dd59237a", func := "metrolab/metrolablaw09.HullspaceTurns", spec := "hullspaceTurns", unfollowed := true, recurses := true, apart := false }
def HullspaceTurnsSaid : Prop := hullspaceTurnsRow.holds Tryz.pinned (OpenSpec.ofChange hullspaceTurnsSpec)

/-- ITS FALSE NEIGHBOUR: 'it returns false'. Refute it at one input. -/
def hullspaceTurnsWrong : ChangeSpec := { name := "hullspaceTurns", fn := fun _ => fun
  | [d] => { results := [.lit (.bool false)], args := [d] }
  | _ => none }
def HullspaceTurnsWrongFalsely : Prop := hullspaceTurnsRow.holds Tryz.pinned (OpenSpec.ofChange hullspaceTurnsWrong)

/-- 'metrolablaw09.HullspaceCovers': WHATEVER THE INPUT: true; the input reads as it did. -/
def hullspaceCoversSpec : ChangeSpec := { name := "hullspaceCovers", fn := fun _ => fun
  | [d1, d2] => { results := [.lit (.bool true)], args := [d1, d2] }
  | _ => none }
def hullspaceCoversRow : OpenClaim := { program := "ytdoppiajbpmmkaagreat", sum := "a19a0fc4c831cad5132c27b8465de777911f7535acdbed918e624894dd59237a", func := "metrolab/metrolablaw09.HullspaceCovers", spec := "hullspaceCovers", unfollowed := true, recurses := true, apart := false }
def HullspaceCoversSaid : Prop := hullspaceCoversRow.holds Tryz.pinned (OpenSpec.ofChange hullspaceCoversSpec)

/-- ITS FALSE NEIGHBOUR: 'it returns false'. Refute it at one input. -/
def hullspaceCoversWrong : ChangeSpec := { name := "hullspaceCovers", fn := fun _ => fun
  | [d1, d2] => { results := [.lit (.bool false)], args := [d1, d2] }
  | _ => none }
def HullspaceCoversWrongFalsely : Prop := hullspaceCoversRow.holds Tryz.pinned (OpenSpec.ofChange hullspaceCoversWrong)

/-- 'metrolablaw09.HullspaceBalances': WHATEVER THE INPUT: true; the input reads as it did. -/
def hullspaceBalancesSpec : ChangeSpec := { name := "hullspaceBalances", fn := fun _ => fun
  | [d] => { results := [.lit (.bool true)], args := [d] }
  | _ => none }
def hullspaceBalancesRow : OpenClaim := { program := "ytdoppiajbpmmkaagreat", sum := "a19a0fc4c831cad5132c27b8465de777911f7535acdbed918e624894dd59237a", func := "metrolab/metrolablaw09.HullspaceBalances", spec := "hullspaceBalances", unfollowed := true, recurses := true, apart := false }
def HullspaceBalancesSaid : Prop := hullspaceBalancesRow.holds Tryz.pinned (OpenSpec.ofChange hullspaceBalancesSpec)

/-- ITS FALSE NEIGHBOUR: 'it returns false'. Refute it at one input. -/
def hullspaceBalancesWrong : ChangeSpec := { name := "hullspaceBalances", fn := fun _ => fun
  | [d] => { results := [.lit (.bool false)], args := [d] }
  | _ => none }
def HullspaceBalancesWrongFalsely : Prop := hullspaceBalancesRow.holds Tryz.pinned (OpenSpec.ofChange hullspaceBalancesWrong)

/-- 'metrolablaw09.HullspaceMoves': WHATEVER THE INPUT: true; the input reads as it did. -/
def hullspaceMovesSpec : ChangeSpec := { name := "hullspaceMoves", fn := fun _ => fun
  | [d1, d2] => { results := [.lit (.bool true)], args := [d1, d2] }
  | _ => none }
def hullspaceMovesRow : OpenClaim := { program := "ytdoppiajbpmmkaagreat", sum := "a19a0fc4c831cad5132c27b8465de777911f7535acdbed918e624894dd59237a", func := "metrolab/metrolablaw09.HullspaceMoves", spec := "hullspaceMoves", unfollowed := true, recurses := true, apart := false }
def HullspaceMovesSaid : Prop := hullspaceMovesRow.holds Tryz.pinned (OpenSpec.ofChange hullspaceMovesSpec)

/-- ITS FALSE NEIGHBOUR: 'it returns false'. Refute it at one input. -/
def hullspaceMovesWrong : ChangeSpec := { name := "hullspaceMoves", fn := fun _ => fun
  | [d1, d2] => { results := [.lit (.bool false)], args := [d1, d2] }
  | _ => none }
def HullspaceMovesWrongFalsely : Prop := hullspaceMovesRow.holds Tryz.pinned (OpenSpec.ofChange hullspaceMovesWrong)

/-- 'metrolablaw09.HullspaceSheds': WHATEVER THE INPUT: true; the input reads as it did. -/
def hullspaceShedsSpec : ChangeSpec := { name := "hullspaceSheds", fn := fun _ => fun
  | [d] => { results := [.lit (.bool true)], args := [d] }
  | _ => none }
def hullspaceShedsRow : OpenClaim := { program := "ytdoppiajbpmmkaagreat", sum := "a19a0fc4c831cad5132c27b8465de777911f7535acdbed918e624894dd59237a", func := "metrolab/metrolablaw09.HullspaceSheds", spec := "hullspaceSheds", unfollowed := true, recurses := true, apart := false }
def HullspaceShedsSaid : Prop := hullspaceShedsRow.holds Tryz.pinned (OpenSpec.ofChange hullspaceShedsSpec)

/-- ITS FALSE NEIGHBOUR: 'it returns false'. Refute it at one input. -/
def hullspaceShedsWrong : ChangeSpec := { name := "hullspaceSheds", fn := fun _ => fun
  | [d] => { results := [.lit (.bool false)], args := [d] }
  | _ => none }
def HullspaceShedsWrongFalsely : Prop := hullspaceShedsRow.holds Tryz.pinned (OpenSpec.ofChange hullspaceShedsWrong)

/- THE SECOND FORM. 'bulk': how many values and letters a reading holds, each counted each time it is reached (what is shared counts as often as it is met; a slice's spare places count too). A statement '..UptoSaid' is the law's where the arguments, and the package variables that the reading takes, are together of bulk at most 1048576: NARROWER than '..Said'. Prove '..Said' where nothing that the law and all that it calls make is longer than what came in: it says more and counts as full. Else prove '..UptoSaid'. A law counts once. -/
mutual
def uptoBulk {H : Type} : DataW H → Nat
  | .lit (.string bytes) => bytes.length + 1
  | .lit _ => 1
  | .nil => 1
  | .ptr d => uptoBulk d + 1
  | .slice elems spare => uptoBulkAll elems + uptoBulkAll spare + 1
  | .agg parts => uptoBulkAll parts + 1
  | .iface _ d => uptoBulk d + 1
  | .map entries => uptoBulkEntries entries + 1
  | .held _ => 1
def uptoBulkAll {H : Type} : List (DataW H) → Nat
  | [] => 0
  | d :: r => uptoBulk d + uptoBulkAll r
def uptoBulkEntries {H : Type} : List (Lit × DataW H) → Nat
  | [] => 0
  | x :: r => uptoBulkEntry x + uptoBulkEntries r
def uptoBulkEntry {H : Type} : Lit × DataW H → Nat
  | (.string bytes, d) => bytes.length + uptoBulk d + 1
  | (_, d) => uptoBulk d + 1
 end
def uptoSmall : (H : Type) → List (DataW H) → Bool := fun _ ds => decide (uptoBulkAll ds ≤ 1048576)
def OpenSpec.upto (s : _root_.Go.ChangeSpec) : _root_.Go.OpenSpec := { _root_.Go.OpenSpec.ofChange s with cond := some uptoSmall }

/-- 'metrolablaw09.HullspaceSupports', WHERE WHAT IT READS IS OF BULK AT MOST 1048576: true; the input reads as it did. -/
def hullspaceSupportsUptoRow : OpenClaim := { program := "ytdoppiajbpmmkaagreat", sum := "a19a0fc4c831cad5132c27b8465de777911f7535acdbed918e624894dd59237a", func := "metrolab/metrolablaw09.HullspaceSupports", spec := "hullspaceSupports", unfollowed := true, recurses := true, apart := false, narrowed := true }
def HullspaceSupportsUptoSaid : Prop := hullspaceSupportsUptoRow.holds Tryz.pinned (OpenSpec.upto hullspaceSupportsSpec)

/-- 'metrolablaw09.HullspaceTurns', WHERE WHAT IT READS IS OF BULK AT MOST 1048576: true; the input reads as it did. -/
def hullspaceTurnsUptoRow : OpenClaim := { program := "ytdoppiajbpmmkaagreat", sum := "a19a0fc4c831cad5132c27b8465de777911f7535acdbed918e624894dd59237a", func := "metrolab/metrolablaw09.HullspaceTurns", spec := "hullspaceTurns", unfollowed := true, recurses := true, apart := false, narrowed := true }
def HullspaceTurnsUptoSaid : Prop := hullspaceTurnsUptoRow.holds Tryz.pinned (OpenSpec.upto hullspaceTurnsSpec)

/-- 'metrolablaw09.HullspaceCovers', WHERE WHAT IT READS IS OF BULK AT MOST 1048576: true; the input reads as it did. -/
def hullspaceCoversUptoRow : OpenClaim := { program := "ytdoppiajbpmmkaagreat", sum := "a19a0fc4c831cad5132c27b8465de777911f7535acdbed918e624894dd59237a", func := "metrolab/metrolablaw09.HullspaceCovers", spec := "hullspaceCovers", unfollowed := true, recurses := true, apart := false, narrowed := true }
def HullspaceCoversUptoSaid : Prop := hullspaceCoversUptoRow.holds Tryz.pinned (OpenSpec.upto hullspaceCoversSpec)

/-- 'metrolablaw09.HullspaceBalances', WHERE WHAT IT READS IS OF BULK AT MOST 1048576: true; the input reads as it did. -/
def hullspaceBalancesUptoRow : OpenClaim := { program := "ytdoppiajbpmmkaagreat", sum := "a19a0fc4c831cad5132c27b8465de777911f7535acdbed918e624894dd59237a", func := "metrolab/metrolablaw09.HullspaceBalances", spec := "hullspaceBalances", unfollowed := true, recurses := true, apart := false, narrowed := true }
def HullspaceBalancesUptoSaid : Prop := hullspaceBalancesUptoRow.holds Tryz.pinned (OpenSpec.upto hullspaceBalancesSpec)

/-- 'metrolablaw09.HullspaceMoves', WHERE WHAT IT READS IS OF BULK AT MOST 1048576: true; the input reads as it did. -/
def hullspaceMovesUptoRow : OpenClaim := { program := "ytdoppiajbpmmkaagreat", sum := "a19a0fc4c831cad5132c27b8465de777911f7535acdbed918e624894dd59237a", func := "metrolab/metrolablaw09.HullspaceMoves", spec := "hullspaceMoves", unfollowed := true, recurses := true, apart := false, narrowed := true }
def HullspaceMovesUptoSaid : Prop := hullspaceMovesUptoRow.holds Tryz.pinned (OpenSpec.upto hullspaceMovesSpec)

/-- 'metrolablaw09.HullspaceSheds', WHERE WHAT IT READS IS OF BULK AT MOST 1048576: true; the input reads as it did. -/
def hullspaceShedsUptoRow : OpenClaim := { program := "ytdoppiajbpmmkaagreat", sum := "a19a0fc4c831cad5132c27b8465de777911f7535acdbed918e624894dd59237a", func := "metrolab/metrolablaw09.HullspaceSheds", spec := "hullspaceSheds", unfollowed := true, recurses := true, apart := false, narrowed := true }
def HullspaceShedsUptoSaid : Prop := hullspaceShedsUptoRow.holds Tryz.pinned (OpenSpec.upto hullspaceShedsSpec)

end Rows
end Go.Proofs.YtdoppiajbpmmkaaGreat
