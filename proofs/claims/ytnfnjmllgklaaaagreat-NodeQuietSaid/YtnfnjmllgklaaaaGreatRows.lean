/-
  No cell of these rows narrows 'for every input' (looked for: loops, veiled, ifaces, maps, wideKeys, modest, calm, conditions, laid).
  DERIVED. THE GIVEN ROWS OF THIS SEAT. 12 by the template 'for every input the law returns true; each argument reads behind the call as it read before'; 0 by the template 'total and deterministic' (their statements: YtnfnjmllgklaaaaGreatTotals.lean).
  GIVEN WITH THE SEED: the statements are not yours to turn. If you find one false, say at which input.
  Laid BY PROGRAM, IN A SANDBOX (cutbox-rows.mjs): the forced cells as the released guide's own fill.sh prints them over the translation d580589f14adaced… (all of the seat's roots in one cut). By AI agents, Wed Nov 11 2026. No macro, syntax, notation, axiom, sorry.
-/
import Derived.Test.YtnfnjmllgklaaaaGreatChecked
import GoSem.Claim
import GoSem.ClaimJoined
import GoSem.ClaimMapViews
import Derived.JoinedTies
import Derived.KernelRfl
namespace Go.Proofs.YtnfnjmllgklaaaaGreat
/- THE CELL 'sum', in the pinned program and in every row, IS THE sha256 OF THE DUMP (.gsa) THAT YtnfnjmllgklaaaaGreatProg.lean LOADS. Nothing in Lean hashes anything: it is a label: what it is worth is what the hold of that sum in a sandbox is worth. -/
noncomputable def Tryz.pinned : Pinned := { name := "ytnfnjmllgklaaaagreat", sum := "d580589f14adaced702e06b183c33a853b3c12ce8a7f64fd6311486b8345a5e3", checked := Tryz.checked }
namespace Rows
def none {H : Type} : Left H := { results := [], args := [] }

/-- 'omnibuslaw12.NodePair': WHATEVER THE INPUT: true; the input reads as it did. -/
def nodePairSpec : ChangeSpec := { name := "nodePair", fn := fun _ => fun
  | [d] => { results := [.lit (.bool true)], args := [d] }
  | _ => none }
def nodePairRow : OpenClaim := { program := "ytnfnjmllgklaaaagreat", sum := "d580589f14adaced702e06b183c33a853b3c12ce8a7f64fd6311486b8345a5e3", func := "omnibus/omnibuslaw12.NodePair", spec := "nodePair", unfollowed := true, recurses := true, apart := false }
def NodePairSaid : Prop := nodePairRow.holds Tryz.pinned (OpenSpec.ofChange nodePairSpec)

/-- ITS FALSE NEIGHBOUR: 'it returns false'. Refute it at one input. -/
def nodePairWrong : ChangeSpec := { name := "nodePair", fn := fun _ => fun
  | [d] => { results := [.lit (.bool false)], args := [d] }
  | _ => none }
def NodePairWrongFalsely : Prop := nodePairRow.holds Tryz.pinned (OpenSpec.ofChange nodePairWrong)

/-- 'omnibuslaw12.NodeAlone': WHATEVER THE INPUT: true; the input reads as it did. -/
def nodeAloneSpec : ChangeSpec := { name := "nodeAlone", fn := fun _ => fun
  | [d1, d2] => { results := [.lit (.bool true)], args := [d1, d2] }
  | _ => none }
def nodeAloneRow : OpenClaim := { program := "ytnfnjmllgklaaaagreat", sum := "d580589f14adaced702e06b183c33a853b3c12ce8a7f64fd6311486b8345a5e3", func := "omnibus/omnibuslaw12.NodeAlone", spec := "nodeAlone", unfollowed := true, recurses := true, apart := false }
def NodeAloneSaid : Prop := nodeAloneRow.holds Tryz.pinned (OpenSpec.ofChange nodeAloneSpec)

/-- ITS FALSE NEIGHBOUR: 'it returns false'. Refute it at one input. -/
def nodeAloneWrong : ChangeSpec := { name := "nodeAlone", fn := fun _ => fun
  | [d1, d2] => { results := [.lit (.bool false)], args := [d1, d2] }
  | _ => none }
def NodeAloneWrongFalsely : Prop := nodeAloneRow.holds Tryz.pinned (OpenSpec.ofChange nodeAloneWrong)

/-- 'omnibuslaw12.NodeAliens': WHATEVER THE INPUT: true; the input reads as it did. -/
def nodeAliensSpec : ChangeSpec := { name := "nodeAliens", fn := fun _ => fun
  | [d] => { results := [.lit (.bool true)], args := [d] }
  | _ => none }
def nodeAliensRow : OpenClaim := { program := "ytnfnjmllgklaaaagreat", sum := "d580589f14adaced702e06b183c33a853b3c12ce8a7f64fd6311486b8345a5e3", func := "omnibus/omnibuslaw12.NodeAliens", spec := "nodeAliens", unfollowed := true, recurses := true, apart := false }
def NodeAliensSaid : Prop := nodeAliensRow.holds Tryz.pinned (OpenSpec.ofChange nodeAliensSpec)

/-- ITS FALSE NEIGHBOUR: 'it returns false'. Refute it at one input. -/
def nodeAliensWrong : ChangeSpec := { name := "nodeAliens", fn := fun _ => fun
  | [d] => { results := [.lit (.bool false)], args := [d] }
  | _ => none }
def NodeAliensWrongFalsely : Prop := nodeAliensRow.holds Tryz.pinned (OpenSpec.ofChange nodeAliensWrong)

/-- 'omnibuslaw12.NodeMay': WHATEVER THE INPUT: true; the input reads as it did. -/
def nodeMaySpec : ChangeSpec := { name := "nodeMay", fn := fun _ => fun
  | [d1, d2] => { results := [.lit (.bool true)], args := [d1, d2] }
  | _ => none }
def nodeMayRow : OpenClaim := { program := "ytnfnjmllgklaaaagreat", sum := "d580589f14adaced702e06b183c33a853b3c12ce8a7f64fd6311486b8345a5e3", func := "omnibus/omnibuslaw12.NodeMay", spec := "nodeMay", unfollowed := true, recurses := true, apart := false }
def NodeMaySaid : Prop := nodeMayRow.holds Tryz.pinned (OpenSpec.ofChange nodeMaySpec)

/-- ITS FALSE NEIGHBOUR: 'it returns false'. Refute it at one input. -/
def nodeMayWrong : ChangeSpec := { name := "nodeMay", fn := fun _ => fun
  | [d1, d2] => { results := [.lit (.bool false)], args := [d1, d2] }
  | _ => none }
def NodeMayWrongFalsely : Prop := nodeMayRow.holds Tryz.pinned (OpenSpec.ofChange nodeMayWrong)

/-- 'omnibuslaw12.NodeActs': WHATEVER THE INPUT: true; the input reads as it did. -/
def nodeActsSpec : ChangeSpec := { name := "nodeActs", fn := fun _ => fun
  | [d1, d2] => { results := [.lit (.bool true)], args := [d1, d2] }
  | _ => none }
def nodeActsRow : OpenClaim := { program := "ytnfnjmllgklaaaagreat", sum := "d580589f14adaced702e06b183c33a853b3c12ce8a7f64fd6311486b8345a5e3", func := "omnibus/omnibuslaw12.NodeActs", spec := "nodeActs", unfollowed := true, recurses := true, apart := false }
def NodeActsSaid : Prop := nodeActsRow.holds Tryz.pinned (OpenSpec.ofChange nodeActsSpec)

/-- ITS FALSE NEIGHBOUR: 'it returns false'. Refute it at one input. -/
def nodeActsWrong : ChangeSpec := { name := "nodeActs", fn := fun _ => fun
  | [d1, d2] => { results := [.lit (.bool false)], args := [d1, d2] }
  | _ => none }
def NodeActsWrongFalsely : Prop := nodeActsRow.holds Tryz.pinned (OpenSpec.ofChange nodeActsWrong)

/-- 'omnibuslaw12.NodeQuiet': WHATEVER THE INPUT: true; the input reads as it did. -/
def nodeQuietSpec : ChangeSpec := { name := "nodeQuiet", fn := fun _ => fun
  | [d1, d2] => { results := [.lit (.bool true)], args := [d1, d2] }
  | _ => none }
def nodeQuietRow : OpenClaim := { program := "ytnfnjmllgklaaaagreat", sum := "d580589f14adaced702e06b183c33a853b3c12ce8a7f64fd6311486b8345a5e3", func := "omnibus/omnibuslaw12.NodeQuiet", spec := "nodeQuiet", unfollowed := true, recurses := true, apart := false }
def NodeQuietSaid : Prop := nodeQuietRow.holds Tryz.pinned (OpenSpec.ofChange nodeQuietSpec)

/-- ITS FALSE NEIGHBOUR: 'it returns false'. Refute it at one input. -/
def nodeQuietWrong : ChangeSpec := { name := "nodeQuiet", fn := fun _ => fun
  | [d1, d2] => { results := [.lit (.bool false)], args := [d1, d2] }
  | _ => none }
def NodeQuietWrongFalsely : Prop := nodeQuietRow.holds Tryz.pinned (OpenSpec.ofChange nodeQuietWrong)

/-- 'omnibuslaw13.BusLoads': WHATEVER THE INPUT: true; the input reads as it did. -/
def busLoadsSpec : ChangeSpec := { name := "busLoads", fn := fun _ => fun
  | [d1, d2, d3] => { results := [.lit (.bool true)], args := [d1, d2, d3] }
  | _ => none }
def busLoadsRow : OpenClaim := { program := "ytnfnjmllgklaaaagreat", sum := "d580589f14adaced702e06b183c33a853b3c12ce8a7f64fd6311486b8345a5e3", func := "omnibus/omnibuslaw13.BusLoads", spec := "busLoads", unfollowed := true, recurses := true, apart := false }
def BusLoadsSaid : Prop := busLoadsRow.holds Tryz.pinned (OpenSpec.ofChange busLoadsSpec)

/-- ITS FALSE NEIGHBOUR: 'it returns false'. Refute it at one input. -/
def busLoadsWrong : ChangeSpec := { name := "busLoads", fn := fun _ => fun
  | [d1, d2, d3] => { results := [.lit (.bool false)], args := [d1, d2, d3] }
  | _ => none }
def BusLoadsWrongFalsely : Prop := busLoadsRow.holds Tryz.pinned (OpenSpec.ofChange busLoadsWrong)

/-- 'omnibuslaw13.BusMay': WHATEVER THE INPUT: true; the input reads as it did. -/
def busMaySpec : ChangeSpec := { name := "busMay", fn := fun _ => fun
  | [d1, d2] => { results := [.lit (.bool true)], args := [d1, d2] }
  | _ => none }
def busMayRow : OpenClaim := { program := "ytnfnjmllgklaaaagreat", sum := "d580589f14adaced702e06b183c33a853b3c12ce8a7f64fd6311486b8345a5e3", func := "omnibus/omnibuslaw13.BusMay", spec := "busMay", unfollowed := true, recurses := true, apart := false }
def BusMaySaid : Prop := busMayRow.holds Tryz.pinned (OpenSpec.ofChange busMaySpec)

/-- ITS FALSE NEIGHBOUR: 'it returns false'. Refute it at one input. -/
def busMayWrong : ChangeSpec := { name := "busMay", fn := fun _ => fun
  | [d1, d2] => { results := [.lit (.bool false)], args := [d1, d2] }
  | _ => none }
def BusMayWrongFalsely : Prop := busMayRow.holds Tryz.pinned (OpenSpec.ofChange busMayWrong)

/-- 'omnibuslaw13.BusHeals': WHATEVER THE INPUT: true; the input reads as it did. -/
def busHealsSpec : ChangeSpec := { name := "busHeals", fn := fun _ => fun
  | [d1, d2, d3] => { results := [.lit (.bool true)], args := [d1, d2, d3] }
  | _ => none }
def busHealsRow : OpenClaim := { program := "ytnfnjmllgklaaaagreat", sum := "d580589f14adaced702e06b183c33a853b3c12ce8a7f64fd6311486b8345a5e3", func := "omnibus/omnibuslaw13.BusHeals", spec := "busHeals", unfollowed := true, recurses := true, apart := false }
def BusHealsSaid : Prop := busHealsRow.holds Tryz.pinned (OpenSpec.ofChange busHealsSpec)

/-- ITS FALSE NEIGHBOUR: 'it returns false'. Refute it at one input. -/
def busHealsWrong : ChangeSpec := { name := "busHeals", fn := fun _ => fun
  | [d1, d2, d3] => { results := [.lit (.bool false)], args := [d1, d2, d3] }
  | _ => none }
def BusHealsWrongFalsely : Prop := busHealsRow.holds Tryz.pinned (OpenSpec.ofChange busHealsWrong)

/-- 'omnibuslaw13.BusActs': WHATEVER THE INPUT: true; the input reads as it did. -/
def busActsSpec : ChangeSpec := { name := "busActs", fn := fun _ => fun
  | [d1, d2] => { results := [.lit (.bool true)], args := [d1, d2] }
  | _ => none }
def busActsRow : OpenClaim := { program := "ytnfnjmllgklaaaagreat", sum := "d580589f14adaced702e06b183c33a853b3c12ce8a7f64fd6311486b8345a5e3", func := "omnibus/omnibuslaw13.BusActs", spec := "busActs", unfollowed := true, recurses := true, apart := false }
def BusActsSaid : Prop := busActsRow.holds Tryz.pinned (OpenSpec.ofChange busActsSpec)

/-- ITS FALSE NEIGHBOUR: 'it returns false'. Refute it at one input. -/
def busActsWrong : ChangeSpec := { name := "busActs", fn := fun _ => fun
  | [d1, d2] => { results := [.lit (.bool false)], args := [d1, d2] }
  | _ => none }
def BusActsWrongFalsely : Prop := busActsRow.holds Tryz.pinned (OpenSpec.ofChange busActsWrong)

/-- 'omnibuslaw13.BusTight': WHATEVER THE INPUT: true; the input reads as it did. -/
def busTightSpec : ChangeSpec := { name := "busTight", fn := fun _ => fun
  | [d1, d2] => { results := [.lit (.bool true)], args := [d1, d2] }
  | _ => none }
def busTightRow : OpenClaim := { program := "ytnfnjmllgklaaaagreat", sum := "d580589f14adaced702e06b183c33a853b3c12ce8a7f64fd6311486b8345a5e3", func := "omnibus/omnibuslaw13.BusTight", spec := "busTight", unfollowed := true, recurses := true, apart := false }
def BusTightSaid : Prop := busTightRow.holds Tryz.pinned (OpenSpec.ofChange busTightSpec)

/-- ITS FALSE NEIGHBOUR: 'it returns false'. Refute it at one input. -/
def busTightWrong : ChangeSpec := { name := "busTight", fn := fun _ => fun
  | [d1, d2] => { results := [.lit (.bool false)], args := [d1, d2] }
  | _ => none }
def BusTightWrongFalsely : Prop := busTightRow.holds Tryz.pinned (OpenSpec.ofChange busTightWrong)

/-- 'omnibuslaw13.BusCalm': WHATEVER THE INPUT: true; the input reads as it did. -/
def busCalmSpec : ChangeSpec := { name := "busCalm", fn := fun _ => fun
  | [d1, d2] => { results := [.lit (.bool true)], args := [d1, d2] }
  | _ => none }
def busCalmRow : OpenClaim := { program := "ytnfnjmllgklaaaagreat", sum := "d580589f14adaced702e06b183c33a853b3c12ce8a7f64fd6311486b8345a5e3", func := "omnibus/omnibuslaw13.BusCalm", spec := "busCalm", unfollowed := true, recurses := true, apart := false }
def BusCalmSaid : Prop := busCalmRow.holds Tryz.pinned (OpenSpec.ofChange busCalmSpec)

/-- ITS FALSE NEIGHBOUR: 'it returns false'. Refute it at one input. -/
def busCalmWrong : ChangeSpec := { name := "busCalm", fn := fun _ => fun
  | [d1, d2] => { results := [.lit (.bool false)], args := [d1, d2] }
  | _ => none }
def BusCalmWrongFalsely : Prop := busCalmRow.holds Tryz.pinned (OpenSpec.ofChange busCalmWrong)

/- THE SECOND FORM. 'bulk': how many values and letters a reading holds, each counted each time it is reached (what is shared counts as often as it is met; a slice's spare places count too). A statement '..UptoSaid' is the law's where the arguments, and the package variables that the reading takes, are together of bulk at most 1048576: NARROWER than '..Said'. Prove '..Said' where nothing that the law and all that it calls make is longer than what came in: it says more and counts as full. Else prove '..UptoSaid'. A law counts once. -/
mutual
def uptoBulk {H : Type} : DataW H → Nat
  | .lit (.string bytes) => bytes.length + 1
  | .lit _ => 1
  | .nil => 1
  | .ptr d => uptoBulk d + 1
  | .slice elems spare => uptoBulkAll elems + uptoBulkAll spare + 1
  | .agg parts => uptoBulkAll parts + 1
  | .iface _ d => uptoBulk d + 1
  | .map entries => uptoBulkEntries entries + 1
  | .held _ => 1
def uptoBulkAll {H : Type} : List (DataW H) → Nat
  | [] => 0
  | d :: r => uptoBulk d + uptoBulkAll r
def uptoBulkEntries {H : Type} : List (Lit × DataW H) → Nat
  | [] => 0
  | x :: r => uptoBulkEntry x + uptoBulkEntries r
def uptoBulkEntry {H : Type} : Lit × DataW H → Nat
  | (.string bytes, d) => bytes.length + uptoBulk d + 1
  | (_, d) => uptoBulk d + 1
 end
def uptoSmall : (H : Type) → List (DataW H) → Bool := fun _ ds => decide (uptoBulkAll ds ≤ 1048576)
def OpenSpec.upto (s : _root_.Go.ChangeSpec) : _root_.Go.OpenSpec := { _root_.Go.OpenSpec.ofChange s with cond := some uptoSmall }

/-- 'omnibuslaw12.NodePair', WHERE WHAT IT READS IS OF BULK AT MOST 1048576: true; the input reads as it did. -/
def nodePairUptoRow : OpenClaim := { program := "ytnfnjmllgklaaaagreat", sum := "d580589f14adaced702e06b183c33a853b3c12ce8a7f64fd6311486b8345a5e3", func := "omnibus/omnibuslaw12.NodePair", spec := "nodePair", unfollowed := true, recurses := true, apart := false, narrowed := true }
def NodePairUptoSaid : Prop := nodePairUptoRow.holds Tryz.pinned (OpenSpec.upto nodePairSpec)

/-- 'omnibuslaw12.NodeAlone', WHERE WHAT IT READS IS OF BULK AT MOST 1048576: true; the input reads as it did. -/
def nodeAloneUptoRow : OpenClaim := { program := "ytnfnjmllgklaaaagreat", sum := "d580589f14adaced702e06b183c33a853b3c12ce8a7f64fd6311486b8345a5e3", func := "omnibus/omnibuslaw12.NodeAlone", spec := "nodeAlone", unfollowed := true, recurses := true, apart := false, narrowed := true }
def NodeAloneUptoSaid : Prop := nodeAloneUptoRow.holds Tryz.pinned (OpenSpec.upto nodeAloneSpec)

/-- 'omnibuslaw12.NodeAliens', WHERE WHAT IT READS IS OF BULK AT MOST 1048576: true; the input reads as it did. -/
def nodeAliensUptoRow : OpenClaim := { program := "ytnfnjmllgklaaaagreat", sum := "d580589f14adaced702e06b183c33a853b3c12ce8a7f64fd6311486b8345a5e3", func := "omnibus/omnibuslaw12.NodeAliens", spec := "nodeAliens", unfollowed := true, recurses := true, apart := false, narrowed := true }
def NodeAliensUptoSaid : Prop := nodeAliensUptoRow.holds Tryz.pinned (OpenSpec.upto nodeAliensSpec)

/-- 'omnibuslaw12.NodeMay', WHERE WHAT IT READS IS OF BULK AT MOST 1048576: true; the input reads as it did. -/
def nodeMayUptoRow : OpenClaim := { program := "ytnfnjmllgklaaaagreat", sum := "d580589f14adaced702e06b183c33a853b3c12ce8a7f64fd6311486b8345a5e3", func := "omnibus/omnibuslaw12.NodeMay", spec := "nodeMay", unfollowed := true, recurses := true, apart := false, narrowed := true }
def NodeMayUptoSaid : Prop := nodeMayUptoRow.holds Tryz.pinned (OpenSpec.upto nodeMaySpec)

/-- 'omnibuslaw12.NodeActs', WHERE WHAT IT READS IS OF BULK AT MOST 1048576: true; the input reads as it did. -/
def nodeActsUptoRow : OpenClaim := { program := "ytnfnjmllgklaaaagreat", sum := "d580589f14adaced702e06b183c33a853b3c12ce8a7f64fd6311486b8345a5e3", func := "omnibus/omnibuslaw12.NodeActs", spec := "nodeActs", unfollowed := true, recurses := true, apart := false, narrowed := true }
def NodeActsUptoSaid : Prop := nodeActsUptoRow.holds Tryz.pinned (OpenSpec.upto nodeActsSpec)

/-- 'omnibuslaw12.NodeQuiet', WHERE WHAT IT READS IS OF BULK AT MOST 1048576: true; the input reads as it did. -/
def nodeQuietUptoRow : OpenClaim := { program := "ytnfnjmllgklaaaagreat", sum := "d580589f14adaced702e06b183c33a853b3c12ce8a7f64fd6311486b8345a5e3", func := "omnibus/omnibuslaw12.NodeQuiet", spec := "nodeQuiet", unfollowed := true, recurses := true, apart := false, narrowed := true }
def NodeQuietUptoSaid : Prop := nodeQuietUptoRow.holds Tryz.pinned (OpenSpec.upto nodeQuietSpec)

/-- 'omnibuslaw13.BusLoads', WHERE WHAT IT READS IS OF BULK AT MOST 1048576: true; the input reads as it did. -/
def busLoadsUptoRow : OpenClaim := { program := "ytnfnjmllgklaaaagreat", sum := "d580589f14adaced702e06b183c33a853b3c12ce8a7f64fd6311486b8345a5e3", func := "omnibus/omnibuslaw13.BusLoads", spec := "busLoads", unfollowed := true, recurses := true, apart := false, narrowed := true }
def BusLoadsUptoSaid : Prop := busLoadsUptoRow.holds Tryz.pinned (OpenSpec.upto busLoadsSpec)

/-- 'omnibuslaw13.BusMay', WHERE WHAT IT READS IS OF BULK AT MOST 1048576: true; the input reads as it did. -/
def busMayUptoRow : OpenClaim := { program := "ytnfnjmllgklaaaagreat", sum := "d580589f14adaced702e06b183c33a853b3c12ce8a7f64fd6311486b8345a5e3", func := "omnibus/omnibuslaw13.BusMay", spec := "busMay", unfollowed := true, recurses := true, apart := false, narrowed := true }
def BusMayUptoSaid : Prop := busMayUptoRow.holds Tryz.pinned (OpenSpec.upto busMaySpec)

/-- 'omnibuslaw13.BusHeals', WHERE WHAT IT READS IS OF BULK AT MOST 1048576: true; the input reads as it did. -/
def busHealsUptoRow : OpenClaim := { program := "ytnfnjmllgklaaaagreat", sum := "d580589f14adaced702e06b183c33a853b3c12ce8a7f64fd6311486b8345a5e3", func := "omnibus/omnibuslaw13.BusHeals", spec := "busHeals", unfollowed := true, recurses := true, apart := false, narrowed := true }
def BusHealsUptoSaid : Prop := busHealsUptoRow.holds Tryz.pinned (OpenSpec.upto busHealsSpec)

/-- 'omnibuslaw13.BusActs', WHERE WHAT IT READS IS OF BULK AT MOST 1048576: true; the input reads as it did. -/
def busActsUptoRow : OpenClaim := { program := "ytnfnjmllgklaaaagreat", sum := "d580589f14adaced702e06b183c33a853b3c12ce8a7f64fd6311486b8345a5e3", func := "omnibus/omnibuslaw13.BusActs", spec := "busActs", unfollowed := true, recurses := true, apart := false, narrowed := true }
def BusActsUptoSaid : Prop := busActsUptoRow.holds Tryz.pinned (OpenSpec.upto busActsSpec)

/-- 'omnibuslaw13.BusTight', WHERE WHAT IT READS IS OF BULK AT MOST 1048576: true; the input reads as it did. -/
def busTightUptoRow : OpenClaim := { program := "ytnfnjmllgklaaaagreat", sum := "d580589f14adaced702e06b183c33a853b3c12ce8a7f64fd6311486b8345a5e3", func := "omnibus/omnibuslaw13.BusTight", spec := "busTight", unfollowed := true, recurses := true, apart := false, narrowed := true }
def BusTightUptoSaid : Prop := busTightUptoRow.holds Tryz.pinned (OpenSpec.upto busTightSpec)

/-- 'omnibuslaw13.BusCalm', WHERE WHAT IT READS IS OF BULK AT MOST 1048576: true; the input reads as it did. -/
def busCalmUptoRow : OpenClaim := { program := "ytnfnjmllgklaaaagreat", sum := "d580589f14adaced702e06b183c33a853b3c12ce8a7f64fd6311486b8345a5e3", func := "omnibus/omnibuslaw13.BusCalm", spec := "busCalm", unfollowed := true, recurses := true, apart := false, narrowed := true }
def BusCalmUptoSaid : Prop := busCalmUptoRow.holds Tryz.pinned (OpenSpec.upto busCalmSpec)

end Rows
end Go.Proofs.YtnfnjmllgklaaaaGreat
