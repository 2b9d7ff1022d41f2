/-
  No cell of these rows narrows 'for every input' (looked for: loops, veiled, ifaces, maps, wideKeys, modest, calm, conditions, laid).
  DERIVED. THE GIVEN ROWS OF THIS SEAT. 21 by the template 'for every input the law returns true; each argument reads behind the call as it read before'; 0 by the template 'total and deterministic' (their statements: YtcapkmiinehdlaaTotals.lean).
  GIVEN WITH THE SEED: the statements are not yours to turn. If you find one false, say at which input.
  Laid BY PROGRAM, IN A SANDBOX (cutbox-rows.mjs): the forced cells as the released guide's own fill.sh prints them over the translation c5e9628b894679f5… (all of the seat's roots in one cut). By AI agents, Wed Nov 11 2026. No macro, syntax, notation, axiom, sorry.
-/
import Derived.Test.YtcapkmiinehdlaaChecked
import GoSem.Claim
import GoSem.ClaimJoined
import GoSem.ClaimMapViews
import Derived.JoinedTies
import Derived.KernelRfl
namespace Go.Proofs.Ytcapkmiinehdlaa
/- THE CELL 'sum', in the pinned program and in every row, IS THE sha256 OF THE DUMP (.gsa) THAT YtcapkmiinehdlaaProg.lean LOADS. Nothing in Lean hashes anything: it is a label: what it is worth is what the hold of that sum in a sandbox is worth. -/
noncomputable def Try.pinned : Pinned := { name := "ytcapkmiinehdlaa", sum := "c5e9628b894679f572a14caad6790fda5ab3561bb1553c99efcc991e4cf2ed73", checked := Try.checked }
namespace Rows
def none {H : Type} : Left H := { results := [], args := [] }

/-- 'arenanetlaw01.FixedProducts': WHATEVER THE INPUT: true; the input reads as it did. -/
def fixedProductsSpec : ChangeSpec := { name := "fixedProducts", fn := fun _ => fun
  | [d1, d2, d3] => { results := [.lit (.bool true)], args := [d1, d2, d3] }
  | _ => none }
def fixedProductsRow : OpenClaim := { program := "ytcapkmiinehdlaa", sum := "c5e9628b894679f572a14caad6790fda5ab3561bb1553c99efcc991e4cf2ed73", func := "arenanet/arenanetlaw01.FixedProducts", spec := "fixedProducts", apart := false }
def FixedProductsSaid : Prop := fixedProductsRow.holds Try.pinned (OpenSpec.ofChange fixedProductsSpec)

/-- ITS FALSE NEIGHBOUR: 'it returns false'. Refute it at one input. -/
def fixedProductsWrong : ChangeSpec := { name := "fixedProducts", fn := fun _ => fun
  | [d1, d2, d3] => { results := [.lit (.bool false)], args := [d1, d2, d3] }
  | _ => none }
def FixedProductsWrongFalsely : Prop := fixedProductsRow.holds Try.pinned (OpenSpec.ofChange fixedProductsWrong)

/-- 'arenanetlaw01.FixedMonotone': WHATEVER THE INPUT: true; the input reads as it did. -/
def fixedMonotoneSpec : ChangeSpec := { name := "fixedMonotone", fn := fun _ => fun
  | [d1, d2, d3] => { results := [.lit (.bool true)], args := [d1, d2, d3] }
  | _ => none }
def fixedMonotoneRow : OpenClaim := { program := "ytcapkmiinehdlaa", sum := "c5e9628b894679f572a14caad6790fda5ab3561bb1553c99efcc991e4cf2ed73", func := "arenanet/arenanetlaw01.FixedMonotone", spec := "fixedMonotone", apart := false }
def FixedMonotoneSaid : Prop := fixedMonotoneRow.holds Try.pinned (OpenSpec.ofChange fixedMonotoneSpec)

/-- ITS FALSE NEIGHBOUR: 'it returns false'. Refute it at one input. -/
def fixedMonotoneWrong : ChangeSpec := { name := "fixedMonotone", fn := fun _ => fun
  | [d1, d2, d3] => { results := [.lit (.bool false)], args := [d1, d2, d3] }
  | _ => none }
def FixedMonotoneWrongFalsely : Prop := fixedMonotoneRow.holds Try.pinned (OpenSpec.ofChange fixedMonotoneWrong)

/-- 'arenanetlaw01.FixedNegation': WHATEVER THE INPUT: true; the input reads as it did. -/
def fixedNegationSpec : ChangeSpec := { name := "fixedNegation", fn := fun _ => fun
  | [d1, d2] => { results := [.lit (.bool true)], args := [d1, d2] }
  | _ => none }
def fixedNegationRow : OpenClaim := { program := "ytcapkmiinehdlaa", sum := "c5e9628b894679f572a14caad6790fda5ab3561bb1553c99efcc991e4cf2ed73", func := "arenanet/arenanetlaw01.FixedNegation", spec := "fixedNegation", apart := false }
def FixedNegationSaid : Prop := fixedNegationRow.holds Try.pinned (OpenSpec.ofChange fixedNegationSpec)

/-- ITS FALSE NEIGHBOUR: 'it returns false'. Refute it at one input. -/
def fixedNegationWrong : ChangeSpec := { name := "fixedNegation", fn := fun _ => fun
  | [d1, d2] => { results := [.lit (.bool false)], args := [d1, d2] }
  | _ => none }
def FixedNegationWrongFalsely : Prop := fixedNegationRow.holds Try.pinned (OpenSpec.ofChange fixedNegationWrong)

/-- 'arenanetlaw01.FixedSquares': WHATEVER THE INPUT: true; the input reads as it did. -/
def fixedSquaresSpec : ChangeSpec := { name := "fixedSquares", fn := fun _ => fun
  | [d1, d2, d3] => { results := [.lit (.bool true)], args := [d1, d2, d3] }
  | _ => none }
def fixedSquaresRow : OpenClaim := { program := "ytcapkmiinehdlaa", sum := "c5e9628b894679f572a14caad6790fda5ab3561bb1553c99efcc991e4cf2ed73", func := "arenanet/arenanetlaw01.FixedSquares", spec := "fixedSquares", apart := false }
def FixedSquaresSaid : Prop := fixedSquaresRow.holds Try.pinned (OpenSpec.ofChange fixedSquaresSpec)

/-- ITS FALSE NEIGHBOUR: 'it returns false'. Refute it at one input. -/
def fixedSquaresWrong : ChangeSpec := { name := "fixedSquares", fn := fun _ => fun
  | [d1, d2, d3] => { results := [.lit (.bool false)], args := [d1, d2, d3] }
  | _ => none }
def FixedSquaresWrongFalsely : Prop := fixedSquaresRow.holds Try.pinned (OpenSpec.ofChange fixedSquaresWrong)

/-- 'arenanetlaw01.FixedRoots': WHATEVER THE INPUT: true; the input reads as it did. -/
def fixedRootsSpec : ChangeSpec := { name := "fixedRoots", fn := fun _ => fun
  | [d1, d2] => { results := [.lit (.bool true)], args := [d1, d2] }
  | _ => none }
def fixedRootsRow : OpenClaim := { program := "ytcapkmiinehdlaa", sum := "c5e9628b894679f572a14caad6790fda5ab3561bb1553c99efcc991e4cf2ed73", func := "arenanet/arenanetlaw01.FixedRoots", spec := "fixedRoots", apart := false }
def FixedRootsSaid : Prop := fixedRootsRow.holds Try.pinned (OpenSpec.ofChange fixedRootsSpec)

/-- ITS FALSE NEIGHBOUR: 'it returns false'. Refute it at one input. -/
def fixedRootsWrong : ChangeSpec := { name := "fixedRoots", fn := fun _ => fun
  | [d1, d2] => { results := [.lit (.bool false)], args := [d1, d2] }
  | _ => none }
def FixedRootsWrongFalsely : Prop := fixedRootsRow.holds Try.pinned (OpenSpec.ofChange fixedRootsWrong)

/-- 'arenanetlaw01.FixedRemainder': WHATEVER THE INPUT: true; the input reads as it did. -/
def fixedRemainderSpec : ChangeSpec := { name := "fixedRemainder", fn := fun _ => fun
  | [d1, d2, d3] => { results := [.lit (.bool true)], args := [d1, d2, d3] }
  | _ => none }
def fixedRemainderRow : OpenClaim := { program := "ytcapkmiinehdlaa", sum := "c5e9628b894679f572a14caad6790fda5ab3561bb1553c99efcc991e4cf2ed73", func := "arenanet/arenanetlaw01.FixedRemainder", spec := "fixedRemainder", apart := false }
def FixedRemainderSaid : Prop := fixedRemainderRow.holds Try.pinned (OpenSpec.ofChange fixedRemainderSpec)

/-- ITS FALSE NEIGHBOUR: 'it returns false'. Refute it at one input. -/
def fixedRemainderWrong : ChangeSpec := { name := "fixedRemainder", fn := fun _ => fun
  | [d1, d2, d3] => { results := [.lit (.bool false)], args := [d1, d2, d3] }
  | _ => none }
def FixedRemainderWrongFalsely : Prop := fixedRemainderRow.holds Try.pinned (OpenSpec.ofChange fixedRemainderWrong)

/-- 'arenanetlaw02.VecProducts': WHATEVER THE INPUT: true; the input reads as it did. -/
def vecProductsSpec : ChangeSpec := { name := "vecProducts", fn := fun _ => fun
  | [d] => { results := [.lit (.bool true)], args := [d] }
  | _ => none }
def vecProductsRow : OpenClaim := { program := "ytcapkmiinehdlaa", sum := "c5e9628b894679f572a14caad6790fda5ab3561bb1553c99efcc991e4cf2ed73", func := "arenanet/arenanetlaw02.VecProducts", spec := "vecProducts", unfollowed := true, recurses := true, apart := false }
def VecProductsSaid : Prop := vecProductsRow.holds Try.pinned (OpenSpec.ofChange vecProductsSpec)

/-- ITS FALSE NEIGHBOUR: 'it returns false'. Refute it at one input. -/
def vecProductsWrong : ChangeSpec := { name := "vecProducts", fn := fun _ => fun
  | [d] => { results := [.lit (.bool false)], args := [d] }
  | _ => none }
def VecProductsWrongFalsely : Prop := vecProductsRow.holds Try.pinned (OpenSpec.ofChange vecProductsWrong)

/-- 'arenanetlaw02.VecGroup': WHATEVER THE INPUT: true; the input reads as it did. -/
def vecGroupSpec : ChangeSpec := { name := "vecGroup", fn := fun _ => fun
  | [d] => { results := [.lit (.bool true)], args := [d] }
  | _ => none }
def vecGroupRow : OpenClaim := { program := "ytcapkmiinehdlaa", sum := "c5e9628b894679f572a14caad6790fda5ab3561bb1553c99efcc991e4cf2ed73", func := "arenanet/arenanetlaw02.VecGroup", spec := "vecGroup", unfollowed := true, recurses := true, apart := false }
def VecGroupSaid : Prop := vecGroupRow.holds Try.pinned (OpenSpec.ofChange vecGroupSpec)

/-- ITS FALSE NEIGHBOUR: 'it returns false'. Refute it at one input. -/
def vecGroupWrong : ChangeSpec := { name := "vecGroup", fn := fun _ => fun
  | [d] => { results := [.lit (.bool false)], args := [d] }
  | _ => none }
def VecGroupWrongFalsely : Prop := vecGroupRow.holds Try.pinned (OpenSpec.ofChange vecGroupWrong)

/-- 'arenanetlaw02.VecPerp': WHATEVER THE INPUT: true; the input reads as it did. -/
def vecPerpSpec : ChangeSpec := { name := "vecPerp", fn := fun _ => fun
  | [d] => { results := [.lit (.bool true)], args := [d] }
  | _ => none }
def vecPerpRow : OpenClaim := { program := "ytcapkmiinehdlaa", sum := "c5e9628b894679f572a14caad6790fda5ab3561bb1553c99efcc991e4cf2ed73", func := "arenanet/arenanetlaw02.VecPerp", spec := "vecPerp", unfollowed := true, recurses := true, apart := false }
def VecPerpSaid : Prop := vecPerpRow.holds Try.pinned (OpenSpec.ofChange vecPerpSpec)

/-- ITS FALSE NEIGHBOUR: 'it returns false'. Refute it at one input. -/
def vecPerpWrong : ChangeSpec := { name := "vecPerp", fn := fun _ => fun
  | [d] => { results := [.lit (.bool false)], args := [d] }
  | _ => none }
def VecPerpWrongFalsely : Prop := vecPerpRow.holds Try.pinned (OpenSpec.ofChange vecPerpWrong)

/-- 'arenanetlaw02.VecScales': WHATEVER THE INPUT: true; the input reads as it did. -/
def vecScalesSpec : ChangeSpec := { name := "vecScales", fn := fun _ => fun
  | [d1, d2, d3] => { results := [.lit (.bool true)], args := [d1, d2, d3] }
  | _ => none }
def vecScalesRow : OpenClaim := { program := "ytcapkmiinehdlaa", sum := "c5e9628b894679f572a14caad6790fda5ab3561bb1553c99efcc991e4cf2ed73", func := "arenanet/arenanetlaw02.VecScales", spec := "vecScales", unfollowed := true, recurses := true, apart := false }
def VecScalesSaid : Prop := vecScalesRow.holds Try.pinned (OpenSpec.ofChange vecScalesSpec)

/-- ITS FALSE NEIGHBOUR: 'it returns false'. Refute it at one input. -/
def vecScalesWrong : ChangeSpec := { name := "vecScales", fn := fun _ => fun
  | [d1, d2, d3] => { results := [.lit (.bool false)], args := [d1, d2, d3] }
  | _ => none }
def VecScalesWrongFalsely : Prop := vecScalesRow.holds Try.pinned (OpenSpec.ofChange vecScalesWrong)

/-- 'arenanetlaw02.VecUnit': WHATEVER THE INPUT: true; the input reads as it did. -/
def vecUnitSpec : ChangeSpec := { name := "vecUnit", fn := fun _ => fun
  | [d] => { results := [.lit (.bool true)], args := [d] }
  | _ => none }
def vecUnitRow : OpenClaim := { program := "ytcapkmiinehdlaa", sum := "c5e9628b894679f572a14caad6790fda5ab3561bb1553c99efcc991e4cf2ed73", func := "arenanet/arenanetlaw02.VecUnit", spec := "vecUnit", unfollowed := true, recurses := true, apart := false }
def VecUnitSaid : Prop := vecUnitRow.holds Try.pinned (OpenSpec.ofChange vecUnitSpec)

/-- ITS FALSE NEIGHBOUR: 'it returns false'. Refute it at one input. -/
def vecUnitWrong : ChangeSpec := { name := "vecUnit", fn := fun _ => fun
  | [d] => { results := [.lit (.bool false)], args := [d] }
  | _ => none }
def VecUnitWrongFalsely : Prop := vecUnitRow.holds Try.pinned (OpenSpec.ofChange vecUnitWrong)

/-- 'arenanetlaw01.FixedClamps': WHATEVER THE INPUT: true; the input reads as it did. -/
def fixedClampsSpec : ChangeSpec := { name := "fixedClamps", fn := fun _ => fun
  | [d1, d2, d3] => { results := [.lit (.bool true)], args := [d1, d2, d3] }
  | _ => none }
def fixedClampsRow : OpenClaim := { program := "ytcapkmiinehdlaa", sum := "c5e9628b894679f572a14caad6790fda5ab3561bb1553c99efcc991e4cf2ed73", func := "arenanet/arenanetlaw01.FixedClamps", spec := "fixedClamps", apart := false }
def FixedClampsSaid : Prop := fixedClampsRow.holds Try.pinned (OpenSpec.ofChange fixedClampsSpec)

/-- ITS FALSE NEIGHBOUR: 'it returns false'. Refute it at one input. -/
def fixedClampsWrong : ChangeSpec := { name := "fixedClamps", fn := fun _ => fun
  | [d1, d2, d3] => { results := [.lit (.bool false)], args := [d1, d2, d3] }
  | _ => none }
def FixedClampsWrongFalsely : Prop := fixedClampsRow.holds Try.pinned (OpenSpec.ofChange fixedClampsWrong)

/-- 'arenanetlaw02.VecCauchy': WHATEVER THE INPUT: true; the input reads as it did. -/
def vecCauchySpec : ChangeSpec := { name := "vecCauchy", fn := fun _ => fun
  | [d] => { results := [.lit (.bool true)], args := [d] }
  | _ => none }
def vecCauchyRow : OpenClaim := { program := "ytcapkmiinehdlaa", sum := "c5e9628b894679f572a14caad6790fda5ab3561bb1553c99efcc991e4cf2ed73", func := "arenanet/arenanetlaw02.VecCauchy", spec := "vecCauchy", unfollowed := true, recurses := true, apart := false }
def VecCauchySaid : Prop := vecCauchyRow.holds Try.pinned (OpenSpec.ofChange vecCauchySpec)

/-- ITS FALSE NEIGHBOUR: 'it returns false'. Refute it at one input. -/
def vecCauchyWrong : ChangeSpec := { name := "vecCauchy", fn := fun _ => fun
  | [d] => { results := [.lit (.bool false)], args := [d] }
  | _ => none }
def VecCauchyWrongFalsely : Prop := vecCauchyRow.holds Try.pinned (OpenSpec.ofChange vecCauchyWrong)

/-- 'arenanetlaw02.VecTriangle': WHATEVER THE INPUT: true; the input reads as it did. -/
def vecTriangleSpec : ChangeSpec := { name := "vecTriangle", fn := fun _ => fun
  | [d] => { results := [.lit (.bool true)], args := [d] }
  | _ => none }
def vecTriangleRow : OpenClaim := { program := "ytcapkmiinehdlaa", sum := "c5e9628b894679f572a14caad6790fda5ab3561bb1553c99efcc991e4cf2ed73", func := "arenanet/arenanetlaw02.VecTriangle", spec := "vecTriangle", unfollowed := true, recurses := true, apart := false }
def VecTriangleSaid : Prop := vecTriangleRow.holds Try.pinned (OpenSpec.ofChange vecTriangleSpec)

/-- ITS FALSE NEIGHBOUR: 'it returns false'. Refute it at one input. -/
def vecTriangleWrong : ChangeSpec := { name := "vecTriangle", fn := fun _ => fun
  | [d] => { results := [.lit (.bool false)], args := [d] }
  | _ => none }
def VecTriangleWrongFalsely : Prop := vecTriangleRow.holds Try.pinned (OpenSpec.ofChange vecTriangleWrong)

/-- 'arenanetlaw02.VecComponents': WHATEVER THE INPUT: true; the input reads as it did. -/
def vecComponentsSpec : ChangeSpec := { name := "vecComponents", fn := fun _ => fun
  | [d1, d2, d3] => { results := [.lit (.bool true)], args := [d1, d2, d3] }
  | _ => none }
def vecComponentsRow : OpenClaim := { program := "ytcapkmiinehdlaa", sum := "c5e9628b894679f572a14caad6790fda5ab3561bb1553c99efcc991e4cf2ed73", func := "arenanet/arenanetlaw02.VecComponents", spec := "vecComponents", unfollowed := true, recurses := true, apart := false }
def VecComponentsSaid : Prop := vecComponentsRow.holds Try.pinned (OpenSpec.ofChange vecComponentsSpec)

/-- ITS FALSE NEIGHBOUR: 'it returns false'. Refute it at one input. -/
def vecComponentsWrong : ChangeSpec := { name := "vecComponents", fn := fun _ => fun
  | [d1, d2, d3] => { results := [.lit (.bool false)], args := [d1, d2, d3] }
  | _ => none }
def VecComponentsWrongFalsely : Prop := vecComponentsRow.holds Try.pinned (OpenSpec.ofChange vecComponentsWrong)

/-- 'arenanetlaw07.ResolveExact': WHATEVER THE INPUT: true; the input reads as it did. -/
def resolveExactSpec : ChangeSpec := { name := "resolveExact", fn := fun _ => fun
  | [d1, d2, d3, d4] => { results := [.lit (.bool true)], args := [d1, d2, d3, d4] }
  | _ => none }
def resolveExactRow : OpenClaim := { program := "ytcapkmiinehdlaa", sum := "c5e9628b894679f572a14caad6790fda5ab3561bb1553c99efcc991e4cf2ed73", func := "arenanet/arenanetlaw07.ResolveExact", spec := "resolveExact", unfollowed := true, recurses := true, apart := false }
def ResolveExactSaid : Prop := resolveExactRow.holds Try.pinned (OpenSpec.ofChange resolveExactSpec)

/-- ITS FALSE NEIGHBOUR: 'it returns false'. Refute it at one input. -/
def resolveExactWrong : ChangeSpec := { name := "resolveExact", fn := fun _ => fun
  | [d1, d2, d3, d4] => { results := [.lit (.bool false)], args := [d1, d2, d3, d4] }
  | _ => none }
def ResolveExactWrongFalsely : Prop := resolveExactRow.holds Try.pinned (OpenSpec.ofChange resolveExactWrong)

/-- 'arenanetlaw07.ResolveStatic': WHATEVER THE INPUT: true; the input reads as it did. -/
def resolveStaticSpec : ChangeSpec := { name := "resolveStatic", fn := fun _ => fun
  | [d1, d2, d3, d4] => { results := [.lit (.bool true)], args := [d1, d2, d3, d4] }
  | _ => none }
def resolveStaticRow : OpenClaim := { program := "ytcapkmiinehdlaa", sum := "c5e9628b894679f572a14caad6790fda5ab3561bb1553c99efcc991e4cf2ed73", func := "arenanet/arenanetlaw07.ResolveStatic", spec := "resolveStatic", unfollowed := true, recurses := true, apart := false }
def ResolveStaticSaid : Prop := resolveStaticRow.holds Try.pinned (OpenSpec.ofChange resolveStaticSpec)

/-- ITS FALSE NEIGHBOUR: 'it returns false'. Refute it at one input. -/
def resolveStaticWrong : ChangeSpec := { name := "resolveStatic", fn := fun _ => fun
  | [d1, d2, d3, d4] => { results := [.lit (.bool false)], args := [d1, d2, d3, d4] }
  | _ => none }
def ResolveStaticWrongFalsely : Prop := resolveStaticRow.holds Try.pinned (OpenSpec.ofChange resolveStaticWrong)

/-- 'arenanetlaw07.ResolveMomentum': WHATEVER THE INPUT: true; the input reads as it did. -/
def resolveMomentumSpec : ChangeSpec := { name := "resolveMomentum", fn := fun _ => fun
  | [d1, d2, d3, d4, d5] => { results := [.lit (.bool true)], args := [d1, d2, d3, d4, d5] }
  | _ => none }
def resolveMomentumRow : OpenClaim := { program := "ytcapkmiinehdlaa", sum := "c5e9628b894679f572a14caad6790fda5ab3561bb1553c99efcc991e4cf2ed73", func := "arenanet/arenanetlaw07.ResolveMomentum", spec := "resolveMomentum", unfollowed := true, recurses := true, apart := false }
def ResolveMomentumSaid : Prop := resolveMomentumRow.holds Try.pinned (OpenSpec.ofChange resolveMomentumSpec)

/-- ITS FALSE NEIGHBOUR: 'it returns false'. Refute it at one input. -/
def resolveMomentumWrong : ChangeSpec := { name := "resolveMomentum", fn := fun _ => fun
  | [d1, d2, d3, d4, d5] => { results := [.lit (.bool false)], args := [d1, d2, d3, d4, d5] }
  | _ => none }
def ResolveMomentumWrongFalsely : Prop := resolveMomentumRow.holds Try.pinned (OpenSpec.ofChange resolveMomentumWrong)

/-- 'arenanetlaw07.ResolveShifted': WHATEVER THE INPUT: true; the input reads as it did. -/
def resolveShiftedSpec : ChangeSpec := { name := "resolveShifted", fn := fun _ => fun
  | [d1, d2, d3, d4, d5, d6] => { results := [.lit (.bool true)], args := [d1, d2, d3, d4, d5, d6] }
  | _ => none }
def resolveShiftedRow : OpenClaim := { program := "ytcapkmiinehdlaa", sum := "c5e9628b894679f572a14caad6790fda5ab3561bb1553c99efcc991e4cf2ed73", func := "arenanet/arenanetlaw07.ResolveShifted", spec := "resolveShifted", unfollowed := true, recurses := true, apart := false }
def ResolveShiftedSaid : Prop := resolveShiftedRow.holds Try.pinned (OpenSpec.ofChange resolveShiftedSpec)

/-- ITS FALSE NEIGHBOUR: 'it returns false'. Refute it at one input. -/
def resolveShiftedWrong : ChangeSpec := { name := "resolveShifted", fn := fun _ => fun
  | [d1, d2, d3, d4, d5, d6] => { results := [.lit (.bool false)], args := [d1, d2, d3, d4, d5, d6] }
  | _ => none }
def ResolveShiftedWrongFalsely : Prop := resolveShiftedRow.holds Try.pinned (OpenSpec.ofChange resolveShiftedWrong)

/-- 'arenanetlaw07.ResolveSeparates': WHATEVER THE INPUT: true; the input reads as it did. -/
def resolveSeparatesSpec : ChangeSpec := { name := "resolveSeparates", fn := fun _ => fun
  | [d1, d2, d3, d4] => { results := [.lit (.bool true)], args := [d1, d2, d3, d4] }
  | _ => none }
def resolveSeparatesRow : OpenClaim := { program := "ytcapkmiinehdlaa", sum := "c5e9628b894679f572a14caad6790fda5ab3561bb1553c99efcc991e4cf2ed73", func := "arenanet/arenanetlaw07.ResolveSeparates", spec := "resolveSeparates", unfollowed := true, recurses := true, apart := false }
def ResolveSeparatesSaid : Prop := resolveSeparatesRow.holds Try.pinned (OpenSpec.ofChange resolveSeparatesSpec)

/-- ITS FALSE NEIGHBOUR: 'it returns false'. Refute it at one input. -/
def resolveSeparatesWrong : ChangeSpec := { name := "resolveSeparates", fn := fun _ => fun
  | [d1, d2, d3, d4] => { results := [.lit (.bool false)], args := [d1, d2, d3, d4] }
  | _ => none }
def ResolveSeparatesWrongFalsely : Prop := resolveSeparatesRow.holds Try.pinned (OpenSpec.ofChange resolveSeparatesWrong)

/-- 'arenanetlaw07.ResolveSwapped': WHATEVER THE INPUT: true; the input reads as it did. -/
def resolveSwappedSpec : ChangeSpec := { name := "resolveSwapped", fn := fun _ => fun
  | [d1, d2, d3, d4, d5] => { results := [.lit (.bool true)], args := [d1, d2, d3, d4, d5] }
  | _ => none }
def resolveSwappedRow : OpenClaim := { program := "ytcapkmiinehdlaa", sum := "c5e9628b894679f572a14caad6790fda5ab3561bb1553c99efcc991e4cf2ed73", func := "arenanet/arenanetlaw07.ResolveSwapped", spec := "resolveSwapped", unfollowed := true, recurses := true, apart := false }
def ResolveSwappedSaid : Prop := resolveSwappedRow.holds Try.pinned (OpenSpec.ofChange resolveSwappedSpec)

/-- ITS FALSE NEIGHBOUR: 'it returns false'. Refute it at one input. -/
def resolveSwappedWrong : ChangeSpec := { name := "resolveSwapped", fn := fun _ => fun
  | [d1, d2, d3, d4, d5] => { results := [.lit (.bool false)], args := [d1, d2, d3, d4, d5] }
  | _ => none }
def ResolveSwappedWrongFalsely : Prop := resolveSwappedRow.holds Try.pinned (OpenSpec.ofChange resolveSwappedWrong)

/- THE SECOND FORM. 'bulk': how many values and letters a reading holds, each counted each time it is reached (what is shared counts as often as it is met; a slice's spare places count too). A statement '..UptoSaid' is the law's where the arguments, and the package variables that the reading takes, are together of bulk at most 1048576: NARROWER than '..Said'. Prove '..Said' where nothing that the law and all that it calls make is longer than what came in: it says more and counts as full. Else prove '..UptoSaid'. A law counts once. -/
mutual
def uptoBulk {H : Type} : DataW H → Nat
  | .lit (.string bytes) => bytes.length + 1
  | .lit _ => 1
  | .nil => 1
  | .ptr d => uptoBulk d + 1
  | .slice elems spare => uptoBulkAll elems + uptoBulkAll spare + 1
  | .agg parts => uptoBulkAll parts + 1
  | .iface _ d => uptoBulk d + 1
  | .map entries => uptoBulkEntries entries + 1
  | .held _ => 1
def uptoBulkAll {H : Type} : List (DataW H) → Nat
  | [] => 0
  | d :: r => uptoBulk d + uptoBulkAll r
def uptoBulkEntries {H : Type} : List (Lit × DataW H) → Nat
  | [] => 0
  | x :: r => uptoBulkEntry x + uptoBulkEntries r
def uptoBulkEntry {H : Type} : Lit × DataW H → Nat
  | (.string bytes, d) => bytes.length + uptoBulk d + 1
  | (_, d) => uptoBulk d + 1
 end
def uptoSmall : (H : Type) → List (DataW H) → Bool := fun _ ds => decide (uptoBulkAll ds ≤ 1048576)
def OpenSpec.upto (s : _root_.Go.ChangeSpec) : _root_.Go.OpenSpec := { _root_.Go.OpenSpec.ofChange s with cond := some uptoSmall }

/-- 'arenanetlaw01.FixedProducts', WHERE WHAT IT READS IS OF BULK AT MOST 1048576: true; the input reads as it did. -/
def fixedProductsUptoRow : OpenClaim := { program := "ytcapkmiinehdlaa", sum := "c5e9628b894679f572a14caad6790fda5ab3561bb1553c99efcc991e4cf2ed73", func := "arenanet/arenanetlaw01.FixedProducts", spec := "fixedProducts", apart := false, narrowed := true }
def FixedProductsUptoSaid : Prop := fixedProductsUptoRow.holds Try.pinned (OpenSpec.upto fixedProductsSpec)

/-- 'arenanetlaw01.FixedMonotone', WHERE WHAT IT READS IS OF BULK AT MOST 1048576: true; the input reads as it did. -/
def fixedMonotoneUptoRow : OpenClaim := { program := "ytcapkmiinehdlaa", sum := "c5e9628b894679f572a14caad6790fda5ab3561bb1553c99efcc991e4cf2ed73", func := "arenanet/arenanetlaw01.FixedMonotone", spec := "fixedMonotone", apart := false, narrowed := true }
def FixedMonotoneUptoSaid : Prop := fixedMonotoneUptoRow.holds Try.pinned (OpenSpec.upto fixedMonotoneSpec)

/-- 'arenanetlaw01.FixedNegation', WHERE WHAT IT READS IS OF BULK AT MOST 1048576: true; the input reads as it did. -/
def fixedNegationUptoRow : OpenClaim := { program := "ytcapkmiinehdlaa", sum := "c5e9628b894679f572a14caad6790fda5ab3561bb1553c99efcc991e4cf2ed73", func := "arenanet/arenanetlaw01.FixedNegation", spec := "fixedNegation", apart := false, narrowed := true }
def FixedNegationUptoSaid : Prop := fixedNegationUptoRow.holds Try.pinned (OpenSpec.upto fixedNegationSpec)

/-- 'arenanetlaw01.FixedSquares', WHERE WHAT IT READS IS OF BULK AT MOST 1048576: true; the input reads as it did. -/
def fixedSquaresUptoRow : OpenClaim := { program := "ytcapkmiinehdlaa", sum := "c5e9628b894679f572a14caad6790fda5ab3561bb1553c99efcc991e4cf2ed73", func := "arenanet/arenanetlaw01.FixedSquares", spec := "fixedSquares", apart := false, narrowed := true }
def FixedSquaresUptoSaid : Prop := fixedSquaresUptoRow.holds Try.pinned (OpenSpec.upto fixedSquaresSpec)

/-- 'arenanetlaw01.FixedRoots', WHERE WHAT IT READS IS OF BULK AT MOST 1048576: true; the input reads as it did. -/
def fixedRootsUptoRow : OpenClaim := { program := "ytcapkmiinehdlaa", sum := "c5e9628b894679f572a14caad6790fda5ab3561bb1553c99efcc991e4cf2ed73", func := "arenanet/arenanetlaw01.FixedRoots", spec := "fixedRoots", apart := false, narrowed := true }
def FixedRootsUptoSaid : Prop := fixedRootsUptoRow.holds Try.pinned (OpenSpec.upto fixedRootsSpec)

/-- 'arenanetlaw01.FixedRemainder', WHERE WHAT IT READS IS OF BULK AT MOST 1048576: true; the input reads as it did. -/
def fixedRemainderUptoRow : OpenClaim := { program := "ytcapkmiinehdlaa", sum := "c5e9628b894679f572a14caad6790fda5ab3561bb1553c99efcc991e4cf2ed73", func := "arenanet/arenanetlaw01.FixedRemainder", spec := "fixedRemainder", apart := false, narrowed := true }
def FixedRemainderUptoSaid : Prop := fixedRemainderUptoRow.holds Try.pinned (OpenSpec.upto fixedRemainderSpec)

/-- 'arenanetlaw02.VecProducts', WHERE WHAT IT READS IS OF BULK AT MOST 1048576: true; the input reads as it did. -/
def vecProductsUptoRow : OpenClaim := { program := "ytcapkmiinehdlaa", sum := "c5e9628b894679f572a14caad6790fda5ab3561bb1553c99efcc991e4cf2ed73", func := "arenanet/arenanetlaw02.VecProducts", spec := "vecProducts", unfollowed := true, recurses := true, apart := false, narrowed := true }
def VecProductsUptoSaid : Prop := vecProductsUptoRow.holds Try.pinned (OpenSpec.upto vecProductsSpec)

/-- 'arenanetlaw02.VecGroup', WHERE WHAT IT READS IS OF BULK AT MOST 1048576: true; the input reads as it did. -/
def vecGroupUptoRow : OpenClaim := { program := "ytcapkmiinehdlaa", sum := "c5e9628b894679f572a14caad6790fda5ab3561bb1553c99efcc991e4cf2ed73", func := "arenanet/arenanetlaw02.VecGroup", spec := "vecGroup", unfollowed := true, recurses := true, apart := false, narrowed := true }
def VecGroupUptoSaid : Prop := vecGroupUptoRow.holds Try.pinned (OpenSpec.upto vecGroupSpec)

/-- 'arenanetlaw02.VecPerp', WHERE WHAT IT READS IS OF BULK AT MOST 1048576: true; the input reads as it did. -/
def vecPerpUptoRow : OpenClaim := { program := "ytcapkmiinehdlaa", sum := "c5e9628b894679f572a14caad6790fda5ab3561bb1553c99efcc991e4cf2ed73", func := "arenanet/arenanetlaw02.VecPerp", spec := "vecPerp", unfollowed := true, recurses := true, apart := false, narrowed := true }
def VecPerpUptoSaid : Prop := vecPerpUptoRow.holds Try.pinned (OpenSpec.upto vecPerpSpec)

/-- 'arenanetlaw02.VecScales', WHERE WHAT IT READS IS OF BULK AT MOST 1048576: true; the input reads as it did. -/
def vecScalesUptoRow : OpenClaim := { program := "ytcapkmiinehdlaa", sum := "c5e9628b894679f572a14caad6790fda5ab3561bb1553c99efcc991e4cf2ed73", func := "arenanet/arenanetlaw02.VecScales", spec := "vecScales", unfollowed := true, recurses := true, apart := false, narrowed := true }
def VecScalesUptoSaid : Prop := vecScalesUptoRow.holds Try.pinned (OpenSpec.upto vecScalesSpec)

/-- 'arenanetlaw02.VecUnit', WHERE WHAT IT READS IS OF BULK AT MOST 1048576: true; the input reads as it did. -/
def vecUnitUptoRow : OpenClaim := { program := "ytcapkmiinehdlaa", sum := "c5e9628b894679f572a14caad6790fda5ab3561bb1553c99efcc991e4cf2ed73", func := "arenanet/arenanetlaw02.VecUnit", spec := "vecUnit", unfollowed := true, recurses := true, apart := false, narrowed := true }
def VecUnitUptoSaid : Prop := vecUnitUptoRow.holds Try.pinned (OpenSpec.upto vecUnitSpec)

/-- 'arenanetlaw01.FixedClamps', WHERE WHAT IT READS IS OF BULK AT MOST 1048576: true; the input reads as it did. -/
def fixedClampsUptoRow : OpenClaim := { program := "ytcapkmiinehdlaa", sum := "c5e9628b894679f572a14caad6790fda5ab3561bb1553c99efcc991e4cf2ed73", func := "arenanet/arenanetlaw01.FixedClamps", spec := "fixedClamps", apart := false, narrowed := true }
def FixedClampsUptoSaid : Prop := fixedClampsUptoRow.holds Try.pinned (OpenSpec.upto fixedClampsSpec)

/-- 'arenanetlaw02.VecCauchy', WHERE WHAT IT READS IS OF BULK AT MOST 1048576: true; the input reads as it did. -/
def vecCauchyUptoRow : OpenClaim := { program := "ytcapkmiinehdlaa", sum := "c5e9628b894679f572a14caad6790fda5ab3561bb1553c99efcc991e4cf2ed73", func := "arenanet/arenanetlaw02.VecCauchy", spec := "vecCauchy", unfollowed := true, recurses := true, apart := false, narrowed := true }
def VecCauchyUptoSaid : Prop := vecCauchyUptoRow.holds Try.pinned (OpenSpec.upto vecCauchySpec)

/-- 'arenanetlaw02.VecTriangle', WHERE WHAT IT READS IS OF BULK AT MOST 1048576: true; the input reads as it did. -/
def vecTriangleUptoRow : OpenClaim := { program := "ytcapkmiinehdlaa", sum := "c5e9628b894679f572a14caad6790fda5ab3561bb1553c99efcc991e4cf2ed73", func := "arenanet/arenanetlaw02.VecTriangle", spec := "vecTriangle", unfollowed := true, recurses := true, apart := false, narrowed := true }
def VecTriangleUptoSaid : Prop := vecTriangleUptoRow.holds Try.pinned (OpenSpec.upto vecTriangleSpec)

/-- 'arenanetlaw02.VecComponents', WHERE WHAT IT READS IS OF BULK AT MOST 1048576: true; the input reads as it did. -/
def vecComponentsUptoRow : OpenClaim := { program := "ytcapkmiinehdlaa", sum := "c5e9628b894679f572a14caad6790fda5ab3561bb1553c99efcc991e4cf2ed73", func := "arenanet/arenanetlaw02.VecComponents", spec := "vecComponents", unfollowed := true, recurses := true, apart := false, narrowed := true }
def VecComponentsUptoSaid : Prop := vecComponentsUptoRow.holds Try.pinned (OpenSpec.upto vecComponentsSpec)

/-- 'arenanetlaw07.ResolveExact', WHERE WHAT IT READS IS OF BULK AT MOST 1048576: true; the input reads as it did. -/
def resolveExactUptoRow : OpenClaim := { program := "ytcapkmiinehdlaa", sum := "c5e9628b894679f572a14caad6790fda5ab3561bb1553c99efcc991e4cf2ed73", func := "arenanet/arenanetlaw07.ResolveExact", spec := "resolveExact", unfollowed := true, recurses := true, apart := false, narrowed := true }
def ResolveExactUptoSaid : Prop := resolveExactUptoRow.holds Try.pinned (OpenSpec.upto resolveExactSpec)

/-- 'arenanetlaw07.ResolveStatic', WHERE WHAT IT READS IS OF BULK AT MOST 1048576: true; the input reads as it did. -/
def resolveStaticUptoRow : OpenClaim := { program := "ytcapkmiinehdlaa", sum := "c5e9628b894679f572a14caad6790fda5ab3561bb1553c99efcc991e4cf2ed73", func := "arenanet/arenanetlaw07.ResolveStatic", spec := "resolveStatic", unfollowed := true, recurses := true, apart := false, narrowed := true }
def ResolveStaticUptoSaid : Prop := resolveStaticUptoRow.holds Try.pinned (OpenSpec.upto resolveStaticSpec)

/-- 'arenanetlaw07.ResolveMomentum', WHERE WHAT IT READS IS OF BULK AT MOST 1048576: true; the input reads as it did. -/
def resolveMomentumUptoRow : OpenClaim := { program := "ytcapkmiinehdlaa", sum := "c5e9628b894679f572a14caad6790fda5ab3561bb1553c99efcc991e4cf2ed73", func := "arenanet/arenanetlaw07.ResolveMomentum", spec := "resolveMomentum", unfollowed := true, recurses := true, apart := false, narrowed := true }
def ResolveMomentumUptoSaid : Prop := resolveMomentumUptoRow.holds Try.pinned (OpenSpec.upto resolveMomentumSpec)

/-- 'arenanetlaw07.ResolveShifted', WHERE WHAT IT READS IS OF BULK AT MOST 1048576: true; the input reads as it did. -/
def resolveShiftedUptoRow : OpenClaim := { program := "ytcapkmiinehdlaa", sum := "c5e9628b894679f572a14caad6790fda5ab3561bb1553c99efcc991e4cf2ed73", func := "arenanet/arenanetlaw07.ResolveShifted", spec := "resolveShifted", unfollowed := true, recurses := true, apart := false, narrowed := true }
def ResolveShiftedUptoSaid : Prop := resolveShiftedUptoRow.holds Try.pinned (OpenSpec.upto resolveShiftedSpec)

/-- 'arenanetlaw07.ResolveSeparates', WHERE WHAT IT READS IS OF BULK AT MOST 1048576: true; the input reads as it did. -/
def resolveSeparatesUptoRow : OpenClaim := { program := "ytcapkmiinehdlaa", sum := "c5e9628b894679f572a14caad6790fda5ab3561bb1553c99efcc991e4cf2ed73", func := "arenanet/arenanetlaw07.ResolveSeparates", spec := "resolveSeparates", unfollowed := true, recurses := true, apart := false, narrowed := true }
def ResolveSeparatesUptoSaid : Prop := resolveSeparatesUptoRow.holds Try.pinned (OpenSpec.upto resolveSeparatesSpec)

/-- 'arenanetlaw07.ResolveSwapped', WHERE WHAT IT READS IS OF BULK AT MOST 1048576: true; the input reads as it did. -/
def resolveSwappedUptoRow : OpenClaim := { program := "ytcapkmiinehdlaa", sum := "c5e9628b894679f572a14caad6790fda5ab3561bb1553c99efcc991e4cf2ed73", func := "arenanet/arenanetlaw07.ResolveSwapped", spec := "resolveSwapped", unfollowed := true, recurses := true, apart := false, narrowed := true }
def ResolveSwappedUptoSaid : Prop := resolveSwappedUptoRow.holds Try.pinned (OpenSpec.upto resolveSwappedSpec)

end Rows
end Go.Proofs.Ytcapkmiinehdlaa
