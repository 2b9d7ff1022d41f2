/-
  No cell of these rows narrows 'for every input' (looked for: loops, veiled, ifaces, maps, wideKeys, modest, calm, conditions, laid).
  DERIVED. THE GIVEN ROWS OF THIS SEAT. 22 by the template 'for every input the law returns true; each argument reads behind the call as it read before'; 0 by the template 'total and deterministic' (their statements: YtipcppbbpmdijaaTotals.lean).
  GIVEN WITH THE SEED: the statements are not yours to turn. If you find one false, say at which input.
  Laid BY PROGRAM, IN A SANDBOX (cutbox-rows.mjs): the forced cells as the released guide's own fill.sh prints them over the translation 1ccce7f7d0d99866… (all of the seat's roots in one cut). By AI agents, Wed Nov 11 2026. No macro, syntax, notation, axiom, sorry.
-/
import Derived.Test.YtipcppbbpmdijaaChecked
import GoSem.Claim
import GoSem.ClaimJoined
import GoSem.ClaimMapViews
import Derived.JoinedTies
import Derived.KernelRfl
namespace Go.Proofs.Ytipcppbbpmdijaa
/- THE CELL 'sum', in the pinned program and in every row, IS THE sha256 OF THE DUMP (.gsa) THAT YtipcppbbpmdijaaProg.lean LOADS. Nothing in Lean hashes anything: it is a label: what it is worth is what the hold of that sum in a sandbox is worth. -/
noncomputable def Try.pinned : Pinned := { name := "ytipcppbbpmdijaa", sum := "1ccce7f7d0d998662855de7513d4f058fc67cc2ae13204a24dd9705b0e74d204", checked := Try.checked }
namespace Rows
def none {H : Type} : Left H := { results := [], args := [] }

/-- 'arenanetlaw03.ShapeStar': WHATEVER THE INPUT: true; the input reads as it did. -/
def shapeStarSpec : ChangeSpec := { name := "shapeStar", fn := fun _ => fun
  | [d] => { results := [.lit (.bool true)], args := [d] }
  | _ => none }
def shapeStarRow : OpenClaim := { program := "ytipcppbbpmdijaa", sum := "1ccce7f7d0d998662855de7513d4f058fc67cc2ae13204a24dd9705b0e74d204", func := "arenanet/arenanetlaw03.ShapeStar", spec := "shapeStar", unfollowed := true, recurses := true, apart := false }
def ShapeStarSaid : Prop := shapeStarRow.holds Try.pinned (OpenSpec.ofChange shapeStarSpec)

/-- ITS FALSE NEIGHBOUR: 'it returns false'. Refute it at one input. -/
def shapeStarWrong : ChangeSpec := { name := "shapeStar", fn := fun _ => fun
  | [d] => { results := [.lit (.bool false)], args := [d] }
  | _ => none }
def ShapeStarWrongFalsely : Prop := shapeStarRow.holds Try.pinned (OpenSpec.ofChange shapeStarWrong)

/-- 'arenanetlaw03.ShapeBounds': WHATEVER THE INPUT: true; the input reads as it did. -/
def shapeBoundsSpec : ChangeSpec := { name := "shapeBounds", fn := fun _ => fun
  | [d1, d2, d3, d4, d5] => { results := [.lit (.bool true)], args := [d1, d2, d3, d4, d5] }
  | _ => none }
def shapeBoundsRow : OpenClaim := { program := "ytipcppbbpmdijaa", sum := "1ccce7f7d0d998662855de7513d4f058fc67cc2ae13204a24dd9705b0e74d204", func := "arenanet/arenanetlaw03.ShapeBounds", spec := "shapeBounds", unfollowed := true, recurses := true, apart := false }
def ShapeBoundsSaid : Prop := shapeBoundsRow.holds Try.pinned (OpenSpec.ofChange shapeBoundsSpec)

/-- ITS FALSE NEIGHBOUR: 'it returns false'. Refute it at one input. -/
def shapeBoundsWrong : ChangeSpec := { name := "shapeBounds", fn := fun _ => fun
  | [d1, d2, d3, d4, d5] => { results := [.lit (.bool false)], args := [d1, d2, d3, d4, d5] }
  | _ => none }
def ShapeBoundsWrongFalsely : Prop := shapeBoundsRow.holds Try.pinned (OpenSpec.ofChange shapeBoundsWrong)

/-- 'arenanetlaw03.ShapeConvex': WHATEVER THE INPUT: true; the input reads as it did. -/
def shapeConvexSpec : ChangeSpec := { name := "shapeConvex", fn := fun _ => fun
  | [d1, d2, d3, d4, d5] => { results := [.lit (.bool true)], args := [d1, d2, d3, d4, d5] }
  | _ => none }
def shapeConvexRow : OpenClaim := { program := "ytipcppbbpmdijaa", sum := "1ccce7f7d0d998662855de7513d4f058fc67cc2ae13204a24dd9705b0e74d204", func := "arenanet/arenanetlaw03.ShapeConvex", spec := "shapeConvex", unfollowed := true, recurses := true, apart := false }
def ShapeConvexSaid : Prop := shapeConvexRow.holds Try.pinned (OpenSpec.ofChange shapeConvexSpec)

/-- ITS FALSE NEIGHBOUR: 'it returns false'. Refute it at one input. -/
def shapeConvexWrong : ChangeSpec := { name := "shapeConvex", fn := fun _ => fun
  | [d1, d2, d3, d4, d5] => { results := [.lit (.bool false)], args := [d1, d2, d3, d4, d5] }
  | _ => none }
def ShapeConvexWrongFalsely : Prop := shapeConvexRow.holds Try.pinned (OpenSpec.ofChange shapeConvexWrong)

/-- 'arenanetlaw03.ShapeQueries': WHATEVER THE INPUT: true; the input reads as it did. -/
def shapeQueriesSpec : ChangeSpec := { name := "shapeQueries", fn := fun _ => fun
  | [d1, d2, d3, d4, d5, d6, d7] => { results := [.lit (.bool true)], args := [d1, d2, d3, d4, d5, d6, d7] }
  | _ => none }
def shapeQueriesRow : OpenClaim := { program := "ytipcppbbpmdijaa", sum := "1ccce7f7d0d998662855de7513d4f058fc67cc2ae13204a24dd9705b0e74d204", func := "arenanet/arenanetlaw03.ShapeQueries", spec := "shapeQueries", unfollowed := true, recurses := true, apart := false }
def ShapeQueriesSaid : Prop := shapeQueriesRow.holds Try.pinned (OpenSpec.ofChange shapeQueriesSpec)

/-- ITS FALSE NEIGHBOUR: 'it returns false'. Refute it at one input. -/
def shapeQueriesWrong : ChangeSpec := { name := "shapeQueries", fn := fun _ => fun
  | [d1, d2, d3, d4, d5, d6, d7] => { results := [.lit (.bool false)], args := [d1, d2, d3, d4, d5, d6, d7] }
  | _ => none }
def ShapeQueriesWrongFalsely : Prop := shapeQueriesRow.holds Try.pinned (OpenSpec.ofChange shapeQueriesWrong)

/-- 'arenanetlaw03.ShapeProjection': WHATEVER THE INPUT: true; the input reads as it did. -/
def shapeProjectionSpec : ChangeSpec := { name := "shapeProjection", fn := fun _ => fun
  | [d1, d2, d3, d4, d5, d6, d7] => { results := [.lit (.bool true)], args := [d1, d2, d3, d4, d5, d6, d7] }
  | _ => none }
def shapeProjectionRow : OpenClaim := { program := "ytipcppbbpmdijaa", sum := "1ccce7f7d0d998662855de7513d4f058fc67cc2ae13204a24dd9705b0e74d204", func := "arenanet/arenanetlaw03.ShapeProjection", spec := "shapeProjection", unfollowed := true, recurses := true, apart := false }
def ShapeProjectionSaid : Prop := shapeProjectionRow.holds Try.pinned (OpenSpec.ofChange shapeProjectionSpec)

/-- ITS FALSE NEIGHBOUR: 'it returns false'. Refute it at one input. -/
def shapeProjectionWrong : ChangeSpec := { name := "shapeProjection", fn := fun _ => fun
  | [d1, d2, d3, d4, d5, d6, d7] => { results := [.lit (.bool false)], args := [d1, d2, d3, d4, d5, d6, d7] }
  | _ => none }
def ShapeProjectionWrongFalsely : Prop := shapeProjectionRow.holds Try.pinned (OpenSpec.ofChange shapeProjectionWrong)

/-- 'arenanetlaw03.ShapeTranslation': WHATEVER THE INPUT: true; the input reads as it did. -/
def shapeTranslationSpec : ChangeSpec := { name := "shapeTranslation", fn := fun _ => fun
  | [d1, d2, d3, d4, d5, d6, d7] => { results := [.lit (.bool true)], args := [d1, d2, d3, d4, d5, d6, d7] }
  | _ => none }
def shapeTranslationRow : OpenClaim := { program := "ytipcppbbpmdijaa", sum := "1ccce7f7d0d998662855de7513d4f058fc67cc2ae13204a24dd9705b0e74d204", func := "arenanet/arenanetlaw03.ShapeTranslation", spec := "shapeTranslation", unfollowed := true, recurses := true, apart := false }
def ShapeTranslationSaid : Prop := shapeTranslationRow.holds Try.pinned (OpenSpec.ofChange shapeTranslationSpec)

/-- ITS FALSE NEIGHBOUR: 'it returns false'. Refute it at one input. -/
def shapeTranslationWrong : ChangeSpec := { name := "shapeTranslation", fn := fun _ => fun
  | [d1, d2, d3, d4, d5, d6, d7] => { results := [.lit (.bool false)], args := [d1, d2, d3, d4, d5, d6, d7] }
  | _ => none }
def ShapeTranslationWrongFalsely : Prop := shapeTranslationRow.holds Try.pinned (OpenSpec.ofChange shapeTranslationWrong)

/-- 'arenanetlaw03.ShapeFirstVertex': WHATEVER THE INPUT: true; the input reads as it did. -/
def shapeFirstVertexSpec : ChangeSpec := { name := "shapeFirstVertex", fn := fun _ => fun
  | [d1, d2, d3, d4, d5, d6] => { results := [.lit (.bool true)], args := [d1, d2, d3, d4, d5, d6] }
  | _ => none }
def shapeFirstVertexRow : OpenClaim := { program := "ytipcppbbpmdijaa", sum := "1ccce7f7d0d998662855de7513d4f058fc67cc2ae13204a24dd9705b0e74d204", func := "arenanet/arenanetlaw03.ShapeFirstVertex", spec := "shapeFirstVertex", unfollowed := true, recurses := true, apart := false }
def ShapeFirstVertexSaid : Prop := shapeFirstVertexRow.holds Try.pinned (OpenSpec.ofChange shapeFirstVertexSpec)

/-- ITS FALSE NEIGHBOUR: 'it returns false'. Refute it at one input. -/
def shapeFirstVertexWrong : ChangeSpec := { name := "shapeFirstVertex", fn := fun _ => fun
  | [d1, d2, d3, d4, d5, d6] => { results := [.lit (.bool false)], args := [d1, d2, d3, d4, d5, d6] }
  | _ => none }
def ShapeFirstVertexWrongFalsely : Prop := shapeFirstVertexRow.holds Try.pinned (OpenSpec.ofChange shapeFirstVertexWrong)

/-- 'arenanetlaw05.CollideSwap': WHATEVER THE INPUT: true; the input reads as it did. -/
def collideSwapSpec : ChangeSpec := { name := "collideSwap", fn := fun _ => fun
  | [d1, d2, d3, d4] => { results := [.lit (.bool true)], args := [d1, d2, d3, d4] }
  | _ => none }
def collideSwapRow : OpenClaim := { program := "ytipcppbbpmdijaa", sum := "1ccce7f7d0d998662855de7513d4f058fc67cc2ae13204a24dd9705b0e74d204", func := "arenanet/arenanetlaw05.CollideSwap", spec := "collideSwap", unfollowed := true, recurses := true, apart := false }
def CollideSwapSaid : Prop := collideSwapRow.holds Try.pinned (OpenSpec.ofChange collideSwapSpec)

/-- ITS FALSE NEIGHBOUR: 'it returns false'. Refute it at one input. -/
def collideSwapWrong : ChangeSpec := { name := "collideSwap", fn := fun _ => fun
  | [d1, d2, d3, d4] => { results := [.lit (.bool false)], args := [d1, d2, d3, d4] }
  | _ => none }
def CollideSwapWrongFalsely : Prop := collideSwapRow.holds Try.pinned (OpenSpec.ofChange collideSwapWrong)

/-- 'arenanetlaw05.CollideGrow': WHATEVER THE INPUT: true; the input reads as it did. -/
def collideGrowSpec : ChangeSpec := { name := "collideGrow", fn := fun _ => fun
  | [d1, d2, d3, d4] => { results := [.lit (.bool true)], args := [d1, d2, d3, d4] }
  | _ => none }
def collideGrowRow : OpenClaim := { program := "ytipcppbbpmdijaa", sum := "1ccce7f7d0d998662855de7513d4f058fc67cc2ae13204a24dd9705b0e74d204", func := "arenanet/arenanetlaw05.CollideGrow", spec := "collideGrow", unfollowed := true, recurses := true, apart := false }
def CollideGrowSaid : Prop := collideGrowRow.holds Try.pinned (OpenSpec.ofChange collideGrowSpec)

/-- ITS FALSE NEIGHBOUR: 'it returns false'. Refute it at one input. -/
def collideGrowWrong : ChangeSpec := { name := "collideGrow", fn := fun _ => fun
  | [d1, d2, d3, d4] => { results := [.lit (.bool false)], args := [d1, d2, d3, d4] }
  | _ => none }
def CollideGrowWrongFalsely : Prop := collideGrowRow.holds Try.pinned (OpenSpec.ofChange collideGrowWrong)

/-- 'arenanetlaw05.CollideCircles': WHATEVER THE INPUT: true; the input reads as it did. -/
def collideCirclesSpec : ChangeSpec := { name := "collideCircles", fn := fun _ => fun
  | [d1, d2, d3] => { results := [.lit (.bool true)], args := [d1, d2, d3] }
  | _ => none }
def collideCirclesRow : OpenClaim := { program := "ytipcppbbpmdijaa", sum := "1ccce7f7d0d998662855de7513d4f058fc67cc2ae13204a24dd9705b0e74d204", func := "arenanet/arenanetlaw05.CollideCircles", spec := "collideCircles", unfollowed := true, recurses := true, apart := false }
def CollideCirclesSaid : Prop := collideCirclesRow.holds Try.pinned (OpenSpec.ofChange collideCirclesSpec)

/-- ITS FALSE NEIGHBOUR: 'it returns false'. Refute it at one input. -/
def collideCirclesWrong : ChangeSpec := { name := "collideCircles", fn := fun _ => fun
  | [d1, d2, d3] => { results := [.lit (.bool false)], args := [d1, d2, d3] }
  | _ => none }
def CollideCirclesWrongFalsely : Prop := collideCirclesRow.holds Try.pinned (OpenSpec.ofChange collideCirclesWrong)

/-- 'arenanetlaw05.CollideMatches': WHATEVER THE INPUT: true; the input reads as it did. -/
def collideMatchesSpec : ChangeSpec := { name := "collideMatches", fn := fun _ => fun
  | [d1, d2, d3] => { results := [.lit (.bool true)], args := [d1, d2, d3] }
  | _ => none }
def collideMatchesRow : OpenClaim := { program := "ytipcppbbpmdijaa", sum := "1ccce7f7d0d998662855de7513d4f058fc67cc2ae13204a24dd9705b0e74d204", func := "arenanet/arenanetlaw05.CollideMatches", spec := "collideMatches", unfollowed := true, recurses := true, apart := false }
def CollideMatchesSaid : Prop := collideMatchesRow.holds Try.pinned (OpenSpec.ofChange collideMatchesSpec)

/-- ITS FALSE NEIGHBOUR: 'it returns false'. Refute it at one input. -/
def collideMatchesWrong : ChangeSpec := { name := "collideMatches", fn := fun _ => fun
  | [d1, d2, d3] => { results := [.lit (.bool false)], args := [d1, d2, d3] }
  | _ => none }
def CollideMatchesWrongFalsely : Prop := collideMatchesRow.holds Try.pinned (OpenSpec.ofChange collideMatchesWrong)

/-- 'arenanetlaw05.CollideLeast': WHATEVER THE INPUT: true; the input reads as it did. -/
def collideLeastSpec : ChangeSpec := { name := "collideLeast", fn := fun _ => fun
  | [d1, d2, d3] => { results := [.lit (.bool true)], args := [d1, d2, d3] }
  | _ => none }
def collideLeastRow : OpenClaim := { program := "ytipcppbbpmdijaa", sum := "1ccce7f7d0d998662855de7513d4f058fc67cc2ae13204a24dd9705b0e74d204", func := "arenanet/arenanetlaw05.CollideLeast", spec := "collideLeast", unfollowed := true, recurses := true, apart := false }
def CollideLeastSaid : Prop := collideLeastRow.holds Try.pinned (OpenSpec.ofChange collideLeastSpec)

/-- ITS FALSE NEIGHBOUR: 'it returns false'. Refute it at one input. -/
def collideLeastWrong : ChangeSpec := { name := "collideLeast", fn := fun _ => fun
  | [d1, d2, d3] => { results := [.lit (.bool false)], args := [d1, d2, d3] }
  | _ => none }
def CollideLeastWrongFalsely : Prop := collideLeastRow.holds Try.pinned (OpenSpec.ofChange collideLeastWrong)

/-- 'arenanetlaw05.CollideShift': WHATEVER THE INPUT: true; the input reads as it did. -/
def collideShiftSpec : ChangeSpec := { name := "collideShift", fn := fun _ => fun
  | [d1, d2, d3, d4, d5] => { results := [.lit (.bool true)], args := [d1, d2, d3, d4, d5] }
  | _ => none }
def collideShiftRow : OpenClaim := { program := "ytipcppbbpmdijaa", sum := "1ccce7f7d0d998662855de7513d4f058fc67cc2ae13204a24dd9705b0e74d204", func := "arenanet/arenanetlaw05.CollideShift", spec := "collideShift", unfollowed := true, recurses := true, apart := false }
def CollideShiftSaid : Prop := collideShiftRow.holds Try.pinned (OpenSpec.ofChange collideShiftSpec)

/-- ITS FALSE NEIGHBOUR: 'it returns false'. Refute it at one input. -/
def collideShiftWrong : ChangeSpec := { name := "collideShift", fn := fun _ => fun
  | [d1, d2, d3, d4, d5] => { results := [.lit (.bool false)], args := [d1, d2, d3, d4, d5] }
  | _ => none }
def CollideShiftWrongFalsely : Prop := collideShiftRow.holds Try.pinned (OpenSpec.ofChange collideShiftWrong)

/-- 'arenanetlaw05.CollideOwn': WHATEVER THE INPUT: true; the input reads as it did. -/
def collideOwnSpec : ChangeSpec := { name := "collideOwn", fn := fun _ => fun
  | [d1, d2, d3] => { results := [.lit (.bool true)], args := [d1, d2, d3] }
  | _ => none }
def collideOwnRow : OpenClaim := { program := "ytipcppbbpmdijaa", sum := "1ccce7f7d0d998662855de7513d4f058fc67cc2ae13204a24dd9705b0e74d204", func := "arenanet/arenanetlaw05.CollideOwn", spec := "collideOwn", unfollowed := true, recurses := true, apart := false }
def CollideOwnSaid : Prop := collideOwnRow.holds Try.pinned (OpenSpec.ofChange collideOwnSpec)

/-- ITS FALSE NEIGHBOUR: 'it returns false'. Refute it at one input. -/
def collideOwnWrong : ChangeSpec := { name := "collideOwn", fn := fun _ => fun
  | [d1, d2, d3] => { results := [.lit (.bool false)], args := [d1, d2, d3] }
  | _ => none }
def CollideOwnWrongFalsely : Prop := collideOwnRow.holds Try.pinned (OpenSpec.ofChange collideOwnWrong)

/-- 'arenanetlaw06.ToiModel': WHATEVER THE INPUT: true; the input reads as it did. -/
def toiModelSpec : ChangeSpec := { name := "toiModel", fn := fun _ => fun
  | [d] => { results := [.lit (.bool true)], args := [d] }
  | _ => none }
def toiModelRow : OpenClaim := { program := "ytipcppbbpmdijaa", sum := "1ccce7f7d0d998662855de7513d4f058fc67cc2ae13204a24dd9705b0e74d204", func := "arenanet/arenanetlaw06.ToiModel", spec := "toiModel", unfollowed := true, recurses := true, apart := false }
def ToiModelSaid : Prop := toiModelRow.holds Try.pinned (OpenSpec.ofChange toiModelSpec)

/-- ITS FALSE NEIGHBOUR: 'it returns false'. Refute it at one input. -/
def toiModelWrong : ChangeSpec := { name := "toiModel", fn := fun _ => fun
  | [d] => { results := [.lit (.bool false)], args := [d] }
  | _ => none }
def ToiModelWrongFalsely : Prop := toiModelRow.holds Try.pinned (OpenSpec.ofChange toiModelWrong)

/-- 'arenanetlaw06.ToiSafety': WHATEVER THE INPUT: true; the input reads as it did. -/
def toiSafetySpec : ChangeSpec := { name := "toiSafety", fn := fun _ => fun
  | [d] => { results := [.lit (.bool true)], args := [d] }
  | _ => none }
def toiSafetyRow : OpenClaim := { program := "ytipcppbbpmdijaa", sum := "1ccce7f7d0d998662855de7513d4f058fc67cc2ae13204a24dd9705b0e74d204", func := "arenanet/arenanetlaw06.ToiSafety", spec := "toiSafety", unfollowed := true, recurses := true, apart := false }
def ToiSafetySaid : Prop := toiSafetyRow.holds Try.pinned (OpenSpec.ofChange toiSafetySpec)

/-- ITS FALSE NEIGHBOUR: 'it returns false'. Refute it at one input. -/
def toiSafetyWrong : ChangeSpec := { name := "toiSafety", fn := fun _ => fun
  | [d] => { results := [.lit (.bool false)], args := [d] }
  | _ => none }
def ToiSafetyWrongFalsely : Prop := toiSafetyRow.holds Try.pinned (OpenSpec.ofChange toiSafetyWrong)

/-- 'arenanetlaw06.ToiTunnel': WHATEVER THE INPUT: true; the input reads as it did. -/
def toiTunnelSpec : ChangeSpec := { name := "toiTunnel", fn := fun _ => fun
  | [d1, d2, d3, d4] => { results := [.lit (.bool true)], args := [d1, d2, d3, d4] }
  | _ => none }
def toiTunnelRow : OpenClaim := { program := "ytipcppbbpmdijaa", sum := "1ccce7f7d0d998662855de7513d4f058fc67cc2ae13204a24dd9705b0e74d204", func := "arenanet/arenanetlaw06.ToiTunnel", spec := "toiTunnel", unfollowed := true, recurses := true, apart := false }
def ToiTunnelSaid : Prop := toiTunnelRow.holds Try.pinned (OpenSpec.ofChange toiTunnelSpec)

/-- ITS FALSE NEIGHBOUR: 'it returns false'. Refute it at one input. -/
def toiTunnelWrong : ChangeSpec := { name := "toiTunnel", fn := fun _ => fun
  | [d1, d2, d3, d4] => { results := [.lit (.bool false)], args := [d1, d2, d3, d4] }
  | _ => none }
def ToiTunnelWrongFalsely : Prop := toiTunnelRow.holds Try.pinned (OpenSpec.ofChange toiTunnelWrong)

/-- 'arenanetlaw06.ToiRest': WHATEVER THE INPUT: true; the input reads as it did. -/
def toiRestSpec : ChangeSpec := { name := "toiRest", fn := fun _ => fun
  | [d] => { results := [.lit (.bool true)], args := [d] }
  | _ => none }
def toiRestRow : OpenClaim := { program := "ytipcppbbpmdijaa", sum := "1ccce7f7d0d998662855de7513d4f058fc67cc2ae13204a24dd9705b0e74d204", func := "arenanet/arenanetlaw06.ToiRest", spec := "toiRest", unfollowed := true, recurses := true, apart := false }
def ToiRestSaid : Prop := toiRestRow.holds Try.pinned (OpenSpec.ofChange toiRestSpec)

/-- ITS FALSE NEIGHBOUR: 'it returns false'. Refute it at one input. -/
def toiRestWrong : ChangeSpec := { name := "toiRest", fn := fun _ => fun
  | [d] => { results := [.lit (.bool false)], args := [d] }
  | _ => none }
def ToiRestWrongFalsely : Prop := toiRestRow.holds Try.pinned (OpenSpec.ofChange toiRestWrong)

/-- 'arenanetlaw06.ToiSwept': WHATEVER THE INPUT: true; the input reads as it did. -/
def toiSweptSpec : ChangeSpec := { name := "toiSwept", fn := fun _ => fun
  | [d1, d2] => { results := [.lit (.bool true)], args := [d1, d2] }
  | _ => none }
def toiSweptRow : OpenClaim := { program := "ytipcppbbpmdijaa", sum := "1ccce7f7d0d998662855de7513d4f058fc67cc2ae13204a24dd9705b0e74d204", func := "arenanet/arenanetlaw06.ToiSwept", spec := "toiSwept", unfollowed := true, recurses := true, apart := false }
def ToiSweptSaid : Prop := toiSweptRow.holds Try.pinned (OpenSpec.ofChange toiSweptSpec)

/-- ITS FALSE NEIGHBOUR: 'it returns false'. Refute it at one input. -/
def toiSweptWrong : ChangeSpec := { name := "toiSwept", fn := fun _ => fun
  | [d1, d2] => { results := [.lit (.bool false)], args := [d1, d2] }
  | _ => none }
def ToiSweptWrongFalsely : Prop := toiSweptRow.holds Try.pinned (OpenSpec.ofChange toiSweptWrong)

/-- 'arenanetlaw06.ToiShift': WHATEVER THE INPUT: true; the input reads as it did. -/
def toiShiftSpec : ChangeSpec := { name := "toiShift", fn := fun _ => fun
  | [d1, d2, d3] => { results := [.lit (.bool true)], args := [d1, d2, d3] }
  | _ => none }
def toiShiftRow : OpenClaim := { program := "ytipcppbbpmdijaa", sum := "1ccce7f7d0d998662855de7513d4f058fc67cc2ae13204a24dd9705b0e74d204", func := "arenanet/arenanetlaw06.ToiShift", spec := "toiShift", unfollowed := true, recurses := true, apart := false }
def ToiShiftSaid : Prop := toiShiftRow.holds Try.pinned (OpenSpec.ofChange toiShiftSpec)

/-- ITS FALSE NEIGHBOUR: 'it returns false'. Refute it at one input. -/
def toiShiftWrong : ChangeSpec := { name := "toiShift", fn := fun _ => fun
  | [d1, d2, d3] => { results := [.lit (.bool false)], args := [d1, d2, d3] }
  | _ => none }
def ToiShiftWrongFalsely : Prop := toiShiftRow.holds Try.pinned (OpenSpec.ofChange toiShiftWrong)

/-- 'arenanetlaw06.ToiSlower': WHATEVER THE INPUT: true; the input reads as it did. -/
def toiSlowerSpec : ChangeSpec := { name := "toiSlower", fn := fun _ => fun
  | [d] => { results := [.lit (.bool true)], args := [d] }
  | _ => none }
def toiSlowerRow : OpenClaim := { program := "ytipcppbbpmdijaa", sum := "1ccce7f7d0d998662855de7513d4f058fc67cc2ae13204a24dd9705b0e74d204", func := "arenanet/arenanetlaw06.ToiSlower", spec := "toiSlower", unfollowed := true, recurses := true, apart := false }
def ToiSlowerSaid : Prop := toiSlowerRow.holds Try.pinned (OpenSpec.ofChange toiSlowerSpec)

/-- ITS FALSE NEIGHBOUR: 'it returns false'. Refute it at one input. -/
def toiSlowerWrong : ChangeSpec := { name := "toiSlower", fn := fun _ => fun
  | [d] => { results := [.lit (.bool false)], args := [d] }
  | _ => none }
def ToiSlowerWrongFalsely : Prop := toiSlowerRow.holds Try.pinned (OpenSpec.ofChange toiSlowerWrong)

/-- 'arenanetlaw05.CollideMeets': WHATEVER THE INPUT: true; the input reads as it did. -/
def collideMeetsSpec : ChangeSpec := { name := "collideMeets", fn := fun _ => fun
  | [d1, d2, d3, d4, d5] => { results := [.lit (.bool true)], args := [d1, d2, d3, d4, d5] }
  | _ => none }
def collideMeetsRow : OpenClaim := { program := "ytipcppbbpmdijaa", sum := "1ccce7f7d0d998662855de7513d4f058fc67cc2ae13204a24dd9705b0e74d204", func := "arenanet/arenanetlaw05.CollideMeets", spec := "collideMeets", unfollowed := true, recurses := true, apart := false }
def CollideMeetsSaid : Prop := collideMeetsRow.holds Try.pinned (OpenSpec.ofChange collideMeetsSpec)

/-- ITS FALSE NEIGHBOUR: 'it returns false'. Refute it at one input. -/
def collideMeetsWrong : ChangeSpec := { name := "collideMeets", fn := fun _ => fun
  | [d1, d2, d3, d4, d5] => { results := [.lit (.bool false)], args := [d1, d2, d3, d4, d5] }
  | _ => none }
def CollideMeetsWrongFalsely : Prop := collideMeetsRow.holds Try.pinned (OpenSpec.ofChange collideMeetsWrong)

/- THE SECOND FORM. 'bulk': how many values and letters a reading holds, each counted each time it is reached (what is shared counts as often as it is met; a slice's spare places count too). A statement '..UptoSaid' is the law's where the arguments, and the package variables that the reading takes, are together of bulk at most 1048576: NARROWER than '..Said'. Prove '..Said' where nothing that the law and all that it calls make is longer than what came in: it says more and counts as full. Else prove '..UptoSaid'. A law counts once. -/
mutual
def uptoBulk {H : Type} : DataW H → Nat
  | .lit (.string bytes) => bytes.length + 1
  | .lit _ => 1
  | .nil => 1
  | .ptr d => uptoBulk d + 1
  | .slice elems spare => uptoBulkAll elems + uptoBulkAll spare + 1
  | .agg parts => uptoBulkAll parts + 1
  | .iface _ d => uptoBulk d + 1
  | .map entries => uptoBulkEntries entries + 1
  | .held _ => 1
def uptoBulkAll {H : Type} : List (DataW H) → Nat
  | [] => 0
  | d :: r => uptoBulk d + uptoBulkAll r
def uptoBulkEntries {H : Type} : List (Lit × DataW H) → Nat
  | [] => 0
  | x :: r => uptoBulkEntry x + uptoBulkEntries r
def uptoBulkEntry {H : Type} : Lit × DataW H → Nat
  | (.string bytes, d) => bytes.length + uptoBulk d + 1
  | (_, d) => uptoBulk d + 1
 end
def uptoSmall : (H : Type) → List (DataW H) → Bool := fun _ ds => decide (uptoBulkAll ds ≤ 1048576)
def OpenSpec.upto (s : _root_.Go.ChangeSpec) : _root_.Go.OpenSpec := { _root_.Go.OpenSpec.ofChange s with cond := some uptoSmall }

/-- 'arenanetlaw03.ShapeStar', WHERE WHAT IT READS IS OF BULK AT MOST 1048576: true; the input reads as it did. -/
def shapeStarUptoRow : OpenClaim := { program := "ytipcppbbpmdijaa", sum := "1ccce7f7d0d998662855de7513d4f058fc67cc2ae13204a24dd9705b0e74d204", func := "arenanet/arenanetlaw03.ShapeStar", spec := "shapeStar", unfollowed := true, recurses := true, apart := false, narrowed := true }
def ShapeStarUptoSaid : Prop := shapeStarUptoRow.holds Try.pinned (OpenSpec.upto shapeStarSpec)

/-- 'arenanetlaw03.ShapeBounds', WHERE WHAT IT READS IS OF BULK AT MOST 1048576: true; the input reads as it did. -/
def shapeBoundsUptoRow : OpenClaim := { program := "ytipcppbbpmdijaa", sum := "1ccce7f7d0d998662855de7513d4f058fc67cc2ae13204a24dd9705b0e74d204", func := "arenanet/arenanetlaw03.ShapeBounds", spec := "shapeBounds", unfollowed := true, recurses := true, apart := false, narrowed := true }
def ShapeBoundsUptoSaid : Prop := shapeBoundsUptoRow.holds Try.pinned (OpenSpec.upto shapeBoundsSpec)

/-- 'arenanetlaw03.ShapeConvex', WHERE WHAT IT READS IS OF BULK AT MOST 1048576: true; the input reads as it did. -/
def shapeConvexUptoRow : OpenClaim := { program := "ytipcppbbpmdijaa", sum := "1ccce7f7d0d998662855de7513d4f058fc67cc2ae13204a24dd9705b0e74d204", func := "arenanet/arenanetlaw03.ShapeConvex", spec := "shapeConvex", unfollowed := true, recurses := true, apart := false, narrowed := true }
def ShapeConvexUptoSaid : Prop := shapeConvexUptoRow.holds Try.pinned (OpenSpec.upto shapeConvexSpec)

/-- 'arenanetlaw03.ShapeQueries', WHERE WHAT IT READS IS OF BULK AT MOST 1048576: true; the input reads as it did. -/
def shapeQueriesUptoRow : OpenClaim := { program := "ytipcppbbpmdijaa", sum := "1ccce7f7d0d998662855de7513d4f058fc67cc2ae13204a24dd9705b0e74d204", func := "arenanet/arenanetlaw03.ShapeQueries", spec := "shapeQueries", unfollowed := true, recurses := true, apart := false, narrowed := true }
def ShapeQueriesUptoSaid : Prop := shapeQueriesUptoRow.holds Try.pinned (OpenSpec.upto shapeQueriesSpec)

/-- 'arenanetlaw03.ShapeProjection', WHERE WHAT IT READS IS OF BULK AT MOST 1048576: true; the input reads as it did. -/
def shapeProjectionUptoRow : OpenClaim := { program := "ytipcppbbpmdijaa", sum := "1ccce7f7d0d998662855de7513d4f058fc67cc2ae13204a24dd9705b0e74d204", func := "arenanet/arenanetlaw03.ShapeProjection", spec := "shapeProjection", unfollowed := true, recurses := true, apart := false, narrowed := true }
def ShapeProjectionUptoSaid : Prop := shapeProjectionUptoRow.holds Try.pinned (OpenSpec.upto shapeProjectionSpec)

/-- 'arenanetlaw03.ShapeTranslation', WHERE WHAT IT READS IS OF BULK AT MOST 1048576: true; the input reads as it did. -/
def shapeTranslationUptoRow : OpenClaim := { program := "ytipcppbbpmdijaa", sum := "1ccce7f7d0d998662855de7513d4f058fc67cc2ae13204a24dd9705b0e74d204", func := "arenanet/arenanetlaw03.ShapeTranslation", spec := "shapeTranslation", unfollowed := true, recurses := true, apart := false, narrowed := true }
def ShapeTranslationUptoSaid : Prop := shapeTranslationUptoRow.holds Try.pinned (OpenSpec.upto shapeTranslationSpec)

/-- 'arenanetlaw03.ShapeFirstVertex', WHERE WHAT IT READS IS OF BULK AT MOST 1048576: true; the input reads as it did. -/
def shapeFirstVertexUptoRow : OpenClaim := { program := "ytipcppbbpmdijaa", sum := "1ccce7f7d0d998662855de7513d4f058fc67cc2ae13204a24dd9705b0e74d204", func := "arenanet/arenanetlaw03.ShapeFirstVertex", spec := "shapeFirstVertex", unfollowed := true, recurses := true, apart := false, narrowed := true }
def ShapeFirstVertexUptoSaid : Prop := shapeFirstVertexUptoRow.holds Try.pinned (OpenSpec.upto shapeFirstVertexSpec)

/-- 'arenanetlaw05.CollideSwap', WHERE WHAT IT READS IS OF BULK AT MOST 1048576: true; the input reads as it did. -/
def collideSwapUptoRow : OpenClaim := { program := "ytipcppbbpmdijaa", sum := "1ccce7f7d0d998662855de7513d4f058fc67cc2ae13204a24dd9705b0e74d204", func := "arenanet/arenanetlaw05.CollideSwap", spec := "collideSwap", unfollowed := true, recurses := true, apart := false, narrowed := true }
def CollideSwapUptoSaid : Prop := collideSwapUptoRow.holds Try.pinned (OpenSpec.upto collideSwapSpec)

/-- 'arenanetlaw05.CollideGrow', WHERE WHAT IT READS IS OF BULK AT MOST 1048576: true; the input reads as it did. -/
def collideGrowUptoRow : OpenClaim := { program := "ytipcppbbpmdijaa", sum := "1ccce7f7d0d998662855de7513d4f058fc67cc2ae13204a24dd9705b0e74d204", func := "arenanet/arenanetlaw05.CollideGrow", spec := "collideGrow", unfollowed := true, recurses := true, apart := false, narrowed := true }
def CollideGrowUptoSaid : Prop := collideGrowUptoRow.holds Try.pinned (OpenSpec.upto collideGrowSpec)

/-- 'arenanetlaw05.CollideCircles', WHERE WHAT IT READS IS OF BULK AT MOST 1048576: true; the input reads as it did. -/
def collideCirclesUptoRow : OpenClaim := { program := "ytipcppbbpmdijaa", sum := "1ccce7f7d0d998662855de7513d4f058fc67cc2ae13204a24dd9705b0e74d204", func := "arenanet/arenanetlaw05.CollideCircles", spec := "collideCircles", unfollowed := true, recurses := true, apart := false, narrowed := true }
def CollideCirclesUptoSaid : Prop := collideCirclesUptoRow.holds Try.pinned (OpenSpec.upto collideCirclesSpec)

/-- 'arenanetlaw05.CollideMatches', WHERE WHAT IT READS IS OF BULK AT MOST 1048576: true; the input reads as it did. -/
def collideMatchesUptoRow : OpenClaim := { program := "ytipcppbbpmdijaa", sum := "1ccce7f7d0d998662855de7513d4f058fc67cc2ae13204a24dd9705b0e74d204", func := "arenanet/arenanetlaw05.CollideMatches", spec := "collideMatches", unfollowed := true, recurses := true, apart := false, narrowed := true }
def CollideMatchesUptoSaid : Prop := collideMatchesUptoRow.holds Try.pinned (OpenSpec.upto collideMatchesSpec)

/-- 'arenanetlaw05.CollideLeast', WHERE WHAT IT READS IS OF BULK AT MOST 1048576: true; the input reads as it did. -/
def collideLeastUptoRow : OpenClaim := { program := "ytipcppbbpmdijaa", sum := "1ccce7f7d0d998662855de7513d4f058fc67cc2ae13204a24dd9705b0e74d204", func := "arenanet/arenanetlaw05.CollideLeast", spec := "collideLeast", unfollowed := true, recurses := true, apart := false, narrowed := true }
def CollideLeastUptoSaid : Prop := collideLeastUptoRow.holds Try.pinned (OpenSpec.upto collideLeastSpec)

/-- 'arenanetlaw05.CollideShift', WHERE WHAT IT READS IS OF BULK AT MOST 1048576: true; the input reads as it did. -/
def collideShiftUptoRow : OpenClaim := { program := "ytipcppbbpmdijaa", sum := "1ccce7f7d0d998662855de7513d4f058fc67cc2ae13204a24dd9705b0e74d204", func := "arenanet/arenanetlaw05.CollideShift", spec := "collideShift", unfollowed := true, recurses := true, apart := false, narrowed := true }
def CollideShiftUptoSaid : Prop := collideShiftUptoRow.holds Try.pinned (OpenSpec.upto collideShiftSpec)

/-- 'arenanetlaw05.CollideOwn', WHERE WHAT IT READS IS OF BULK AT MOST 1048576: true; the input reads as it did. -/
def collideOwnUptoRow : OpenClaim := { program := "ytipcppbbpmdijaa", sum := "1ccce7f7d0d998662855de7513d4f058fc67cc2ae13204a24dd9705b0e74d204", func := "arenanet/arenanetlaw05.CollideOwn", spec := "collideOwn", unfollowed := true, recurses := true, apart := false, narrowed := true }
def CollideOwnUptoSaid : Prop := collideOwnUptoRow.holds Try.pinned (OpenSpec.upto collideOwnSpec)

/-- 'arenanetlaw06.ToiModel', WHERE WHAT IT READS IS OF BULK AT MOST 1048576: true; the input reads as it did. -/
def toiModelUptoRow : OpenClaim := { program := "ytipcppbbpmdijaa", sum := "1ccce7f7d0d998662855de7513d4f058fc67cc2ae13204a24dd9705b0e74d204", func := "arenanet/arenanetlaw06.ToiModel", spec := "toiModel", unfollowed := true, recurses := true, apart := false, narrowed := true }
def ToiModelUptoSaid : Prop := toiModelUptoRow.holds Try.pinned (OpenSpec.upto toiModelSpec)

/-- 'arenanetlaw06.ToiSafety', WHERE WHAT IT READS IS OF BULK AT MOST 1048576: true; the input reads as it did. -/
def toiSafetyUptoRow : OpenClaim := { program := "ytipcppbbpmdijaa", sum := "1ccce7f7d0d998662855de7513d4f058fc67cc2ae13204a24dd9705b0e74d204", func := "arenanet/arenanetlaw06.ToiSafety", spec := "toiSafety", unfollowed := true, recurses := true, apart := false, narrowed := true }
def ToiSafetyUptoSaid : Prop := toiSafetyUptoRow.holds Try.pinned (OpenSpec.upto toiSafetySpec)

/-- 'arenanetlaw06.ToiTunnel', WHERE WHAT IT READS IS OF BULK AT MOST 1048576: true; the input reads as it did. -/
def toiTunnelUptoRow : OpenClaim := { program := "ytipcppbbpmdijaa", sum := "1ccce7f7d0d998662855de7513d4f058fc67cc2ae13204a24dd9705b0e74d204", func := "arenanet/arenanetlaw06.ToiTunnel", spec := "toiTunnel", unfollowed := true, recurses := true, apart := false, narrowed := true }
def ToiTunnelUptoSaid : Prop := toiTunnelUptoRow.holds Try.pinned (OpenSpec.upto toiTunnelSpec)

/-- 'arenanetlaw06.ToiRest', WHERE WHAT IT READS IS OF BULK AT MOST 1048576: true; the input reads as it did. -/
def toiRestUptoRow : OpenClaim := { program := "ytipcppbbpmdijaa", sum := "1ccce7f7d0d998662855de7513d4f058fc67cc2ae13204a24dd9705b0e74d204", func := "arenanet/arenanetlaw06.ToiRest", spec := "toiRest", unfollowed := true, recurses := true, apart := false, narrowed := true }
def ToiRestUptoSaid : Prop := toiRestUptoRow.holds Try.pinned (OpenSpec.upto toiRestSpec)

/-- 'arenanetlaw06.ToiSwept', WHERE WHAT IT READS IS OF BULK AT MOST 1048576: true; the input reads as it did. -/
def toiSweptUptoRow : OpenClaim := { program := "ytipcppbbpmdijaa", sum := "1ccce7f7d0d998662855de7513d4f058fc67cc2ae13204a24dd9705b0e74d204", func := "arenanet/arenanetlaw06.ToiSwept", spec := "toiSwept", unfollowed := true, recurses := true, apart := false, narrowed := true }
def ToiSweptUptoSaid : Prop := toiSweptUptoRow.holds Try.pinned (OpenSpec.upto toiSweptSpec)

/-- 'arenanetlaw06.ToiShift', WHERE WHAT IT READS IS OF BULK AT MOST 1048576: true; the input reads as it did. -/
def toiShiftUptoRow : OpenClaim := { program := "ytipcppbbpmdijaa", sum := "1ccce7f7d0d998662855de7513d4f058fc67cc2ae13204a24dd9705b0e74d204", func := "arenanet/arenanetlaw06.ToiShift", spec := "toiShift", unfollowed := true, recurses := true, apart := false, narrowed := true }
def ToiShiftUptoSaid : Prop := toiShiftUptoRow.holds Try.pinned (OpenSpec.upto toiShiftSpec)

/-- 'arenanetlaw06.ToiSlower', WHERE WHAT IT READS IS OF BULK AT MOST 1048576: true; the input reads as it did. -/
def toiSlowerUptoRow : OpenClaim := { program := "ytipcppbbpmdijaa", sum := "1ccce7f7d0d998662855de7513d4f058fc67cc2ae13204a24dd9705b0e74d204", func := "arenanet/arenanetlaw06.ToiSlower", spec := "toiSlower", unfollowed := true, recurses := true, apart := false, narrowed := true }
def ToiSlowerUptoSaid : Prop := toiSlowerUptoRow.holds Try.pinned (OpenSpec.upto toiSlowerSpec)

/-- 'arenanetlaw05.CollideMeets', WHERE WHAT IT READS IS OF BULK AT MOST 1048576: true; the input reads as it did. -/
def collideMeetsUptoRow : OpenClaim := { program := "ytipcppbbpmdijaa", sum := "1ccce7f7d0d998662855de7513d4f058fc67cc2ae13204a24dd9705b0e74d204", func := "arenanet/arenanetlaw05.CollideMeets", spec := "collideMeets", unfollowed := true, recurses := true, apart := false, narrowed := true }
def CollideMeetsUptoSaid : Prop := collideMeetsUptoRow.holds Try.pinned (OpenSpec.upto collideMeetsSpec)

end Rows
end Go.Proofs.Ytipcppbbpmdijaa
