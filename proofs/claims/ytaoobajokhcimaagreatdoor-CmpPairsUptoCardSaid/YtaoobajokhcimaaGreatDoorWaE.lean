/- Numbers of 128 bits: the long division. -/
import Derived.Test.YtaoobajokhcimaaGreatDoorWaD
import Derived.Test.YtaoobajokhcimaaGreatDoorWaE0
import Derived.Deep.Cut
import Derived.Deep.CutRange
set_option linter.unusedSimpArgs false
set_option linter.unusedVariables false
namespace Go.Proofs.YtaoobajokhcimaaGreatDoor
open Go.RowKit

/-- What stands in memory while the long division runs. -/
structure Ov (S bq br : Nat) (n1 n2 nq : Bool) (m d q r : Nat) (w wr : World) : Prop where
  b0 : Blk wr S #[.bool n1, .int .u64 ((hiN m : Nat) : Int), .int .u64 ((loN m : Nat) : Int)] 71
  b1 : Blk wr (S + 1) #[.bool n2, .int .u64 ((hiN d : Nat) : Int), .int .u64 ((loN d : Nat) : Int)] 71
  b2 : Blk wr (S + 1 + 1) #[.bool false, .int .u64 0, .int .u64 0] 71
  b3 : Blk wr (S + 1 + 1 + 1) #[.bool false, .int .u64 0, .int .u64 0] 71
  b4 : Blk wr bq #[.bool nq, .int .u64 ((hiN q : Nat) : Int), .int .u64 ((loN q : Nat) : Int)] 71
  b5 : Blk wr br #[.bool n1, .int .u64 ((hiN r : Nat) : Int), .int .u64 ((loN r : Nat) : Int)] 71
  lq : S + 1 + 1 + 1 < bq
  lr : S + 1 + 1 + 1 < br
  qr : bq ≠ br
  hb : Below S w wr


end Go.Proofs.YtaoobajokhcimaaGreatDoor
