/- The reference's Two, by its first argument: the three answers. -/
import Derived.Test.YtpnlhkpibgngbaaTyL
namespace Go.Proofs.Ytpnlhkpibgngbaa
open Go.RowKit

def two0 (x y : T3) : T3 := ofF (rleastF x y) (cnt0 x.i x.o || cnt0 y.i y.o) (cnt1 x.i x.o || cnt1 y.i y.o) (cnt2 x.i x.o || cnt2 y.i y.o)
def two1 (x y : T3) : T3 := ofF (rleastF x y) (cnt0 x.i x.o && cnt0 y.i y.o) ((cnt0 x.i x.o && cnt1 y.i y.o) || (cnt1 x.i x.o && cnt0 y.i y.o)) ((cnt2 x.i x.o || cnt2 y.i y.o) || (cnt1 x.i x.o && cnt1 y.i y.o))
def two2 (x y : T3) : T3 := if x.i == 0 then ofF x true false false else
  ofF y (cnt0 x.i x.o || cnt0 y.i y.o) (cnt1 x.i x.o && cnt1 y.i y.o) ((cnt2 x.i x.o && (cnt1 y.i y.o || cnt2 y.i y.o)) || (cnt2 y.i y.o && (cnt1 x.i x.o || cnt2 x.i x.o)))

end Go.Proofs.Ytpnlhkpibgngbaa
