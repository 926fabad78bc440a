/- The contract of ogiveref20.TakeState, joined. -/
import Derived.Test.YthjnefpnnifjiaaDoorRdTcA
import Derived.Test.YthjnefpnnifjiaaDoorRdTcB
import Derived.Test.YthjnefpnnifjiaaDoorRdTcC
set_option linter.unusedVariables false
set_option linter.unusedSimpArgs false
namespace Go.Proofs.YthjnefpnnifjiaaDoor
open Go.RowKit
theorem rtakeSt_spec (W w : World) (L : List HP) (hs : Sat W w L) (l : List UInt8) (hl : l.length ≤ 1073741824) :
    Calls Tryd.prog 24 #[(.string ⟨(l).toArray⟩)] w (rtStPost (takeSt l) W L) :=
  takeStCut.go ⟨rtSt_t0⟩ ⟨rtSt_tl⟩ ⟨rtSt_i0⟩ ⟨rtSt_less⟩ ⟨rtSt_tb⟩ ⟨rtSt_ib⟩ ⟨rtSt_kb⟩ ⟨rtSt_e1⟩ ⟨rtSt_e2⟩ W w L hs l hl
end Go.Proofs.YthjnefpnnifjiaaDoor
