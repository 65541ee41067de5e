/- Y2: joined from XT2. -/
import Derived.Test.YtckjkdhmljfeeaaGreatDoorY1
/- controlflowWorks, run. -/
set_option maxRecDepth 100000
namespace Go.Proofs.YtckjkdhmljfeeaaGreatDoor
open Go Go.Ev
theorem works13 : Ab.PCall Tryz.prog 13 [] (.lit (.bool true)) := run_bool (args := []) (n := 400) (orc := orcT 9 tms) mixedX noNG_ok tms_ok glb_ok (by kernel_rfl)
end Go.Proofs.YtckjkdhmljfeeaaGreatDoor
