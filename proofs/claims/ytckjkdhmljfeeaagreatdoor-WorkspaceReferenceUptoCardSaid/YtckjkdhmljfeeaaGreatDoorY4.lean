/- Y4: joined from XT4. -/
import Derived.Test.YtckjkdhmljfeeaaGreatDoorY1
/- symbolsExample, run. -/
set_option maxRecDepth 100000
namespace Go.Proofs.YtckjkdhmljfeeaaGreatDoor
open Go Go.Ev
theorem works17 : Ab.PCall Tryz.prog 17 [] (.lit (.bool true)) := run_bool (args := []) (n := 400) (orc := orcT 9 tms) mixedX noNG_ok tms_ok glb_ok (by kernel_rfl)
end Go.Proofs.YtckjkdhmljfeeaaGreatDoor
