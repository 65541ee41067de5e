/- A call behind a guard. -/
import Derived.Test.YtgphapkpoamcgaaBb20
namespace Go.Ab
theorem ax_call_mp {P : Program} {fx : Operand} {args : List Operand} {nb : Nat} {f : FV} {h : HF} {K : Kont} (hc : ACall P nb (ev f fx) (args.map (ev f)) h K) : AX P (.call fx args) nb f h K := hc
end Go.Ab
