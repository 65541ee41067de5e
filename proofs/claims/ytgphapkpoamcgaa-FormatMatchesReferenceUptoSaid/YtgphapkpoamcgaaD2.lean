/- A type has no more nodes than its reading has values. -/
import Derived.Test.YtgphapkpoamcgaaD1
import Derived.Test.YtgphapkpoamcgaaS7
namespace Go.Proofs.Ytgphapkpoamcgaa
open Go Go.Ab
mutual
theorem nds_bk : ∀ t : Ty, nds t ≤ PV.bk t.enc
  | .mk k id ss => by
    have := ndsL_bk ss
    simp only [nds, Ty.enc, PV.bk, PV.bkL]; omega
theorem ndsL_bk : ∀ ts : List Ty, ndsL ts ≤ PV.bkL (encL ts)
  | [] => by simp [ndsL]
  | t :: ts => by
    have h1 := nds_bk t
    have h2 := ndsL_bk ts
    simp only [ndsL, encL, PV.bkL]; omega
end
end Go.Proofs.Ytgphapkpoamcgaa
