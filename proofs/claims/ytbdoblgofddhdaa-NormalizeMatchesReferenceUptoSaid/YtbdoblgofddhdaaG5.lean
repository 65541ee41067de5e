/- G5: joined from D2 D9. -/
import Derived.Test.YtbdoblgofddhdaaG1
import Derived.Test.YtbdoblgofddhdaaA3
import Derived.Test.YtbdoblgofddhdaaG3
/- A type has no more nodes than its reading has values. -/
namespace Go.Proofs.Ytbdoblgofddhdaa
open Go Go.Ab
mutual
theorem nds_bk : ∀ t : Ty, nds t ≤ PV.bk t.enc
  | .mk k id ss => by
    have := ndsL_bk ss
    simp only [nds, Ty.enc, PV.bk, PV.bkL]; omega
theorem ndsL_bk : ∀ ts : List Ty, ndsL ts ≤ PV.bkL (encL ts)
  | [] => by simp [ndsL]
  | t :: ts => by
    have h1 := nds_bk t
    have h2 := ndsL_bk ts
    simp only [ndsL, encL, PV.bkL]; omega
end
end Go.Proofs.Ytbdoblgofddhdaa
/- Declarations: their types are no bigger than what is read. -/
namespace Go.Proofs.Ytbdoblgofddhdaa
open Go Go.Ab
theorem nds_eqA (t : Ty) : nds t = ndsL t.args + 1 := by cases t; simp [nds, Ty.args]
theorem dc_nds : ∀ {ds : List Dc} {d : Dc}, d ∈ ds → nds d.t ≤ PV.bkL (encDc ds)
  | x :: ds, d, h => by
    have e : PV.bkL (encDc (x :: ds)) = PV.bk x.enc + PV.bkL (encDc ds) := rfl
    rcases List.mem_cons.1 h with rfl | h
    · have h1 := ndsL_bk d.t.args
      have e2 : PV.bk d.enc = PV.bkL (encI d.ps) + 1 + (1 + (1 + (PV.bkL (encL d.t.args) + 1 + (1 + (PV.bkL (encTb d.bs) + 1 + (PV.bk d.ms + 0)))))) := rfl
      rw [e, e2, nds_eqA]; omega
    · have := dc_nds h
      rw [e]; omega
theorem dcs_nds {ds : List Dc} {post : List PV} (h : PV.bkL (.list 7 (encDc ds) :: post) ≤ 1048576) : ∀ d ∈ ds, nds d.t ≤ 1099511627776 := by
  intro d hd
  have := dc_nds hd
  simp only [PV.bkL, PV.bk] at h
  omega
end Go.Proofs.Ytbdoblgofddhdaa
