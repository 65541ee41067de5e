/- C3: joined from D2 D14. -/
import Derived.Test.YtiediojibljpiaaVC2
import Derived.Test.YtiediojibljpiaaVA2
/- A type has no more nodes than its reading has values. -/
namespace Go.Proofs.Ytiediojibljpiaa
open Go Go.Ab
mutual
theorem nds_bk : ∀ t : Ty, nds t ≤ PV.bk t.enc
  | .mk k id ss => by
    have := ndsL_bk ss
    simp only [nds, Ty.enc, PV.bk, PV.bkL]; omega
theorem ndsL_bk : ∀ ts : List Ty, ndsL ts ≤ PV.bkL (encL ts)
  | [] => by simp [ndsL]
  | t :: ts => by
    have h1 := nds_bk t
    have h2 := ndsL_bk ts
    simp only [ndsL, encL, PV.bkL]; omega
end
end Go.Proofs.Ytiediojibljpiaa
/- Equations, as they are read: their size. -/
namespace Go.Proofs.Ytiediojibljpiaa
open Go Go.Ab
theorem eqn_bk (e : Eqn) : nds e.l ≤ PV.bk e.enc + 1 ∧ nds e.r ≤ PV.bk e.enc + 1 := by
  have h1 := nds_bk e.l
  have h2 := nds_bk e.r
  obtain ⟨⟨k, i, ss⟩, ⟨k2, i2, ss2⟩⟩ := e
  simp only [Eqn.enc, Ty.enc, Ty.kd, Ty.id, Ty.args, PV.bk, PV.bkL] at h1 h2 ⊢
  omega
theorem eqs_bk1 : ∀ (es : List Eqn), ∀ e ∈ es, PV.bk e.enc ≤ PV.bkL (encQ es)
  | b :: es, e, h => by
    have e1 : PV.bkL (encQ (b :: es)) = PV.bk b.enc + PV.bkL (encQ es) := rfl
    rcases List.mem_cons.1 h with h | h
    · subst h; omega
    · have := eqs_bk1 es e h; omega
theorem eqs_nds {es : List Eqn} {post : List PV} (h : PV.bkL (.list 6 (encQ es) :: post) ≤ 1048576) : ∀ e ∈ es, nds e.l ≤ 900000000000000 ∧ nds e.r ≤ 900000000000000 := fun e he => by
  have h1 := eqn_bk e
  have h2 := eqs_bk1 es e he
  simp only [PV.bkL, PV.bk] at h
  omega
end Go.Proofs.Ytiediojibljpiaa
