/- C2: joined from D15. -/
import Derived.Test.YtckjkdhmljfeeaaGreatDoorC1
import Derived.Test.YtckjkdhmljfeeaaGreatDoorH1
/- A node, as it is read (seat P). -/
namespace Go.Proofs.YtckjkdhmljfeeaaGreatDoor
open Go Go.Ab
theorem nd_of : ∀ (n : Nat) (qs : List PV), TyS Tryz.prog n 38 qs → ∃ t : Nd, wr Tryz.prog 38 qs = t.enc := by
  intro n
  induction n using Nat.strongRecOn with
  | _ n ih =>
    intro qs h
    obtain ⟨m, hm, hf, hw⟩ := struct_of Tryz.underlying38 h
    rw [hw]
    simp only [TySF] at hf
    obtain ⟨_, _, rfl, h1, _, _, rfl, h2, _, _, rfl, h3, _, _, rfl, h4, _, _, rfl, h5, _, _, rfl, h6, _, _, rfl, h7, rfl⟩ := hf
    obtain ⟨k, rfl⟩ := int_of Tryz.underlying3 h1
    obtain ⟨v, rfl⟩ := int_of Tryz.underlying3 h2
    obtain ⟨tx, rfl⟩ := str_of Tryz.underlying9 h3
    obtain ⟨st, rfl⟩ := int_of Tryz.underlying3 h4
    obtain ⟨en, rfl⟩ := int_of Tryz.underlying3 h5
    obtain ⟨ns, rfl⟩ := int_of Tryz.underlying3 h6
    obtain ⟨cs, rfl⟩ := slice_of (f := Nd.enc) Tryz.underlying36 h7 fun j hj ds hd => ih j (by omega) ds hd
    refine ⟨.mk k v tx st en ns cs, ?_⟩
    rw [show Tryz.prog.cellsOf 38 = 7 by kernel_rfl]
    simp only [Nd.enc, encN_map, List.cons_append, List.nil_append, List.append_nil]
end Go.Proofs.YtckjkdhmljfeeaaGreatDoor
