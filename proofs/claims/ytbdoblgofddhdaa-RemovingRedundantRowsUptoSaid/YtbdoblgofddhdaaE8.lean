/- E8: joined from D8. -/
import Derived.Test.YtbdoblgofddhdaaE4
import Derived.Test.YtbdoblgofddhdaaQ14
/- Domains, columns, rows of patterns, as they are read; sizes. -/
namespace Go.Proofs.Ytbdoblgofddhdaa
open Go Go.Ab
theorem any_sl {P : Program} {t e : TypeId} {n : Nat} {qs : List PV} (hu : P.underlying t = some (.slice e)) (h : TyS P n t qs) : ∃ q, qs = [q] := by
  cases n with
  | zero => exact h.elim
  | succ n => unfold TyS at h; rw [hu] at h; obtain ⟨xs, rfl, _⟩ := h; exact ⟨_, rfl⟩
theorem cols_of (n : Nat) (qs : List PV) (h : TyS Try.prog n 38 qs) : ∃ ps : List Int, wr Try.prog 38 qs = .list 1 (encI ps) := ints_of n qs h
theorem cols1_of (n : Nat) (qs : List PV) (h : TyS Try.prog n 38 qs) : ∃ ps : List Int, qs = [.list 1 (encI ps)] := by
  obtain ⟨ps, e⟩ := ints_of n qs h
  obtain ⟨q, rfl⟩ := any_sl Try.underlying38 h
  refine ⟨ps, ?_⟩
  simp only [wr, isSt, Try.underlying38, Bool.false_eq_true, if_false] at e
  rw [e]
theorem vr_of (n : Nat) (qs : List PV) (h : TyS Try.prog n 135 qs) : ∃ b : Vr, wr Try.prog 135 qs = b.enc := by
  obtain ⟨m, hm, hf, hw⟩ := struct_of Try.underlying135 h
  rw [hw]
  simp only [TySF] at hf
  obtain ⟨_, _, rfl, h1, _, _, rfl, h2, rfl⟩ := hf
  obtain ⟨k, rfl⟩ := int_of Try.underlying3 h1
  obtain ⟨ps, rfl⟩ := cols1_of _ _ h2
  exact ⟨⟨k, ps⟩, rfl⟩
theorem vrs1_of (n : Nat) (qs : List PV) (h : TyS Try.prog n 130 qs) : ∃ bs : List Vr, qs = [.list 2 (encVr bs)] := by
  obtain ⟨ts, rfl⟩ := slice_of (f := Vr.enc) Try.underlying130 h fun j hj ds hd => vr_of j ds hd
  refine ⟨ts, ?_⟩
  rw [show Try.prog.cellsOf 135 = 2 by kernel_rfl]; rfl
theorem dm_of (n : Nat) (qs : List PV) (h : TyS Try.prog n 132 qs) : ∃ b : Dm, wr Try.prog 132 qs = b.enc := by
  obtain ⟨m, hm, hf, hw⟩ := struct_of Try.underlying132 h
  rw [hw]
  simp only [TySF] at hf
  obtain ⟨_, _, rfl, h1, _, _, rfl, h2, rfl⟩ := hf
  obtain ⟨k, rfl⟩ := int_of Try.underlying3 h1
  obtain ⟨bs, rfl⟩ := vrs1_of _ _ h2
  exact ⟨⟨k, bs⟩, rfl⟩
theorem dms_of (n : Nat) (qs : List PV) (h : TyS Try.prog n 61 qs) : ∃ bs : List Dm, wr Try.prog 61 qs = .list 2 (encDm bs) := by
  obtain ⟨ts, rfl⟩ := slice_of (f := Dm.enc) Try.underlying61 h fun j hj ds hd => dm_of j ds hd
  refine ⟨ts, ?_⟩
  rw [show Try.prog.cellsOf 132 = 2 by kernel_rfl]
  simp [wr, isSt, Try.underlying61, encDm]
theorem rows_of (n : Nat) (qs : List PV) (h : TyS Try.prog n 62 qs) : ∃ rs : List (List Ty), wr Try.prog 62 qs = .list 1 (encLLP rs) := by
  obtain ⟨ts, rfl⟩ := slice_of (f := fun r : List Ty => .list 3 (encL r)) Try.underlying62 h fun j hj ds hd => pats_of j ds hd
  refine ⟨ts, ?_⟩
  rw [show Try.prog.cellsOf 64 = 1 by kernel_rfl]
  simp [wr, isSt, Try.underlying62, encLLP]
mutual
theorem cn_bk : ∀ t : Ty, cn t ≤ PV.bk t.enc
  | .mk k id ss => by
    have := cnL_bk ss
    simp only [cn, Ty.enc, PV.bk, PV.bkL]; split <;> omega
theorem cnL_bk : ∀ ts : List Ty, cnL ts ≤ PV.bkL (encL ts)
  | [] => by simp [cnL]
  | t :: ts => by
    have h1 := cn_bk t
    have h2 := cnL_bk ts
    simp only [cnL, encL, PV.bkL]; omega
end
theorem rows_bk : ∀ rs : List (List Ty), cnR rs ≤ PV.bkL (encLLP rs) ∧ ∀ r ∈ rs, ndsL r ≤ PV.bkL (encLLP rs)
  | [] => by simp [cnR]
  | r :: rs => by
    obtain ⟨h1, h2⟩ := rows_bk rs
    have e : PV.bkL (encLLP (r :: rs)) = PV.bkL (encL r) + 1 + PV.bkL (encLLP rs) := rfl
    have h3 := cnL_bk r
    have h4 := ndsL_bk r
    rw [cnR_cons, e]
    refine ⟨by omega, fun s hs => ?_⟩
    rcases List.mem_cons.1 hs with rfl | hs
    · omega
    · have := h2 s hs; omega
theorem rows_bk_len : ∀ rs : List (List Ty), rs.length ≤ PV.bkL (encLLP rs)
  | [] => by simp
  | r :: rs => by
    have := rows_bk_len rs
    have e : PV.bkL (encLLP (r :: rs)) = PV.bkL (encL r) + 1 + PV.bkL (encLLP rs) := rfl
    rw [e, List.length_cons]; omega
theorem cols_bk : ∀ cs : List Int, cs.length ≤ PV.bkL (encI cs)
  | [] => by simp
  | c :: cs => by
    have := cols_bk cs
    have e : PV.bkL (encI (c :: cs)) = 1 + PV.bkL (encI cs) := rfl
    rw [e, List.length_cons]; omega
theorem bk_ok {a : PV} {cols : List Int} {rows : List (List Ty)} {post : List PV} (h : PV.bkL (a :: .list 1 (encI cols) :: .list 1 (encLLP rows) :: post) ≤ 1048576) :
    (∀ row ∈ rows, ndsL row ≤ 100000000000) ∧ 5 * cnR rows + cols.length + 1 ≤ 100000000 := by
  obtain ⟨h1, h2⟩ := rows_bk rows
  have h3 := cols_bk cols
  simp only [PV.bkL, PV.bk] at h
  exact ⟨fun row hr => by have := h2 row hr; omega, by omega⟩
theorem bk_len {a : PV} {cols : List Int} {rows : List (List Ty)} {post : List PV} (h : PV.bkL (a :: .list 1 (encI cols) :: .list 1 (encLLP rows) :: post) ≤ 1048576) : rows.length ≤ 1099511627776 := by
  have h6 := rows_bk_len rows
  simp only [PV.bkL, PV.bk] at h
  omega
/-- with one row more -/
theorem bk_more {a : PV} {cols : List Int} {rows : List (List Ty)} {row : List Ty} {post : List PV} (h : PV.bkL (a :: .list 1 (encI cols) :: .list 1 (encLLP rows) :: .list 3 (encL row) :: post) ≤ 1048576) :
    (∀ r ∈ rows, ndsL r ≤ 100000000000) ∧ ndsL row ≤ 100000000000 ∧ 5 * (cnR rows + cnL row) + cols.length + 1 ≤ 100000000 ∧ rows.length ≤ 1048576 ∧ cols.length ≤ 1048576 := by
  obtain ⟨h1, h2⟩ := rows_bk rows
  have h3 := cols_bk cols
  have h4 := cnL_bk row
  have h5 := ndsL_bk row
  have h6 := rows_bk_len rows
  simp only [PV.bkL, PV.bk] at h
  exact ⟨fun r hr => by have := h2 r hr; omega, by omega, by omega, by omega, by omega⟩
end Go.Proofs.Ytbdoblgofddhdaa
