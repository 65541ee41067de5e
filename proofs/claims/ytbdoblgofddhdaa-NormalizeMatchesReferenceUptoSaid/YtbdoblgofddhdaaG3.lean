/- G3: joined from D6. -/
import Derived.Test.YtbdoblgofddhdaaG1
import Derived.Test.YtbdoblgofddhdaaA4
/- Declarations and bounds, as they are read. -/
namespace Go.Proofs.Ytbdoblgofddhdaa
open Go Go.Ab
theorem any_slice {P : Program} {t e : TypeId} {n : Nat} {qs : List PV} (hu : P.underlying t = some (.slice e)) (h : TyS P n t qs) : ∃ q, qs = [q] := by
  cases n with
  | zero => exact h.elim
  | succ n => unfold TyS at h; rw [hu] at h; obtain ⟨xs, rfl, _⟩ := h; exact ⟨_, rfl⟩
/-- a type's three cells -/
theorem ty3_of (n : Nat) (qs : List PV) (h : TyS Try.prog n 26 qs) : ∃ t : Ty, qs = [ii t.kd, ii t.id, .list 3 (encL t.args)] := by
  obtain ⟨t, e⟩ := ty_of n qs h
  refine ⟨t, ?_⟩
  cases t
  simp only [wr, isSt, Try.underlying26, if_true, Ty.enc, PV.agg.injEq] at e
  exact e
theorem ints1_of (n : Nat) (qs : List PV) (h : TyS Try.prog n 38 qs) : ∃ ps : List Int, qs = [.list 1 (encI ps)] := by
  obtain ⟨ps, e⟩ := ints_of n qs h
  obtain ⟨q, rfl⟩ := any_slice Try.underlying38 h
  refine ⟨ps, ?_⟩
  simp only [wr, isSt, Try.underlying38, Bool.false_eq_true, if_false] at e
  rw [e]
theorem tb_of (n : Nat) (qs : List PV) (h : TyS Try.prog n 43 qs) : ∃ b : Tb, wr Try.prog 43 qs = b.enc := by
  obtain ⟨m, hm, hf, hw⟩ := struct_of Try.underlying43 h
  rw [hw]
  simp only [TySF] at hf
  obtain ⟨_, _, rfl, h1, _, _, rfl, h2, rfl⟩ := hf
  obtain ⟨t, rfl⟩ := ty3_of _ _ h1
  obtain ⟨k, rfl⟩ := int_of Try.underlying3 h2
  exact ⟨⟨t, k⟩, rfl⟩
theorem tbs1_of (n : Nat) (qs : List PV) (h : TyS Try.prog n 23 qs) : ∃ bs : List Tb, qs = [.list 4 (encTb bs)] := by
  obtain ⟨ts, rfl⟩ := slice_of (f := Tb.enc) Try.underlying23 h fun j hj ds hd => tb_of j ds hd
  refine ⟨ts, ?_⟩
  rw [show Try.prog.cellsOf 43 = 4 by kernel_rfl]; rfl
theorem tbs_of (n : Nat) (qs : List PV) (h : TyS Try.prog n 23 qs) : ∃ bs : List Tb, wr Try.prog 23 qs = .list 4 (encTb bs) := by
  obtain ⟨bs, rfl⟩ := tbs1_of n qs h
  exact ⟨bs, by simp [wr, isSt, Try.underlying23]⟩
theorem dc_of (n : Nat) (qs : List PV) (h : TyS Try.prog n 40 qs) : ∃ b : Dc, wr Try.prog 40 qs = b.enc := by
  obtain ⟨m, hm, hf, hw⟩ := struct_of Try.underlying40 h
  rw [hw]
  simp only [TySF] at hf
  obtain ⟨_, _, rfl, h1, _, _, rfl, h2, _, _, rfl, h3, _, _, rfl, h4, _, _, rfl, h5, rfl⟩ := hf
  obtain ⟨ps, rfl⟩ := ints1_of _ _ h1
  obtain ⟨t, rfl⟩ := ty3_of _ _ h2
  obtain ⟨k, rfl⟩ := int_of Try.underlying3 h3
  obtain ⟨bs, rfl⟩ := tbs1_of _ _ h4
  obtain ⟨q, rfl⟩ := any_slice Try.underlying38 h5
  exact ⟨⟨ps, t, k, bs, q⟩, rfl⟩
theorem dcs_of (n : Nat) (qs : List PV) (h : TyS Try.prog n 22 qs) : ∃ bs : List Dc, wr Try.prog 22 qs = .list 7 (encDc bs) := by
  obtain ⟨ts, rfl⟩ := slice_of (f := Dc.enc) Try.underlying22 h fun j hj ds hd => dc_of j ds hd
  refine ⟨ts, ?_⟩
  rw [show Try.prog.cellsOf 40 = 7 by kernel_rfl]
  simp [wr, isSt, Try.underlying22, encDc]
theorem int1_of (n : Nat) (qs : List PV) (h : TyS Try.prog n 3 qs) : ∃ a : Int, wr Try.prog 3 qs = ii a := by
  obtain ⟨a, rfl⟩ := int_of Try.underlying3 h
  exact ⟨a, wr_int Try.underlying3⟩
theorem tbs_bk : ∀ bs : List Tb, bs.length ≤ PV.bkL (encTb bs)
  | [] => by simp
  | b :: bs => by
    have := tbs_bk bs
    have e : PV.bkL (encTb (b :: bs)) = PV.bk b.enc + PV.bkL (encTb bs) := rfl
    have e2 : 1 ≤ PV.bk b.enc := by simp only [Tb.enc, PV.bk, PV.bkL]; omega
    rw [e, List.length_cons]; omega
theorem tb_len {a : PV} {az : List Tb} {post : List PV} (h : PV.bkL (a :: .list 4 (encTb az) :: post) ≤ 1048576) : az.length ≤ 1048576 := by
  have := tbs_bk az
  simp only [PV.bkL, PV.bk] at h
  omega
end Go.Proofs.Ytbdoblgofddhdaa
