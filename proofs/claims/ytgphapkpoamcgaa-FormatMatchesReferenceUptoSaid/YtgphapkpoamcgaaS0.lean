/- The tree of a type, and how it stands as a value. -/
import Derived.Test.YtgphapkpoamcgaaBb25
set_option linter.unusedSimpArgs false
namespace Go.Proofs.Ytgphapkpoamcgaa
open Go Go.Ab
inductive Ty where
  | mk (k id : Int) (args : List Ty)
abbrev ii (n : Int) : PV := .lit (.int .i64 n)
abbrev bb (n : Bool) : PV := .lit (.bool n)
mutual
def Ty.enc : Ty → PV
  | .mk k id ss => .agg [ii k, ii id, .list 3 (encL ss)]
def encL : List Ty → List PV
  | [] => []
  | t :: ts => t.enc :: encL ts
end
theorem encL_map (ts : List Ty) : encL ts = ts.map Ty.enc := by induction ts with
  | nil => rfl
  | cons t ts ih => simp [encL, ih]
theorem encL_app (ts us : List Ty) : encL (ts ++ us) = encL ts ++ encL us := by simp [encL_map]
theorem encL_len (ts : List Ty) : (encL ts).length = ts.length := by simp [encL_map]
theorem encL_at (ts us : List Ty) (t : Ty) : (encL (ts ++ t :: us))[ts.length]? = some t.enc := by simp [encL_map]
def Ty.kd : Ty → Int | .mk k _ _ => k
def Ty.id : Ty → Int | .mk _ i _ => i
def Ty.args : Ty → List Ty | .mk _ _ a => a
def Ty.tc (t : Ty) : List V := [.pv (ii t.kd), .pv (ii t.id), .pv (.list 3 (encL t.args))]
theorem enc_eq (t : Ty) : t.enc = .agg [ii t.kd, ii t.id, .list 3 (encL t.args)] := by cases t; rfl
theorem cells_enc (t : Ty) : (V.pv t.enc).cells? = some t.tc := by cases t; rfl
theorem pcells_enc (t : Ty) : t.enc.cells = [ii t.kd, ii t.id, .list 3 (encL t.args)] := by cases t; rfl
theorem Vw_tc {h : HF} {B : List Nat} (t : Ty) : VwL h B t.tc [ii t.kd, ii t.id, .list 3 (encL t.args)] := .cons _ _ _ _ (.pv _) (.cons _ _ _ _ (.pv _) (.cons _ _ _ _ (.pv _) .nil))
theorem Vw_enc {h : HF} {B : List Nat} (t : Ty) : Vw h B (.agg [.pv (ii t.kd), .pv (ii t.id), .pv (.list 3 (encL t.args))]) t.enc := by rw [enc_eq]; exact .agg _ _ (Vw_tc t)
theorem Vw_penc {h : HF} {B : List Nat} (t : Ty) : Vw h B (.pv (.agg [ii t.kd, ii t.id, .list 3 (encL t.args)])) t.enc := by rw [enc_eq]; exact .pv _
theorem tc_len (t : Ty) : t.tc.length = 3 := rfl
theorem VwE_tc {h : HF} {B : List Nat} : ∀ (ts : List Ty), VwE h B 3 (ts.map Ty.tc) (encL ts)
  | [] => .nil _
  | t :: ts => .cons _ _ _ _ _ (by rw [pcells_enc]; rfl) (by rw [pcells_enc]; exact Vw_tc t) (VwE_tc ts)
theorem renL_tc1 {ρ : Nat → Nat} (t : Ty) : V.renL ρ t.tc = t.tc := rfl
theorem bdL_tc {S : Nat → Prop} (t : Ty) : V.bdL S t.tc = True := by simp [Ty.tc, V.bdL, V.bd]
theorem renL_tc {ρ : Nat → Nat} (ts : List Ty) : (ts.map Ty.tc).map (V.renL ρ) = ts.map Ty.tc := by
  rw [List.map_map]; exact List.map_congr_left fun p _ => rfl
theorem allL_tc {S : Nat → Prop} (ts : List Ty) : allL S (ts.map Ty.tc) = True := by
  simp only [allL_iff, eq_iff_iff, iff_true]
  intro cs hcs
  obtain ⟨p, _, rfl⟩ := List.mem_map.1 hcs
  simp [Ty.tc, V.bdL, V.bd]
end Go.Proofs.Ytgphapkpoamcgaa
