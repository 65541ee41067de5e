/- The tree of a syntax node, and how it stands as a value. -/
import Derived.Test.YtgphapkpoamcgaaT0
set_option linter.unusedSimpArgs false
namespace Go.Proofs.Ytgphapkpoamcgaa
open Go Go.Ab
inductive Nd where
  | mk (k v : Int) (tx : ByteArray) (st en ns : Int) (cs : List Nd)
abbrev ss (n : ByteArray) : PV := .lit (.string n)
mutual
def Nd.enc : Nd → PV
  | .mk k v tx st en ns cs => .agg [ii k, ii v, ss tx, ii st, ii en, ii ns, .list 7 (encN cs)]
def encN : List Nd → List PV
  | [] => []
  | t :: ts => t.enc :: encN ts
end
theorem encN_map (ts : List Nd) : encN ts = ts.map Nd.enc := by induction ts with
  | nil => rfl
  | cons t ts ih => simp [encN, ih]
theorem encN_app (ts us : List Nd) : encN (ts ++ us) = encN ts ++ encN us := by simp [encN_map]
theorem encN_len (ts : List Nd) : (encN ts).length = ts.length := by simp [encN_map]
theorem encN_at (ts us : List Nd) (t : Nd) : (encN (ts ++ t :: us))[ts.length]? = some t.enc := by simp [encN_map]
def Nd.k : Nd → Int | .mk k _ _ _ _ _ _ => k
def Nd.v : Nd → Int | .mk _ v _ _ _ _ _ => v
def Nd.tx : Nd → ByteArray | .mk _ _ tx _ _ _ _ => tx
def Nd.st : Nd → Int | .mk _ _ _ s _ _ _ => s
def Nd.en : Nd → Int | .mk _ _ _ _ e _ _ => e
def Nd.ns : Nd → Int | .mk _ _ _ _ _ n _ => n
def Nd.cs : Nd → List Nd | .mk _ _ _ _ _ _ c => c
def Nd.pc (t : Nd) : List PV := [ii t.k, ii t.v, ss t.tx, ii t.st, ii t.en, ii t.ns, .list 7 (encN t.cs)]
def Nd.nc (t : Nd) : List V := [.pv (ii t.k), .pv (ii t.v), .pv (ss t.tx), .pv (ii t.st), .pv (ii t.en), .pv (ii t.ns), .pv (.list 7 (encN t.cs))]
theorem nenc_eq (t : Nd) : t.enc = .agg [ii t.k, ii t.v, ss t.tx, ii t.st, ii t.en, ii t.ns, .list 7 (encN t.cs)] := by cases t; rfl
theorem cells_nenc (t : Nd) : (V.pv t.enc).cells? = some t.nc := by cases t; rfl
theorem pcells_nenc (t : Nd) : t.enc.cells = [ii t.k, ii t.v, ss t.tx, ii t.st, ii t.en, ii t.ns, .list 7 (encN t.cs)] := by cases t; rfl
theorem Vw_nc {h : HF} {B : List Nat} (t : Nd) : VwL h B t.nc t.pc :=
  .cons _ _ _ _ (.pv _) (.cons _ _ _ _ (.pv _) (.cons _ _ _ _ (.pv _) (.cons _ _ _ _ (.pv _) (.cons _ _ _ _ (.pv _) (.cons _ _ _ _ (.pv _) (.cons _ _ _ _ (.pv _) .nil))))))
theorem Vw_nenc {h : HF} {B : List Nat} (t : Nd) : Vw h B (.agg [.pv (ii t.k), .pv (ii t.v), .pv (ss t.tx), .pv (ii t.st), .pv (ii t.en), .pv (ii t.ns), .pv (.list 7 (encN t.cs))]) t.enc := by rw [nenc_eq]; exact .agg _ _ (Vw_nc t)
theorem Vw_pnenc {h : HF} {B : List Nat} (t : Nd) : Vw h B (.pv (.agg [ii t.k, ii t.v, ss t.tx, ii t.st, ii t.en, ii t.ns, .list 7 (encN t.cs)])) t.enc := by rw [nenc_eq]; exact .pv _
theorem nc_len (t : Nd) : t.nc.length = 7 := rfl
theorem VwE_nc {h : HF} {B : List Nat} : ∀ (ts : List Nd), VwE h B 7 (ts.map Nd.nc) (encN ts)
  | [] => .nil _
  | t :: ts => .cons _ _ _ _ _ (by rw [pcells_nenc]; rfl) (by rw [pcells_nenc]; exact Vw_nc t) (VwE_nc ts)
theorem renL_nc1 {ρ : Nat → Nat} (t : Nd) : V.renL ρ t.nc = t.nc := rfl
theorem bdL_nc {S : Nat → Prop} (t : Nd) : V.bdL S t.nc = True := by simp [Nd.nc, V.bdL, V.bd]
theorem renL_nc {ρ : Nat → Nat} (ts : List Nd) : (ts.map Nd.nc).map (V.renL ρ) = ts.map Nd.nc := by
  rw [List.map_map]; exact List.map_congr_left fun p _ => rfl
theorem allL_nc {S : Nat → Prop} (ts : List Nd) : allL S (ts.map Nd.nc) = True := by
  simp only [allL_iff, eq_iff_iff, iff_true]
  intro cs hcs
  obtain ⟨p, _, rfl⟩ := List.mem_map.1 hcs
  simp [Nd.nc, V.bdL, V.bd]
end Go.Proofs.Ytgphapkpoamcgaa
