/- The operations one by one, for evaluation from outside in. -/
import Derived.Test.YtgphapkpoamcgaaBb19
set_option linter.unusedVariables false
namespace Go.Ab
section
variable {P : Program} {nb : Nat} {f : FV} {h : HF} {K : Kont}
theorem ax_call (fx : Operand) (args : List Operand) : AX P (.call fx args) nb f h K = ACall P nb (ev f fx) (args.map (ev f)) h K := rfl
theorem ax_mov (x : Operand) : AX P (.mov x) nb f h K =
    (K (ev f x) [] []) := rfl
theorem ax_pick (c : Operand) (a : Operand) (b : Operand) : AX P (.pick c a b) nb f h K =
    (match ev f c with
    | .pv (.lit (.bool t)) => K (if t then ev f a else ev f b) [] []
    | _ => False) := rfl
theorem ax_alloc (ty : Nat) (sz : Nat) (zero : List Value) : AX P (.alloc ty sz zero) nb f h K =
    (K (.ptr nb 0 0) [] [(nb, some ⟨false, ty, sz, [zero.map lv], none⟩)]) := rfl
theorem ax_box (ty : Nat) (sz : Nat) (x : Operand) : AX P (.box ty sz x) nb f h K =
    (match (ev f x).cells? with
    | some cs => cs.length = sz ∧ K (.ptr nb 0 0) [] [(nb, some ⟨false, ty, sz, [cs], none⟩)]
    | none => False) := rfl
theorem ax_build (zero : List Value) (places : List (Nat × Nat)) (parts : List (Nat × Operand)) : AX P (.build zero places parts) nb f h K =
    (match fillA places (zero.map lv) (parts.map fun p => (p.1, ev f p.2)) with
    | some cs => K (.agg cs) [] []
    | none => False) := rfl
theorem ax_bslice (ty : Nat) (sz : Nat) (zero : List Value) (len : Nat) (parts : List (Nat × Operand)) : AX P (.bslice ty sz zero len parts) nb f h K =
    (match fillE sz (List.replicate len (zero.map lv)) (parts.map fun p => (p.1, ev f p.2)) with
    | some xs => K (.row nb len true) [] [(nb, some ⟨false, ty, sz, xs, none⟩)]
    | none => False) := rfl
theorem ax_load (agg : Bool) (n : Nat) (x : Operand) : AX P (.load agg n x) nb f h K =
    (match ev f x with
    | .ptr b i off => match h b with
      | some k => match k.xs[i]? with
        | some cs => off + n ≤ cs.length ∧ K (mkv agg ((cs.drop off).take n)) [b] []
        | none => False
      | none => False
    | .pv (.rptr cs) => n ≤ cs.length ∧ K (.pv (mkp agg (cs.take n))) [] []
    | _ => False) := rfl
theorem ax_store (n : Nat) (x : Operand) (y : Operand) : AX P (.store n x y) nb f h K =
    (match ev f x, (ev f y).cells? with
    | .ptr b i off, some new => match h b with
      | some k => match k.xs[i]? with
        | some cs => k.ro = false ∧ new.length = n ∧ off + n ≤ cs.length ∧ K (lv undef) [b] [(b, some { k with xs := k.xs.set i (spl cs off new) })]
        | none => False
      | none => False
    | _, _ => False) := rfl
theorem ax_nilc (x : Operand) : AX P (.nilc x) nb f h K =
    (match (ev f x).nil? with
    | some false => K (ev f x) [] []
    | _ => False) := rfl
theorem ax_bin (op : BinOp) (tag : Tag) (x : Operand) (y : Operand) : AX P (.bin op tag x y) nb f h K =
    (binK op tag (ev f x) (ev f y) fun v => K v [] []) := rfl
theorem ax_un (op : UnOp) (x : Operand) : AX P (.un op x) nb f h K =
    (match op, ev f x with
    | .neg, .pv (.lit (.int k a)) => K (.pv (.lit (.int k (k.wrap (0 - a))))) [] []
    | .not, .pv (.lit (.bool b)) => K (.pv (.lit (.bool (!b)))) [] []
    | _, _ => False) := rfl
theorem ax_conv (k : IntKind) (x : Operand) : AX P (.conv k x) nb f h K =
    (match ev f x with
    | .pv (.lit (.int _ a)) => K (.pv (.lit (.int k (k.wrap a)))) [] []
    | _ => False) := rfl
theorem ax_mkfn (g : FuncId) (caps : List Operand) : AX P (.mkfn g caps) nb f h K =
    (K (.fn g (caps.map (ev f))) [] []) := rfl
theorem ax_mkslice (ty : Nat) (sz : Nat) (zero : List Value) (l : Operand) (c : Operand) : AX P (.mkslice ty sz zero l c) nb f h K =
    (match ev f l, ev f c with
    | .pv (.lit (.int _ a)), .pv (.lit (.int _ b)) => ∃ n m : Nat, a = n ∧ b = m ∧ n ≤ m ∧ m ≤ big ∧ K (.row nb n (n == m)) [] [(nb, some ⟨false, ty, sz, List.replicate n (zero.map lv), none⟩)]
    | _, _ => False) := rfl
theorem ax_slice (sz : Nat) (x : Operand) (lo : Option Operand) (hi : Option Operand) (mx : Option Operand) : AX P (.slice sz x lo hi mx) nb f h K =
    (loK (optE f lo) fun l => match ev f x with
    | .pv (.list sz' xs) => sz' = sz ∧ hiK (optE f hi) xs.length fun u => hiK (optE f mx) xs.length fun m => l ≤ u ∧ u ≤ m ∧ m ≤ xs.length ∧ K (.pv (.list sz ((xs.take u).drop l))) [] []
    | .pv (.lit (.slice none 0 0)) => hiK (optE f hi) 0 fun u => hiK (optE f mx) 0 fun m => l = 0 ∧ u = 0 ∧ m = 0 ∧ K (.pv (.lit (.slice none 0 0))) [] []
    | .row b n _ => l = 0 ∧ mx = none ∧ hiK (optE f hi) n fun u => u ≤ n ∧ K (.row b u false) [] []
    | _ => False) := rfl
theorem ax_sslice (x : Operand) (lo : Option Operand) (hi : Option Operand) : AX P (.sslice x lo hi) nb f h K =
    (loK (optE f lo) fun l => match ev f x with
    | .pv (.lit (.string s)) => hiK (optE f hi) s.size fun u => l ≤ u ∧ u ≤ s.size ∧ K (.pv (.lit (.string (s.extract l u)))) [] []
    | _ => False) := rfl
theorem ax_faddr (off : Nat) (x : Operand) : AX P (.faddr off x) nb f h K =
    (match ev f x with
    | .ptr b i o => K (.ptr b i (o + off)) [] []
    | .pv (.rptr cs) => K (.pv (.rptr (cs.drop off))) [] []
    | _ => False) := rfl
theorem ax_field (agg : Bool) (off : Nat) (n : Nat) (x : Operand) : AX P (.field agg off n x) nb f h K =
    (match ev f x with
    | .agg cs => off + n ≤ cs.length ∧ (agg = true ∨ n = 1) ∧ K (mkv agg ((cs.drop off).take n)) [] []
    | .pv (.agg cs) => off + n ≤ cs.length ∧ (agg = true ∨ n = 1) ∧ K (.pv (mkp agg ((cs.drop off).take n))) [] []
    | _ => False) := rfl
theorem ax_iaddr (sz : Nat) (x : Operand) (i : Operand) : AX P (.iaddr sz x i) nb f h K =
    (match ev f x, ev f i with
    | .pv (.list sz' xs), .pv (.lit (.int _ a)) => sz' = sz ∧ ∃ (n : Nat) (e : PV), a = n ∧ xs[n]? = some e ∧ K (.pv (.rptr e.cells)) [] []
    | .row b m _, .pv (.lit (.int _ a)) => match h b with
      | some k => k.sz = sz ∧ ∃ n : Nat, a = n ∧ n < m ∧ K (.ptr b n 0) [b] []
      | none => False
    | _, _ => False) := rfl
theorem ax_sindex (x : Operand) (i : Operand) : AX P (.sindex x i) nb f h K =
    (match ev f x, ev f i with
    | .pv (.lit (.string s)), .pv (.lit (.int _ a)) => ∃ (n : Nat) (c : UInt8), a = n ∧ s[n]? = some c ∧ K (.pv (.lit (.int .u8 c.toNat))) [] []
    | _, _ => False) := rfl
theorem ax_ext (x : Operand) (k : Nat) : AX P (.ext x k) nb f h K =
    (match ev f x with
    | .tup vs => match vs[k]? with
      | some v => K v [] []
      | none => False
    | .pv (.tup vs) => match vs[k]? with
      | some v => K (.pv v) [] []
      | none => False
    | _ => False) := rfl
theorem ax_slen (str : Bool) (x : Operand) : AX P (.slen str x) nb f h K =
    (match ev f x with
    | .pv (.list _ xs) => str = false ∧ K (.pv (.lit (.int .i64 xs.length))) [] []
    | .pv (.lit (.slice none 0 0)) => str = false ∧ K (.pv (.lit (.int .i64 0))) [] []
    | .pv (.lit (.string s)) => str = true ∧ K (.pv (.lit (.int .i64 s.size))) [] []
    | .row _ n _ => str = false ∧ K (.pv (.lit (.int .i64 n))) [] []
    | _ => False) := rfl
theorem ax_app (ty : Nat) (sz : Nat) (x : Operand) (y : Operand) : AX P (.app ty sz x y) nb f h K =
    (srcK sz h (ev f y) fun ys rd => match ev f x with
    | .pv (.lit (.slice none 0 0)) => ys ≠ [] ∧ ys.length ≤ big ∧ K (.row nb ys.length false) rd [(nb, some ⟨false, ty, sz, ys, none⟩)]
    | .row b n full => match h b with
      | some k => k.ty = ty ∧ k.sz = sz ∧ k.xs.length = n ∧ n + ys.length ≤ big ∧
        if k.ro = true then full = true ∧ 0 < n ∧ ys ≠ [] ∧ K (.row nb (n + ys.length) false) (b :: rd) [(nb, some ⟨false, ty, sz, k.xs ++ ys, none⟩)]
        else K (.row nb (n + ys.length) false) (b :: rd) [(b, none), (nb, some ⟨false, ty, sz, k.xs ++ ys, none⟩)]
      | none => False
    | _ => False) := rfl
theorem ax_minmax (mn : Bool) (x : Operand) (y : Operand) : AX P (.minmax mn x y) nb f h K =
    (match ev f x, ev f y with
    | .pv (.lit (.int k a)), .pv (.lit (.int k' b)) => K (.pv (.lit (.int k (if mn then (if b < a then b else a) else (if b > a then b else a))))) [] []
    | _, _ => False) := rfl
end
theorem ev_cst {f : FV} {v : Value} : ev f (.const v) = cst v := rfl
theorem ev_fn {f : FV} {g : FuncId} : ev f (.func g) = .pv (.fn g []) := rfl
theorem get_cons {d t : Nat} {v : V} {fr : Fr} : get ((d, v) :: fr) t = if d = t then v else get fr t := rfl
theorem get_hit {t : Nat} {v : V} {fr : Fr} : get ((t, v) :: fr) t = v := if_pos rfl
theorem get_nil {t : Nat} : get [] t = .junk := rfl
theorem hget_zero {k : Option Blk} {H : Hp} : hget (k :: H) 0 = k := by simp [hget]
theorem hget_succ {k : Option Blk} {H : Hp} {n : Nat} : hget (k :: H) (n + 1) = hget H n := by simp [hget]
theorem hget_nil {n : Nat} : hget [] n = none := by simp [hget]
theorem put_some {d : Nat} {v : V} {fr : Fr} : put (some d) v fr = (d, v) :: fr := rfl
theorem put_none {v : V} {fr : Fr} : put none v fr = fr := rfl
theorem updL_nil {H : Hp} : updL H [] = H := rfl
section
variable {P : Program} {fr : Fr} {H : Hp} {K : Fr → Hp → Prop} {d : Option Nat} {op : AO} {os : List AOp}
theorem aops_cons' (h : ∀ C : Kont, (∀ v rd δ fr' H', put d v fr = fr' → updL H δ = H' → aops P os fr' H' K → C v rd δ) → AX P op H.length (get fr) (hget H) C) : aops P (⟨d, op, none⟩ :: os) fr H K := aops_cons rfl h
theorem aops_call {fx : Operand} {args : List Operand} (h : ∀ C : Kont, (∀ v rd δ fr' H', put d v fr = fr' → updL H δ = H' → aops P os fr' H' K → C v rd δ) → ACall P H.length (ev (get fr) fx) (args.map (ev (get fr))) (hget H) C) : aops P (⟨d, .call fx args, none⟩ :: os) fr H K := aops_cons rfl h
theorem aops_guard' {s : Nat} {want : Bool} {vg : V} (hb : get fr s = vg)
    (h : gk vg want (∀ C : Kont, (∀ v rd δ fr' H', put d v fr = fr' → updL H δ = H' → aops P os fr' H' K → C v rd δ) → AX P op H.length (get fr) (hget H) C)
      (∀ fr', put d (lv undef) fr = fr' → aops P os fr' H K)) : aops P (⟨d, op, some (s, want)⟩ :: os) fr H K := aops_guard rfl hb h
variable {base i : Nat} {lks : List (List Nat)} {tr : List Foot} {KD : List Foot → Fr → Hp → Prop} {lk : List Nat}
theorem aopsD_cons' (h : ∀ C : Kont, (∀ v rd δ fr' H' tr', put d v fr = fr' → updL H δ = H' → tr ++ [⟨lk, d, rd, δ.map (·.1)⟩] = tr' → aopsD P base (i + 1) os lks fr' H' tr' KD → C v rd δ) →
    AX P op (base + i) (get fr) (hget H) C) : aopsD P base i (⟨d, op, none⟩ :: os) (lk :: lks) fr H tr KD := aopsD_cons rfl h
theorem aopsD_call {fx : Operand} {args : List Operand} (h : ∀ C : Kont, (∀ v rd δ fr' H' tr', put d v fr = fr' → updL H δ = H' → tr ++ [⟨lk, d, rd, δ.map (·.1)⟩] = tr' → aopsD P base (i + 1) os lks fr' H' tr' KD → C v rd δ) →
    ACall P (base + i) (ev (get fr) fx) (args.map (ev (get fr))) (hget H) C) : aopsD P base i (⟨d, .call fx args, none⟩ :: os) (lk :: lks) fr H tr KD := aopsD_cons rfl h
theorem aopsD_guard' {s : Nat} {want : Bool} {vg : V} (hb : get fr s = vg)
    (h : gk vg want (∀ C : Kont, (∀ v rd δ fr' H' tr', put d v fr = fr' → updL H δ = H' → tr ++ [⟨lk, d, rd, δ.map (·.1)⟩] = tr' → aopsD P base (i + 1) os lks fr' H' tr' KD → C v rd δ) → AX P op (base + i) (get fr) (hget H) C)
      (∀ fr' tr', put d (lv undef) fr = fr' → tr ++ [⟨lk, d, [], []⟩] = tr' → aopsD P base (i + 1) os lks fr' H tr' KD)) : aopsD P base i (⟨d, op, some (s, want)⟩ :: os) (lk :: lks) fr H tr KD := aopsD_guard rfl hb h
end
end Go.Ab
