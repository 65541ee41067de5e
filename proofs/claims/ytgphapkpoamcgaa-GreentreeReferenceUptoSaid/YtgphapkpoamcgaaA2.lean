/- A2: joined from G0. -/
import Derived.Test.YtgphapkpoamcgaaA1
/- Syntax trees, arenas: the values, what Validate, Insert and Tree compute. -/
set_option linter.unusedSimpArgs false
set_option linter.unusedVariables false
namespace Go.Proofs.Ytgphapkpoamcgaa
open Go Go.Ab
inductive ST where
  | mk (k : Int) (x : ByteArray) (cs : List ST)
abbrev ss (x : ByteArray) : PV := .lit (.string x)
def ST.kd : ST → Int | .mk k _ _ => k
def ST.tx : ST → ByteArray | .mk _ x _ => x
def ST.ch : ST → List ST | .mk _ _ c => c
mutual
def ST.enc : ST → PV
  | .mk k x cs => .agg [ii k, ss x, .list 3 (encST cs)]
def encST : List ST → List PV
  | [] => []
  | t :: ts => t.enc :: encST ts
end
theorem encST_map (ts : List ST) : encST ts = ts.map ST.enc := by induction ts with
  | nil => rfl
  | cons t ts ih => simp [encST, ih]
theorem encST_app (ts us : List ST) : encST (ts ++ us) = encST ts ++ encST us := by simp [encST_map]
theorem encST_len (ts : List ST) : (encST ts).length = ts.length := by simp [encST_map]
theorem encST_at (ts us : List ST) (t : ST) : (encST (ts ++ t :: us))[ts.length]? = some t.enc := by simp [encST_map]
theorem encST_get {ts : List ST} {i : Nat} {t : ST} (h : ts[i]? = some t) : (encST ts)[i]? = some t.enc := by simp [encST_map, h]
def ST.tc (t : ST) : List V := [.pv (ii t.kd), .pv (ss t.tx), .pv (.list 3 (encST t.ch))]
theorem enc_st (t : ST) : t.enc = .agg [ii t.kd, ss t.tx, .list 3 (encST t.ch)] := by cases t; rfl
theorem cells_st (t : ST) : (V.pv t.enc).cells? = some t.tc := by cases t; rfl
theorem pcells_st (t : ST) : t.enc.cells = [ii t.kd, ss t.tx, .list 3 (encST t.ch)] := by cases t; rfl
theorem kd_st (k : Int) (x : ByteArray) (c : List ST) : (ST.mk k x c).kd = k := rfl
theorem tx_st (k : Int) (x : ByteArray) (c : List ST) : (ST.mk k x c).tx = x := rfl
theorem ch_st (k : Int) (x : ByteArray) (c : List ST) : (ST.mk k x c).ch = c := rfl
structure GN where
  kd : Int
  w : Int
  tx : ByteArray
  ch : List Int
def GN.enc (n : GN) : PV := .agg [ii n.kd, ii n.w, ss n.tx, .list 1 (encI n.ch)]
def encG (ns : List GN) : List PV := ns.map GN.enc
def AR (ns : List GN) : PV := .agg [.list 4 (encG ns)]
theorem encG_len (ns : List GN) : (encG ns).length = ns.length := by simp [encG]
theorem encG_at (ts us : List GN) (t : GN) : (encG (ts ++ t :: us))[ts.length]? = some t.enc := by simp [encG]
theorem encG_get {ts : List GN} {i : Nat} {t : GN} (h : ts[i]? = some t) : (encG ts)[i]? = some t.enc := by simp [encG, h]
theorem encG_take (ns : List GN) (i : Nat) : (encG ns).take i = encG (ns.take i) := by simp [encG, List.map_take]
def GN.tc (n : GN) : List V := [.pv (ii n.kd), .pv (ii n.w), .pv (ss n.tx), .pv (.list 1 (encI n.ch))]
theorem cells_gn (n : GN) : (V.pv n.enc).cells? = some n.tc := rfl
theorem pcells_gn (n : GN) : n.enc.cells = [ii n.kd, ii n.w, ss n.tx, .list 1 (encI n.ch)] := rfl
/-! ### sizes -/
mutual
def sz : ST → Nat
  | .mk _ _ cs => 1 + szL cs
def szL : List ST → Nat
  | [] => 0
  | t :: ts => sz t + szL ts
end
mutual
def dp : ST → Nat
  | .mk _ _ cs => dpL cs 0 + 1
def dpL : List ST → Nat → Nat
  | [], d => d
  | t :: ts, d => dpL ts (max d (dp t))
end
theorem dpL_ge : ∀ (ts : List ST) (d : Nat), d ≤ dpL ts d
  | [], d => Nat.le_refl d
  | t :: ts, d => Nat.le_trans (Nat.le_max_left _ _) (dpL_ge ts _)
theorem dpL_mem : ∀ (ts : List ST) (d : Nat) (t : ST), t ∈ ts → dp t ≤ dpL ts d
  | x :: ts, d, t, h => by
    rcases List.mem_cons.1 h with rfl | h
    · exact Nat.le_trans (Nat.le_max_right _ _) (dpL_ge ts _)
    · exact dpL_mem ts _ t h
theorem sz_pos (t : ST) : 1 ≤ sz t := by cases t; simp [sz]
mutual
theorem dp_sz : ∀ t : ST, dp t ≤ sz t
  | .mk k x cs => by
    simp only [dp, sz]
    have := dpL_sz cs 0
    omega
theorem dpL_sz : ∀ (ts : List ST) (d : Nat), dpL ts d ≤ d + szL ts
  | [], d => by simp [dpL, szL]
  | t :: ts, d => by
    simp only [dpL, szL]
    have h1 := dp_sz t
    have h2 := dpL_sz ts (max d (dp t))
    omega
end
theorem szL_app : ∀ (xs ys : List ST), szL (xs ++ ys) = szL xs + szL ys
  | [], ys => by simp [szL]
  | x :: xs, ys => by simp only [List.cons_append, szL, szL_app xs ys]; omega
theorem szL_mem : ∀ (ts : List ST) (t : ST), t ∈ ts → sz t ≤ szL ts
  | x :: ts, t, h => by
    simp only [szL]
    rcases List.mem_cons.1 h with rfl | h
    · omega
    · have := szL_mem ts t h; omega
theorem szL_len : ∀ (ts : List ST), ts.length ≤ szL ts
  | [] => Nat.le_refl _
  | t :: ts => by
    have := sz_pos t
    have := szL_len ts
    simp only [List.length_cons, szL]; omega
/-! ### what is tested -/
def tok (k : Int) : Bool := decide (k ≥ 100)
def mt (x : ByteArray) : Bool := x.toList == (⟨#[]⟩ : ByteArray).toList
mutual
def vldT : ST → Bool
  | .mk k x cs => if tok k then (if decide ((cs.length : Int) > 0) then false else vldL cs) else (if mt x then vldL cs else false)
def vldL : List ST → Bool
  | [] => true
  | t :: ts => if vldT t then vldL ts else false
end
mutual
def eqS : ST → ST → Bool
  | .mk k x cs, .mk k' x' cs' => if k == k' then (if x.toList == x'.toList then (if (cs.length : Int) == (cs'.length : Int) then eqSL cs cs' else false) else false) else false
def eqSL : List ST → List ST → Bool
  | t :: ts, u :: us => if eqS t u then eqSL ts us else false
  | _, _ => true
end
mutual
theorem eqS_self : ∀ t : ST, eqS t t = true
  | .mk k x cs => by simp only [eqS, beq_self_eq_true, if_true, eqSL_self cs]
theorem eqSL_self : ∀ ts : List ST, eqSL ts ts = true
  | [] => rfl
  | t :: ts => by simp only [eqSL, eqS_self t, if_true, eqSL_self ts]
end
def eqI : List Int → List Int → Bool
  | x :: xs, y :: ys => if x == y then eqI xs ys else false
  | _, _ => true
def eqLI (xs ys : List Int) : Bool := if (xs.length : Int) == (ys.length : Int) then eqI xs ys else false
theorem eqI_self : ∀ xs : List Int, eqI xs xs = true
  | [] => rfl
  | x :: xs => by simp only [eqI, beq_self_eq_true, if_true, eqI_self xs]
theorem eqLI_self (xs : List Int) : eqLI xs xs = true := by simp only [eqLI, beq_self_eq_true, if_true, eqI_self]
def eqG (a b : GN) : Bool := if a.kd == b.kd then (if a.w == b.w then (if a.tx.toList == b.tx.toList then eqLI a.ch b.ch else false) else false) else false
theorem eqG_self (a : GN) : eqG a a = true := by simp only [eqG, beq_self_eq_true, if_true, eqLI_self]
def wOf (ns : List GN) (c : Int) : Int := (ns[c.toNat]?).elim 0 fun n => n.w
def wsum (ns : List GN) (i : Nat) : List Int → Int → Option Int
  | [], w => some w
  | c :: cs, w => if decide (c < 0) then none else if decide (c ≥ i) then none else wsum ns i cs (IntKind.i64.wrap (w + wOf ns c))
def okN (ns : List GN) (i : Nat) (n : GN) : Bool :=
  match wsum ns i n.ch n.tx.size with
  | none => false
  | some w => if n.w == w then (if tok n.kd then (if decide ((n.ch.length : Int) > 0) then false else !((ns.take i).any fun m => eqG m n)) else (if mt n.tx then !((ns.take i).any fun m => eqG m n) else false)) else false
def vldF (ns : List GN) : List GN → Nat → Bool
  | [], _ => true
  | n :: r, i => if okN ns i n then vldF ns r (i + 1) else false
def arOk (ns : List GN) : Bool := vldF ns ns 0
theorem wsum_in {ns : List GN} {i : Nat} : ∀ {cs : List Int} {w w' : Int}, wsum ns i cs w = some w' → ∀ c ∈ cs, 0 ≤ c ∧ c < i
  | [], w, w', _, c, hc => by cases hc
  | d :: cs, w, w', h, c, hc => by
    simp only [wsum] at h
    by_cases h1 : d < 0
    · simp [h1] at h
    · by_cases h2 : d ≥ i
      · simp [h1, h2] at h
      · simp only [h1, h2, decide_false, Bool.false_eq_true, if_false] at h
        rcases List.mem_cons.1 hc with rfl | hc
        · omega
        · exact wsum_in h c hc
theorem okN_in {ns : List GN} {i : Nat} {n : GN} (h : okN ns i n = true) : ∀ c ∈ n.ch, 0 ≤ c ∧ c < i := by
  unfold okN at h
  cases hw : wsum ns i n.ch n.tx.size with
  | none => rw [hw] at h; simp at h
  | some w => exact wsum_in hw
theorem vldF_in {ns : List GN} : ∀ (r : List GN) (i : Nat), vldF ns r i = true → ∀ j n, r[j]? = some n → okN ns (i + j) n = true
  | [], i, _, j, n, hj => by simp at hj
  | x :: r, i, h, j, n, hj => by
    simp only [vldF] at h
    cases hx : okN ns i x with
    | false => rw [hx] at h; simp at h
    | true =>
      rw [hx, if_pos rfl] at h
      cases j with
      | zero => simp at hj; subst hj; exact hx
      | succ j => have := vldF_in r (i + 1) h j n (by simpa using hj); rwa [show i + (j + 1) = i + 1 + j by omega]
/-- children lie before their node -/
def Dn (ns : List GN) : Prop := ∀ (i : Nat) (n : GN), ns[i]? = some n → ∀ c ∈ n.ch, 0 ≤ c ∧ c < (i : Int)
theorem arOk_dn {ns : List GN} (h : arOk ns = true) : Dn ns := fun i n hi => by
  have := vldF_in ns 0 h i n hi
  rw [Nat.zero_add] at this
  exact okN_in this
/-! ### insert -/
def finI (ns : List GN) (n : GN) : List GN × Int := if decide (idxF (fun m => eqG m n) ns 0 ≥ 0) then (ns, idxF (fun m => eqG m n) ns 0) else (ns ++ [n], (ns.length : Int))
mutual
def ins (ns : List GN) : ST → List GN × Int
  | .mk k x cs => finI (insL ns cs [] x.size).1 ⟨k, (insL ns cs [] x.size).2.2, x, (insL ns cs [] x.size).2.1⟩
def insL (ns : List GN) : List ST → List Int → Int → List GN × List Int × Int
  | [], is, w => (ns, is, w)
  | c :: cs, is, w => insL (ins ns c).1 cs (is ++ [(ins ns c).2]) (IntKind.i64.wrap (w + wOf (ins ns c).1 (ins ns c).2))
end
theorem idxF_lt {α : Type} (p : α → Bool) : ∀ (ts : List α) (i : Nat), idxF p ts i < (i + ts.length : Nat)
  | [], i => by simp only [idxF, List.length_nil]; omega
  | t :: ts, i => by
    simp only [idxF, List.length_cons]
    by_cases h : p t = true
    · simp only [h, if_true]; omega
    · simp only [h, Bool.false_eq_true, if_false]
      have := idxF_lt p ts (i + 1)
      omega
theorem finI_spec (ns : List GN) (n : GN) : 0 ≤ (finI ns n).2 ∧ (finI ns n).2 < (finI ns n).1.length ∧ ns.length ≤ (finI ns n).1.length ∧ (finI ns n).1.length ≤ ns.length + 1 ∧ (finI ns n).1 ≠ [] := by
  unfold finI
  cases h : decide (idxF (fun m => eqG m n) ns 0 ≥ 0) with
  | true =>
    have h1 := of_decide_eq_true h
    have h2 := idxF_lt (fun m => eqG m n) ns 0
    rw [if_pos rfl]
    refine ⟨h1, by simpa using h2, Nat.le_refl _, Nat.le_succ _, fun e => ?_⟩
    simp only at e; subst e; simp at h2; omega
  | false =>
    rw [if_neg (by simp)]
    refine ⟨by simp, by simp; omega, by simp, by simp, by simp⟩
mutual
theorem ins_spec (ns : List GN) : ∀ t : ST, 0 ≤ (ins ns t).2 ∧ (ins ns t).2 < (ins ns t).1.length ∧ (ins ns t).1.length ≤ ns.length + sz t ∧ (ins ns t).1 ≠ []
  | .mk k x cs => by
    have h1 := insL_spec ns cs [] x.size
    have h2 := finI_spec (insL ns cs [] x.size).1 ⟨k, (insL ns cs [] x.size).2.2, x, (insL ns cs [] x.size).2.1⟩
    simp only [ins, sz]
    exact ⟨h2.1, h2.2.1, by omega, h2.2.2.2.2⟩
theorem insL_spec (ns : List GN) : ∀ (ts : List ST) (is : List Int) (w : Int), (insL ns ts is w).1.length ≤ ns.length + szL ts
  | [], is, w => by simp [insL, szL]
  | t :: ts, is, w => by
    simp only [insL, szL]
    have h1 := ins_spec ns t
    have h2 := insL_spec (ins ns t).1 ts (is ++ [(ins ns t).2]) (IntKind.i64.wrap (w + wOf (ins ns t).1 (ins ns t).2))
    omega
end
theorem wOf_get {ns : List GN} {c : Int} {n : GN} (h : ns[c.toNat]? = some n) : wOf ns c = n.w := by unfold wOf; rw [h]; rfl
/-! ### build -/
def bldL (g : Int → Int → ST × Int) : List Int → List ST → Int → List ST × Int
  | [], acc, l => (acc, l)
  | c :: cs, acc, l => if decide (l ≥ 0) then bldL g cs (acc ++ [(g c l).1]) (g c l).2 else bldL g cs acc l
def zS : ST := .mk 0 ⟨#[]⟩ []
def bld (ns : List GN) : Nat → Int → Int → ST × Int
  | 0, _, l => (zS, l)
  | f + 1, i, l => match ns[i.toNat]? with
    | none => (zS, l)
    | some n => (.mk n.kd n.tx (bldL (bld ns f) n.ch [] (l - 1)).1, (bldL (bld ns f) n.ch [] (l - 1)).2)
def atT (ns : List GN) : Nat → Int → ST
  | 0, _ => zS
  | f + 1, i => match ns[i.toNat]? with
    | none => zS
    | some n => .mk n.kd n.tx (n.ch.map (atT ns f))
def tsz (ns : List GN) : Nat → Int → Nat
  | 0, _ => 1
  | f + 1, i => match ns[i.toNat]? with
    | none => 1
    | some n => 1 + (n.ch.map (tsz ns f)).sum
theorem tsz_pos (ns : List GN) (f : Nat) (i : Int) : 1 ≤ tsz ns f i := by
  cases f with
  | zero => exact Nat.le_refl _
  | succ f => simp only [tsz]; split <;> omega
/-- what build hands back: the tree where it has not too many nodes; else what is left falls below zero -/
theorem bldL_spec {ns : List GN} {f : Nat} {P : Int → Prop} (ih : ∀ (c l : Int), P c → 0 ≤ l → ((tsz ns f c : Int) ≤ l → bld ns f c l = (atT ns f c, l - tsz ns f c)) ∧ (l < tsz ns f c → (bld ns f c l).2 = -1)) :
    ∀ (cs : List Int) (acc : List ST) (l : Int), (∀ c ∈ cs, P c) → -1 ≤ l →
      (0 ≤ l → (((cs.map (tsz ns f)).sum : Nat) : Int) ≤ l → bldL (bld ns f) cs acc l = (acc ++ cs.map (atT ns f), l - ((cs.map (tsz ns f)).sum : Nat))) ∧ ((l < 0 ∨ l < (((cs.map (tsz ns f)).sum : Nat) : Int)) → (bldL (bld ns f) cs acc l).2 = -1)
  | [], acc, l, _, hl => by
    simp only [bldL, List.map_nil, List.sum_nil, List.append_nil]
    refine ⟨fun _ _ => by simp, fun h => ?_⟩
    simp at h; omega
  | c :: cs, acc, l, hc, hl => by
    have hc0 := hc c (by simp)
    have hcs : ∀ c ∈ cs, P c := fun d hd => hc d (by simp [hd])
    have hp := tsz_pos ns f c
    simp only [bldL, List.map_cons, List.sum_cons]
    by_cases h0 : 0 ≤ l
    · obtain ⟨i1, i2⟩ := ih c l hc0 h0
      simp only [ge_iff_le, h0, decide_true, if_true]
      by_cases h1 : (tsz ns f c : Int) ≤ l
      · rw [i1 h1]
        obtain ⟨j1, j2⟩ := bldL_spec ih cs (acc ++ [atT ns f c]) (l - tsz ns f c) hcs (by omega)
        refine ⟨fun _ h2 => ?_, fun h2 => ?_⟩
        · rw [j1 (by omega) (by omega)]
          refine Prod.ext (by simp) ?_
          simp only; omega
        · refine j2 ?_
          omega
      · have i3 := i2 (by omega)
        obtain ⟨j1, j2⟩ := bldL_spec ih cs (acc ++ [(bld ns f c l).1]) (bld ns f c l).2 hcs (by omega)
        refine ⟨fun _ h2 => ?_, fun _ => j2 (by omega)⟩
        omega
    · obtain ⟨j1, j2⟩ := bldL_spec ih cs acc l hcs hl
      simp only [ge_iff_le, h0, decide_false, Bool.false_eq_true, if_false]
      exact ⟨fun h => h.elim, fun _ => j2 (by omega)⟩
theorem bld_spec {ns : List GN} (hd : Dn ns) : ∀ (f : Nat) (i l : Int), (0 ≤ i ∧ i < f ∧ i < ns.length) → 0 ≤ l → ((tsz ns f i : Int) ≤ l → bld ns f i l = (atT ns f i, l - tsz ns f i)) ∧ (l < tsz ns f i → (bld ns f i l).2 = -1)
  | 0, i, l, h, _ => by omega
  | f + 1, i, l, h, hl => by
    have hlt : i.toNat < ns.length := by omega
    have hg := List.getElem?_eq_getElem hlt
    have hdn := hd i.toNat _ hg
    simp only [bld, atT, tsz, hg]
    generalize ns[i.toNat] = n at hdn
    obtain ⟨j1, j2⟩ := bldL_spec (P := fun c => 0 ≤ c ∧ c < f ∧ c < ns.length) (fun c l hc hl => bld_spec hd f c l hc hl) n.ch [] (l - 1) (fun c hc => by have := hdn c hc; omega) (by omega)
    refine ⟨fun h1 => ?_, fun h1 => ?_⟩
    · rw [j1 (by omega) (by omega)]
      refine Prod.ext (by simp) ?_
      simp only; omega
    · exact j2 (by omega)
theorem tsz_mono {ns : List GN} (hd : Dn ns) : ∀ (f g : Nat) (i : Int), i < ns.length → 0 ≤ i → i < f → i < g → tsz ns f i = tsz ns g i
  | 0, g, i, _, h0, h1, _ => by omega
  | f + 1, 0, i, _, h0, _, h1 => by omega
  | f + 1, g + 1, i, hn, h0, h1, h2 => by
    have hlt : i.toNat < ns.length := by omega
    have hg := List.getElem?_eq_getElem hlt
    have hdn := hd i.toNat _ hg
    simp only [tsz, hg]
    generalize ns[i.toNat] = n at hdn
    refine congrArg (fun x : List Nat => 1 + x.sum) (List.map_congr_left fun c hc => ?_)
    have := hdn c hc
    exact tsz_mono hd f g c (by omega) (by omega) (by omega) (by omega)
end Go.Proofs.Ytgphapkpoamcgaa
