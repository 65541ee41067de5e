/- Regions in the order of their text, code, a whole function. -/
import Derived.Test.YtgphapkpoamcgaaBb13
set_option linter.unusedVariables false
set_option linter.unusedSimpArgs false
namespace Go.Ab
open Go.RowKit

abbrev Fr := List (Nat × V)
def get : Fr → Nat → V
  | [], _ => .junk
  | (d, v) :: fr, t => if d = t then v else get fr t
def put (d : Option Nat) (v : V) (fr : Fr) : Fr :=
  match d with
  | some d => (d, v) :: fr
  | none => fr
abbrev Hp := List (Option Blk)
def hget (H : Hp) : HF := fun b => (H[b]?).join
def setAt (H : Hp) (b : Nat) (k : Option Blk) : Hp := if b < H.length then H.set b k else H ++ List.replicate (b - H.length) none ++ [k]
def updL (H : Hp) : List (Nat × Option Blk) → Hp
  | [] => H
  | (b, k) :: δ => updL (setAt H b k) δ
def lt (H : Hp) : Nat → Prop := fun b => b < H.length
theorem hget_setAt (H : Hp) (b : Nat) (k : Option Blk) : hget (setAt H b k) = upd (hget H) b k := by
  funext x
  unfold hget setAt upd
  by_cases hb : b < H.length
  · rw [if_pos hb, List.getElem?_set]
    by_cases hx : b = x
    · subst hx; simp [hb]
    · rw [if_neg hx, if_neg (fun e => hx e.symm)]
  · rw [if_neg hb]
    by_cases hx : x = b
    · subst hx
      rw [List.getElem?_append_right (by simp; omega)]
      simp [show x - (H.length + (x - H.length)) = 0 by omega]
    · rw [if_neg hx]
      by_cases hlt : x < H.length
      · rw [List.append_assoc, List.getElem?_append_left hlt]
      · show _ = (H[x]?).join
        rw [List.getElem?_eq_none (l := H) (by omega)]
        by_cases hlt2 : x < b
        · rw [List.getElem?_append_left (by simp; omega), List.getElem?_append_right (by omega), List.getElem?_replicate, if_pos (by omega)]; rfl
        · rw [List.getElem?_eq_none (by simp; omega)]
theorem hget_updL : ∀ (δ : List (Nat × Option Blk)) (H : Hp), hget (updL H δ) = updD (hget H) δ
  | [], H => rfl
  | (b, k) :: δ, H => by rw [updL, updD, hget_updL δ, hget_setAt]
theorem len_setAt (H : Hp) (b : Nat) (k : Option Blk) : H.length ≤ (setAt H b k).length ∧ b < (setAt H b k).length := by
  unfold setAt; split <;> simp <;> omega
theorem len_updL : ∀ (δ : List (Nat × Option Blk)) (H : Hp), H.length ≤ (updL H δ).length ∧ ∀ b k, (b, k) ∈ δ → b < (updL H δ).length
  | [], H => by simp [updL]
  | (b, k) :: δ, H => by
    obtain ⟨h1, h2⟩ := len_updL δ (setAt H b k)
    have h3 := len_setAt H b k
    refine ⟨by rw [updL]; omega, fun b' k' hb => ?_⟩
    rw [updL]
    rcases List.mem_cons.1 hb with e | hb
    · cases e; omega
    · exact h2 b' k' hb
theorem SD_lt {H : Hp} {δ : List (Nat × Option Blk)} : ∀ b, SD (lt H) δ b → lt (updL H δ) b := fun b hb => by
  obtain ⟨h1, h2⟩ := len_updL δ H
  rcases hb with hb | ⟨k, hb⟩
  · exact Nat.lt_of_lt_of_le hb h1
  · exact h2 b _ hb

structure AOp where
  dst : Option Nat
  op : AO
  g : Option (Nat × Bool)

def gsel (g : Option (Nat × Bool)) (f : FV) (A B : Prop) : Prop :=
  match g with
  | none => A
  | some (s, want) => match f s with
    | .pv (.lit (.bool b)) => if b = want then A else B
    | .pv (.lit (.tuple _)) => B
    | _ => False
/-- operations one after the other -/
def aops (P : Program) : List AOp → Fr → Hp → (Fr → Hp → Prop) → Prop
  | [], fr, H, K => K fr H
  | o :: os, fr, H, K => gsel o.g (get fr) (AX P o.op H.length (get fr) (hget H) fun v _ δ => aops P os (put o.dst v fr) (updL H δ) K) (aops P os (put o.dst (lv undef) fr) H K)

inductive AC where
  | skip
  | reg (ops : List AOp)
  | dreg (ops : List AOp) (edges looks : List (List Nat))
  | seq (a b : AC)
  | cond (c : Operand) (a b : AC)
  | block (id : Nat) (a : AC)
  | loop (a : AC)
  | exit (id : Nat)
  | ret

def dstOk (N : Nat) : Option Nat → Bool
  | some d => decide (d < N)
  | none => true
def compOper (P : Program) (N : Nat) (ops : List Oper) (o : Oper) : Option AOp :=
  match compOp P o.op with
  | none => none
  | some ao => if dstOk N o.dst = true then match o.guard with
      | none => some ⟨o.dst, ao, none⟩
      | some (j, want) => match ops[j]? with
        | some oj => match oj.dst with
          | some s => if s < N then some ⟨o.dst, ao, some (s, want)⟩ else none
          | none => none
        | none => none
    else none
def compOps (P : Program) (N : Nat) (ops : List Oper) : List Oper → Option (List AOp)
  | [] => some []
  | o :: os => match compOper P N ops o, compOps P N ops os with
    | some a, some as => some (a :: as)
    | _, _ => none
def edgesOf (o : Oper) : List Nat := (o.after.toList.filter (Region.binds .any)).map (·.on)
/-- the slots that an operation looks at -/
def looksOf (ops : List Oper) (o : Oper) : List Nat :=
  (o.op.operands.toList.filterMap fun | .tmp t => some t | _ => none) ++ match o.guard with
    | some (j, _) => match ops[j]? with
      | some oj => match oj.dst with
        | some s => [s]
        | none => []
      | none => []
    | none => []
def compCode (P : Program) (N : Nat) : Code → Option AC
  | .skip => some .skip
  | .region _ ops draw => match compOps P N ops.toList ops.toList with
    | some aos => if draw then some (.dreg aos (ops.toList.map edgesOf) (ops.toList.map (looksOf ops.toList))) else some (.reg aos)
    | none => none
  | .seq a b => match compCode P N a, compCode P N b with
    | some a, some b => some (.seq a b)
    | _, _ => none
  | .cond c a b => match compCode P N a, compCode P N b with
    | some a, some b => some (.cond c a b)
    | _, _ => none
  | .block id a => match compCode P N a with
    | some a => some (.block id a)
    | none => none
  | .loop a => match compCode P N a with
    | some a => some (.loop a)
    | none => none
  | .exit id => some (.exit id)
  | .ret => some .ret
  | _ => none

/-! ### the walk's state -/
abbrev Post := Exit → Fr → Hp → Prop
abbrev ASt (N : Nat) (G : Gh) (fr : Fr) (H : Hp) (a : Act) (w : World) : Prop := St N (lt H) G (get fr) (hget H) a w
/-- the machine's postcondition: some abstract state stands for what there is -/
def lift (N : Nat) (Q : Post) (G0 : Gh) (H0 : Hp) (w0 : World) : Exit → Act → World → Prop := fun e a w =>
  ∃ G fr H, Q e fr H ∧ ASt N G fr H a w ∧ Tr G0 (hget H0) w0 G (hget H) w
def AWp (P : Program) (N : Nat) (c : Code) (Q : Post) (fr : Fr) (H : Hp) : Prop :=
  ∀ G a w, ASt N G fr H a w → c.wp P (lift N Q G H w) a w

theorem getD_set {N : Nat} {a : Act} {d t : Nat} {u : Value} (hs : a.tmps.size = N) (hd : d < N) : (a.tmps.setIfInBounds d u).getD t undef = if d = t then u else a.tmps.getD t undef := by
  simp only [Array.getD_eq_getD_getElem?, Array.getElem?_setIfInBounds]
  by_cases h : d = t
  · subst h; simp [hs, hd]
  · simp [h]
/-- the state behind an operation -/
theorem ASt.put {N : Nat} {G : Gh} {fr : Fr} {H : Hp} {a : Act} {w : World} (st : ASt N G fr H a w) {d : Option Nat} (hd : ∀ x, d = some x → x < N) {δ : List (Nat × Option Blk)} {v : V} {u : Value} {w' : World} {G' : Gh}
    (hle : Gh.le (lt H) G G') (hrel : Rel (SD (lt H) δ) G' (updD (hget H) δ) w') (hR : R G' v u) (hb : v.bd (SD (lt H) δ)) : ASt N G' (Ab.put d v fr) (updL H δ) (a.put d u) w' := by
  have hS : ∀ b, lt H b → lt (updL H δ) b := fun b h => SD_lt b (.inl h)
  refine ⟨by rw [hget_updL]; exact hrel.monoS SD_lt, fun t => ?_, fun t => ?_, ?_, ?_⟩
  · cases d with
    | none => exact R_mono hle _ _ (st.bd t) (st.fr t)
    | some d =>
      simp only [Ab.put, Act.put, get]
      rw [getD_set st.size (hd d rfl)]
      split
      · exact hR
      · exact R_mono hle _ _ (st.bd t) (st.fr t)
  · cases d with
    | none => exact V.bd_mono hS _ (st.bd t)
    | some d =>
      simp only [Ab.put, get]
      split
      · exact V.bd_mono SD_lt _ hb
      · exact V.bd_mono hS _ (st.bd t)
  · cases d <;> simp [Act.put, st.size]
  · cases d <;> simp [Act.put, st.defers]

theorem compOper_spec {P : Program} {N : Nat} {ops : List Oper} {o : Oper} {ao : AOp} (h : compOper P N ops o = some ao) :
    compOp P o.op = some ao.op ∧ ao.dst = o.dst ∧ (∀ x, o.dst = some x → x < N) ∧ ((o.guard = none ∧ ao.g = none) ∨ ∃ j want oj s, o.guard = some (j, want) ∧ ops[j]? = some oj ∧ oj.dst = some s ∧ s < N ∧ ao.g = some (s, want)) := by
  unfold compOper at h
  split at h
  · cases h
  rename_i a ha
  split at h
  case isFalse => cases h
  rename_i hd
  have hd' : ∀ x, o.dst = some x → x < N := fun x hx => by rw [hx] at hd; simpa [dstOk] using hd
  split at h
  · rename_i hg
    simp only [Option.some.injEq] at h; subst h
    exact ⟨ha, rfl, hd', .inl ⟨hg, rfl⟩⟩
  · rename_i j want hg
    split at h
    case h_2 => cases h
    rename_i oj hj
    split at h
    case h_2 => cases h
    rename_i s hs
    split at h
    case isFalse => cases h
    rename_i hlt
    simp only [Option.some.injEq] at h; subst h
    exact ⟨ha, rfl, hd', .inr ⟨j, want, oj, s, hg, hj, hs, hlt, rfl⟩⟩

/-- is the operation carried out? -/
theorem gsel_spec {P : Program} {N : Nat} {ops : List Oper} {o : Oper} {ao : AOp} (h : compOper P N ops o = some ao) {G : Gh} {f : FV} {hp : HF} {S : Nat → Prop} {a : Act} {w : World} (st : St N S G f hp a w) {A B : Prop} (hg : gsel ao.g f A B) :
    (Region.wanted o (yielded ops.toArray a.tmps) = true ∧ A) ∨ (Region.wanted o (yielded ops.toArray a.tmps) = false ∧ B) := by
  obtain ⟨_, _, _, hgd⟩ := compOper_spec h
  rcases hgd with ⟨h1, h2⟩ | ⟨j, want, oj, s, h1, h2, h3, h4, h5⟩
  · rw [h2] at hg
    exact .inl ⟨by simp [Region.wanted, h1], hg⟩
  · rw [h5] at hg
    simp only [gsel] at hg
    have hs : a.tmps[s]? = some (a.tmps.getD s undef) := by
      have : s < a.tmps.size := by rw [st.size]; exact h4
      simp [this]
    have hy : ∀ v, a.tmps.getD s undef = v → yielded ops.toArray a.tmps j = match v with | .bool b => some b | _ => none := fun v hv => by
      unfold yielded
      simp only [List.getElem?_toArray, h2, Option.bind_some, h3]
      rw [hs, hv]
      cases v <;> rfl
    have hfr := st.fr s
    split at hg
    · rename_i b hb
      rw [hb] at hfr; simp only [R, RP] at hfr
      have := hy _ hfr
      split at hg
      · rename_i hbw; exact .inl ⟨by simp [Region.wanted, h1, this, hbw], hg⟩
      · rename_i hbw; exact .inr ⟨by simp [Region.wanted, h1, this, hbw], hg⟩
    · rename_i us hb
      rw [hb] at hfr; simp only [R, RP] at hfr
      have := hy _ hfr
      exact .inr ⟨by simp [Region.wanted, h1, this], hg⟩
    · exact hg.elim

theorem aops_sound {P : Program} {N : Nat} {ops : List Oper} {K : Fr → Hp → Prop} {Q : Exit → Act → World → Prop} {G0 : Gh} {h0 : HF} {w0 : World}
    (hQ : ∀ G fr H a w, K fr H → ASt N G fr H a w → Tr G0 h0 w0 G (hget H) w → Q .normal a w) : ∀ (l : List Oper) (aos : List AOp) (fr : Fr) (H : Hp) (G : Gh) (a : Act) (w : World),
    compOps P N ops l = some aos → aops P aos fr H K → ASt N G fr H a w → Tr G0 h0 w0 G (hget H) w → wpList P ops.toArray Q l a w
  | [], aos, fr, H, G, a, w, hc, hA, st, tr => by
    simp only [compOps, Option.some.injEq] at hc; subst hc
    exact hQ G fr H a w hA st tr
  | o :: l, aos, fr, H, G, a, w, hc, hA, st, tr => by
    simp only [compOps] at hc
    split at hc
    case h_2 => cases hc
    rename_i ao aos' h1 h2
    simp only [Option.some.injEq] at hc; subst hc
    obtain ⟨hop, hdst, hd, _⟩ := compOper_spec h1
    simp only [aops] at hA
    unfold wpList
    rcases gsel_spec h1 st hA with ⟨hw, hA⟩ | ⟨hw, hA⟩
    · rw [if_pos hw]
      obtain ⟨v, rd, δ, hK, hδ, hstp⟩ := AX_sound hop hA
      refine .inl (hstp N (lt H) G (get fr) (hget H) a w st (fun _ _ => rfl) (fun _ _ => rfl) (Nat.lt_irrefl _) _ _ fun u w' G' g1 g2 g3 g4 g5 => ?_)
      rw [hdst] at hK
      refine aops_sound hQ l aos' _ _ G' _ w' h2 hK (st.put hd g1 g2 g4 g5) (tr.trans ?_)
      rw [hget_updL]; exact g3
    · rw [if_neg (by rw [hw]; simp)]
      rw [hdst] at hA
      refine aops_sound hQ l aos' _ _ G _ w h2 hA ?_ tr
      exact st.put (δ := []) hd (Gh.le.refl _ _) (st.rel.monoS fun b hb => .inl hb) (by simp [R, lv, RP]) (by simp [lv, V.bd])

def thn (K : Fr → Hp → Prop) (Q : Post) : Post
  | .normal, fr, H => K fr H
  | e, fr, H => Q e fr H
def catch_ (id : Nat) (Q : Post) : Post
  | .exit id', fr, H => if id' = id then Q .normal fr H else Q (.exit id') fr H
  | e, fr, H => Q e fr H

section
variable {P : Program} {N : Nat} {Q : Post} {fr : Fr} {H : Hp}
theorem awp_reg {id : Nat} {ops : Array Oper} {aos : List AOp} (hc : compOps P N ops.toList ops.toList = some aos) (hA : aops P aos fr H (Q .normal)) : AWp P N (.region id ops false) Q fr H := by
  intro G a w st
  refine wp_region_list ?_
  have := aops_sound (P := P) (ops := ops.toList) (K := Q .normal) (Q := lift N Q G H w) (G0 := G) (h0 := hget H) (w0 := w) (fun G' fr' H' a' w' hK st' tr' => ⟨G', fr', H', hK, st', tr'⟩) ops.toList aos fr H G a w hc hA st (Tr.refl _ _ _)
  simpa using this
theorem awp_seq {x y : Code} (h : AWp P N x (thn (AWp P N y Q) Q) fr H) : AWp P N (.seq x y) Q fr H := by
  intro G a w st
  refine wp_seq (wp_mono (h G a w st) fun e a' w' hq => ?_)
  obtain ⟨G', fr', H', hQ, st', tr'⟩ := hq
  cases e with
  | normal => exact wp_mono (hQ G' a' w' st') fun e a2 w2 ⟨G2, fr2, H2, q2, st2, tr2⟩ => ⟨G2, fr2, H2, q2, st2, tr'.trans tr2⟩
  | _ => exact ⟨G', fr', H', hQ, st', tr'⟩
theorem awp_cond {c : Operand} {x y : Code} {b : Bool} (hc : ev (get fr) c = .pv (.lit (.bool b))) (h1 : b = true → AWp P N x Q fr H) (h2 : b = false → AWp P N y Q fr H) : AWp P N (.cond c x y) Q fr H := by
  intro G a w st
  have hv := st.ev c; rw [hc] at hv; simp only [R, RP] at hv
  exact wp_cond_split hv (fun hb => h1 hb G a w st) (fun hb => h2 hb G a w st)
theorem awp_block {id : Nat} {x : Code} (h : AWp P N x (catch_ id Q) fr H) : AWp P N (.block id x) Q fr H := by
  intro G a w st
  refine wp_block (wp_mono (h G a w st) fun e a' w' hq => ?_)
  obtain ⟨G', fr', H', hQ, st', tr'⟩ := hq
  cases e with
  | exit id' =>
    simp only [Exit.inBlock]
    simp only [catch_] at hQ
    split
    · rename_i he; rw [if_pos he] at hQ; exact ⟨G', fr', H', hQ, st', tr'⟩
    · rename_i he; rw [if_neg he] at hQ; exact ⟨G', fr', H', hQ, st', tr'⟩
  | _ => exact ⟨G', fr', H', hQ, st', tr'⟩
theorem awp_skip (h : Q .normal fr H) : AWp P N .skip Q fr H := fun G a w st => wp_skip ⟨G, fr, H, h, st, Tr.refl _ _ _⟩
theorem awp_exit {id : Nat} (h : Q (.exit id) fr H) : AWp P N (.exit id) Q fr H := fun G a w st => wp_exit ⟨G, fr, H, h, st, Tr.refl _ _ _⟩
theorem awp_ret (h : Q .ret fr H) : AWp P N .ret Q fr H := fun G a w st => wp_ret ⟨G, fr, H, h, st, Tr.refl _ _ _⟩
end

mutual
/-- other names for the blocks -/
def V.ren (ρ : Nat → Nat) : V → V
  | .junk => .junk
  | .pv p => .pv p
  | .ptr b i o => .ptr (ρ b) i o
  | .row b n fl => .row (ρ b) n fl
  | .agg cs => .agg (V.renL ρ cs)
  | .tup cs => .tup (V.renL ρ cs)
  | .fn f cs => .fn f (V.renL ρ cs)
def V.renL (ρ : Nat → Nat) : List V → List V
  | [] => []
  | c :: cs => V.ren ρ c :: V.renL ρ cs
end
def Gh.ren (G : Gh) (ρ : Nat → Nat) : Gh := { φ := fun b => G.φ (ρ b), κ := fun b => G.κ (ρ b), σ := fun b => G.σ (ρ b), I := G.I }
mutual
theorem R_ren {G : Gh} {ρ : Nat → Nat} : ∀ (v : V) (u : Value), R (G.ren ρ) v u ↔ R G (v.ren ρ) u
  | .junk, u => by simp [R, V.ren]
  | .pv p, u => by simp [R, V.ren, Gh.ren]
  | .ptr b i o, u => by simp [R, V.ren, Gh.ren]
  | .row b n fl, u => by simp [R, V.ren, Gh.ren]
  | .agg cs, u => by simp only [R, V.ren, RL_ren cs]
  | .tup cs, u => by simp only [R, V.ren, RL_ren cs]
  | .fn f cs, u => by simp only [R, V.ren, RL_ren cs]
theorem RL_ren {G : Gh} {ρ : Nat → Nat} : ∀ (vs : List V) (us : List Value), RL (G.ren ρ) vs us ↔ RL G (V.renL ρ vs) us
  | [], us => by simp [RL, V.renL]
  | c :: cs, us => by simp only [RL, V.renL, R_ren c, RL_ren cs]
end
theorem renL_get {ρ : Nat → Nat} : ∀ (cs : List V) (j : Nat), (V.renL ρ cs)[j]? = (cs[j]?).map (V.ren ρ)
  | [], j => by simp [V.renL]
  | c :: cs, j => by cases j <;> simp [V.renL, renL_get cs]
theorem renL_len {ρ : Nat → Nat} : ∀ (cs : List V), (V.renL ρ cs).length = cs.length
  | [] => rfl
  | c :: cs => by simp [V.renL, renL_len cs]

/-- a block under the new names; its tag may be forgotten -/
structure BlkLe (ρ : Nat → Nat) (k' k : Blk) : Prop where
  ro : k'.ro = k.ro
  ty : k'.ty = k.ty
  sz : k'.sz = k.sz
  xs : k'.xs = k.xs.map (V.renL ρ)
  tag : k.tag = none ∨ k'.tag = k.tag
theorem BlkLe.tagged {ρ : Nat → Nat} {k' k : Blk} (h : BlkLe ρ k' k) {m : Nat × Nat × Nat} (hm : k.tag = some m) : k'.tag = some m := by
  rcases h.tag with e | e
  · rw [e] at hm; cases hm
  · rw [e]; exact hm
/-- a state that says less: slots forgotten, blocks forgotten, the others under new names -/
structure Le (ρ : Nat → Nat) (fr : Fr) (H : Hp) (fr' : Fr) (H' : Hp) : Prop where
  fr : ∀ t, get fr' t = .junk ∨ (get fr' t).ren ρ = get fr t
  bd : ∀ t, (get fr' t).bd (lt H')
  hp : ∀ b k, hget H' b = some k → ∃ k', hget H (ρ b) = some k' ∧ BlkLe ρ k' k
  hbd : ∀ b k, hget H' b = some k → ∀ cs ∈ k.xs, V.bdL (lt H') cs
  inj : ∀ b b' k k', hget H' b = some k → hget H' b' = some k' → ρ b = ρ b' → b = b'
theorem ASt.le {N : Nat} {G : Gh} {fr : Fr} {H : Hp} {a : Act} {w : World} (st : ASt N G fr H a w) {ρ : Nat → Nat} {fr' : Fr} {H' : Hp} (h : Le ρ fr H fr' H') : ∃ G', ASt N G' fr' H' a w ∧ Tr G (hget H) w G' (hget H') w := by
  have hlive : ∀ b k, hget H' b = some k → lt H' b := fun b k e => by
    unfold hget at e
    unfold lt
    rcases Nat.lt_or_ge b H'.length with hb | hb
    · exact hb
    · rw [List.getElem?_eq_none hb] at e; cases e
  refine ⟨G.ren ρ, ⟨⟨st.rel.imm, fun b k e => ?_, fun b b' k k' e e' eφ => ?_, fun b k e hro => ?_, fun b k e => hlive b k e, fun b k e => h.hbd b k e⟩,
    fun t => ?_, h.bd, st.size, st.defers⟩, ⟨rfl, rfl, rfl, Nat.le_refl _, Imm.le.refl _, fun _ _ _ => rfl, fun b k e hro _ => ?_, fun b k e _ => ?_, fun a v e _ => .inl e⟩⟩
  · obtain ⟨k', e0, kl⟩ := h.hp b k e
    obtain ⟨arr, e1, rr⟩ := st.rel.blk (ρ b) _ e0
    have hl : k'.xs.length = k.xs.length := by rw [kl.xs, List.length_map]
    refine ⟨arr, by rw [← kl.ty]; exact e1, ⟨kl.sz.symm.trans rr.sz, rr.size, by rw [← hl, ← kl.sz]; exact rr.fits, fun i cs hi => ?_, fun i j cs c hi hj => ?_, fun hro i hi => rr.ro (kl.ro.trans hro) i (by rw [hl, kl.sz]; exact hi), fun m hm => rr.tag m (kl.tagged hm)⟩⟩
    · have := rr.len i (V.renL ρ cs) (by simp only [kl.xs, List.getElem?_map, hi, Option.map_some])
      rw [renL_len] at this; exact this.trans kl.sz
    · obtain ⟨u, q1, q2, q3⟩ := rr.cell i j (V.renL ρ cs) (V.ren ρ c) (by simp only [kl.xs, List.getElem?_map, hi, Option.map_some]) (by rw [renL_get, hj]; rfl)
      exact ⟨u, by rw [← kl.sz]; exact q1, q2, (R_ren c u).2 q3⟩
  · obtain ⟨k1, e0, _⟩ := h.hp b k e
    obtain ⟨k1', e0', _⟩ := h.hp b' k' e'
    exact h.inj b b' k k' e e' (st.rel.inj _ _ _ _ e0 e0' eφ)
  · obtain ⟨k1, e0, kl⟩ := h.hp b k e
    exact st.rel.sep (ρ b) _ e0 (kl.ro.trans hro)
  · rcases h.fr t with e | e
    · rw [e]; simp [R]
    · exact (R_ren _ _).2 (by rw [e]; exact st.fr t)
  · obtain ⟨k1, e0, kl⟩ := h.hp b k e
    exact ⟨ρ b, _, e0, kl.ro.trans hro, rfl⟩
  · obtain ⟨k1, e0, _⟩ := h.hp b k e
    exact ⟨ρ b, _, e0, rfl⟩
end Go.Ab
