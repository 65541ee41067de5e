/- The walk's steps, what follows behind a variable. -/
import Derived.Test.YtgphapkpoamcgaaBb17
set_option linter.unusedVariables false
namespace Go.Ab
section
variable {P : Program} {Q : Post} {fr : Fr} {H : Hp} {K : Fr → Hp → Prop}
theorem awp_seq_k {a b : AC} (h : ∀ K : Fr → Hp → Prop, (∀ fr H, awp P b Q fr H → K fr H) → awp P a (thn K Q) fr H) : awp P (.seq a b) Q fr H := h _ fun _ _ h => h
theorem awp_reg_k {ops : List AOp} (h : ∀ K : Fr → Hp → Prop, (∀ fr H, Q .normal fr H → K fr H) → aops P ops fr H K) : awp P (.reg ops) Q fr H := h _ fun _ _ h => h
theorem aops_nil (h : K fr H) : aops P [] fr H K := h
theorem aops_cons {o : AOp} {os : List AOp} (hg : o.g = none) (h : ∀ C : Kont, (∀ v rd δ fr' H', put o.dst v fr = fr' → updL H δ = H' → aops P os fr' H' K → C v rd δ) → AX P o.op H.length (get fr) (hget H) C) : aops P (o :: os) fr H K := by
  rw [aops, hg]
  exact h _ fun v rd δ fr' H' e1 e2 h => by subst e1; subst e2; exact h
theorem aops_run {o : AOp} {os : List AOp} {s : Nat} {want b : Bool} (hg : o.g = some (s, want)) (hb : get fr s = .pv (.lit (.bool b))) (hbw : b = want)
    (h : ∀ C : Kont, (∀ v rd δ fr' H', put o.dst v fr = fr' → updL H δ = H' → aops P os fr' H' K → C v rd δ) → AX P o.op H.length (get fr) (hget H) C) : aops P (o :: os) fr H K := by
  rw [aops, hg]
  simp only [gsel, hb, hbw, if_true]
  exact h _ fun v rd δ fr' H' e1 e2 h => by subst e1; subst e2; exact h
theorem aops_skip {o : AOp} {os : List AOp} {s : Nat} {want b : Bool} (hg : o.g = some (s, want)) (hb : get fr s = .pv (.lit (.bool b))) (hbw : ¬ b = want)
    (h : ∀ fr', put o.dst (lv undef) fr = fr' → aops P os fr' H K) : aops P (o :: os) fr H K := by
  rw [aops, hg]
  simp only [gsel, hb, hbw, if_false]
  exact h _ rfl
theorem aops_skip_u {o : AOp} {os : List AOp} {s : Nat} {want : Bool} (hg : o.g = some (s, want)) (hb : get fr s = lv undef)
    (h : ∀ fr', put o.dst (lv undef) fr = fr' → aops P os fr' H K) : aops P (o :: os) fr H K := by
  rw [aops, hg]
  simp only [gsel, hb, lv, undef]
  exact h _ rfl
theorem awp_dreg_k {ops : List AOp} {edges looks : List (List Nat)} (h : ∀ K : List Foot → Fr → Hp → Prop, (∀ tr fr H', indep H.length edges tr = true → Q .normal fr H' → K tr fr H') → aopsD P H.length 0 ops looks fr H [] K) : awp P (.dreg ops edges looks) Q fr H :=
  h _ fun _ _ _ h1 h2 => ⟨h1, h2⟩
section
variable {base i : Nat} {lks : List (List Nat)} {tr : List Foot} {KD : List Foot → Fr → Hp → Prop}
theorem aopsD_nil (h : KD tr fr H) : aopsD P base i [] lks fr H tr KD := h
theorem aopsD_cons {o : AOp} {os : List AOp} {lk : List Nat} (hg : o.g = none) (h : ∀ C : Kont, (∀ v rd δ fr' H' tr', put o.dst v fr = fr' → updL H δ = H' → tr ++ [⟨lk, o.dst, rd, δ.map (·.1)⟩] = tr' → aopsD P base (i + 1) os lks fr' H' tr' KD → C v rd δ) →
    AX P o.op (base + i) (get fr) (hget H) C) : aopsD P base i (o :: os) (lk :: lks) fr H tr KD := by
  rw [aopsD, hg]
  exact h _ fun v rd δ fr' H' tr' e1 e2 e3 h => by subst e1; subst e2; subst e3; exact h
theorem aopsD_run {o : AOp} {os : List AOp} {lk : List Nat} {s : Nat} {want b : Bool} (hg : o.g = some (s, want)) (hb : get fr s = .pv (.lit (.bool b))) (hbw : b = want)
    (h : ∀ C : Kont, (∀ v rd δ fr' H' tr', put o.dst v fr = fr' → updL H δ = H' → tr ++ [⟨lk, o.dst, rd, δ.map (·.1)⟩] = tr' → aopsD P base (i + 1) os lks fr' H' tr' KD → C v rd δ) →
    AX P o.op (base + i) (get fr) (hget H) C) : aopsD P base i (o :: os) (lk :: lks) fr H tr KD := by
  rw [aopsD, hg]
  simp only [gsel, hb, hbw, if_true]
  exact h _ fun v rd δ fr' H' tr' e1 e2 e3 h => by subst e1; subst e2; subst e3; exact h
theorem aopsD_skip {o : AOp} {os : List AOp} {lk : List Nat} {s : Nat} {want b : Bool} (hg : o.g = some (s, want)) (hb : get fr s = .pv (.lit (.bool b))) (hbw : ¬ b = want)
    (h : ∀ fr' tr', put o.dst (lv undef) fr = fr' → tr ++ [⟨lk, o.dst, [], []⟩] = tr' → aopsD P base (i + 1) os lks fr' H tr' KD) : aopsD P base i (o :: os) (lk :: lks) fr H tr KD := by
  rw [aopsD, hg]
  simp only [gsel, hb, hbw, if_false]
  exact h _ _ rfl rfl
theorem aopsD_skip_u {o : AOp} {os : List AOp} {lk : List Nat} {s : Nat} {want : Bool} (hg : o.g = some (s, want)) (hb : get fr s = lv undef)
    (h : ∀ fr' tr', put o.dst (lv undef) fr = fr' → tr ++ [⟨lk, o.dst, [], []⟩] = tr' → aopsD P base (i + 1) os lks fr' H tr' KD) : aopsD P base i (o :: os) (lk :: lks) fr H tr KD := by
  rw [aopsD, hg]
  simp only [gsel, hb, lv, undef]
  exact h _ _ rfl rfl
end
theorem awp_cond_k {c : Operand} {a b : AC} {t : Bool} (hc : ev (get fr) c = .pv (.lit (.bool t))) (h1 : t = true → awp P a Q fr H) (h2 : t = false → awp P b Q fr H) : awp P (.cond c a b) Q fr H := by
  simp only [awp, hc]
  split
  · rename_i h; exact h1 h
  · rename_i h; exact h2 (by simpa using h)
theorem awp_cond_t {c : Operand} {a b : AC} (hc : ev (get fr) c = .pv (.lit (.bool true))) (h1 : awp P a Q fr H) : awp P (.cond c a b) Q fr H := awp_cond_k hc (fun _ => h1) (fun h => nomatch h)
theorem awp_cond_f {c : Operand} {a b : AC} (hc : ev (get fr) c = .pv (.lit (.bool false))) (h1 : awp P b Q fr H) : awp P (.cond c a b) Q fr H := awp_cond_k hc (fun h => nomatch h) (fun _ => h1)
theorem awp_block_k {id : Nat} {a : AC} (h : awp P a (catch_ id Q) fr H) : awp P (.block id a) Q fr H := h
theorem awp_skip_k (h : Q .normal fr H) : awp P .skip Q fr H := h
theorem awp_exit_k {id : Nat} (h : Q (.exit id) fr H) : awp P (.exit id) Q fr H := h
theorem awp_ret_k (h : Q .ret fr H) : awp P .ret Q fr H := h
theorem thn_normal {Kn : Fr → Hp → Prop} (h : Kn fr H) : thn Kn Q .normal fr H := h
theorem thn_exit {Kn : Fr → Hp → Prop} {id : Nat} (h : Q (.exit id) fr H) : thn Kn Q (.exit id) fr H := h
theorem thn_ret {Kn : Fr → Hp → Prop} (h : Q .ret fr H) : thn Kn Q .ret fr H := h
theorem catch_normal {id : Nat} (h : Q .normal fr H) : catch_ id Q .normal fr H := h
theorem catch_ret {id : Nat} (h : Q .ret fr H) : catch_ id Q .ret fr H := h
theorem catch_exit {id : Nat} (h : Q .normal fr H) : catch_ id Q (.exit id) fr H := by simp only [catch_, if_true]; exact h
theorem catch_other {id id' : Nat} (hne : ¬ id' = id) (h : Q (.exit id') fr H) : catch_ id Q (.exit id') fr H := by simp only [catch_, hne, if_false]; exact h
/-- a loop: a state that says less, a number of rounds -/
theorem awp_loop_k {a : AC} {ρ : Nat → Nat} {fr' : Fr} {H' : Hp} (n : Nat) (hle : Le ρ fr H fr' H') (h : loopN (awp P a) Q n fr' H') : awp P (.loop a) Q fr H := ⟨ρ, fr', H', hle, n, h⟩
/-- one round -/
theorem loopN_k {a : AC} {n : Nat} (h : ∀ K : Fr → Hp → Prop, (∀ fr H ρ fr' H', Le ρ fr H fr' H' → loopN (awp P a) Q n fr' H' → K fr H) → awp P a (thn K Q) fr H) : loopN (awp P a) Q (n + 1) fr H :=
  h _ fun _ _ ρ fr' H' h1 h2 => ⟨ρ, fr', H', h1, h2⟩
end
/-! ### a state that says less, piece by piece -/
def leFr (ρ : Nat → Nat) (fr : Fr) : Fr → Prop
  | [] => True
  | (t, v) :: fr' => v.ren ρ = get fr t ∧ leFr ρ fr fr'
def leFb (S : Nat → Prop) : Fr → Prop
  | [] => True
  | (_, v) :: fr' => v.bd S ∧ leFb S fr'
def allL (S : Nat → Prop) : List (List V) → Prop
  | [] => True
  | cs :: xs => V.bdL S cs ∧ allL S xs
def leBlk (ρ : Nat → Nat) : Option Blk → Blk → Prop
  | some k', k => BlkLe ρ k' k
  | none, _ => False
theorem leBlk_some {ρ : Nat → Nat} {ro ro' : Bool} {ty ty' sz sz' : Nat} {xs xs' : List (List V)} {tg tg' : Option (Nat × Nat × Nat)} :
    leBlk ρ (some ⟨ro, ty, sz, xs, tg⟩) ⟨ro', ty', sz', xs', tg'⟩ = (ro = ro' ∧ ty = ty' ∧ sz = sz' ∧ xs = xs'.map (V.renL ρ) ∧ (tg' = none ∨ tg = tg')) := by
  simp only [leBlk, eq_iff_iff]
  exact ⟨fun h => ⟨h.ro, h.ty, h.sz, h.xs, h.tag⟩, fun ⟨a, b, c, d, e⟩ => ⟨a, b, c, d, e⟩⟩
def leHp (ρ : Nat → Nat) (S : Nat → Prop) (H : Hp) : Nat → Hp → Prop
  | _, [] => True
  | i, none :: l => leHp ρ S H (i + 1) l
  | i, some k :: l => (leBlk ρ (hget H (ρ i)) k ∧ allL S k.xs) ∧ leHp ρ S H (i + 1) l
theorem allL_iff {S : Nat → Prop} : ∀ {xs : List (List V)}, allL S xs ↔ ∀ cs ∈ xs, V.bdL S cs
  | [] => by simp [allL]
  | cs :: xs => by simp [allL, allL_iff (xs := xs)]
theorem leFr_spec {ρ : Nat → Nat} {fr : Fr} {S : Nat → Prop} : ∀ {fr' : Fr}, leFr ρ fr fr' → leFb S fr' → ∀ t, (get fr' t = .junk ∨ (get fr' t).ren ρ = get fr t) ∧ (get fr' t).bd S
  | [], _, _, t => ⟨.inl rfl, by simp [get, V.bd]⟩
  | (s, v) :: fr', h, hb, t => by
    simp only [leFr, leFb] at h hb
    simp only [get]
    split
    · rename_i e; subst e; exact ⟨.inr h.1, hb.1⟩
    · exact leFr_spec h.2 hb.2 t
theorem leHp_spec {ρ : Nat → Nat} {S : Nat → Prop} {H : Hp} : ∀ {l : Hp} {i : Nat}, leHp ρ S H i l → ∀ b k, (l[b]?).join = some k → leBlk ρ (hget H (ρ (i + b))) k ∧ ∀ cs ∈ k.xs, V.bdL S cs
  | [], i, _, b, k, e => by simp at e
  | none :: l, i, h, b, k, e => by
    simp only [leHp] at h
    cases b with
    | zero => simp at e
    | succ b => have := leHp_spec h b k (by simpa using e); rwa [show i + 1 + b = i + (b + 1) by omega] at this
  | some k0 :: l, i, h, b, k, e => by
    simp only [leHp] at h
    cases b with
    | zero => simp at e; subst e; exact ⟨h.1.1, allL_iff.1 h.1.2⟩
    | succ b => have := leHp_spec h.2 b k (by simpa using e); rwa [show i + 1 + b = i + (b + 1) by omega] at this
theorem Le.of {fr : Fr} {H : Hp} {fr' : Fr} {H' : Hp} (rl : List Nat) (h1 : leFr (fun b => rl.getD b 0) fr fr') (h2 : leFb (lt H') fr') (h3 : leHp (fun b => rl.getD b 0) (lt H') H 0 H') (h4 : rl.Nodup) (h5 : H'.length ≤ rl.length) :
    Le (fun b => rl.getD b 0) fr H fr' H' := by
  have hl : ∀ b k, hget H' b = some k → b < rl.length := fun b k e => by
    rcases Nat.lt_or_ge b H'.length with hb | hb
    · omega
    · unfold hget at e; rw [List.getElem?_eq_none hb] at e; cases e
  refine ⟨fun t => (leFr_spec h1 h2 t).1, fun t => (leFr_spec h1 h2 t).2, fun b k e => ?_, fun b k e => ?_, fun b b' k k' e e' he => ?_⟩
  · have := (leHp_spec h3 b k e).1
    rw [Nat.zero_add] at this
    cases hk : hget H (rl.getD b 0) with
    | none => simp only [hk, leBlk] at this
    | some k' => simp only [hk, leBlk] at this; exact ⟨k', rfl, this⟩
  · exact (leHp_spec h3 b k e).2
  · have hb := hl b k e
    have hb' := hl b' k' e'
    simp only [List.getD_eq_getElem?_getD, List.getElem?_eq_getElem hb, List.getElem?_eq_getElem hb', Option.getD_some] at he
    exact (List.getElem_inj h4).1 he
theorem renL_pv {ρ : Nat → Nat} : ∀ (ps : List PV), V.renL ρ (ps.map .pv) = ps.map .pv
  | [] => rfl
  | p :: ps => by simp [V.renL, V.ren, renL_pv ps]
theorem renL_vcells {ρ : Nat → Nat} (ps : List PV) : (ps.map PV.vcells).map (V.renL ρ) = ps.map PV.vcells := by
  rw [List.map_map]; exact List.map_congr_left fun p _ => renL_pv _
theorem allL_vcells {S : Nat → Prop} (ps : List PV) : allL S (ps.map PV.vcells) = True := by
  simp only [allL_iff, eq_iff_iff, iff_true]
  intro cs hcs
  obtain ⟨p, _, rfl⟩ := List.mem_map.1 hcs
  exact bdL_pv _
end Go.Ab
