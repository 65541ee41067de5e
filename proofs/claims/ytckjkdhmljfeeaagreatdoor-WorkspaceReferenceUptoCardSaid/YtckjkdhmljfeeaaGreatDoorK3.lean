/- K3: joined from Bb18 Bb19 Bb20 Bb21 Bb22 Bb23 Bb24 Bb25. -/
import Derived.Test.YtckjkdhmljfeeaaGreatDoorK2
import Derived.IntWalk
import Derived.Attr
/- The walk's steps, what follows behind a variable. -/
set_option linter.unusedVariables false
namespace Go.Ab
section
variable {P : Program} {Q : Post} {fr : Fr} {H : Hp} {K : Fr → Hp → Prop}
theorem awp_seq_k {a b : AC} (h : ∀ K : Fr → Hp → Prop, (∀ fr H, awp P b Q fr H → K fr H) → awp P a (thn K Q) fr H) : awp P (.seq a b) Q fr H := h _ fun _ _ h => h
theorem awp_reg_k {ops : List AOp} (h : ∀ K : Fr → Hp → Prop, (∀ fr H, Q .normal fr H → K fr H) → aops P ops fr H K) : awp P (.reg ops) Q fr H := h _ fun _ _ h => h
theorem aops_nil (h : K fr H) : aops P [] fr H K := h
theorem aops_cons {o : AOp} {os : List AOp} (hg : o.g = none) (h : ∀ C : Kont, (∀ v rd δ fr' H', put o.dst v fr = fr' → updL H δ = H' → aops P os fr' H' K → C v rd δ) → AX P o.op H.length (get fr) (hget H) C) : aops P (o :: os) fr H K := by
  rw [aops, hg]
  exact .inl (h _ fun v rd δ fr' H' e1 e2 h => by subst e1; subst e2; exact h)
/-- what the operation yields is taken for a pure tree -/
theorem aops_frz {o : AOp} {os : List AOp} (hg : o.g = none) (B : List Nat) (p : PV) (h : ∀ C : Kont, (∀ v rd δ fr' H', Vw (hget (updL H δ)) B v p → put o.dst (.pv p) fr = fr' → updL (updL H δ) (frz (hget (updL H δ)) B) = H' → aops P os fr' H' K → C v rd δ) →
    AX P o.op H.length (get fr) (hget H) C) : aops P (o :: os) fr H K := by
  rw [aops, hg]
  refine .inr (h _ fun v rd δ fr' H' hv e1 e2 h => ⟨B, p, by rw [← hget_updL]; exact hv, ?_⟩)
  subst e1; subst e2
  rw [← hget_updL, updL_append]; exact h
theorem aops_run {o : AOp} {os : List AOp} {s : Nat} {want b : Bool} (hg : o.g = some (s, want)) (hb : get fr s = .pv (.lit (.bool b))) (hbw : b = want)
    (h : ∀ C : Kont, (∀ v rd δ fr' H', put o.dst v fr = fr' → updL H δ = H' → aops P os fr' H' K → C v rd δ) → AX P o.op H.length (get fr) (hget H) C) : aops P (o :: os) fr H K := by
  rw [aops, hg]
  simp only [gsel, hb, hbw, if_true]
  exact .inl (h _ fun v rd δ fr' H' e1 e2 h => by subst e1; subst e2; exact h)
theorem aops_skip {o : AOp} {os : List AOp} {s : Nat} {want b : Bool} (hg : o.g = some (s, want)) (hb : get fr s = .pv (.lit (.bool b))) (hbw : ¬ b = want)
    (h : ∀ fr', put o.dst (lv undef) fr = fr' → aops P os fr' H K) : aops P (o :: os) fr H K := by
  rw [aops, hg]
  simp only [gsel, hb, hbw, if_false]
  exact h _ rfl
theorem aops_skip_u {o : AOp} {os : List AOp} {s : Nat} {want : Bool} (hg : o.g = some (s, want)) (hb : get fr s = lv undef)
    (h : ∀ fr', put o.dst (lv undef) fr = fr' → aops P os fr' H K) : aops P (o :: os) fr H K := by
  rw [aops, hg]
  simp only [gsel, hb, lv, undef]
  exact h _ rfl
theorem awp_dreg_k {ops : List AOp} {edges looks : List (List Nat)} (h : ∀ K : List Foot → Fr → Hp → Prop, (∀ tr fr H', indep H.length edges tr = true → Q .normal fr H' → K tr fr H') → aopsD P H.length 0 ops looks fr H [] K) : awp P (.dreg ops edges looks) Q fr H :=
  h _ fun _ _ _ h1 h2 => ⟨h1, h2⟩
section
variable {base i : Nat} {lks : List (List Nat)} {tr : List Foot} {KD : List Foot → Fr → Hp → Prop}
theorem aopsD_nil (h : KD tr fr H) : aopsD P base i [] lks fr H tr KD := h
theorem aopsD_cons {o : AOp} {os : List AOp} {lk : List Nat} (hg : o.g = none) (h : ∀ C : Kont, (∀ v rd δ fr' H' tr', put o.dst v fr = fr' → updL H δ = H' → tr ++ [⟨lk, o.dst, rd, δ.map (·.1)⟩] = tr' → aopsD P base (i + 1) os lks fr' H' tr' KD → C v rd δ) →
    AX P o.op (base + i) (get fr) (hget H) C) : aopsD P base i (o :: os) (lk :: lks) fr H tr KD := by
  rw [aopsD, hg]
  exact .inl (h _ fun v rd δ fr' H' tr' e1 e2 e3 h => by subst e1; subst e2; subst e3; exact h)
theorem aopsD_run {o : AOp} {os : List AOp} {lk : List Nat} {s : Nat} {want b : Bool} (hg : o.g = some (s, want)) (hb : get fr s = .pv (.lit (.bool b))) (hbw : b = want)
    (h : ∀ C : Kont, (∀ v rd δ fr' H' tr', put o.dst v fr = fr' → updL H δ = H' → tr ++ [⟨lk, o.dst, rd, δ.map (·.1)⟩] = tr' → aopsD P base (i + 1) os lks fr' H' tr' KD → C v rd δ) →
    AX P o.op (base + i) (get fr) (hget H) C) : aopsD P base i (o :: os) (lk :: lks) fr H tr KD := by
  rw [aopsD, hg]
  simp only [gsel, hb, hbw, if_true]
  exact .inl (h _ fun v rd δ fr' H' tr' e1 e2 e3 h => by subst e1; subst e2; subst e3; exact h)
theorem aopsD_skip {o : AOp} {os : List AOp} {lk : List Nat} {s : Nat} {want b : Bool} (hg : o.g = some (s, want)) (hb : get fr s = .pv (.lit (.bool b))) (hbw : ¬ b = want)
    (h : ∀ fr' tr', put o.dst (lv undef) fr = fr' → tr ++ [⟨lk, o.dst, [], []⟩] = tr' → aopsD P base (i + 1) os lks fr' H tr' KD) : aopsD P base i (o :: os) (lk :: lks) fr H tr KD := by
  rw [aopsD, hg]
  simp only [gsel, hb, hbw, if_false]
  exact h _ _ rfl rfl
theorem aopsD_skip_u {o : AOp} {os : List AOp} {lk : List Nat} {s : Nat} {want : Bool} (hg : o.g = some (s, want)) (hb : get fr s = lv undef)
    (h : ∀ fr' tr', put o.dst (lv undef) fr = fr' → tr ++ [⟨lk, o.dst, [], []⟩] = tr' → aopsD P base (i + 1) os lks fr' H tr' KD) : aopsD P base i (o :: os) (lk :: lks) fr H tr KD := by
  rw [aopsD, hg]
  simp only [gsel, hb, lv, undef]
  exact h _ _ rfl rfl
end
theorem awp_cond_k {c : Operand} {a b : AC} {t : Bool} (hc : ev (get fr) c = .pv (.lit (.bool t))) (h1 : t = true → awp P a Q fr H) (h2 : t = false → awp P b Q fr H) : awp P (.cond c a b) Q fr H := by
  simp only [awp, hc]
  split
  · rename_i h; exact h1 h
  · rename_i h; exact h2 (by simpa using h)
theorem awp_cond_t {c : Operand} {a b : AC} (hc : ev (get fr) c = .pv (.lit (.bool true))) (h1 : awp P a Q fr H) : awp P (.cond c a b) Q fr H := awp_cond_k hc (fun _ => h1) (fun h => nomatch h)
theorem awp_cond_f {c : Operand} {a b : AC} (hc : ev (get fr) c = .pv (.lit (.bool false))) (h1 : awp P b Q fr H) : awp P (.cond c a b) Q fr H := awp_cond_k hc (fun h => nomatch h) (fun _ => h1)
theorem awp_block_k {id : Nat} {a : AC} (h : awp P a (catch_ id Q) fr H) : awp P (.block id a) Q fr H := h
theorem awp_skip_k (h : Q .normal fr H) : awp P .skip Q fr H := h
theorem awp_exit_k {id : Nat} (h : Q (.exit id) fr H) : awp P (.exit id) Q fr H := h
theorem awp_ret_k (h : Q .ret fr H) : awp P .ret Q fr H := h
theorem thn_normal {Kn : Fr → Hp → Prop} (h : Kn fr H) : thn Kn Q .normal fr H := h
theorem thn_exit {Kn : Fr → Hp → Prop} {id : Nat} (h : Q (.exit id) fr H) : thn Kn Q (.exit id) fr H := h
theorem thn_ret {Kn : Fr → Hp → Prop} (h : Q .ret fr H) : thn Kn Q .ret fr H := h
theorem catch_normal {id : Nat} (h : Q .normal fr H) : catch_ id Q .normal fr H := h
theorem catch_ret {id : Nat} (h : Q .ret fr H) : catch_ id Q .ret fr H := h
theorem catch_exit {id : Nat} (h : Q .normal fr H) : catch_ id Q (.exit id) fr H := by simp only [catch_, if_true]; exact h
theorem catch_other {id id' : Nat} (hne : ¬ id' = id) (h : Q (.exit id') fr H) : catch_ id Q (.exit id') fr H := by simp only [catch_, hne, if_false]; exact h
/-- a loop: a state that says less, a number of rounds -/
theorem awp_loop_k {a : AC} {ρ : Nat → Nat} {fr' : Fr} {H' : Hp} (n : Nat) (hle : Le ρ fr H fr' H') (h : loopN (awp P a) Q n fr' H') : awp P (.loop a) Q fr H := ⟨ρ, fr', H', hle, n, h⟩
/-- one round -/
theorem loopN_k {a : AC} {n : Nat} (h : ∀ K : Fr → Hp → Prop, (∀ fr H ρ fr' H', Le ρ fr H fr' H' → loopN (awp P a) Q n fr' H' → K fr H) → awp P a (thn K Q) fr H) : loopN (awp P a) Q (n + 1) fr H :=
  h _ fun _ _ ρ fr' H' h1 h2 => ⟨ρ, fr', H', h1, h2⟩
end
/-! ### a state that says less, piece by piece -/
def leFr (ρ : Nat → Nat) (fr : Fr) : Fr → Prop
  | [] => True
  | (t, v) :: fr' => v.ren ρ = get fr t ∧ leFr ρ fr fr'
def leFb (S : Nat → Prop) : Fr → Prop
  | [] => True
  | (_, v) :: fr' => v.bd S ∧ leFb S fr'
def allL (S : Nat → Prop) : List (List V) → Prop
  | [] => True
  | cs :: xs => V.bdL S cs ∧ allL S xs
def leBlk (ρ : Nat → Nat) : Option Blk → Blk → Prop
  | some k', k => BlkLe ρ k' k
  | none, _ => False
theorem leBlk_some {ρ : Nat → Nat} {ro ro' : Bool} {ty ty' sz sz' : Nat} {xs xs' : List (List V)} {tg tg' : Option (Nat × Nat × Nat)} :
    leBlk ρ (some ⟨ro, ty, sz, xs, tg⟩) ⟨ro', ty', sz', xs', tg'⟩ = (ro = ro' ∧ ty = ty' ∧ sz = sz' ∧ xs = xs'.map (V.renL ρ) ∧ (tg' = none ∨ tg = tg')) := by
  simp only [leBlk, eq_iff_iff]
  exact ⟨fun h => ⟨h.ro, h.ty, h.sz, h.xs, h.tag⟩, fun ⟨a, b, c, d, e⟩ => ⟨a, b, c, d, e⟩⟩
def leHp (ρ : Nat → Nat) (S : Nat → Prop) (H : Hp) : Nat → Hp → Prop
  | _, [] => True
  | i, none :: l => leHp ρ S H (i + 1) l
  | i, some k :: l => (leBlk ρ (hget H (ρ i)) k ∧ allL S k.xs) ∧ leHp ρ S H (i + 1) l
theorem allL_iff {S : Nat → Prop} : ∀ {xs : List (List V)}, allL S xs ↔ ∀ cs ∈ xs, V.bdL S cs
  | [] => by simp [allL]
  | cs :: xs => by simp [allL, allL_iff (xs := xs)]
theorem leFr_spec {ρ : Nat → Nat} {fr : Fr} {S : Nat → Prop} : ∀ {fr' : Fr}, leFr ρ fr fr' → leFb S fr' → ∀ t, (get fr' t = .junk ∨ (get fr' t).ren ρ = get fr t) ∧ (get fr' t).bd S
  | [], _, _, t => ⟨.inl rfl, by simp [get, V.bd]⟩
  | (s, v) :: fr', h, hb, t => by
    simp only [leFr, leFb] at h hb
    simp only [get]
    split
    · rename_i e; subst e; exact ⟨.inr h.1, hb.1⟩
    · exact leFr_spec h.2 hb.2 t
theorem leHp_spec {ρ : Nat → Nat} {S : Nat → Prop} {H : Hp} : ∀ {l : Hp} {i : Nat}, leHp ρ S H i l → ∀ b k, (l[b]?).join = some k → leBlk ρ (hget H (ρ (i + b))) k ∧ ∀ cs ∈ k.xs, V.bdL S cs
  | [], i, _, b, k, e => by simp at e
  | none :: l, i, h, b, k, e => by
    simp only [leHp] at h
    cases b with
    | zero => simp at e
    | succ b => have := leHp_spec h b k (by simpa using e); rwa [show i + 1 + b = i + (b + 1) by omega] at this
  | some k0 :: l, i, h, b, k, e => by
    simp only [leHp] at h
    cases b with
    | zero => simp at e; subst e; exact ⟨h.1.1, allL_iff.1 h.1.2⟩
    | succ b => have := leHp_spec h.2 b k (by simpa using e); rwa [show i + 1 + b = i + (b + 1) by omega] at this
theorem Le.of {fr : Fr} {H : Hp} {fr' : Fr} {H' : Hp} (rl : List Nat) (h1 : leFr (fun b => rl.getD b 0) fr fr') (h2 : leFb (lt H') fr') (h3 : leHp (fun b => rl.getD b 0) (lt H') H 0 H') (h4 : rl.Nodup) (h5 : H'.length ≤ rl.length) :
    Le (fun b => rl.getD b 0) fr H fr' H' := by
  have hl : ∀ b k, hget H' b = some k → b < rl.length := fun b k e => by
    rcases Nat.lt_or_ge b H'.length with hb | hb
    · omega
    · unfold hget at e; rw [List.getElem?_eq_none hb] at e; cases e
  refine ⟨fun t => (leFr_spec h1 h2 t).1, fun t => (leFr_spec h1 h2 t).2, fun b k e => ?_, fun b k e => ?_, fun b b' k k' e e' he => ?_⟩
  · have := (leHp_spec h3 b k e).1
    rw [Nat.zero_add] at this
    cases hk : hget H (rl.getD b 0) with
    | none => simp only [hk, leBlk] at this
    | some k' => simp only [hk, leBlk] at this; exact ⟨k', rfl, this⟩
  · exact (leHp_spec h3 b k e).2
  · have hb := hl b k e
    have hb' := hl b' k' e'
    simp only [List.getD_eq_getElem?_getD, List.getElem?_eq_getElem hb, List.getElem?_eq_getElem hb', Option.getD_some] at he
    exact (List.getElem_inj h4).1 he
theorem renL_pv {ρ : Nat → Nat} : ∀ (ps : List PV), V.renL ρ (ps.map .pv) = ps.map .pv
  | [] => rfl
  | p :: ps => by simp [V.renL, V.ren, renL_pv ps]
theorem renL_vcells {ρ : Nat → Nat} (ps : List PV) : (ps.map PV.vcells).map (V.renL ρ) = ps.map PV.vcells := by
  rw [List.map_map]; exact List.map_congr_left fun p _ => renL_pv _
theorem allL_vcells {S : Nat → Prop} (ps : List PV) : allL S (ps.map PV.vcells) = True := by
  simp only [allL_iff, eq_iff_iff, iff_true]
  intro cs hcs
  obtain ⟨p, _, rfl⟩ := List.mem_map.1 hcs
  exact bdL_pv _
end Go.Ab
/- Lists are no longer than memory lets them be; small steps of arithmetic. -/
set_option linter.unusedVariables false
set_option linter.unusedSimpArgs false
namespace Go.Ab
mutual
/-- no list in it is longer than what memory holds -/
def PV.ok : PV → Prop
  | .lit _ => True
  | .rptr cs => PV.okL cs
  | .list _ xs => xs.length ≤ big ∧ PV.okL xs
  | .agg cs => PV.okL cs
  | .tup cs => PV.okL cs
  | .fn _ cs => PV.okL cs
def PV.okL : List PV → Prop
  | [] => True
  | p :: ps => PV.ok p ∧ PV.okL ps
end
mutual
theorem RP_ok {I : Imm} : ∀ (p : PV) (u : Value), RP I p u → p.ok
  | .lit _, _, _ => trivial
  | .rptr cs, u, r => by
    simp only [RP] at r; obtain ⟨ad, _, r⟩ := r
    simp only [PV.ok]; exact RPC_ok _ _ cs r
  | .list sz xs, u, r => by
    simp only [RP] at r; obtain ⟨a, n, cap, _, h1, _, h3, r⟩ := r
    simp only [PV.ok]
    refine ⟨by omega, ?_⟩
    rcases r with r | ⟨ad, _, r⟩
    · cases xs with
      | nil => trivial
      | cons x xs => simp at h1; omega
    · exact RPE_ok _ _ _ xs r
  | .agg cs, u, r => by
    simp only [RP] at r; obtain ⟨us, _, _, r⟩ := r
    simp only [PV.ok]; exact RPL_ok cs _ r
  | .tup cs, u, r => by
    simp only [RP] at r; obtain ⟨us, _, r⟩ := r
    simp only [PV.ok]; exact RPL_ok cs _ r
  | .fn _ cs, u, r => by
    simp only [RP] at r; obtain ⟨us, _, r⟩ := r
    simp only [PV.ok]; exact RPL_ok cs _ r
theorem RPL_ok {I : Imm} : ∀ (ps : List PV) (us : List Value), RPL I ps us → PV.okL ps
  | [], _, _ => trivial
  | p :: ps, us, r => by
    simp only [RPL] at r; obtain ⟨u, us', _, r1, r2⟩ := r
    exact ⟨RP_ok p u r1, RPL_ok ps us' r2⟩
theorem RPC_ok {I : Imm} (ad : Addr) (k : Nat) : ∀ (ps : List PV), RPC I ad k ps → PV.okL ps
  | [], _ => trivial
  | p :: ps, r => by
    simp only [RPC] at r; obtain ⟨⟨u, _, _, r1⟩, r2⟩ := r
    exact ⟨RP_ok p u r1, RPC_ok ad (k + 1) ps r2⟩
theorem RPE_ok {I : Imm} (ad : Addr) (k sz : Nat) : ∀ (ps : List PV), RPE I ad k sz ps → PV.okL ps
  | [], _ => trivial
  | .agg cs :: ps, r => by
    simp only [RPE] at r
    exact ⟨by simp only [PV.ok]; exact RPC_ok ad k cs r.2.1, RPE_ok ad (k + sz) sz ps r.2.2⟩
  | .lit x :: ps, r => by
    simp only [RPE] at r; obtain ⟨_, ⟨u, _, _, r1⟩, r2⟩ := r
    exact ⟨RP_ok _ u r1, RPE_ok ad (k + sz) sz ps r2⟩
  | .rptr x :: ps, r => by
    simp only [RPE] at r; obtain ⟨_, ⟨u, _, _, r1⟩, r2⟩ := r
    exact ⟨RP_ok _ u r1, RPE_ok ad (k + sz) sz ps r2⟩
  | .list s x :: ps, r => by
    simp only [RPE] at r; obtain ⟨_, ⟨u, _, _, r1⟩, r2⟩ := r
    exact ⟨RP_ok _ u r1, RPE_ok ad (k + sz) sz ps r2⟩
  | .tup x :: ps, r => by
    simp only [RPE] at r; obtain ⟨_, ⟨u, _, _, r1⟩, r2⟩ := r
    exact ⟨RP_ok _ u r1, RPE_ok ad (k + sz) sz ps r2⟩
  | .fn f x :: ps, r => by
    simp only [RPE] at r; obtain ⟨_, ⟨u, _, _, r1⟩, r2⟩ := r
    exact ⟨RP_ok _ u r1, RPE_ok ad (k + sz) sz ps r2⟩
end
theorem PCall.intro' {P : Program} {f : FuncId} {N : Nat} {ac : AC} {rs : List RV} (hf : Fun P f N ac rs) {args ps : List PV} (hN : args.length ≤ N) (h : PV.okL args → awp P ac (retP rs ps) (argFr 0 args) []) : PCall P f args (one ps) := by
  obtain ⟨fn, c, h1, h2, h3, h4, h5, h6⟩ := hf.ex
  exact ⟨⟨fn, h1, by rw [h2]; rfl, h3⟩, fun I w us hI hus => (PCall.intro hf hN (h (RPL_ok args us hus))).2 I w us hI hus⟩
theorem retP_ret {rs : List RV} {ps : List PV} {fr : Fr} {H : Hp} {vs : List V} (B : List Nat) (h1 : resVs fr H rs = some vs) (h2 : VwL (hget H) B vs ps) : retP rs ps .ret fr H := ⟨vs, h1, B, h2⟩
theorem retP_normal {rs : List RV} {ps : List PV} {fr : Fr} {H : Hp} {vs : List V} (B : List Nat) (h1 : resVs fr H rs = some vs) (h2 : VwL (hget H) B vs ps) : retP rs ps .normal fr H := ⟨vs, h1, B, h2⟩
theorem exNat {a : Int} {p : Nat → Prop} : (∃ n : Nat, a = (n : Int) ∧ p n) ↔ 0 ≤ a ∧ p a.toNat :=
  ⟨fun ⟨n, e, h⟩ => by subst e; exact ⟨by omega, by simpa using h⟩, fun ⟨h0, h⟩ => ⟨a.toNat, by omega, h⟩⟩
theorem ACall.pure0 {P : Program} {nb : Nat} {vs : List V} {h : HF} {K : Kont} {f : FuncId} {args : List PV} {r : PV} (B : List Nat) (hc : PCall P f args r) (hv : VwL h B vs args)
    (hK : K (.pv r) B (if r.scal then [] else frz h B)) : ACall P nb (.pv (.fn f [])) vs h K := ACall.pure (caps := []) B (.pv _) hv (by simpa using hc) hK
theorem pc_agg (cs : List PV) : (PV.agg cs).cells = cs := rfl
theorem pc_lit (v : Value) : (PV.lit v).cells = [.lit v] := rfl
theorem pc_rptr (cs : List PV) : (PV.rptr cs).cells = [.rptr cs] := rfl
theorem pc_list (n : Nat) (cs : List PV) : (PV.list n cs).cells = [.list n cs] := rfl
theorem pc_fn (f : FuncId) (cs : List PV) : (PV.fn f cs).cells = [.fn f cs] := rfl
theorem vc_agg (cs : List PV) : (V.pv (.agg cs)).cells? = some (cs.map .pv) := rfl
theorem vc_int (k : IntKind) (n : Int) : (V.pv (.lit (.int k n))).cells? = some [.pv (.lit (.int k n))] := rfl
theorem vc_bool (b : Bool) : (V.pv (.lit (.bool b))).cells? = some [.pv (.lit (.bool b))] := rfl
theorem vc_str (b : ByteArray) : (V.pv (.lit (.string b))).cells? = some [.pv (.lit (.string b))] := rfl
theorem vc_slice (a : Option Addr) (n c : Nat) : (V.pv (.lit (.slice a n c))).cells? = some [.pv (.lit (.slice a n c))] := rfl
theorem vc_ptr (a : Option Addr) : (V.pv (.lit (.pointer a))).cells? = some [.pv (.lit (.pointer a))] := rfl
theorem vc_nilf : (V.pv (.lit .nilFunc)).cells? = some [.pv (.lit .nilFunc)] := rfl
theorem vc_rptr (cs : List PV) : (V.pv (.rptr cs)).cells? = some [.pv (.rptr cs)] := rfl
theorem vc_list (n : Nat) (cs : List PV) : (V.pv (.list n cs)).cells? = some [.pv (.list n cs)] := rfl
theorem vc_fn (f : FuncId) (cs : List PV) : (V.pv (.fn f cs)).cells? = some [.pv (.fn f cs)] := rfl
theorem vc_vagg (cs : List V) : (V.agg cs).cells? = some cs := rfl
theorem vc_vptr (b i o : Nat) : (V.ptr b i o).cells? = some [.ptr b i o] := rfl
theorem vc_row (b n : Nat) (f : Bool) : (V.row b n f).cells? = some [.row b n f] := rfl
theorem vc_vfn (f : FuncId) (cs : List V) : (V.fn f cs).cells? = some [.fn f cs] := rfl
theorem allL_app {S : Nat → Prop} : ∀ (l m : List (List V)), allL S (l ++ m) = (allL S l ∧ allL S m)
  | [], m => by simp [allL]
  | c :: l, m => by simp [allL, allL_app l m, and_assoc]
theorem row_view {h : HF} {B : List Nat} {b n : Nat} {fl ro : Bool} {ty sz : Nat} {xs : List (List V)} {ps : List PV} {tg : Option (Nat × Nat × Nat)} (hb : b ∈ B) (hk : h b = some ⟨ro, ty, sz, xs, tg⟩) (hn : n = xs.length) (hv : VwE h B sz xs ps) : Vw h B (.row b n fl) (.list sz ps) :=
  Vw.row (h := h) (B := B) b n fl ⟨ro, ty, sz, xs, tg⟩ ps hb hk (by subst hn; exact Nat.le_refl _) (by subst hn; rw [List.take_length]; exact hv)
theorem RP_nil {I : Imm} {sz : Nat} {u : Value} (h : RP I (.lit (.slice none 0 0)) u) : RP I (.list sz []) u := by
  simp only [RP] at h ⊢; subst h; exact ⟨none, 0, 0, rfl, rfl, Nat.le_refl _, by unfold big; omega, .inl ⟨rfl, fun _ => rfl⟩⟩
theorem Vw_nil {h : HF} {B : List Nat} {sz : Nat} : Vw h B (.pv (.lit (.slice none 0 0))) (.list sz []) := .weak _ _ fun _ _ => RP_nil
theorem RP_some {I : Imm} {sz c : Nat} {ad : Addr} {u : Value} (h : RP I (.lit (.slice (some ad) 0 c)) u) : RP I (.list sz []) u := by
  simp only [RP] at h ⊢; subst h; exact ⟨some ad, 0, c, rfl, rfl, Nat.zero_le _, by unfold big; omega, .inl ⟨rfl, fun h => by cases h⟩⟩
theorem Vw_some {h : HF} {B : List Nat} {sz c : Nat} {ad : Addr} : Vw h B (.pv (.lit (.slice (some ad) 0 c))) (.list sz []) := .weak _ _ fun _ _ => RP_some
/-- an empty list is nil or it is not -/
theorem RP_empty {I : Imm} {sz : Nat} {u : Value} (h : RP I (.list sz []) u) : RP I (.lit (.slice none 0 0)) u ∨ ∃ ad c, RP I (.lit (.slice (some ad) 0 c)) u := by
  simp only [RP] at h ⊢
  obtain ⟨a, n, cap, rfl, rfl, _, _, h⟩ := h
  cases a with
  | none =>
    left
    rcases h with ⟨_, h⟩ | ⟨ad, h, _⟩
    · rw [h rfl]; rfl
    · cases h
  | some ad => exact .inr ⟨ad, cap, rfl⟩
theorem RPL_split {I : Imm} {q : PV} : ∀ {ps qs : List PV} {us : List Value}, RPL I (ps ++ q :: qs) us → ∃ u1 u u2, us = u1 ++ u :: u2 ∧ RPL I ps u1 ∧ RP I q u ∧ RPL I qs u2
  | [], qs, us, h => by
    simp only [List.nil_append, RPL] at h
    obtain ⟨u, us', rfl, h1, h2⟩ := h
    exact ⟨[], u, us', rfl, rfl, h1, h2⟩
  | p :: ps, qs, us, h => by
    simp only [List.cons_append, RPL] at h
    obtain ⟨u, us', rfl, h1, h2⟩ := h
    obtain ⟨u1, v, u2, rfl, h3, h4, h5⟩ := RPL_split h2
    exact ⟨u :: u1, v, u2, rfl, ⟨u, u1, rfl, h1, h3⟩, h4, h5⟩
theorem PCall.split {P : Program} {f : FuncId} {pre post : List PV} {sz : Nat} {r : PV} (h0 : PCall P f (pre ++ .lit (.slice none 0 0) :: post) r) (h1 : ∀ ad c, PCall P f (pre ++ .lit (.slice (some ad) 0 c) :: post) r) : PCall P f (pre ++ .list sz [] :: post) r := by
  refine ⟨h0.1, fun I w us hI hus => ?_⟩
  obtain ⟨u1, u, u2, rfl, e1, e2, e3⟩ := RPL_split hus
  rcases RP_empty e2 with e2 | ⟨ad, c, e2⟩
  · exact h0.2 I w _ hI (RPL_append e1 ⟨u, u2, rfl, e2, e3⟩)
  · exact (h1 ad c).2 I w _ hI (RPL_append e1 ⟨u, u2, rfl, e2, e3⟩)
theorem big1 : (1 ≤ big) = True := by simp [big]
theorem wrap01 : IntKind.i64.wrap (0 + 1) = ((1 : Nat) : Int) := by decide
section
variable {P : Program} {Q : Post} {fr : Fr} {H : Hp}
/-- a guard's value -/
def gk (vg : V) (want : Bool) (A B : Prop) : Prop :=
  match vg with
  | .pv (.lit (.bool b)) => if b = want then A else B
  | .pv (.lit (.tuple _)) => B
  | _ => False
theorem gk_tt {A B : Prop} (h : A) : gk (.pv (.lit (.bool true))) true A B := by simpa [gk] using h
theorem gk_tf {A B : Prop} (h : B) : gk (.pv (.lit (.bool true))) false A B := by simpa [gk] using h
theorem gk_ft {A B : Prop} (h : B) : gk (.pv (.lit (.bool false))) true A B := by simpa [gk] using h
theorem gk_ff {A B : Prop} (h : A) : gk (.pv (.lit (.bool false))) false A B := by simpa [gk] using h
theorem gk_u {A B : Prop} {w : Bool} (h : B) : gk (.pv (.lit undef)) w A B := by simpa [gk, undef] using h
theorem gk_u' {A B : Prop} {w : Bool} {x : Array Value} (h : B) : gk (.pv (.lit (.tuple x))) w A B := by simpa [gk] using h
theorem gk_s {A B : Prop} {w b : Bool} (h1 : b = true → gk (.pv (.lit (.bool true))) w A B) (h2 : b = false → gk (.pv (.lit (.bool false))) w A B) : gk (.pv (.lit (.bool b))) w A B := by
  cases b with
  | true => exact h1 rfl
  | false => exact h2 rfl
theorem aops_guard {K : Fr → Hp → Prop} {o : AOp} {os : List AOp} {s : Nat} {want : Bool} {vg : V} (hg : o.g = some (s, want)) (hb : get fr s = vg)
    (h : gk vg want (∀ C : Kont, (∀ v rd δ fr' H', put o.dst v fr = fr' → updL H δ = H' → aops P os fr' H' K → C v rd δ) → AX P o.op H.length (get fr) (hget H) C)
      (∀ fr', put o.dst (lv undef) fr = fr' → aops P os fr' H K)) : aops P (o :: os) fr H K := by
  rw [aops, hg]
  simp only [gsel, hb]
  unfold gk at h
  split at h
  · split at h
    · rename_i h1
      simp only [h1, if_true]
      exact .inl (h _ fun v rd δ fr' H' e1 e2 h => by subst e1; subst e2; exact h)
    · rename_i h1
      simp only [h1, if_false]
      exact h _ rfl
  · exact h _ rfl
  · exact h.elim
theorem aopsD_guard {KD : List Foot → Fr → Hp → Prop} {base i : Nat} {lks : List (List Nat)} {tr : List Foot} {o : AOp} {os : List AOp} {lk : List Nat} {s : Nat} {want : Bool} {vg : V} (hg : o.g = some (s, want)) (hb : get fr s = vg)
    (h : gk vg want (∀ C : Kont, (∀ v rd δ fr' H' tr', put o.dst v fr = fr' → updL H δ = H' → tr ++ [⟨lk, o.dst, rd, δ.map (·.1)⟩] = tr' → aopsD P base (i + 1) os lks fr' H' tr' KD → C v rd δ) → AX P o.op (base + i) (get fr) (hget H) C)
      (∀ fr' tr', put o.dst (lv undef) fr = fr' → tr ++ [⟨lk, o.dst, [], []⟩] = tr' → aopsD P base (i + 1) os lks fr' H tr' KD)) : aopsD P base i (o :: os) (lk :: lks) fr H tr KD := by
  rw [aopsD, hg]
  simp only [gsel, hb]
  unfold gk at h
  split at h
  · split at h
    · rename_i h1
      simp only [h1, if_true]
      exact .inl (h _ fun v rd δ fr' H' tr' e1 e2 e3 h => by subst e1; subst e2; subst e3; exact h)
    · rename_i h1
      simp only [h1, if_false]
      exact h _ _ rfl rfl
  · exact h _ _ rfl rfl
  · exact h.elim
def ck (vg : V) (A B : Prop) : Prop :=
  match vg with
  | .pv (.lit (.bool b)) => if b then A else B
  | _ => False
theorem ck_t {A B : Prop} (h : A) : ck (.pv (.lit (.bool true))) A B := by simpa [ck] using h
theorem ck_f {A B : Prop} (h : B) : ck (.pv (.lit (.bool false))) A B := by simpa [ck] using h
theorem ck_s {A B : Prop} {b : Bool} (h1 : b = true → A) (h2 : b = false → B) : ck (.pv (.lit (.bool b))) A B := by
  cases b with
  | true => exact ck_t (h1 rfl)
  | false => exact ck_f (h2 rfl)
theorem awp_cond_g {c : Operand} {a b : AC} {vg : V} (hc : ev (get fr) c = vg) (h : ck vg (awp P a Q fr H) (awp P b Q fr H)) : awp P (.cond c a b) Q fr H := by
  unfold ck at h
  split at h
  · split at h
    · rename_i h1; exact awp_cond_k hc (fun _ => h) (fun e => by rw [h1] at e; cases e)
    · rename_i h1; exact awp_cond_k hc (fun e => by rw [e] at h1; exact absurd rfl h1) (fun _ => h)
  · exact h.elim
end
theorem ev_tmp {f : FV} {t : Nat} : ev f (.tmp t) = f t := rfl

theorem wrapS {n : Nat} (h : n ≤ 2305843009213693952) : IntKind.i64.wrap ((n : Int) + 1) = ((n + 1 : Nat) : Int) := by
  rw [IntWalk.i64_in _ (by omega)]; omega
theorem wrapP {n : Nat} (h : n ≤ 2305843009213693952) : IntKind.i64.wrap ((n + 1 : Nat) - (1 : Int)) = (n : Int) := by
  rw [IntWalk.i64_in _ (by omega)]; omega
theorem lt_app {α} (l m : List α) (c : α) : (decide ((l.length : Int) < ((l ++ c :: m).length : Int))) = true := by simp; omega
theorem lt_zero {α} : (decide ((0 : Int) < (([] : List α).length : Int))) = false := rfl
theorem lt0S (n : Nat) : (decide ((0 : Int) < ((n + 1 : Nat) : Int))) = true := by simp
theorem lt0Z : (decide ((0 : Int) < ((0 : Nat) : Int))) = false := rfl
theorem lt_end {α} (l : List α) : (decide ((l.length : Int) < (l.length : Int))) = false := by simp
theorem nat_nn (n : Nat) : (0 ≤ (n : Int)) = True := by simp
theorem bind_ite {c : Bool} {α} (a : α) : (if c = true then a else a) = a := by cases c <;> rfl
end Go.Ab
/- The operations one by one, for evaluation from outside in. -/
set_option linter.unusedVariables false
namespace Go.Ab
section
variable {P : Program} {nb : Nat} {f : FV} {h : HF} {K : Kont}
theorem ax_call (fx : Operand) (args : List Operand) : AX P (.call fx args) nb f h K = ACall P nb (ev f fx) (args.map (ev f)) h K := rfl
theorem ax_mov (x : Operand) : AX P (.mov x) nb f h K =
    (K (ev f x) [] []) := rfl
theorem ax_pick (c : Operand) (a : Operand) (b : Operand) : AX P (.pick c a b) nb f h K =
    (match ev f c with
    | .pv (.lit (.bool t)) => K (if t then ev f a else ev f b) [] []
    | _ => False) := rfl
theorem ax_alloc (ty : Nat) (sz : Nat) (zero : List Value) : AX P (.alloc ty sz zero) nb f h K =
    (K (.ptr nb 0 0) [] [(nb, some ⟨false, ty, sz, [zero.map lv], none⟩)]) := rfl
theorem ax_box (ty : Nat) (sz : Nat) (x : Operand) : AX P (.box ty sz x) nb f h K =
    (match (ev f x).cells? with
    | some cs => cs.length = sz ∧ K (.ptr nb 0 0) [] [(nb, some ⟨false, ty, sz, [cs], none⟩)]
    | none => False) := rfl
theorem ax_build (zero : List Value) (places : List (Nat × Nat)) (parts : List (Nat × Operand)) : AX P (.build zero places parts) nb f h K =
    (match fillA places (zero.map lv) (parts.map fun p => (p.1, ev f p.2)) with
    | some cs => K (.agg cs) [] []
    | none => False) := rfl
theorem ax_bslice (ty : Nat) (sz : Nat) (zero : List Value) (len : Nat) (parts : List (Nat × Operand)) : AX P (.bslice ty sz zero len parts) nb f h K =
    (match fillE sz (List.replicate len (zero.map lv)) (parts.map fun p => (p.1, ev f p.2)) with
    | some xs => K (.row nb len true) [] [(nb, some ⟨false, ty, sz, xs, none⟩)]
    | none => False) := rfl
theorem ax_load (agg : Bool) (n : Nat) (x : Operand) : AX P (.load agg n x) nb f h K =
    (match ev f x with
    | .ptr b i off => match h b with
      | some k => match k.xs[i]? with
        | some cs => off + n ≤ cs.length ∧ K (mkv agg ((cs.drop off).take n)) [b] []
        | none => False
      | none => False
    | .pv (.rptr cs) => n ≤ cs.length ∧ K (.pv (mkp agg (cs.take n))) [] []
    | _ => False) := rfl
theorem ax_store (n : Nat) (x : Operand) (y : Operand) : AX P (.store n x y) nb f h K =
    (match ev f x, (ev f y).cells? with
    | .ptr b i off, some new => match h b with
      | some k => match k.xs[i]? with
        | some cs => k.ro = false ∧ new.length = n ∧ off + n ≤ cs.length ∧ K (lv undef) [b] [(b, some { k with xs := k.xs.set i (spl cs off new) })]
        | none => False
      | none => False
    | _, _ => False) := rfl
theorem ax_nilc (x : Operand) : AX P (.nilc x) nb f h K =
    (match (ev f x).nil? with
    | some false => K (ev f x) [] []
    | _ => False) := rfl
theorem ax_bin (op : BinOp) (tag : Tag) (x : Operand) (y : Operand) : AX P (.bin op tag x y) nb f h K =
    (binK op tag (ev f x) (ev f y) fun v => K v [] []) := rfl
theorem ax_un (op : UnOp) (x : Operand) : AX P (.un op x) nb f h K =
    (match op, ev f x with
    | .neg, .pv (.lit (.int k a)) => K (.pv (.lit (.int k (k.wrap (0 - a))))) [] []
    | .not, .pv (.lit (.bool b)) => K (.pv (.lit (.bool (!b)))) [] []
    | _, _ => False) := rfl
theorem ax_conv (k : IntKind) (x : Operand) : AX P (.conv k x) nb f h K =
    (match ev f x with
    | .pv (.lit (.int _ a)) => K (.pv (.lit (.int k (k.wrap a)))) [] []
    | _ => False) := rfl
theorem ax_sbytes (x : Operand) : AX P (.sbytes x) nb f h K =
    (match ev f x with
    | .pv (.lit (.string s)) => s.size ≤ big ∧ K (.pv (.list 1 (s.data.toList.map fun b => .lit (.int .u8 b.toNat)))) [] []
    | _ => False) := rfl
theorem ax_mkfn (g : FuncId) (caps : List Operand) : AX P (.mkfn g caps) nb f h K =
    (K (.fn g (caps.map (ev f))) [] []) := rfl
theorem ax_mkslice (ty : Nat) (sz : Nat) (zero : List Value) (l : Operand) (c : Operand) : AX P (.mkslice ty sz zero l c) nb f h K =
    (match ev f l, ev f c with
    | .pv (.lit (.int _ a)), .pv (.lit (.int _ b)) => ∃ n m : Nat, a = n ∧ b = m ∧ n ≤ m ∧ m ≤ big ∧ K (.row nb n (n == m)) [] [(nb, some ⟨false, ty, sz, List.replicate n (zero.map lv), none⟩)]
    | _, _ => False) := rfl
theorem ax_slice (sz : Nat) (x : Operand) (lo : Option Operand) (hi : Option Operand) (mx : Option Operand) : AX P (.slice sz x lo hi mx) nb f h K =
    (loK (optE f lo) fun l => match ev f x with
    | .pv (.list sz' xs) => sz' = sz ∧ hiK (optE f hi) xs.length fun u => hiK (optE f mx) xs.length fun m => l ≤ u ∧ u ≤ m ∧ m ≤ xs.length ∧ K (.pv (.list sz ((xs.take u).drop l))) [] []
    | .pv (.lit (.slice none 0 0)) => hiK (optE f hi) 0 fun u => hiK (optE f mx) 0 fun m => l = 0 ∧ u = 0 ∧ m = 0 ∧ K (.pv (.lit (.slice none 0 0))) [] []
    | .row b n _ => l = 0 ∧ mx = none ∧ hiK (optE f hi) n fun u => u ≤ n ∧ match h b with
      | some k => K (.row b u false) [b] [(b, some { k with xs := k.xs.take u })]
      | none => False
    | _ => False) := rfl
theorem ax_sslice (x : Operand) (lo : Option Operand) (hi : Option Operand) : AX P (.sslice x lo hi) nb f h K =
    (loK (optE f lo) fun l => match ev f x with
    | .pv (.lit (.string s)) => hiK (optE f hi) s.size fun u => l ≤ u ∧ u ≤ s.size ∧ K (.pv (.lit (.string (s.extract l u)))) [] []
    | _ => False) := rfl
theorem ax_faddr (off : Nat) (x : Operand) : AX P (.faddr off x) nb f h K =
    (match ev f x with
    | .ptr b i o => K (.ptr b i (o + off)) [] []
    | .pv (.rptr cs) => K (.pv (.rptr (cs.drop off))) [] []
    | _ => False) := rfl
theorem ax_field (agg : Bool) (off : Nat) (n : Nat) (x : Operand) : AX P (.field agg off n x) nb f h K =
    (match ev f x with
    | .agg cs => off + n ≤ cs.length ∧ (agg = true ∨ n = 1) ∧ K (mkv agg ((cs.drop off).take n)) [] []
    | .pv (.agg cs) => off + n ≤ cs.length ∧ (agg = true ∨ n = 1) ∧ K (.pv (mkp agg ((cs.drop off).take n))) [] []
    | _ => False) := rfl
theorem ax_iaddr (sz : Nat) (x : Operand) (i : Operand) : AX P (.iaddr sz x i) nb f h K =
    (match ev f x, ev f i with
    | .pv (.list sz' xs), .pv (.lit (.int _ a)) => sz' = sz ∧ ∃ (n : Nat) (e : PV), a = n ∧ xs[n]? = some e ∧ K (.pv (.rptr e.cells)) [] []
    | .row b m _, .pv (.lit (.int _ a)) => match h b with
      | some k => k.sz = sz ∧ ∃ n : Nat, a = n ∧ n < m ∧ K (.ptr b n 0) [b] []
      | none => False
    | _, _ => False) := rfl
theorem ax_sindex (x : Operand) (i : Operand) : AX P (.sindex x i) nb f h K =
    (match ev f x, ev f i with
    | .pv (.lit (.string s)), .pv (.lit (.int _ a)) => ∃ (n : Nat) (c : UInt8), a = n ∧ s[n]? = some c ∧ K (.pv (.lit (.int .u8 c.toNat))) [] []
    | _, _ => False) := rfl
theorem ax_ext (x : Operand) (k : Nat) : AX P (.ext x k) nb f h K =
    (match ev f x with
    | .tup vs => match vs[k]? with
      | some v => K v [] []
      | none => False
    | .pv (.tup vs) => match vs[k]? with
      | some v => K (.pv v) [] []
      | none => False
    | _ => False) := rfl
theorem ax_slen (str : Bool) (x : Operand) : AX P (.slen str x) nb f h K =
    (match ev f x with
    | .pv (.list _ xs) => str = false ∧ K (.pv (.lit (.int .i64 xs.length))) [] []
    | .pv (.lit (.slice none 0 0)) => str = false ∧ K (.pv (.lit (.int .i64 0))) [] []
    | .pv (.lit (.slice (some _) n _)) => str = false ∧ K (.pv (.lit (.int .i64 n))) [] []
    | .pv (.lit (.string s)) => str = true ∧ K (.pv (.lit (.int .i64 s.size))) [] []
    | .row _ n _ => str = false ∧ K (.pv (.lit (.int .i64 n))) [] []
    | _ => False) := rfl
theorem ax_app (ty : Nat) (sz : Nat) (x : Operand) (y : Operand) : AX P (.app ty sz x y) nb f h K =
    (srcK sz h (ev f y) fun ys rd => match ev f x with
    | .pv (.lit (.slice none 0 0)) => (ys = [] ∧ K (.pv (.lit (.slice none 0 0))) rd []) ∨ (ys ≠ [] ∧ ys.length ≤ big ∧ K (.row nb ys.length false) rd [(nb, some ⟨false, ty, sz, ys, none⟩)])
    | .row b n full => match h b with
      | some k => k.ty = ty ∧ k.sz = sz ∧ k.xs.length = n ∧ n + ys.length ≤ big ∧
        if k.ro = true then full = true ∧ 0 < n ∧ ys ≠ [] ∧ K (.row nb (n + ys.length) false) (b :: rd) [(nb, some ⟨false, ty, sz, k.xs ++ ys, none⟩)]
        else K (.row nb (n + ys.length) false) (b :: rd) [(b, none), (nb, some ⟨false, ty, sz, k.xs ++ ys, none⟩)]
      | none => False
    | _ => False) := rfl
theorem ax_appz (ty : Nat) (sz : Nat) (zero : List Value) (x : Operand) (y : Operand) : AX P (.appz ty sz zero x y) nb f h K =
    (match ev f x, ev f y with
    | .pv (.lit (.slice none 0 0)), .pv (.lit (.int _ a)) => ∃ n : Nat, a = n ∧ 0 < n ∧ n ≤ big ∧ K (.row nb n false) [] [(nb, some ⟨false, ty, sz, List.replicate n (zero.map lv), none⟩)]
    | _, _ => False) := rfl
theorem ax_capn (x : Operand) : AX P (.capn x) nb f h K =
    (match ev f x with
    | .pv (.lit (.slice none 0 0)) => K (.pv (.lit (.int .i64 0))) [] []
    | _ => False) := rfl
theorem ax_minmax (mn : Bool) (x : Operand) (y : Operand) : AX P (.minmax mn x y) nb f h K =
    (match ev f x, ev f y with
    | .pv (.lit (.int k a)), .pv (.lit (.int k' b)) => K (.pv (.lit (.int k (if mn then (if b < a then b else a) else (if b > a then b else a))))) [] []
    | _, _ => False) := rfl
end
theorem ev_cst {f : FV} {v : Value} : ev f (.const v) = cst v := rfl
theorem ev_fn {f : FV} {g : FuncId} : ev f (.func g) = .pv (.fn g []) := rfl
theorem get_cons {d t : Nat} {v : V} {fr : Fr} : get ((d, v) :: fr) t = if d = t then v else get fr t := rfl
theorem get_hit {t : Nat} {v : V} {fr : Fr} : get ((t, v) :: fr) t = v := if_pos rfl
theorem get_nil {t : Nat} : get [] t = .junk := rfl
theorem hget_zero {k : Option Blk} {H : Hp} : hget (k :: H) 0 = k := by simp [hget]
theorem hget_succ {k : Option Blk} {H : Hp} {n : Nat} : hget (k :: H) (n + 1) = hget H n := by simp [hget]
theorem hget_nil {n : Nat} : hget [] n = none := by simp [hget]
theorem put_some {d : Nat} {v : V} {fr : Fr} : put (some d) v fr = (d, v) :: fr := rfl
theorem put_none {v : V} {fr : Fr} : put none v fr = fr := rfl
theorem updL_nil {H : Hp} : updL H [] = H := rfl
section
variable {P : Program} {fr : Fr} {H : Hp} {K : Fr → Hp → Prop} {d : Option Nat} {op : AO} {os : List AOp}
theorem aops_cons' (h : ∀ C : Kont, (∀ v rd δ fr' H', put d v fr = fr' → updL H δ = H' → aops P os fr' H' K → C v rd δ) → AX P op H.length (get fr) (hget H) C) : aops P (⟨d, op, none⟩ :: os) fr H K := aops_cons rfl h
theorem aops_call {fx : Operand} {args : List Operand} (h : ∀ C : Kont, (∀ v rd δ fr' H', put d v fr = fr' → updL H δ = H' → aops P os fr' H' K → C v rd δ) → ACall P H.length (ev (get fr) fx) (args.map (ev (get fr))) (hget H) C) : aops P (⟨d, .call fx args, none⟩ :: os) fr H K := aops_cons rfl h
theorem aops_guard' {s : Nat} {want : Bool} {vg : V} (hb : get fr s = vg)
    (h : gk vg want (∀ C : Kont, (∀ v rd δ fr' H', put d v fr = fr' → updL H δ = H' → aops P os fr' H' K → C v rd δ) → AX P op H.length (get fr) (hget H) C)
      (∀ fr', put d (lv undef) fr = fr' → aops P os fr' H K)) : aops P (⟨d, op, some (s, want)⟩ :: os) fr H K := aops_guard rfl hb h
variable {base i : Nat} {lks : List (List Nat)} {tr : List Foot} {KD : List Foot → Fr → Hp → Prop} {lk : List Nat}
theorem aopsD_cons' (h : ∀ C : Kont, (∀ v rd δ fr' H' tr', put d v fr = fr' → updL H δ = H' → tr ++ [⟨lk, d, rd, δ.map (·.1)⟩] = tr' → aopsD P base (i + 1) os lks fr' H' tr' KD → C v rd δ) →
    AX P op (base + i) (get fr) (hget H) C) : aopsD P base i (⟨d, op, none⟩ :: os) (lk :: lks) fr H tr KD := aopsD_cons rfl h
theorem aopsD_call {fx : Operand} {args : List Operand} (h : ∀ C : Kont, (∀ v rd δ fr' H' tr', put d v fr = fr' → updL H δ = H' → tr ++ [⟨lk, d, rd, δ.map (·.1)⟩] = tr' → aopsD P base (i + 1) os lks fr' H' tr' KD → C v rd δ) →
    ACall P (base + i) (ev (get fr) fx) (args.map (ev (get fr))) (hget H) C) : aopsD P base i (⟨d, .call fx args, none⟩ :: os) (lk :: lks) fr H tr KD := aopsD_cons rfl h
theorem aopsD_guard' {s : Nat} {want : Bool} {vg : V} (hb : get fr s = vg)
    (h : gk vg want (∀ C : Kont, (∀ v rd δ fr' H' tr', put d v fr = fr' → updL H δ = H' → tr ++ [⟨lk, d, rd, δ.map (·.1)⟩] = tr' → aopsD P base (i + 1) os lks fr' H' tr' KD → C v rd δ) → AX P op (base + i) (get fr) (hget H) C)
      (∀ fr' tr', put d (lv undef) fr = fr' → tr ++ [⟨lk, d, [], []⟩] = tr' → aopsD P base (i + 1) os lks fr' H tr' KD)) : aopsD P base i (⟨d, op, some (s, want)⟩ :: os) (lk :: lks) fr H tr KD := aopsD_guard rfl hb h
end
end Go.Ab
/- A call behind a guard. -/
namespace Go.Ab
theorem ax_call_mp {P : Program} {fx : Operand} {args : List Operand} {nb : Nat} {f : FV} {h : HF} {K : Kont} (hc : ACall P nb (ev f fx) (args.map (ev f)) h K) : AX P (.call fx args) nb f h K := hc
end Go.Ab
/- A call that may write the memory that it is lent, and hand back a block more. -/
set_option linter.unusedVariables false
set_option linter.unusedSimpArgs false
namespace Go.Ab
open Go.RowKit
/-- the first n blocks under their machine names -/
def tagN (m : Nat → Nat × Nat × Nat) (n : Nat) : Nat → Hp → Hp
  | _, [] => []
  | i, k :: H => (k.map fun k => { k with tag := if i < n then some (m i) else none }) :: tagN m n (i + 1) H
theorem tagN_length (m : Nat → Nat × Nat × Nat) (n : Nat) : ∀ (H : Hp) (i : Nat), (tagN m n i H).length = H.length
  | [], _ => rfl
  | k :: H, i => by simp [tagN, tagN_length m n H]
theorem hget_tagN (m : Nat → Nat × Nat × Nat) (n : Nat) : ∀ (H : Hp) (i b : Nat), hget (tagN m n i H) b = (hget H b).map fun k => { k with tag := if i + b < n then some (m (i + b)) else none }
  | [], i, b => by simp [tagN, hget]
  | k :: H, i, b => by
    cases b with
    | zero => cases k <;> simp [tagN, hget]
    | succ b =>
      have := hget_tagN m n H (i + 1) b
      simp only [hget] at this ⊢
      simp only [tagN, List.getElem?_cons_succ]
      rw [this, show i + 1 + b = i + (b + 1) by omega]
/-- the blocks that live -/
def LV (H : Hp) : Nat → Prop := fun b => ∃ k, hget H b = some k
theorem LV_lt {H : Hp} {b : Nat} (h : LV H b) : lt H b := by
  obtain ⟨k, e⟩ := h
  unfold hget at e; unfold lt
  rcases Nat.lt_or_ge b H.length with hb | hb
  · exact hb
  · rw [List.getElem?_eq_none hb] at e; cases e
/-- blocks that are well formed by themselves -/
structure HpOk (H : Hp) : Prop where
  tag : ∀ b k, hget H b = some k → k.tag = none
  bd : ∀ b k, hget H b = some k → ∀ cs ∈ k.xs, V.bdL (LV H) cs
def MCall (P : Program) (f : FuncId) (vs : List V) (H0 : Hp) (v : V) (H1 : Hp) : Prop :=
  Enters P f ∧ H0.length ≤ H1.length ∧ H1.length ≤ H0.length + 1 ∧ (∀ b, b < H0.length → LV H0 b) ∧ HpOk H0 ∧ HpOk H1 ∧ V.bdL (LV H0) vs ∧ v.bd (LV H1) ∧
  ∀ G w us, Rel (lt H0) G (hget H0) w → RL G vs us → Calls P f us.toArray w fun e w' =>
    ∃ u G', e = .returned u ∧ Gh.le (lt H0) G G' ∧ Rel (lt H1) G' (hget H1) w' ∧ Tr G (hget H0) w G' (hget H1) w' ∧ R G' v u
theorem Rel.le {S : Nat → Prop} {G : Gh} {fr : Fr} {H : Hp} {w : World} (rel : Rel S G (hget H) w) {ρ : Nat → Nat} {fr' : Fr} {H' : Hp} (h : Le ρ fr H fr' H') :
    Rel (Ab.lt H') (G.ren ρ) (hget H') w ∧ Tr G (hget H) w (G.ren ρ) (hget H') w := by
  have hlive : ∀ b k, hget H' b = some k → Ab.lt H' b := fun b k e => LV_lt ⟨k, e⟩
  refine ⟨⟨rel.imm, fun b k e => ?_, fun b b' k k' e e' eφ => ?_, fun b k e hro => ?_, fun b k e => hlive b k e, fun b k e => h.hbd b k e⟩,
    ⟨rfl, rfl, rfl, Nat.le_refl _, Imm.le.refl _, fun _ _ _ => rfl, fun b k e hro _ => ?_, fun b k e _ => ?_, fun a v e _ => .inl e⟩⟩
  · obtain ⟨k', e0, kl⟩ := h.hp b k e
    obtain ⟨arr, e1, rr⟩ := rel.blk (ρ b) _ e0
    have hl : k'.xs.length = k.xs.length := by rw [kl.xs, List.length_map]
    refine ⟨arr, by rw [← kl.ty]; exact e1, ⟨kl.sz.symm.trans rr.sz, rr.size, by rw [← hl, ← kl.sz]; exact rr.fits, fun i cs hi => ?_, fun i j cs c hi hj => ?_, fun hro i hi => rr.ro (kl.ro.trans hro) i (by rw [hl, kl.sz]; exact hi), fun m hm => rr.tag m (kl.tagged hm)⟩⟩
    · have := rr.len i (V.renL ρ cs) (by simp only [kl.xs, List.getElem?_map, hi, Option.map_some])
      rw [renL_len] at this; exact this.trans kl.sz
    · obtain ⟨u, q1, q2, q3⟩ := rr.cell i j (V.renL ρ cs) (V.ren ρ c) (by simp only [kl.xs, List.getElem?_map, hi, Option.map_some]) (by rw [renL_get, hj]; rfl)
      exact ⟨u, by rw [← kl.sz]; exact q1, q2, (R_ren c u).2 q3⟩
  · obtain ⟨k1, e0, _⟩ := h.hp b k e
    obtain ⟨k1', e0', _⟩ := h.hp b' k' e'
    exact h.inj b b' k k' e e' (rel.inj _ _ _ _ e0 e0' eφ)
  · obtain ⟨k1, e0, kl⟩ := h.hp b k e
    exact rel.sep (ρ b) _ e0 (kl.ro.trans hro)
  · obtain ⟨k1, e0, kl⟩ := h.hp b k e
    exact ⟨ρ b, _, e0, kl.ro.trans hro, rfl⟩
  · obtain ⟨k1, e0, _⟩ := h.hp b k e
    exact ⟨ρ b, _, e0, rfl⟩
/-! ### how a function is shown to keep such a contract -/
def oneW (vs : List V) : V := match vs with
  | [v] => v
  | vs => .tup vs
theorem RL_one {G : Gh} {vs : List V} {us : List Value} (h : RL G vs us) : R G (oneW vs) (oneV us) := by
  match vs, us, h with
  | [], us, h => simp only [RL] at h; subst h; simp only [oneW, R]; exact ⟨#[], rfl, by simp [RL]⟩
  | [p], us, h =>
    simp only [RL] at h
    obtain ⟨u, us', rfl, h1, rfl⟩ := h
    exact h1
  | p :: q :: ps, us, h =>
    have h' := h
    simp only [RL] at h
    obtain ⟨u, us', rfl, h1, v, us'', rfl, h2, h3⟩ := h
    simp only [oneW, R]
    exact ⟨_, rfl, h'⟩
/-- what stands where such a function returns -/
def retM (rs : List RV) (v : V) (n : Nat) (H1 : Hp) (m : Nat → Nat × Nat × Nat) (e : Exit) (fr : Fr) (H : Hp) : Prop :=
  match e with
  | .normal => ∃ vs, resVs fr H rs = some vs ∧ ∃ ρ, Le ρ [(0, oneW vs)] H [(0, v)] (tagN m n 0 H1)
  | .ret => ∃ vs, resVs fr H rs = some vs ∧ ∃ ρ, Le ρ [(0, oneW vs)] H [(0, v)] (tagN m n 0 H1)
  | _ => False
def argFrV : Nat → List V → Fr
  | _, [] => []
  | i, p :: ps => (i, p) :: argFrV (i + 1) ps
theorem argFrV_get : ∀ (ps : List V) (i t : Nat), get (argFrV i ps) t = .junk ∨ ∃ p, i ≤ t ∧ ps[t - i]? = some p ∧ get (argFrV i ps) t = p
  | [], i, t => .inl rfl
  | p :: ps, i, t => by
    simp only [argFrV, get]
    split
    · rename_i h; subst h; exact .inr ⟨p, Nat.le_refl _, by simp, rfl⟩
    · rename_i h
      rcases argFrV_get ps (i + 1) t with h1 | ⟨q, h1, h2, h3⟩
      · exact .inl h1
      · refine .inr ⟨q, by omega, ?_, h3⟩
        rw [show t - i = (t - (i + 1)) + 1 by omega]; simpa using h2
theorem V.bdL_mem {S : Nat → Prop} : ∀ {cs : List V} {c : V}, V.bdL S cs → c ∈ cs → c.bd S := fun h1 h2 => bdL_iff.1 h1 _ h2
theorem MCall.intro {P : Program} {f : FuncId} {N : Nat} {ac : AC} {rs : List RV} (hf : Fun P f N ac rs) {vs : List V} {v : V} {H0 H1 : Hp} (hN : vs.length ≤ N) (h1 : H0.length ≤ H1.length) (h2 : H1.length ≤ H0.length + 1) (h3 : ∀ b, b < H0.length → LV H0 b) (h4 : HpOk H0) (h5 : HpOk H1)
    (h6 : V.bdL (LV H0) vs) (h7 : v.bd (LV H1)) (h : ∀ m, awp P ac (retM rs v H0.length H1 m) (argFrV 0 vs) (tagN m H0.length 0 H0)) : MCall P f vs H0 v H1 := by
  obtain ⟨fn, c, e1, e2, e3, e4, e5, e6⟩ := hf.ex
  refine ⟨⟨fn, e1, by rw [e2]; rfl, e3⟩, h1, h2, h3, h4, h5, h6, h7, fun G w us rel hus => ?_⟩
  refine calls_of_wp e1 e2 ?_
  have hlen : us.length = vs.length := RL_length hus
  let m : Nat → Nat × Nat × Nat := fun b => (G.φ b, G.κ b, G.σ b)
  have hW := awp_sound hf.hm c ac e5 _ _ _ (h m)
  have un : ∀ b k, hget (tagN m H0.length 0 H0) b = some k → ∃ k0, hget H0 b = some k0 ∧ k = { k0 with tag := some (m b) } := fun b k e => by
    rw [hget_tagN, Nat.zero_add] at e
    obtain ⟨k0, e0, rfl⟩ := Option.map_eq_some_iff.1 e
    exact ⟨k0, e0, by rw [if_pos (show b < H0.length from LV_lt ⟨k0, e0⟩)]⟩
  have rel0 : Rel (lt (tagN m H0.length 0 H0)) G (hget (tagN m H0.length 0 H0)) w := by
    have hl : lt (tagN m H0.length 0 H0) = lt H0 := by unfold lt; rw [tagN_length]
    rw [hl]
    refine ⟨rel.imm, fun b k e => ?_, fun b b' k k' e e' => ?_, fun b k e => ?_, fun b k e => ?_, fun b k e => ?_⟩
    · obtain ⟨k0, e0, rfl⟩ := un b k e
      obtain ⟨arr, e7, rr⟩ := rel.blk b k0 e0
      exact ⟨arr, e7, rr.sz, rr.size, rr.fits, rr.len, rr.cell, rr.ro, fun t ht => by cases ht; rfl⟩
    · obtain ⟨k0, e0, rfl⟩ := un b k e
      obtain ⟨k0', e0', rfl⟩ := un b' k' e'
      exact rel.inj b b' k0 k0' e0 e0'
    · obtain ⟨k0, e0, rfl⟩ := un b k e
      exact rel.sep b k0 e0
    · obtain ⟨k0, e0, rfl⟩ := un b k e
      exact rel.live b k0 e0
    · obtain ⟨k0, e0, rfl⟩ := un b k e
      exact rel.bd b k0 e0
  have st : ASt N G (argFrV 0 vs) (tagN m H0.length 0 H0) { tmps := us.toArray ++ Array.replicate (fn.ntmps - us.toArray.size) undef, defers := [] } w := by
    refine ⟨rel0, fun t => ?_, fun t => ?_, ?_, rfl⟩
    · rcases argFrV_get vs 0 t with h | ⟨p, _, hp, h⟩
      · rw [h]; simp [R]
      · rw [h]
        obtain ⟨u, e1, e2⟩ := RL_get hus t p (by simpa using hp)
        have htl : t < us.length := (List.getElem?_eq_some_iff.1 e1).1
        have : (us.toArray ++ Array.replicate (fn.ntmps - us.toArray.size) undef).getD t undef = u := by
          rw [Array.getD_eq_getD_getElem?, Array.getElem?_append_left (by simpa using htl)]
          simp [e1]
        rw [this]; exact e2
    · rcases argFrV_get vs 0 t with h | ⟨p, _, hp, h⟩
      · rw [h]; simp [V.bd]
      · rw [h]
        refine V.bd_mono (fun b hb => ?_) _ (V.bdL_mem h6 (List.mem_of_getElem? hp))
        unfold lt; rw [tagN_length]; exact LV_lt hb
    · simp; omega
  refine wp_mono (hW G _ w st) fun e a' w' ⟨G', fr', H', hq, st', tr'⟩ => ?_
  have fin : (∃ ws, resVs fr' H' rs = some ws ∧ ∃ ρ, Le ρ [(0, oneW ws)] H' [(0, v)] (tagN m H0.length 0 H1)) → a'.defers = [] ∧ ∃ v', (results fn a'.tmps).run P w' = .ok v' w' ∧
      ∃ u G', Ending.returned v' = .returned u ∧ Gh.le (lt H0) G G' ∧ Rel (lt H1) G' (hget H1) w' ∧ Tr G (hget H0) w G' (hget H1) w' ∧ R G' v u := by
    rintro ⟨ws, hws, ρ, hle⟩
    obtain ⟨us', hr, hR⟩ := results_run st' fn.results.toList rs ws e6 hws
    obtain ⟨rel2, tr2⟩ := st'.rel.le hle
    have tr := tr'.trans tr2
    let G3 : Gh := { φ := fun b => if b < H0.length then G.φ b else (G'.ren ρ).φ b, κ := fun b => if b < H0.length then G.κ b else (G'.ren ρ).κ b, σ := fun b => if b < H0.length then G.σ b else (G'.ren ρ).σ b, I := G'.I }
    have get1 : ∀ b k, hget H1 b = some k → hget (tagN m H0.length 0 H1) b = some { k with tag := if b < H0.length then some (m b) else none } := fun b k e => by
      rw [hget_tagN, e, Nat.zero_add]; rfl
    have same : ∀ b, LV H1 b → G3.φ b = (G'.ren ρ).φ b ∧ G3.κ b = (G'.ren ρ).κ b ∧ G3.σ b = (G'.ren ρ).σ b := fun b ⟨k, e⟩ => by
      by_cases hb : b < H0.length
      · obtain ⟨arr, _, rr⟩ := rel2.blk b _ (get1 b k e)
        have := rr.tag (m b) (by simp [hb])
        simp only [m, Prod.mk.injEq] at this
        simp only [G3, if_pos hb]; exact this
      · simp only [G3, if_neg hb, and_self]
    have hle3 : Gh.le (LV H1) (G'.ren ρ) G3 := ⟨fun b hb => (same b hb).1, fun b hb => (same b hb).2.1, fun b hb => (same b hb).2.2, Imm.le.refl _⟩
    have hl1 : lt (tagN m H0.length 0 H1) = lt H1 := by unfold lt; rw [tagN_length]
    refine ⟨st'.defers, _, results_run' hr, _, G3, rfl, ⟨fun b hb => ?_, fun b hb => ?_, fun b hb => ?_, tr.I⟩, ⟨rel2.imm, fun b k e => ?_, fun b b' k k' e e' eφ => ?_, fun b k e hro => ?_, fun b k e => LV_lt ⟨k, e⟩, fun b k e => ?_⟩,
      ⟨tr.os, tr.tape, tr.output, tr.size, tr.I, fun k hk hn => tr.old k hk fun b blk e hro => ?_, fun b k e hro hlt => ?_, fun b k e hlt => ?_, fun a x e hlt => ?_⟩, ?_⟩
    · simp only [G3]; rw [if_pos (show b < H0.length from hb)]
    · simp only [G3]; rw [if_pos (show b < H0.length from hb)]
    · simp only [G3]; rw [if_pos (show b < H0.length from hb)]
    · obtain ⟨arr, e7, rr⟩ := rel2.blk b _ (get1 b k e)
      obtain ⟨s1, s2, s3⟩ := same b ⟨k, e⟩
      refine ⟨arr, by rw [s1]; exact e7, by rw [s3]; exact rr.sz, by rw [s2]; exact rr.size, rr.fits, rr.len, fun i j cs c hi hj => ?_, fun hro i hi => ?_, fun t ht => ?_⟩
      · obtain ⟨u, q1, q2, q3⟩ := rr.cell i j cs c hi hj
        exact ⟨u, q1, q2, R_mono hle3 c u (V.bdL_mem (h5.bd b k e cs (List.mem_of_getElem? hi)) (List.mem_of_getElem? hj)) q3⟩
      · rw [s1]; exact rr.ro hro i hi
      · rw [h5.tag b k e] at ht; cases ht
    · rw [(same b ⟨k, e⟩).1, (same b' ⟨k', e'⟩).1] at eφ
      exact rel2.inj b b' _ _ (get1 b k e) (get1 b' k' e') eφ
    · rw [(same b ⟨k, e⟩).1]; exact rel2.sep b _ (get1 b k e) hro
    · have := rel2.bd b _ (get1 b k e)
      rw [hl1] at this; exact this
    · obtain ⟨k0, e0, rfl⟩ := un b blk e
      exact hn b k0 e0 hro
    · rw [(same b ⟨k, e⟩).1] at hlt ⊢
      obtain ⟨b0, k0, f0, f1, f2⟩ := tr.muts b _ (get1 b k e) hro hlt
      obtain ⟨k1, g0, rfl⟩ := un b0 k0 f0
      exact ⟨b0, k1, g0, f1, f2⟩
    · rw [(same b ⟨k, e⟩).1] at hlt ⊢
      obtain ⟨b0, k0, f0, f2⟩ := tr.lives b _ (get1 b k e) hlt
      obtain ⟨k1, g0, rfl⟩ := un b0 k0 f0
      exact ⟨b0, k1, g0, f2⟩
    · rcases tr.inew a x e hlt with f | ⟨b0, k0, f0, f1⟩
      · exact .inl f
      · obtain ⟨k1, g0, rfl⟩ := un b0 k0 f0
        exact .inr ⟨b0, k1, g0, f1⟩
    · have := hle.fr 0
      simp only [get, if_true] at this
      rcases this with e | e
      · rw [e]; simp [R]
      · exact R_mono hle3 _ _ h7 ((R_ren _ _).2 (by rw [e]; exact RL_one hR))
  cases e with
  | normal => exact fin hq
  | ret => exact fin hq
  | _ => exact hq.elim
end Go.Ab
/- Calling a function that writes what it is lent. -/
set_option linter.unusedVariables false
set_option linter.unusedSimpArgs false
namespace Go.Ab
open Go.RowKit
mutual
theorem V.bd_ren {S T : Nat → Prop} {ρ : Nat → Nat} (h : ∀ b, T b → S (ρ b)) : ∀ (c : V), c.bd T → (c.ren ρ).bd S
  | .junk, _ => by simp [V.ren, V.bd]
  | .pv p, _ => by simp [V.ren, V.bd]
  | .ptr b i off, hb => by simp only [V.ren, V.bd] at hb ⊢; exact h b hb
  | .row b n full, hb => by simp only [V.ren, V.bd] at hb ⊢; exact h b hb
  | .agg cs, hb => by simp only [V.ren, V.bd] at hb ⊢; exact V.bdL_ren h cs hb
  | .tup cs, hb => by simp only [V.ren, V.bd] at hb ⊢; exact V.bdL_ren h cs hb
  | .fn f cs, hb => by simp only [V.ren, V.bd] at hb ⊢; exact V.bdL_ren h cs hb
theorem V.bdL_ren {S T : Nat → Prop} {ρ : Nat → Nat} (h : ∀ b, T b → S (ρ b)) : ∀ (cs : List V), V.bdL T cs → V.bdL S (V.renL ρ cs)
  | [], _ => by simp [V.renL, V.bdL]
  | c :: cs, hb => by simp only [V.renL, V.bdL] at hb ⊢; exact ⟨V.bd_ren h c hb.1, V.bdL_ren h cs hb.2⟩
end
theorem updD_notin : ∀ (δ : List (Nat × Option Blk)) (h : HF) (b : Nat), (∀ k, (b, k) ∉ δ) → updD h δ b = h b
  | [], h, b, _ => rfl
  | (c, k) :: δ, h, b, hn => by
    rw [updD, updD_notin δ _ b fun k' hk => hn k' (List.mem_cons_of_mem _ hk), upd_other]
    rintro rfl; exact hn k (by simp)
theorem updD_in : ∀ (δ : List (Nat × Option Blk)) (h : HF) (b : Nat) (k : Option Blk), (δ.map (·.1)).Nodup → (b, k) ∈ δ → updD h δ b = k
  | [], h, b, k, _, hm => by cases hm
  | (c, k') :: δ, h, b, k, hn, hm => by
    simp only [List.map_cons, List.nodup_cons] at hn
    rw [updD]
    rcases List.mem_cons.1 hm with e | hm
    · simp only [Prod.mk.injEq] at e
      obtain ⟨rfl, rfl⟩ := e
      rw [updD_notin δ _ _ fun k' hk => hn.1 (List.mem_map.2 ⟨_, hk, rfl⟩), upd_same]
    · exact updD_in δ _ b k hn.2 hm
/-- a local block's name with the caller -/
def rho (ρ : List Nat) (nb : Nat) (i : Nat) : Nat := ρ.getD i nb
def outB (h : HF) (ρ : List Nat) (nb : Nat) (b : Nat) (k : Option Blk) : Option Blk := k.map fun k => { k with xs := k.xs.map (V.renL (rho ρ nb)), tag := (h b).bind fun x => x.tag }
def outD (h : HF) (ρ : List Nat) (nb : Nat) : List Nat → Hp → List (Nat × Option Blk)
  | b :: bs, k :: ks => (b, outB h ρ nb b k) :: outD h ρ nb bs ks
  | [], [k] => [(nb, k.map fun k => { k with xs := k.xs.map (V.renL (rho ρ nb)), tag := none })]
  | _, _ => []
/-- what the callee sees: the caller's value as it is, or a pure tree where it is one -/
inductive VM (ρ : Nat → Nat) : List V → List V → Prop
  | nil : VM ρ [] []
  | eq (v : V) (vs ws : List V) : VM ρ vs ws → VM ρ (v.ren ρ :: vs) (v :: ws)
  | pv (v : V) (p : PV) (vs ws : List V) : Vw (fun _ => none) [] v p → VM ρ vs ws → VM ρ (v :: vs) (.pv p :: ws)
theorem VM_RL {S G h w} (r : Rel S G h w) {ρ : Nat → Nat} : ∀ {vs ws : List V} {us : List Value}, VM ρ vs ws → RL G vs us → RL (G.ren ρ) ws us
  | _, _, us, .nil, hr => by simpa [RL] using hr
  | _, _, us, .eq v vs ws hm, hr => by
    simp only [RL] at hr ⊢
    obtain ⟨u, us', rfl, h1, h2⟩ := hr
    exact ⟨u, us', rfl, (R_ren _ _).2 h1, VM_RL r hm h2⟩
  | _, _, us, .pv v p vs ws hv hm, hr => by
    simp only [RL] at hr ⊢
    obtain ⟨u, us', rfl, h1, h2⟩ := hr
    refine ⟨u, us', rfl, ?_, VM_RL r hm h2⟩
    have hv' : Vw h [] v p := Vw_congr (h := fun _ => none) (fun b hb => by cases hb) hv
    have := Vw_R r hv' h1
    simp only [R]
    refine RP_mono (fun a x e => ?_) _ _ this
    rcases lend_spec e with e | ⟨b, k, hb, _⟩
    · exact e
    · cases hb
/-- cells that say less -/
def Wk (a b : V) : Prop := ∀ G u, R G a u → R G b u
def WkX (xs ys : List (List V)) : Prop := xs.length = ys.length ∧ ∀ (i : Nat) cs ds, xs[i]? = some cs → ys[i]? = some ds → cs.length = ds.length ∧ ∀ (j : Nat) c d, cs[j]? = some c → ds[j]? = some d → Wk c d
theorem WkX.refl (xs : List (List V)) : WkX xs xs := ⟨rfl, fun i cs ds h1 h2 => by
  rw [h1] at h2; cases h2
  exact ⟨rfl, fun j c d h3 h4 => by rw [h3] at h4; cases h4; exact fun _ _ h => h⟩⟩
structure BlkWk (ρ : Nat → Nat) (k' k : Blk) : Prop where
  ro : k'.ro = k.ro
  ty : k'.ty = k.ty
  sz : k'.sz = k.sz
  xs : WkX k'.xs (k.xs.map (V.renL ρ))
theorem BlkWk.of {ρ : Nat → Nat} {k : Blk} {xs : List (List V)} {tg : Option (Nat × Nat × Nat)} (h : WkX xs (k.xs.map (V.renL ρ))) : BlkWk ρ { k with xs := xs, tag := tg } k := ⟨rfl, rfl, rfl, h⟩
/-- a function value: which function, what it holds -/
def FnIs (fv : V) (f : FuncId) (cs : List V) : Prop := ∀ G u, R G fv u → ∃ us, u = .func (.func f) #[] us ∧ RL G cs us.toList
theorem RPL_RL {G : Gh} : ∀ {ps : List PV} {us : List Value}, RPL G.I ps us → RL G (ps.map .pv) us
  | [], us, h => by simpa [RL, RPL] using h
  | p :: ps, us, h => by
    simp only [RPL] at h
    obtain ⟨u, us', rfl, h1, h2⟩ := h
    exact ⟨u, us', rfl, by simpa only [R] using h1, RPL_RL h2⟩
theorem FnIs.fn (f : FuncId) (cs : List V) : FnIs (.fn f cs) f cs := fun G u h => by simpa only [R] using h
theorem FnIs.pv (f : FuncId) (ps : List PV) : FnIs (.pv (.fn f ps)) f (ps.map .pv) := fun G u h => by
  simp only [R, RP] at h
  obtain ⟨us, e, h1⟩ := h
  exact ⟨us, e, RPL_RL h1⟩
theorem RL_append {G : Gh} : ∀ {ps qs : List V} {us vs : List Value}, RL G ps us → RL G qs vs → RL G (ps ++ qs) (us ++ vs)
  | [], qs, us, vs, h1, h2 => by simp only [RL] at h1; subst h1; simpa using h2
  | p :: ps, qs, us, vs, h1, h2 => by
    simp only [RL] at h1
    obtain ⟨u, us', rfl, r1, r2⟩ := h1
    simp only [List.cons_append, RL]
    exact ⟨u, us' ++ vs, rfl, r1, RL_append r2 h2⟩
theorem CallOk.heap {P : Program} {nb : Nat} {fv : V} {vs vs0 cls : List V} {h : HF} {f : FuncId} {H0 H1 : Hp} {v : V} (hfn : FnIs fv f cls) (ρ : List Nat) (hm : MCall P f vs0 H0 v H1) (hl : ρ.length = H0.length) (hnd : ρ.Nodup) (hnb : nb ∉ ρ)
    (hvs : VM (rho ρ nb) (vs ++ cls) vs0) (hh : ∀ i k, hget H0 i = some k → ∃ k', h (rho ρ nb i) = some k' ∧ BlkWk (rho ρ nb) k' k) :
    CallOk P nb fv vs h (v.ren (rho ρ nb)) ρ (outD h ρ nb ρ H1) := by
  obtain ⟨hent, l1, l2, l3, ok0, ok1, bvs, bv, hcall⟩ := hm
  intro S G h2 w u us rel hrd hn hru hrs hbf hbs
  obtain ⟨cps, rfl, hcps⟩ := hfn G u hru
  refine ⟨f, cps, rfl, hent, ?_⟩
  -- names
  have rlt : ∀ i, i < ρ.length → rho ρ nb i ∈ ρ := fun i hi => by
    unfold rho; rw [List.getD_eq_getElem?_getD, List.getElem?_eq_getElem hi]; exact List.getElem_mem hi
  have rge : ∀ i, ¬ i < ρ.length → rho ρ nb i = nb := fun i hi => by
    unfold rho; rw [List.getD_eq_getElem?_getD, List.getElem?_eq_none (by omega)]; rfl
  have rinj : ∀ i j, i < ρ.length → j < ρ.length → rho ρ nb i = rho ρ nb j → i = j := fun i j hi hj e => by
    unfold rho at e
    rw [List.getD_eq_getElem?_getD, List.getD_eq_getElem?_getD, List.getElem?_eq_getElem hi, List.getElem?_eq_getElem hj] at e
    exact (List.getElem_inj hnd).1 e
  have rmem : ∀ b, b ∈ ρ → ∃ i, i < ρ.length ∧ rho ρ nb i = b := fun b hb => by
    obtain ⟨i, hi, e⟩ := List.getElem_of_mem hb
    exact ⟨i, hi, by unfold rho; rw [List.getD_eq_getElem?_getD, List.getElem?_eq_getElem hi]; exact e⟩
  have lt0 : ∀ i k, hget H0 i = some k → i < ρ.length := fun i k e => by rw [hl]; exact LV_lt ⟨k, e⟩
  have h20 : ∀ i k, hget H0 i = some k → ∃ k', h2 (rho ρ nb i) = some k' ∧ BlkWk (rho ρ nb) k' k := fun i k e => by
    rw [hrd _ (rlt i (lt0 i k e))]; exact hh i k e
  have hin : ∀ i, i < ρ.length → ∃ k, h2 (rho ρ nb i) = some k := fun i hi => by
    obtain ⟨k, e⟩ := l3 i (by omega)
    obtain ⟨k', e', _⟩ := h20 i k e
    exact ⟨_, e'⟩
  -- the callee's memory
  let Gl := G.ren (rho ρ nb)
  have rel0 : Rel (lt H0) Gl (hget H0) w := by
    refine ⟨rel.imm, fun b k e => ?_, fun b b' k k' e e' eφ => ?_, fun b k e hro => ?_, fun b k e => LV_lt ⟨k, e⟩, fun b k e cs hcs => V.bdL_mono (fun _ h => LV_lt h) cs (ok0.bd b k e cs hcs)⟩
    · obtain ⟨k', e0, kw⟩ := h20 b k e
      obtain ⟨arr, e1, rr⟩ := rel.blk _ _ e0
      have hlx : k'.xs.length = k.xs.length := by have := kw.xs.1; simpa using this
      have ex : ∀ (i : Nat) cs, k.xs[i]? = some cs → ∃ cs', k'.xs[i]? = some cs' ∧ cs'.length = cs.length ∧ ∀ (j : Nat) c, cs[j]? = some c → ∃ c', cs'[j]? = some c' ∧ Wk c' (c.ren (rho ρ nb)) := fun i cs hi => by
        have hil : i < k'.xs.length := by rw [hlx]; exact (List.getElem?_eq_some_iff.1 hi).1
        obtain ⟨w1, w2⟩ := kw.xs.2 i k'.xs[i] (V.renL (rho ρ nb) cs) (List.getElem?_eq_getElem hil) (by simp only [List.getElem?_map, hi, Option.map_some])
        rw [renL_len] at w1
        refine ⟨_, List.getElem?_eq_getElem hil, w1, fun j c hj => ?_⟩
        have hjl : j < k'.xs[i].length := by rw [w1]; exact (List.getElem?_eq_some_iff.1 hj).1
        exact ⟨_, List.getElem?_eq_getElem hjl, w2 j _ _ (List.getElem?_eq_getElem hjl) (by rw [renL_get, hj]; rfl)⟩
      refine ⟨arr, by rw [← kw.ty]; exact e1, ⟨kw.sz.symm.trans rr.sz, rr.size, by rw [← hlx, ← kw.sz]; exact rr.fits, fun i cs hi => ?_, fun i j cs c hi hj => ?_, fun hro i hi => rr.ro (kw.ro.trans hro) i (by rw [hlx, kw.sz]; exact hi), fun t ht => by rw [ok0.tag b k e] at ht; cases ht⟩⟩
      · obtain ⟨cs', g1, g2, _⟩ := ex i cs hi
        rw [← g2, rr.len i cs' g1, kw.sz]
      · obtain ⟨cs', g1, g2, g3⟩ := ex i cs hi
        obtain ⟨c', g4, g5⟩ := g3 j c hj
        obtain ⟨u, q1, q2, q3⟩ := rr.cell i j cs' c' g1 g4
        exact ⟨u, by rw [← kw.sz]; exact q1, q2, (R_ren c u).2 (g5 _ _ q3)⟩
    · obtain ⟨k1, e0, _⟩ := h20 b k e
      obtain ⟨k1', e0', _⟩ := h20 b' k' e'
      exact rinj b b' (lt0 b k e) (lt0 b' k' e') (rel.inj _ _ _ _ e0 e0' eφ)
    · obtain ⟨k1, e0, kw⟩ := h20 b k e
      exact rel.sep _ _ e0 (kw.ro.trans hro)
  have hus : RL Gl vs0 (us ++ cps.toList) := VM_RL rel hvs (RL_append hrs hcps)
  have := hcall Gl w (us ++ cps.toList) rel0 hus
  rw [show (us ++ cps.toList).toArray = us.toArray ++ cps by simp] at this
  refine this.mono fun e w' ⟨u', G1, he, hle1, rel1, tr1, hR⟩ => ?_
  -- the blocks that turn
  have keys : ∀ (bs : List Nat) (ks : Hp), bs.length ≤ ks.length → ks.length ≤ bs.length + 1 → (outD h ρ nb bs ks).map (·.1) = bs ++ (if ks.length = bs.length + 1 then [nb] else []) := by
    intro bs
    induction bs with
    | nil =>
      intro ks h1 h2
      match ks, h2 with
      | [], _ => rfl
      | [k], _ => rfl
      | k :: k' :: ks, h2 => simp at h2
    | cons b bs ih =>
      intro ks h1 h2
      cases ks with
      | nil => simp at h1
      | cons k ks => simp only [outD, List.map_cons, ih ks (by simpa using h1) (by simpa using h2), List.length_cons, Nat.add_right_cancel_iff, List.cons_append]
  have nodup : ((outD h ρ nb ρ H1).map (·.1)).Nodup := by
    rw [keys ρ H1 (by omega) (by omega)]
    split
    · rw [List.nodup_append]
      exact ⟨hnd, by simp, fun a ha b hb e => by simp at hb; subst hb; subst e; exact hnb ha⟩
    · simpa using hnd
  have ent : ∀ (bs : List Nat) (ks : Hp), bs.length ≤ ks.length → ks.length ≤ bs.length + 1 → ∀ i, i < ks.length → (bs.getD i nb, if i < bs.length then outB h ρ nb (bs.getD i nb) (hget ks i) else (hget ks i).map fun k => { k with xs := k.xs.map (V.renL (rho ρ nb)), tag := none }) ∈ outD h ρ nb bs ks := by
    intro bs
    induction bs with
    | nil =>
      intro ks h1 h2 i hi
      match ks, h2 with
      | [], _ => simp at hi
      | [k], _ => have : i = 0 := by simpa using hi
                  subst this; simp [outD, hget]
      | k :: k' :: ks, h2 => simp at h2
    | cons b bs ih =>
      intro ks h1 h2 i hi
      cases ks with
      | nil => simp at h1
      | cons k ks =>
        cases i with
        | zero => simp [outD, hget]
        | succ i =>
          have := ih ks (by simpa using h1) (by simpa using h2) i (by simpa using hi)
          simp only [outD, List.getD_cons_succ, List.length_cons, Nat.add_lt_add_iff_right]
          refine List.mem_cons_of_mem _ ?_
          have e : hget (k :: ks) (i + 1) = hget ks i := by simp [hget]
          rw [e]; exact this
  have at_ : ∀ i, i < H1.length → updD h2 (outD h ρ nb ρ H1) (rho ρ nb i) = (hget H1 i).map fun k => { k with xs := k.xs.map (V.renL (rho ρ nb)), tag := if i < ρ.length then (h (rho ρ nb i)).bind (·.tag) else none } := fun i hi => by
    have := ent ρ H1 (by omega) (by omega) i hi
    have := updD_in _ h2 _ _ nodup this
    unfold rho at *
    rw [this]
    by_cases hi' : i < ρ.length
    · rw [if_pos hi']; simp only [outB, if_pos hi']; rfl
    · rw [if_neg hi']; simp only [if_neg hi']
  have off : ∀ b, b ∉ ρ → b ≠ nb → updD h2 (outD h ρ nb ρ H1) b = h2 b := fun b hb hbn => by
    refine updD_notin _ _ _ fun k hk => ?_
    have : b ∈ (outD h ρ nb ρ H1).map (·.1) := List.mem_map.2 ⟨_, hk, rfl⟩
    rw [keys ρ H1 (by omega) (by omega)] at this
    rcases List.mem_append.1 this with h1 | h1
    · exact hb h1
    · split at h1 <;> simp at h1; exact hbn h1
  have hnbn : h2 nb = none := by
    cases e : h2 nb with
    | none => rfl
    | some k => exact absurd (rel.live nb k e) hn
  -- a block behind the call: one of the caller's own, or one of the callee's
  have cases_ : ∀ b k, updD h2 (outD h ρ nb ρ H1) b = some k → (b ∉ ρ ∧ b ≠ nb ∧ h2 b = some k) ∨ ∃ i k1, b = rho ρ nb i ∧ i < H1.length ∧ hget H1 i = some k1 ∧ k = { k1 with xs := k1.xs.map (V.renL (rho ρ nb)), tag := if i < ρ.length then (h (rho ρ nb i)).bind (·.tag) else none } := fun b k e => by
    by_cases hb : b ∈ ρ
    · obtain ⟨i, hi, rfl⟩ := rmem b hb
      rw [at_ i (by omega)] at e
      obtain ⟨k1, e1, e2⟩ := Option.map_eq_some_iff.1 e
      exact .inr ⟨i, k1, rfl, by omega, e1, e2.symm⟩
    · by_cases hbn : b = nb
      · by_cases hlen : H1.length = ρ.length + 1
        · have hr : rho ρ nb ρ.length = nb := rge _ (by omega)
          rw [hbn, ← hr] at e
          rw [show updD h2 (outD h ρ (rho ρ nb ρ.length) ρ H1) = updD h2 (outD h ρ nb ρ H1) by rw [hr], at_ ρ.length (by omega)] at e
          obtain ⟨k1, e1, e2⟩ := Option.map_eq_some_iff.1 e
          exact .inr ⟨ρ.length, k1, hbn.trans hr.symm, by omega, e1, e2.symm⟩
        · rw [updD_notin _ _ _ fun k hk => ?_, hbn, hnbn] at e
          · cases e
          · have : b ∈ (outD h ρ nb ρ H1).map (·.1) := List.mem_map.2 ⟨_, hk, rfl⟩
            rw [keys ρ H1 (by omega) (by omega), if_neg hlen, List.append_nil] at this
            exact hb this
      · rw [off b hb hbn] at e; exact .inl ⟨hb, hbn, e⟩
  let G2 : Gh := { φ := fun b => if b = nb then G1.φ ρ.length else G.φ b, κ := fun b => if b = nb then G1.κ ρ.length else G.κ b, σ := fun b => if b = nb then G1.σ ρ.length else G.σ b, I := G1.I }
  have neN : ∀ b, b ≠ nb → G2.φ b = G.φ b ∧ G2.κ b = G.κ b ∧ G2.σ b = G.σ b := fun b hb => by simp [G2, hb]
  have hle : Gh.le S G G2 := ⟨fun b hb => (neN b (by rintro rfl; exact hn hb)).1, fun b hb => (neN b (by rintro rfl; exact hn hb)).2.1, fun b hb => (neN b (by rintro rfl; exact hn hb)).2.2, tr1.I⟩
  have toG : ∀ i, i < H1.length → G2.φ (rho ρ nb i) = G1.φ i ∧ G2.κ (rho ρ nb i) = G1.κ i ∧ G2.σ (rho ρ nb i) = G1.σ i := fun i hi => by
    by_cases hi' : i < ρ.length
    · have h0 : lt H0 i := by unfold lt; omega
      have hne : rho ρ nb i ≠ nb := fun e => hnb (e ▸ rlt i hi')
      obtain ⟨a1, a2, a3⟩ := neN _ hne
      exact ⟨a1.trans (hle1.φ i h0).symm, a2.trans (hle1.κ i h0).symm, a3.trans (hle1.σ i h0).symm⟩
    · have : i = ρ.length := by omega
      subst this
      rw [rge _ (by omega)]; simp [G2]
  have hle2 : Gh.le (lt H1) G1 (G2.ren (rho ρ nb)) := ⟨fun b hb => (toG b hb).1, fun b hb => (toG b hb).2.1, fun b hb => (toG b hb).2.2, Imm.le.refl _⟩
  have hSD : ∀ b, S b → SD S (outD h ρ nb ρ H1) b := fun b hb => .inl hb
  have liveN : ∀ i, LV H1 i → SD S (outD h ρ nb ρ H1) (rho ρ nb i) := fun i ⟨k, e⟩ => by
    by_cases hi : i < ρ.length
    · obtain ⟨k', e'⟩ := hin i hi
      exact .inl (rel.live _ _ e')
    · have hi1 : i < H1.length := LV_lt ⟨k, e⟩
      have := ent ρ H1 (by omega) (by omega) i hi1
      rw [if_neg hi, e] at this
      exact .inr ⟨_, this⟩
  have ne_old : ∀ b k, b ∉ ρ → h2 b = some k → ∀ i k0, hget H0 i = some k0 → Gl.φ i ≠ G.φ b := fun b k hb e i k0 e0 eφ => by
    obtain ⟨k1, e1, _⟩ := h20 i k0 e0
    exact hb (rel.inj _ _ _ _ e1 e eφ ▸ rlt i (lt0 i k0 e0))
  refine ⟨u', G2, he, hle, ⟨rel1.imm, fun b k e => ?_, fun b b' k k' e e' eφ => ?_, fun b k e hro a x ea => ?_, fun b k e => ?_, fun b k e => ?_⟩,
    ⟨tr1.os, tr1.tape, tr1.output, tr1.size, tr1.I, fun k hk hno => tr1.old k hk fun b blk e hro => ?_, fun b k e hro hlt => ?_, fun b k e hlt => ?_, fun a x e hlt => ?_⟩, ?_, ?_⟩
  · rcases cases_ b k e with ⟨hb, hbn, e0⟩ | ⟨i, k1, rfl, hi, e1, rfl⟩
    · obtain ⟨arr, e1, rr⟩ := rel.blk b k e0
      refine ⟨arr, ?_, rr.mono hle (rel.live b k e0) (rel.bd b k e0)⟩
      rw [(neN b hbn).1, tr1.old _ (rel.lt e0) fun i k0 e2 _ => ne_old b k hb e0 i k0 e2]; exact e1
    · obtain ⟨arr, e2, rr⟩ := rel1.blk i k1 e1
      obtain ⟨t1, t2, t3⟩ := toG i hi
      refine ⟨arr, by rw [t1]; exact e2, by rw [t3]; exact rr.sz, by rw [t2]; exact rr.size, by have := rr.fits; simpa using this, fun n cs hn => ?_, fun n j cs c hn hj => ?_, fun hro n hn => ?_, fun t ht => ?_⟩
      · rw [List.getElem?_map] at hn
        obtain ⟨cs0, hn', rfl⟩ := Option.map_eq_some_iff.1 hn
        rw [renL_len]; exact rr.len n cs0 hn'
      · rw [List.getElem?_map] at hn
        obtain ⟨cs0, hn', rfl⟩ := Option.map_eq_some_iff.1 hn
        rw [renL_get] at hj
        obtain ⟨c0, hj', rfl⟩ := Option.map_eq_some_iff.1 hj
        obtain ⟨x, q1, q2, q3⟩ := rr.cell n j cs0 c0 hn' hj'
        refine ⟨x, q1, q2, (R_ren c0 x).1 (R_mono hle2 c0 x ?_ q3)⟩
        exact V.bdL_mem (V.bdL_mono (fun _ h => LV_lt h) _ (ok1.bd i k1 e1 cs0 (List.mem_of_getElem? hn'))) (List.mem_of_getElem? hj')
      · have := rr.ro hro n (by simpa using hn)
        rw [t1]; exact this
      · by_cases hi' : i < ρ.length
        · simp only [if_pos hi'] at ht
          obtain ⟨kk, ek⟩ := hin i hi'
          obtain ⟨arr', e3, rr'⟩ := rel.blk _ kk ek
          rw [← hrd _ (rlt i hi'), ek] at ht
          have := rr'.tag t ht
          rw [this, (neN _ fun e => hnb (e ▸ rlt i hi')).1, (neN _ fun e => hnb (e ▸ rlt i hi')).2.1, (neN _ fun e => hnb (e ▸ rlt i hi')).2.2]
        · simp only [if_neg hi'] at ht; cases ht
  · rcases cases_ b k e with ⟨hb, hbn, e0⟩ | ⟨i, k1, rfl, hi, e1, rfl⟩ <;> rcases cases_ b' k' e' with ⟨hb', hbn', e0'⟩ | ⟨j, k1', rfl, hj, e1', rfl⟩
    · rw [(neN b hbn).1, (neN b' hbn').1] at eφ
      exact rel.inj b b' k k' e0 e0' eφ
    · rw [(neN b hbn).1, (toG j hj).1] at eφ
      obtain ⟨i0, k0, f0, f1⟩ := tr1.lives j k1' e1' (by rw [← eφ]; exact rel.lt e0)
      exact absurd (f1.trans eφ.symm) (ne_old b k hb e0 i0 k0 f0)
    · rw [(neN b' hbn').1, (toG i hi).1] at eφ
      obtain ⟨i0, k0, f0, f1⟩ := tr1.lives i k1 e1 (by rw [eφ]; exact rel.lt e0')
      exact absurd (f1.trans eφ) (ne_old b' k' hb' e0' i0 k0 f0)
    · rw [(toG i hi).1, (toG j hj).1] at eφ
      rw [rel1.inj i j k1 k1' e1 e1' eφ]
  · rcases cases_ b k e with ⟨hb, hbn, e0⟩ | ⟨i, k1, rfl, hi, e1, rfl⟩
    · rw [(neN b hbn).1]
      by_cases hlt : a.block < w.heap.size
      · rcases tr1.inew a x ea hlt with f | ⟨i0, k0, f0, f1⟩
        · exact rel.sep b k e0 hro a x f
        · rw [← f1]; exact ne_old b k hb e0 i0 k0 f0
      · have := rel.lt e0; omega
    · rw [(toG i hi).1]; exact rel1.sep i k1 e1 hro a x ea
  · rcases cases_ b k e with ⟨hb, hbn, e0⟩ | ⟨i, k1, rfl, hi, e1, rfl⟩
    · exact hSD b (rel.live b k e0)
    · exact liveN i ⟨k1, e1⟩
  · rcases cases_ b k e with ⟨hb, hbn, e0⟩ | ⟨i, k1, rfl, hi, e1, rfl⟩
    · exact fun cs hcs => V.bdL_mono hSD cs (rel.bd b k e0 cs hcs)
    · intro cs hcs
      obtain ⟨cs0, hcs0, rfl⟩ := List.mem_map.1 hcs
      exact V.bdL_ren liveN cs0 (ok1.bd i k1 e1 cs0 hcs0)
  · obtain ⟨k1, e1, kw⟩ := h20 b blk e
    exact hno _ _ e1 (kw.ro.trans hro)
  · rcases cases_ b k e with ⟨hb, hbn, e0⟩ | ⟨i, k1, rfl, hi, e1, rfl⟩
    · exact ⟨b, k, e0, hro, ((neN b hbn).1).symm⟩
    · rw [(toG i hi).1] at hlt ⊢
      obtain ⟨i0, k0, f0, f1, f2⟩ := tr1.muts i k1 e1 hro hlt
      obtain ⟨k2, e2, kw⟩ := h20 i0 k0 f0
      exact ⟨_, _, e2, kw.ro.trans f1, f2⟩
  · rcases cases_ b k e with ⟨hb, hbn, e0⟩ | ⟨i, k1, rfl, hi, e1, rfl⟩
    · exact ⟨b, k, e0, ((neN b hbn).1).symm⟩
    · rw [(toG i hi).1] at hlt ⊢
      obtain ⟨i0, k0, f0, f2⟩ := tr1.lives i k1 e1 hlt
      obtain ⟨k2, e2, _⟩ := h20 i0 k0 f0
      exact ⟨_, _, e2, f2⟩
  · rcases tr1.inew a x e hlt with f | ⟨i0, k0, f0, f1⟩
    · exact .inl f
    · obtain ⟨k2, e2, _⟩ := h20 i0 k0 f0
      exact .inr ⟨_, _, e2, f1⟩
  · exact (R_ren v u').1 (R_mono hle2 v u' (V.bd_mono (fun _ h => LV_lt h) v bv) hR)
  · exact V.bd_ren liveN v bv
theorem outD_keys {h : HF} {ρ : List Nat} {nb : Nat} : ∀ (bs : List Nat) (ks : Hp) (b : Nat) (k : Option Blk), (b, k) ∈ outD h ρ nb bs ks → b = nb ∨ b ∈ bs
  | [], [], b, k, hm => by simp [outD] at hm
  | [], [k0], b, k, hm => by simp only [outD, List.mem_singleton, Prod.mk.injEq] at hm; exact .inl hm.1
  | [], _ :: _ :: _, b, k, hm => by simp [outD] at hm
  | c :: bs, [], b, k, hm => by simp [outD] at hm
  | c :: bs, k0 :: ks, b, k, hm => by
    simp only [outD, List.mem_cons, Prod.mk.injEq] at hm
    rcases hm with hm | hm
    · exact .inr (by simp [hm.1])
    · rcases outD_keys bs ks b k hm with h | h
      · exact .inl h
      · exact .inr (by simp [h])
theorem ACall.heap {P : Program} {nb : Nat} {vs vs0 : List V} {h : HF} {K : Kont} {f : FuncId} {H0 H1 : Hp} {v : V} (ρ : List Nat) (hm : MCall P f vs0 H0 v H1) (hl : ρ.length = H0.length) (hnd : ρ.Nodup) (hnb : nb ∉ ρ)
    (hvs : VM (rho ρ nb) vs vs0) (hh : ∀ i k, hget H0 i = some k → ∃ k', h (rho ρ nb i) = some k' ∧ BlkWk (rho ρ nb) k' k)
    (hK : K (v.ren (rho ρ nb)) ρ (outD h ρ nb ρ H1)) : ACall P nb (.pv (.fn f [])) vs h K :=
  ⟨_, _, _, hK, fun b k hb => outD_keys ρ H1 b k hb, CallOk.heap (FnIs.pv f []) ρ hm hl hnd hnb (by rw [List.map_nil, List.append_nil]; exact hvs) hh⟩
theorem ACall.heapc {P : Program} {nb : Nat} {fv : V} {vs vs0 cls : List V} {h : HF} {K : Kont} {f : FuncId} {H0 H1 : Hp} {v : V} (hfn : FnIs fv f cls) (ρ : List Nat) (hm : MCall P f vs0 H0 v H1) (hl : ρ.length = H0.length) (hnd : ρ.Nodup) (hnb : nb ∉ ρ)
    (hvs : VM (rho ρ nb) (vs ++ cls) vs0) (hh : ∀ i k, hget H0 i = some k → ∃ k', h (rho ρ nb i) = some k' ∧ BlkWk (rho ρ nb) k' k)
    (hK : K (v.ren (rho ρ nb)) ρ (outD h ρ nb ρ H1)) : ACall P nb fv vs h K :=
  ⟨_, _, _, hK, fun b k hb => outD_keys ρ H1 b k hb, CallOk.heap hfn ρ hm hl hnd hnb hvs hh⟩
end Go.Ab
/- The rewriting rules of the walk, gathered under one name. -/
namespace Go.Ab
attribute [go_sem ↓] ax_call ax_mov ax_pick ax_alloc ax_box ax_build ax_bslice ax_load ax_store ax_nilc ax_bin ax_un ax_conv ax_sbytes ax_mkfn ax_mkslice ax_slice ax_sslice ax_faddr ax_field ax_iaddr ax_sindex ax_ext ax_slen ax_app ax_appz ax_capn ax_minmax get_hit get_cons get_nil ev_tmp ev_cst ev_fn hget_zero hget_succ hget_nil List.map_cons List.length_cons
attribute [go_sem] cst vc_agg vc_int vc_bool vc_str vc_slice vc_ptr vc_nilf vc_rptr vc_list vc_fn vc_vagg vc_vptr vc_row vc_vfn mkv mkp lv spl fillA fillE binK optK bint bstr beq? nilEq flatV litsOf litsP litsV flatEq Option.map_some V.nil? srcK optE loK hiK pc_agg pc_lit pc_rptr pc_list pc_fn PV.vcells List.map_nil List.length_nil List.getElem?_cons_zero List.getElem?_cons_succ List.getElem?_nil Option.join_some Option.join_none Option.bind_some List.drop_zero List.drop_succ_cons List.drop_nil List.take_zero List.take_succ_cons List.take_nil List.set_cons_zero List.set_cons_succ List.cons_append List.nil_append List.append_nil List.replicate_zero List.replicate_succ Nat.lt_irrefl Nat.le_refl Nat.zero_add Nat.add_zero true_and and_true false_and and_false false_or or_false if_true if_false and_self Bool.false_eq_true exists_eq_left exists_eq_left' Option.some.injEq ne_eq not_false_eq_true not_true_eq_false undef exNat exists_and_left Int.toNat_natCast nat_nn lt0S lt0Z big1 Bool.not_true Bool.not_false decide_true decide_false
end Go.Ab
/- Steps of the walk, the closing moves as default arguments: texts get short. -/
namespace Go.Ab
attribute [go_sem_proc] Nat.reduceAdd Nat.reduceLT Nat.reduceEqDiff Nat.reduceSub Nat.reduceLeDiff reduceIte reduceCtorEq Int.reduceToNat Int.reduceLE Int.reduceBEq Int.reduceBNe Int.reduceLT Int.reduceGT Int.reduceGE Int.reduceEq
theorem vwA {p : Prop} (h : p := by (repeat (first | exact Vw_enc _ | exact Vw_nenc _ | exact Vw_penc _ | exact Vw_pnenc _ | exact .nil | exact .nil _ | exact .pv _ | exact Vw_nil | exact Vw_some | exact VwL_pv _ | (refine .cons _ _ _ _ ?_ ?_) | (refine Vw.ptr _ _ _ _ _ _ ?_ rfl rfl ?_; (focus (decide))) | (refine row_ii ?_ rfl; (focus (decide))) | (refine Vw_nmk ?_) | (refine Vw_row_nc ?_ rfl rfl; (focus (decide))) | (refine .agg _ _ ?_) | (refine .fn _ _ _ ?_) | (refine row_view ?_ rfl rfl ?_; (focus (decide))) | exact VwE_tc [] | exact VwE_tc [_] | exact VwE_tc [_, _] | exact VwE_nc [] | exact VwE_nc [_] | exact VwE_nc [_, _] | (refine VwE.cons _ _ _ _ _ rfl ?_ ?_) | (refine .tup _ _ ?_))); first | done | fail) : p := h
section
variable {P : Program} {fr fr' : Fr} {H H' : Hp} {K : Fr → Hp → Prop} {d : Option Nat} {os : List AOp} {C : Kont} {v : V} {rd : List Nat} {δ : List (Nat × Option Blk)}
theorem finA (hC : ∀ v rd δ fr' H', put d v fr = fr' → updL H δ = H' → aops P os fr' H' K → C v rd δ) (h : aops P os fr' H' K) (h1 : put d v fr = fr' := by first | exact put_some | exact put_none) (h2 : updL H δ = H' := by first | exact updL_nil | (simp only [updL, setAt, ↓List.length_cons, List.length_nil, Nat.reduceAdd, Nat.reduceLT, Nat.reduceSub, Nat.lt_irrefl, Nat.zero_lt_succ, if_true, if_false, List.set_cons_zero, List.set_cons_succ, List.cons_append, List.nil_append, List.replicate_zero, List.replicate_succ, List.append_nil, Nat.sub_self, Nat.zero_add]; first | done | rfl)) : C v rd δ := hC _ _ _ _ _ h1 h2 h
variable {base i : Nat} {lks : List (List Nat)} {tr tr' : List Foot} {KD : List Foot → Fr → Hp → Prop} {lk : List Nat}
theorem finD (hC : ∀ v rd δ fr' H' tr', put d v fr = fr' → updL H δ = H' → tr ++ [⟨lk, d, rd, δ.map (·.1)⟩] = tr' → aopsD P base (i + 1) os lks fr' H' tr' KD → C v rd δ) (h : aopsD P base (i + 1) os lks fr' H' tr' KD) (h1 : put d v fr = fr' := by first | exact put_some | exact put_none) (h2 : updL H δ = H' := by first | exact updL_nil | (simp only [updL, setAt, ↓List.length_cons, List.length_nil, Nat.reduceAdd, Nat.reduceLT, Nat.reduceSub, Nat.lt_irrefl, Nat.zero_lt_succ, if_true, if_false, List.set_cons_zero, List.set_cons_succ, List.cons_append, List.nil_append, List.replicate_zero, List.replicate_succ, List.append_nil, Nat.sub_self, Nat.zero_add]; first | done | rfl)) (h3 : tr ++ [⟨lk, d, rd, δ.map (·.1)⟩] = tr' := by rfl) : C v rd δ := hC _ _ _ _ _ _ h1 h2 h3 h
end
theorem LeB {fr : Fr} {H : Hp} {fr' : Fr} {H' : Hp} (rl : List Nat) (h : leFr (fun b => rl.getD b 0) fr fr' ∧ leFb (lt H') fr' ∧ leHp (fun b => rl.getD b 0) (lt H') H 0 H') (h4 : rl.Nodup := by decide) (h5 : H'.length ≤ rl.length := by simp) :
    Le (fun b => rl.getD b 0) fr H fr' H' := Le.of rl h.1 h.2.1 h.2.2 h4 h5
end Go.Ab
