/- A whole function: its compact text, its contract. -/
import Derived.Test.YtgphapkpoamcgaaBb16
set_option linter.unusedVariables false
set_option linter.unusedSimpArgs false
namespace Go.Ab
open Go.RowKit

/-- n rounds at most -/
def loopN (body : Post → Fr → Hp → Prop) (Q : Post) : Nat → Fr → Hp → Prop
  | 0, _, _ => False
  | n + 1, fr, H => body (thn (fun fr H => ∃ ρ fr' H', Le ρ fr H fr' H' ∧ loopN body Q n fr' H') Q) fr H

/-- the walk over a function's compact text -/
def awp (P : Program) : AC → Post → Fr → Hp → Prop
  | .skip, Q, fr, H => Q .normal fr H
  | .reg ops, Q, fr, H => aops P ops fr H (Q .normal)
  | .dreg ops edges looks, Q, fr, H => aopsD P H.length 0 ops looks fr H [] fun tr fr' H' => indep H.length edges tr = true ∧ Q .normal fr' H'
  | .seq a b, Q, fr, H => awp P a (thn (awp P b Q) Q) fr H
  | .cond c a b, Q, fr, H => match ev (get fr) c with
    | .pv (.lit (.bool t)) => if t = true then awp P a Q fr H else awp P b Q fr H
    | _ => False
  | .block id a, Q, fr, H => awp P a (catch_ id Q) fr H
  | .loop a, Q, fr, H => ∃ ρ fr' H', Le ρ fr H fr' H' ∧ ∃ n, loopN (awp P a) Q n fr' H'
  | .exit id, Q, fr, H => Q (.exit id) fr H
  | .ret, Q, fr, H => Q .ret fr H

theorem AWp.mono {P : Program} {N : Nat} {c : Code} {Q Q' : Post} {fr : Fr} {H : Hp} (h : AWp P N c Q fr H) (hq : ∀ e fr H, Q e fr H → Q' e fr H) : AWp P N c Q' fr H :=
  fun G a w st => wp_mono (h G a w st) fun e a' w' ⟨G', fr', H', q, st', tr'⟩ => ⟨G', fr', H', hq _ _ _ q, st', tr'⟩

theorem awp_sound {P : Program} {N : Nat} (hm : P.follows .mixedOrders = true) : ∀ (c : Code) (ac : AC), compCode P N c = some ac → ∀ (Q : Post) (fr : Fr) (H : Hp), awp P ac Q fr H → AWp P N c Q fr H := by
  intro c
  induction c with
  | skip => intro ac hc Q fr H h; simp only [compCode, Option.some.injEq] at hc; subst hc; exact awp_skip h
  | region id ops draw =>
    intro ac hc Q fr H h
    simp only [compCode] at hc
    split at hc
    case h_2 => cases hc
    rename_i aos haos
    cases draw with
    | false => simp only [Bool.false_eq_true, if_false, Option.some.injEq] at hc; subst hc; exact awp_reg haos h
    | true => simp only [if_true, Option.some.injEq] at hc; subst hc; exact awp_dreg hm haos h
  | seq a b iha ihb =>
    intro ac hc Q fr H h
    simp only [compCode] at hc
    split at hc
    case h_2 => cases hc
    rename_i x y hx hy
    simp only [Option.some.injEq] at hc; subst hc
    refine awp_seq ((iha x hx _ _ _ h).mono fun e fr' H' hq => ?_)
    cases e with
    | normal => exact ihb y hy _ _ _ hq
    | _ => exact hq
  | cond c a b iha ihb =>
    intro ac hc Q fr H h
    simp only [compCode] at hc
    split at hc
    case h_2 => cases hc
    rename_i x y hx hy
    simp only [Option.some.injEq] at hc; subst hc
    simp only [awp] at h
    split at h
    case h_2 => exact h.elim
    rename_i t ht
    refine awp_cond ht (fun e => ?_) (fun e => ?_)
    · rw [if_pos e] at h; exact iha x hx _ _ _ h
    · rw [if_neg (by rw [e]; simp)] at h; exact ihb y hy _ _ _ h
  | block id a iha =>
    intro ac hc Q fr H h
    simp only [compCode] at hc
    split at hc
    case h_2 => cases hc
    rename_i x hx
    simp only [Option.some.injEq] at hc; subst hc
    exact awp_block (iha x hx _ _ _ h)
  | loop a iha =>
    intro ac hc Q fr H h
    simp only [compCode] at hc
    split at hc
    case h_2 => cases hc
    rename_i x hx
    simp only [Option.some.injEq] at hc; subst hc
    simp only [awp] at h
    obtain ⟨ρ, fr1, H1, hle, n, h⟩ := h
    intro G a0 w st
    obtain ⟨G1, st1, tr1⟩ := st.le hle
    refine wp_loop_ghost (fun n a w' => ∃ G' fr' H', loopN (awp P x) Q n fr' H' ∧ ASt N G' fr' H' a w' ∧ Tr G (hget H) w G' (hget H') w') n ⟨G1, fr1, H1, h, st1, tr1⟩ ?_
    intro n a' w' ⟨G', fr', H', hl, st', tr'⟩
    cases n with
    | zero => exact hl.elim
    | succ n =>
      refine wp_mono (iha x hx _ _ _ hl G' a' w' st') fun e a3 w3 hq => ?_
      obtain ⟨G3, fr3, H3, q, st3, tr3⟩ := hq
      cases e with
      | normal =>
        obtain ⟨ρ, fr4, H4, hle4, q4⟩ := q
        obtain ⟨G4, st4, tr4⟩ := st3.le hle4
        exact ⟨n, Nat.lt_succ_self n, G4, fr4, H4, q4, st4, (tr'.trans tr3).trans tr4⟩
      | _ => exact ⟨G3, fr3, H3, q, st3, tr'.trans tr3⟩
  | exit id => intro ac hc Q fr H h; simp only [compCode, Option.some.injEq] at hc; subst hc; exact awp_exit h
  | ret => intro ac hc Q fr H h; simp only [compCode, Option.some.injEq] at hc; subst hc; exact awp_ret h
  | _ => intro ac hc Q fr H h; simp [compCode] at hc

/-! ### results -/
inductive RV where
  | tmp (t : Nat)
  | cell (t n : Nat) (agg : Bool)
def compRes (P : Program) : List ResultVar → Option (List RV)
  | [] => some []
  | .tmp t :: rs => match compRes P rs with
    | some l => some (.tmp t :: l)
    | none => none
  | .cell a t :: rs => match isAggB P t, P.info? t, compRes P rs with
    | some g, some i, some l => if g = true ∨ i.size = 1 then some (.cell a i.size g :: l) else none
    | _, _, _ => none
def resV (fr : Fr) (H : Hp) : RV → Option V
  | .tmp t => some (get fr t)
  | .cell t n agg => match get fr t with
    | .ptr b i off => match hget H b with
      | some k => match k.xs[i]? with
        | some cs => if off + n ≤ cs.length then some (mkv agg ((cs.drop off).take n)) else none
        | none => none
      | none => none
    | _ => none
def resVs (fr : Fr) (H : Hp) : List RV → Option (List V)
  | [] => some []
  | r :: rs => match resV fr H r, resVs fr H rs with
    | some v, some vs => some (v :: vs)
    | _, _ => none
def one (ps : List PV) : PV := match ps with
  | [p] => p
  | ps => .tup ps
/-- what stands where the function returns -/
def retP (rs : List RV) (ps : List PV) (e : Exit) (fr : Fr) (H : Hp) : Prop :=
  match e with
  | .normal => ∃ vs, resVs fr H rs = some vs ∧ ∃ B, VwL (hget H) B vs ps
  | .ret => ∃ vs, resVs fr H rs = some vs ∧ ∃ B, VwL (hget H) B vs ps
  | _ => False

theorem load_block {S G h w} (r : Rel S G h w) {b i off n : Nat} {k : Blk} {cs : List V} (hk : h b = some k) (hcs : k.xs[i]? = some cs) (hle : off + n ≤ cs.length) :
    ∃ us : List Value, us.length = n ∧ (∀ (j : Nat) u, us[j]? = some u → w.cell? ((⟨G.φ b, i * G.σ b + off, none⟩ : Addr).add j) = some u) ∧ (∀ u ∈ us, u.oneCell' = true) ∧ RL G ((cs.drop off).take n) us := by
  obtain ⟨arr, e, rr⟩ := r.blk b k hk
  have hex : ∀ j, j < n → ∃ u, arr[i * k.sz + (off + j)]? = some u ∧ u.oneCell' = true ∧ R G (cs.getD (off + j) .junk) u := fun j hj => by
    obtain ⟨u, e1, e2, e3⟩ := rr.cell i (off + j) cs (cs.getD (off + j) .junk) hcs (by rw [List.getD_eq_getElem?_getD, List.getElem?_eq_getElem (by omega)]; rfl)
    exact ⟨u, e1, e2, e3⟩
  have hg : ∀ (j : Nat) u, ((List.range n).map fun j => arr.getD (i * k.sz + (off + j)) undef)[j]? = some u → j < n ∧ u = arr.getD (i * k.sz + (off + j)) undef := fun j u hu => by
    simp only [List.getElem?_map, Option.map_eq_some_iff] at hu
    obtain ⟨j', hj', rfl⟩ := hu
    have hjlt : j < n := by have := (List.getElem?_eq_some_iff.1 hj').1; simpa using this
    have : j' = j := by rw [List.getElem?_range hjlt] at hj'; simpa using hj'.symm
    subst this; exact ⟨hjlt, rfl⟩
  refine ⟨(List.range n).map fun j => arr.getD (i * k.sz + (off + j)) undef, by simp, fun j u hu => ?_, fun u hu => ?_, RL_of (by simp; omega) fun j c u h1 h2 => ?_⟩
  · obtain ⟨hj, rfl⟩ := hg j u hu
    obtain ⟨u, e1, _, _⟩ := hex j hj
    rw [add_plain', cell_arr e, ← rr.sz, show i * k.sz + off + j = i * k.sz + (off + j) by omega, e1]
    simp [e1]
  · obtain ⟨j, hj, rfl⟩ := List.mem_map.1 hu
    obtain ⟨u, e1, e2, _⟩ := hex j (by simpa using hj)
    simpa [e1] using e2
  · obtain ⟨hj, rfl⟩ := hg j u h2
    obtain ⟨u, e1, _, e3⟩ := hex j hj
    rw [List.getElem?_take, if_pos hj, List.getElem?_drop] at h1
    rw [List.getD_eq_getElem?_getD, h1] at e3
    simpa [e1] using e3

def res1 (tmps : Array Value) : ResultVar → Sem Value
  | .tmp t => pure (tmps.getD t undef)
  | .cell a t => do loadVar t (← asAddr (tmps.getD a undef))
theorem results_eq (fn : Func) (tmps : Array Value) : results fn tmps = (do
    let vs ← fn.results.mapM (res1 tmps)
    pure (if h : vs.size = 1 then vs[0] else .tuple vs)) := by
  unfold results
  congr 1
theorem results_run {P : Program} {N : Nat} {G : Gh} {fr : Fr} {H : Hp} {a : Act} {w : World} (st : ASt N G fr H a w) : ∀ (rs : List ResultVar) (l : List RV) (vs : List V), compRes P rs = some l → resVs fr H l = some vs →
    ∃ us, (rs.mapM (res1 a.tmps)).run P w = .ok us w ∧ RL G vs us
  | [], l, vs, hc, hv => by
    simp only [compRes, Option.some.injEq] at hc; subst hc
    simp only [resVs, Option.some.injEq] at hv; subst hv
    exact ⟨[], by simp, by simp [RL]⟩
  | .tmp t :: rs, l, vs, hc, hv => by
    simp only [compRes] at hc
    split at hc
    case h_2 => cases hc
    rename_i l' hl
    simp only [Option.some.injEq] at hc; subst hc
    simp only [resVs, resV] at hv
    split at hv
    case h_2 => cases hv
    rename_i v vs' h1 h2
    simp only [Option.some.injEq] at hv h1; subst hv; subst h1
    obtain ⟨us, h3, h4⟩ := results_run st rs l' vs' hl h2
    refine ⟨a.tmps.getD t undef :: us, by simp only [List.mapM_cons, Sem.run_bind, Sem.run_pure, Result.andThen_ok, h3, res1], ?_⟩
    simp only [RL]; exact ⟨_, _, rfl, st.fr t, h4⟩
  | .cell b t :: rs, l, vs, hc, hv => by
    simp only [compRes] at hc
    split at hc
    case h_2 => cases hc
    rename_i g i l' hg hi hl
    split at hc
    case isFalse => cases hc
    rename_i hcond
    simp only [Option.some.injEq] at hc; subst hc
    simp only [resVs, resV] at hv
    split at hv
    case h_2 => cases hv
    rename_i v vs' h1 h2
    simp only [Option.some.injEq] at hv; subst hv
    split at h1
    case h_2 => cases h1
    rename_i bb ii off hb
    split at h1
    case h_2 => cases h1
    rename_i k hk
    split at h1
    case h_2 => cases h1
    rename_i cs hcs
    split at h1
    case isFalse => cases h1
    rename_i hle
    simp only [Option.some.injEq] at h1; subst h1
    obtain ⟨us, h3, h4⟩ := results_run st rs l' vs' hl h2
    obtain ⟨ws, e1, e2, e3, e4⟩ := load_block st.rel hk hcs hle
    have hp := st.fr b; rw [hb] at hp; simp only [R] at hp
    have hload := run_loadAt' hg hi hcond (w := w) _ ws e1 e2
    have hr : (loadVar t ⟨G.φ bb, ii * G.σ bb + off, none⟩).run P w = .ok (mkc g ws) w := by
      simpa only [Instr.loadAt, Instr.sureAddr, Sem.run_bind, Sem.run_pure, Result.andThen_ok] using hload
    refine ⟨mkc g ws :: us, by simp only [List.mapM_cons, Sem.run_bind, Sem.run_pure, Result.andThen_ok, h3, res1, hp, asAddr, hr], ?_⟩
    simp only [RL]
    refine ⟨_, _, rfl, mkv_R e4 e3 ?_, h4⟩
    rcases hcond with hcond | hcond
    · exact .inl hcond
    · right; simp; omega

def oneV (us : List Value) : Value := match us with
  | [u] => u
  | us => .tuple us.toArray
theorem results_run' {P : Program} {fn : Func} {tmps : Array Value} {us : List Value} {w : World} (h : (fn.results.toList.mapM (res1 tmps)).run P w = .ok us w) :
    (results fn tmps).run P w = .ok (oneV us) w := by
  rw [results_eq, Array.mapM_eq_mapM_toList]
  simp only [Sem.run_bind, Sem.run_map, h, Result.andThen_ok, Sem.run_pure]
  match us with
  | [] => rfl
  | [u] => rfl
  | u :: v :: us => rfl

theorem RPL_one {I : Imm} {ps : List PV} {us : List Value} (h : RPL I ps us) : RP I (one ps) (oneV us) := by
  match ps, us, h with
  | [], us, h => simp only [RPL] at h; subst h; simp only [one, RP]; exact ⟨#[], rfl, by simp [RPL]⟩
  | [p], us, h =>
    simp only [RPL] at h
    obtain ⟨u, us', rfl, h1, rfl⟩ := h
    exact h1
  | p :: q :: ps, us, h =>
    have h' := h
    simp only [RPL] at h
    obtain ⟨u, us', rfl, h1, v, us'', rfl, h2, h3⟩ := h
    simp only [one, RP]
    exact ⟨_, rfl, h'⟩

def argFr : Nat → List PV → Fr
  | _, [] => []
  | i, p :: ps => (i, .pv p) :: argFr (i + 1) ps
theorem argFr_get : ∀ (ps : List PV) (i t : Nat), get (argFr i ps) t = .junk ∨ ∃ p, i ≤ t ∧ ps[t - i]? = some p ∧ get (argFr i ps) t = .pv p
  | [], i, t => .inl rfl
  | p :: ps, i, t => by
    simp only [argFr, get]
    split
    · rename_i h; subst h; exact .inr ⟨p, Nat.le_refl _, by simp, rfl⟩
    · rename_i h
      rcases argFr_get ps (i + 1) t with h1 | ⟨q, h1, h2, h3⟩
      · exact .inl h1
      · refine .inr ⟨q, by omega, ?_, h3⟩
        rw [show t - i = (t - (i + 1)) + 1 by omega]; simpa using h2

/-- the function, once for all its calls -/
structure Fun (P : Program) (f : FuncId) (N : Nat) (ac : AC) (rs : List RV) : Prop where
  hm : P.follows .mixedOrders = true
  ex : ∃ fn c, P.funcs[f]? = some fn ∧ fn.body = some c ∧ (fn.name == "runtime.NumGoroutine") = false ∧ fn.ntmps = N ∧ compCode P N c = some ac ∧ compRes P fn.results.toList = some rs

/-- how a function is shown to keep its contract -/
theorem PCall.intro {P : Program} {f : FuncId} {N : Nat} {ac : AC} {rs : List RV} (hf : Fun P f N ac rs) {args ps : List PV} (hN : args.length ≤ N) (h : awp P ac (retP rs ps) (argFr 0 args) []) : PCall P f args (one ps) := by
  obtain ⟨fn, c, h1, h2, h3, h4, h5, h6⟩ := hf.ex
  refine ⟨⟨fn, h1, by rw [h2]; rfl, h3⟩, fun I w us hI hus => ?_⟩
  refine calls_of_wp h1 h2 ?_
  have hlen : us.length = args.length := RPL_length hus
  have hW := awp_sound hf.hm c ac h5 _ _ _ h
  let G : Gh := { φ := fun _ => 0, κ := fun _ => 0, σ := fun _ => 0, I := I }
  have st : ASt N G (argFr 0 args) [] { tmps := us.toArray ++ Array.replicate (fn.ntmps - us.toArray.size) undef, defers := [] } w := by
    refine ⟨⟨hI, fun b k e => by simp [hget] at e, fun b b' k k' e => by simp [hget] at e, fun b k e => by simp [hget] at e, fun b k e => by simp [hget] at e, fun b k e => by simp [hget] at e⟩, fun t => ?_, fun t => ?_, ?_, rfl⟩
    · rcases argFr_get args 0 t with h | ⟨p, _, hp, h⟩
      · rw [h]; simp [R]
      · rw [h]
        obtain ⟨u, e1, e2⟩ := RPL_get hus t p (by simpa using hp)
        have htl : t < us.length := (List.getElem?_eq_some_iff.1 e1).1
        have : (us.toArray ++ Array.replicate (fn.ntmps - us.toArray.size) undef).getD t undef = u := by
          rw [Array.getD_eq_getD_getElem?, Array.getElem?_append_left (by simpa using htl)]
          simp [e1]
        rw [this]
        simp only [R]; exact e2
    · rcases argFr_get args 0 t with h | ⟨p, _, hp, h⟩
      · rw [h]; simp [V.bd]
      · rw [h]; simp [V.bd]
    · simp; omega
  refine wp_mono (hW G _ w st) fun e a' w' ⟨G', fr', H', hq, st', tr'⟩ => ?_
  have fin : (∃ vs, resVs fr' H' rs = some vs ∧ ∃ B, VwL (hget H') B vs ps) → a'.defers = [] ∧ ∃ v, (results fn a'.tmps).run P w' = .ok v w' ∧
      ∃ u J, Ending.returned v = .returned u ∧ I.le J ∧ (∀ a v, J a = some v → a.block < w.heap.size → I a = some v) ∧ ImmOk J w' ∧ RP J (one ps) u ∧ Below w.heap.size w w' := by
    rintro ⟨vs, hvs, B, hB⟩
    obtain ⟨us', hr, hR⟩ := results_run st' fn.results.toList rs vs h6 hvs
    have hR' := VwL_R st'.rel hB hR
    refine ⟨st'.defers, _, results_run' hr, _, lend G' (hget H') B w', rfl, tr'.I.trans lend_le, fun a v e hlt => ?_, lend_ok st'.rel, RPL_one hR', ⟨tr'.os, tr'.tape, tr'.output, tr'.size, fun k hk => tr'.old k hk fun b blk e => by simp [hget] at e⟩⟩
    rcases lend_spec e with e1 | ⟨b, k, _, hk, e1⟩
    · rcases tr'.inew a v e1 hlt with e2 | ⟨b, blk, e2, _⟩
      · exact e2
      · simp [hget] at e2
    · obtain ⟨b0, blk0, e2, _⟩ := tr'.lives b k hk (by rw [← e1]; exact hlt)
      simp [hget] at e2
  cases e with
  | normal => exact fin hq
  | ret => exact fin hq
  | _ => exact hq.elim
end Go.Ab
