/- Z5: joined from Zb7 Zb4 Zb8. -/
import Derived.Test.YtiediojibljpiaaVZ4
/- Code that writes objects: the walk over a function's compact text, its contract. -/
set_option linter.unusedVariables false
set_option linter.unusedSimpArgs false
namespace Go.Ab
open Go.RowKit
/-- n rounds at most -/
def loopNO (body : PostO → Fr → Hp → OS → Prop) (Q : PostO) : Nat → Fr → Hp → OS → Prop
  | 0, _, _, _ => False
  | n + 1, fr, H, O => body (thnO (fun fr H O => ∃ ρ fr' H' O', Le ρ fr H fr' H' ∧ OLe O O' ∧ loopNO body Q n fr' H' O') Q) fr H O
def awpO (P : Program) : AC → PostO → Fr → Hp → OS → Prop
  | .skip, Q, fr, H, O => Q .normal fr H O
  | .reg ops, Q, fr, H, O => aopsO P ops fr H O (Q .normal)
  | .dreg ops edges looks, Q, fr, H, O => OD.aopsDO P H.length 0 ops looks fr H O [] fun tr fr' H' O' => OD.indep H.length edges tr = true ∧ Q .normal fr' H' O'
  | .seq a b, Q, fr, H, O => awpO P a (thnO (awpO P b Q) Q) fr H O
  | .cond c a b, Q, fr, H, O => match ev (get fr) c with
    | .pv (.lit (.bool t)) => if t = true then awpO P a Q fr H O else awpO P b Q fr H O
    | _ => False
  | .block id a, Q, fr, H, O => awpO P a (catchO id Q) fr H O
  | .loop a, Q, fr, H, O => ∃ ρ fr' H' O', Le ρ fr H fr' H' ∧ OLe O O' ∧ ∃ n, loopNO (awpO P a) Q n fr' H' O'
  | .exit id, Q, fr, H, O => Q (.exit id) fr H O
  | .ret, Q, fr, H, O => Q .ret fr H O
theorem awpO_sound {P : Program} {N : Nat} (hm : P.follows .mixedOrders = true) : ∀ (c : Code) (ac : AC), compCode P N c = some ac → ∀ (Q : PostO) (fr : Fr) (H : Hp) (O : OS), awpO P ac Q fr H O → AWpO P N c Q fr H O := by
  intro c
  induction c with
  | skip => intro ac hc Q fr H O h; simp only [compCode, Option.some.injEq] at hc; subst hc; exact awpO_skip h
  | region id ops draw =>
    intro ac hc Q fr H O h
    simp only [compCode] at hc
    split at hc
    case h_2 => cases hc
    rename_i aos haos
    cases draw with
    | false => simp only [Bool.false_eq_true, if_false, Option.some.injEq] at hc; subst hc; exact awpO_reg haos h
    | true =>
      simp only [if_true, Option.some.injEq] at hc; subst hc
      exact OD.awpO_dreg hm haos h
  | seq a b iha ihb =>
    intro ac hc Q fr H O h
    simp only [compCode] at hc
    split at hc
    case h_2 => cases hc
    rename_i x y hx hy
    simp only [Option.some.injEq] at hc; subst hc
    refine awpO_seq ((iha x hx _ _ _ _ h).mono fun e fr' H' O' hq => ?_)
    cases e with
    | normal => exact ihb y hy _ _ _ _ hq
    | _ => exact hq
  | cond c a b iha ihb =>
    intro ac hc Q fr H O h
    simp only [compCode] at hc
    split at hc
    case h_2 => cases hc
    rename_i x y hx hy
    simp only [Option.some.injEq] at hc; subst hc
    simp only [awpO] at h
    split at h
    case h_2 => exact h.elim
    rename_i t ht
    refine awpO_cond ht (fun e => ?_) (fun e => ?_)
    · rw [if_pos e] at h; exact iha x hx _ _ _ _ h
    · rw [if_neg (by rw [e]; simp)] at h; exact ihb y hy _ _ _ _ h
  | block id a iha =>
    intro ac hc Q fr H O h
    simp only [compCode] at hc
    split at hc
    case h_2 => cases hc
    rename_i x hx
    simp only [Option.some.injEq] at hc; subst hc
    exact awpO_block (iha x hx _ _ _ _ h)
  | loop a iha =>
    intro ac hc Q fr H O h
    simp only [compCode] at hc
    split at hc
    case h_2 => cases hc
    rename_i x hx
    simp only [Option.some.injEq] at hc; subst hc
    simp only [awpO] at h
    obtain ⟨ρ, fr1, H1, O1, hle, hol, n, h⟩ := h
    intro G a0 w st r
    obtain ⟨G1, st1, tr1⟩ := st.le hle
    refine wp_loop_ghost (fun n a w' => ∃ G' fr' H' O', loopNO (awpO P x) Q n fr' H' O' ∧ ASt N G' fr' H' a w' ∧ ORel O' G' (hget H') w' ∧ TrO G (hget H) O w G' (hget H') O' w') n ⟨G1, fr1, H1, O1, h, st1, (r.step tr1).le hol, (tr1.toO O).le hol⟩ ?_
    intro n a' w' ⟨G', fr', H', O', hl, st', r', tr'⟩
    cases n with
    | zero => exact hl.elim
    | succ n =>
      refine wp_mono (iha x hx _ _ _ _ hl G' a' w' st' r') fun e a3 w3 hq => ?_
      obtain ⟨G3, fr3, H3, O3, q, st3, r3, tr3⟩ := hq
      cases e with
      | normal =>
        obtain ⟨ρ, fr4, H4, O4, hle4, hol4, q4⟩ := q
        obtain ⟨G4, st4, tr4⟩ := st3.le hle4
        exact ⟨n, Nat.lt_succ_self n, G4, fr4, H4, O4, q4, st4, (r3.step tr4).le hol4, (tr'.trans tr3).trans ((tr4.toO O3).le hol4)⟩
      | _ => exact ⟨G3, fr3, H3, O3, q, st3, r3, tr'.trans tr3⟩
  | exit id => intro ac hc Q fr H O h; simp only [compCode, Option.some.injEq] at hc; subst hc; exact awpO_exit h
  | ret => intro ac hc Q fr H O h; simp only [compCode, Option.some.injEq] at hc; subst hc; exact awpO_ret h
  | _ => intro ac hc Q fr H O h; simp [compCode] at hc
/-- what stands where the function returns -/
def retPO (rs : List RV) (Post : PV → OS → Prop) (e : Exit) (fr : Fr) (H : Hp) (O : OS) : Prop :=
  match e with
  | .normal => ∃ vs ps O', resVs fr H rs = some vs ∧ (∃ B, VwL (hget H) B vs ps) ∧ OLe O O' ∧ Post (one ps) O'
  | .ret => ∃ vs ps O', resVs fr H rs = some vs ∧ (∃ B, VwL (hget H) B vs ps) ∧ OLe O O' ∧ Post (one ps) O'
  | _ => False
theorem OCall.introA {P : Program} {f : FuncId} {N : Nat} {fn : Func} {c : Code} {rs : List RV} (h1 : P.funcs[f]? = some fn) (h2 : fn.body = some c) (h3 : (fn.name == "runtime.NumGoroutine") = false) (h4 : fn.ntmps = N) (h6 : compRes P fn.results.toList = some rs) {args : List PV} {O : OS} {Post : PV → OS → Prop} (hN : args.length ≤ N) (hW : AWpO P N c (retPO rs Post) (argFr 0 args) [] O) : OCall P f args O Post := by
  refine ⟨⟨fn, h1, by rw [h2]; rfl, h3⟩, fun I w us hI hO hus => ?_⟩
  refine calls_of_wp h1 h2 ?_
  have hlen : us.length = args.length := RPL_length hus
  let G : Gh := { φ := fun _ => 0, κ := fun _ => 0, σ := fun _ => 0, I := I }
  have st : ASt N G (argFr 0 args) [] { tmps := us.toArray ++ Array.replicate (fn.ntmps - us.toArray.size) undef, defers := [] } w := by
    refine ⟨⟨hI, fun b k e => by simp [hget] at e, fun b b' k k' e => by simp [hget] at e, fun b k e => by simp [hget] at e, fun b k e => by simp [hget] at e, fun b k e => by simp [hget] at e⟩, fun t => ?_, fun t => ?_, ?_, rfl⟩
    · rcases argFr_get args 0 t with h | ⟨p, _, hp, h⟩
      · rw [h]; simp [R]
      · rw [h]
        obtain ⟨u, e1, e2⟩ := RPL_get hus t p (by simpa using hp)
        have htl : t < us.length := (List.getElem?_eq_some_iff.1 e1).1
        have : (us.toArray ++ Array.replicate (fn.ntmps - us.toArray.size) undef).getD t undef = u := by
          rw [Array.getD_eq_getD_getElem?, Array.getElem?_append_left (by simpa using htl)]
          simp [e1]
        rw [this]
        simp only [R]; exact e2
    · rcases argFr_get args 0 t with h | ⟨p, _, hp, h⟩
      · rw [h]; simp [V.bd]
      · rw [h]; simp [V.bd]
    · simp; omega
  have r0 : ORel O G (hget []) w := ⟨fun k x e => (hO k x e).1, fun k x e b blk hb => by simp [hget] at hb, fun k x e => (hO k x e).2⟩
  refine wp_mono (hW G _ w st r0) fun e a' w' ⟨G', fr', H', O', hq, st', r', tr'⟩ => ?_
  have fin : (∃ vs ps O1, resVs fr' H' rs = some vs ∧ (∃ B, VwL (hget H') B vs ps) ∧ OLe O' O1 ∧ Post (one ps) O1) → a'.defers = [] ∧ ∃ v, (results fn a'.tmps).run P w' = .ok v w' ∧
      ∃ u J r O', Ending.returned v = .returned u ∧ Post r O' ∧ I.le J ∧ (∀ a v, J a = some v → a.block < w.heap.size → I a = some v) ∧ ImmOk J w' ∧ RP J r u ∧
        (∀ k x, O' k = some x → OAt J w' k x ∧ ∀ a v, J a = some v → a.block ≠ k) ∧ (∀ k x, O' k = some x → k < w.heap.size → O k ≠ none) ∧
        w'.os = w.os ∧ w'.tape = w.tape ∧ w'.output = w.output ∧ w.heap.size ≤ w'.heap.size ∧ ∀ k, k < w.heap.size → O k = none → w'.heap[k]? = w.heap[k]? := by
    rintro ⟨vs, ps, O1, hvs, ⟨B, hB⟩, hol, hP⟩
    obtain ⟨us', hr, hR⟩ := results_run st' fn.results.toList rs vs h6 hvs
    have hR' := VwL_R st'.rel hB hR
    have r1 := r'.le hol
    refine ⟨st'.defers, _, results_run' hr, _, lend G' (hget H') B w', one ps, O1, rfl, hP, tr'.I.trans lend_le, fun a v e hlt => ?_, lend_ok st'.rel, RPL_one hR', fun k x e => ⟨(r1.at_ k x e).keep lend_le rfl, fun a v ea => ?_⟩, fun k x e hlt => ?_, tr'.os, tr'.tape, tr'.output, tr'.size, fun k hk ho => tr'.old k hk (fun b blk e => by simp [hget] at e) ho⟩
    · rcases lend_spec e with e1 | ⟨b, k, _, hk, e1⟩
      · rcases tr'.inew a v e1 hlt with e2 | ⟨b, blk, e2, _⟩
        · exact e2
        · simp [hget] at e2
      · obtain ⟨b0, blk0, e2, _⟩ := tr'.lives b k hk (by rw [← e1]; exact hlt)
        simp [hget] at e2
    · rcases lend_spec ea with e1 | ⟨b, kb, _, hk, e1⟩
      · exact r1.sepI k x e a v e1
      · rw [e1]; exact r1.sepB k x e b kb hk
    · rcases tr'.obj k x (hol k x e) hlt with e1 | ⟨b, blk, e1, _⟩
      · exact e1
      · simp [hget] at e1
  cases e with
  | normal => exact fin hq
  | ret => exact fin hq
  | _ => exact hq.elim
theorem OCall.intro {P : Program} {f : FuncId} {N : Nat} {ac : AC} {rs : List RV} (hf : Fun P f N ac rs) {args : List PV} {O : OS} {Post : PV → OS → Prop} (hN : args.length ≤ N) (h : awpO P ac (retPO rs Post) (argFr 0 args) [] O) : OCall P f args O Post := by
  obtain ⟨fn, c, h1, h2, h3, h4, h5, h6⟩ := hf.ex
  exact OCall.introA h1 h2 h3 h4 h6 hN (awpO_sound hf.hm c ac h5 _ _ _ _ h)
/-- a function that writes no objects -/
theorem OCall.of {P : Program} {f : FuncId} {args : List PV} {O : OS} {r : PV} (h : PCall P f args r) : OCall P f args O fun r' O' => r' = r ∧ O' = O :=
  ⟨h.1, fun I w us hI hO hus => (h.2 I w us hI hus).mono fun e w' ⟨u, J, he, hle, hnew, hJ, hr, hb⟩ => ⟨u, J, r, O, he, ⟨rfl, rfl⟩, hle, hnew, hJ, hr,
    fun k x e => ⟨(hO k x e).1.keep hle (hb.block k (hO k x e).1.lt), fun a v ea hk => (hO k x e).2 a v (hnew a v ea (by rw [hk]; exact (hO k x e).1.lt)) hk⟩,
    fun k x e _ => by rw [e]; simp, hb.os, hb.tape, hb.output, hb.size, fun k hk _ => hb.block k hk⟩⟩
end Go.Ab
/- The steps of the walk over code that writes objects. -/
set_option linter.unusedVariables false
set_option linter.unusedSimpArgs false
namespace Go.Ab
section
variable {P : Program} {Q : PostO} {fr fr' : Fr} {H H' : Hp} {O O' : OS} {K : Fr → Hp → OS → Prop} {d : Option Nat} {op : AO} {os : List AOp} {C : Kont} {v : V} {rd : List Nat} {δ : List (Nat × Option Blk)}
theorem aopsO_nil (h : K fr H O) : aopsO P [] fr H O K := h
theorem aopsO_cons' (h : ∀ C : Kont, (∀ v rd δ fr' H', put d v fr = fr' → updL H δ = H' → aopsO P os fr' H' O K → C v rd δ) → AX P op H.length (get fr) (hget H) C) : aopsO P (⟨d, op, none⟩ :: os) fr H O K :=
  .inl (.inl (h _ fun v rd δ fr' H' e1 e2 h => by subst e1; subst e2; exact h))
theorem aopsO_call {fx : Operand} {args : List Operand} (h : ∀ C : Kont, (∀ v rd δ fr' H', put d v fr = fr' → updL H δ = H' → aopsO P os fr' H' O K → C v rd δ) → ACall P H.length (ev (get fr) fx) (args.map (ev (get fr))) (hget H) C) : aopsO P (⟨d, .call fx args, none⟩ :: os) fr H O K := aopsO_cons' h
theorem aopsO_ob' (h : ∀ C : V → OS → Prop, (∀ v O' fr', put d v fr = fr' → aopsO P os fr' H O' K → C v O') → OX P op (get fr) O C) : aopsO P (⟨d, op, none⟩ :: os) fr H O K :=
  .inr (h _ fun v O' fr' e1 h => by subst e1; exact h)
theorem finO (hC : ∀ v rd δ fr' H', put d v fr = fr' → updL H δ = H' → aopsO P os fr' H' O K → C v rd δ) (h : aopsO P os fr' H' O K) (h1 : put d v fr = fr' := by first | exact qqY | exact qqZ) (h2 : updL H δ = H' := by first | exact updL_nil | (simp only [updL, setAt, ↓List.length_cons, List.length_nil, Nat.reduceAdd, Nat.reduceLT, Nat.reduceSub, Nat.lt_irrefl, Nat.zero_lt_succ, if_true, if_false, List.set_cons_zero, List.set_cons_succ, List.cons_append, List.nil_append, List.replicate_zero, List.replicate_succ, List.append_nil, Nat.sub_self, Nat.zero_add]; first | done | rfl)) : C v rd δ := hC _ _ _ _ _ h1 h2 h
theorem finOb {CO : V → OS → Prop} (hC : ∀ v O' fr', put d v fr = fr' → aopsO P os fr' H O' K → CO v O') (h : aopsO P os fr' H O' K) (h1 : put d v fr = fr' := by first | exact qqY | exact qqZ) : CO v O' := hC _ _ _ h1 h
theorem aopsO_callX {fx : Operand} {args : List Operand} {g : FuncId} {ps qs : List PV} {Post : PV → OS → Prop} (hc : OCall P g (ps ++ qs) O Post) (hf : (ev (get fr) fx).pure = some (.fn g qs)) (ha : V.pureL (args.map (ev (get fr))) = some ps)
    (h : ∀ r O' fr', Post r O' → put d (.pv r) fr = fr' → aopsO P os fr' H O' K) : aopsO P (⟨d, .call fx args, none⟩ :: os) fr H O K :=
  .inr ⟨g, ps, qs, Post, hf, ha, hc, fun r O' hp => h r O' _ hp rfl⟩
theorem aopsO_call0 {fx : Operand} {args : List Operand} {g : FuncId} {ps : List PV} {Post : PV → OS → Prop} (hc : OCall P g ps O Post) (hf : (ev (get fr) fx).pure = some (.fn g [])) (ha : V.pureL (args.map (ev (get fr))) = some ps)
    (h : ∀ r O' fr', Post r O' → put d (.pv r) fr = fr' → aopsO P os fr' H O' K) : aopsO P (⟨d, .call fx args, none⟩ :: os) fr H O K :=
  aopsO_callX (qs := []) (by rw [List.append_nil]; exact hc) hf ha h
theorem aopsO_guard' {s : Nat} {want : Bool} {vg : V} (hb : get fr s = vg) (h : gk vg want (aopsO P (⟨d, op, none⟩ :: os) fr H O K) (∀ fr', put d (lv undef) fr = fr' → aopsO P os fr' H O K)) : aopsO P (⟨d, op, some (s, want)⟩ :: os) fr H O K := by
  simp only [aopsO, gsel] at h ⊢
  rw [hb]
  unfold gk at h
  split at h
  · split at h
    · rename_i h1; simp only [h1, if_true]; exact h
    · rename_i h1; simp only [h1, if_false]; exact h _ rfl
  · exact h _ rfl
  · exact h.elim
/-- a map is written: the value taken for a pure tree -/
theorem aopsO_mupd {x y z : Operand} {m : Nat} {a : Int} {L : List (Int × PV)} (p : PV) (hx : ev (get fr) x = .pv (.lit (.map (some m)))) (hy : ev (get fr) y = .pv (.lit (.int .i64 a))) (hm : O m = some (.mp L)) (hz : Vw (fun _ => none) [] (ev (get fr) z) p)
    (h : ∀ fr', put d (lv undef) fr = fr' → aopsO P os fr' H (oupd O m (.mp (mins L a p))) K) : aopsO P (⟨d, .mupd x y z, none⟩ :: os) fr H O K := by
  refine .inr ?_
  simp only [OX, hx, hy, hm]
  exact ⟨p, hz, h _ rfl⟩
theorem awpO_seq_k {a b : AC} (h : ∀ K : Fr → Hp → OS → Prop, (∀ fr H O, awpO P b Q fr H O → K fr H O) → awpO P a (thnO K Q) fr H O) : awpO P (.seq a b) Q fr H O := h _ fun _ _ _ h => h
theorem awpO_reg_k {ops : List AOp} (h : ∀ K : Fr → Hp → OS → Prop, (∀ fr H O, Q .normal fr H O → K fr H O) → aopsO P ops fr H O K) : awpO P (.reg ops) Q fr H O := h _ fun _ _ _ h => h
theorem awpO_dreg_k {ops : List AOp} {edges looks : List (List Nat)} (h : ∀ K : List OD.Foot → Fr → Hp → OS → Prop, (∀ tr fr H' O', OD.indep H.length edges tr = true → Q .normal fr H' O' → K tr fr H' O') → OD.aopsDO P H.length 0 ops looks fr H O [] K) : awpO P (.dreg ops edges looks) Q fr H O :=
  h _ fun _ _ _ _ h1 h2 => ⟨h1, h2⟩
/-- what an operation on objects does is settled by what it finds -/
def AO.det : AO → Bool
  | .lookup .. => true
  | .mupd .. => true
  | .load .. => true
  | .store .. => true
  | .faddr .. => true
  | .nilc .. => true
  | _ => false
theorem OX_det {f : FV} {C : V → OS → Prop} (hd : op.det = true) (h : OX P op f O C) : ∃ v O', (OX P op f O fun v' O'' => v' = v ∧ O'' = O') ∧ C v O' := by
  cases op <;> simp only [AO.det, Bool.false_eq_true] at hd
  case mupd x y z =>
    simp only [OX] at h ⊢
    split at h
    case h_2 => exact h.elim
    split at h
    case h_2 => exact h.elim
    obtain ⟨p, h1, h3⟩ := h
    exact ⟨_, _, ⟨p, h1, rfl, rfl⟩, h3⟩
  all_goals
    simp only [OX] at h ⊢
    repeat' split at h
    all_goals first
      | (exact h.elim)
      | (obtain ⟨h1, h2, h3⟩ := h; exact ⟨_, _, by simp [*], h3⟩)
      | (obtain ⟨h1, h3⟩ := h; exact ⟨_, _, by simp [*], h3⟩)
      | (exact ⟨_, _, by simp [*], h⟩)
section
variable {base i : Nat} {lks : List (List Nat)} {tr tr' : List OD.Foot} {KD : List OD.Foot → Fr → Hp → OS → Prop} {lk : List Nat}
theorem aopsDO_nil (h : KD tr fr H O) : OD.aopsDO P base i [] lks fr H O tr KD := h
theorem aopsDO_cons' (h : ∀ C : Kont, (∀ v rd δ fr' H' tr', put d v fr = fr' → updL H δ = H' → tr ++ [⟨lk, d, rd, δ.map (·.1), false⟩] = tr' → OD.aopsDO P base (i + 1) os lks fr' H' O tr' KD → C v rd δ) →
    AX P op (base + i) (get fr) (hget H) C) : OD.aopsDO P base i (⟨d, op, none⟩ :: os) (lk :: lks) fr H O tr KD :=
  .inl (.inl (h _ fun v rd δ fr' H' tr' e1 e2 e3 h => by subst e1; subst e2; subst e3; exact h))
theorem aopsDO_ob' (hd : op.det = true) (h : ∀ C : V → OS → Prop, (∀ v O' fr' tr', put d v fr = fr' → tr ++ [⟨lk, d, [], [], true⟩] = tr' → OD.aopsDO P base (i + 1) os lks fr' H O' tr' KD → C v O') → OX P op (get fr) O C) : OD.aopsDO P base i (⟨d, op, none⟩ :: os) (lk :: lks) fr H O tr KD := by
  obtain ⟨v, O', h1, h2⟩ := OX_det hd (h (fun v O' => OD.aopsDO P base (i + 1) os lks (put d v fr) H O' (tr ++ [⟨lk, d, [], [], true⟩]) KD) fun v O' fr' tr' e1 e2 h => by subst e1; subst e2; exact h)
  exact .inr ⟨v, O', h1, h2⟩
theorem finDO (hC : ∀ v rd δ fr' H' tr', put d v fr = fr' → updL H δ = H' → tr ++ [⟨lk, d, rd, δ.map (·.1), false⟩] = tr' → OD.aopsDO P base (i + 1) os lks fr' H' O tr' KD → C v rd δ) (h : OD.aopsDO P base (i + 1) os lks fr' H' O tr' KD) (h1 : put d v fr = fr' := by first | exact qqY | exact qqZ) (h2 : updL H δ = H' := by first | exact updL_nil | (simp only [updL, setAt, ↓List.length_cons, List.length_nil, Nat.reduceAdd, Nat.reduceLT, Nat.reduceSub, Nat.lt_irrefl, Nat.zero_lt_succ, if_true, if_false, List.set_cons_zero, List.set_cons_succ, List.cons_append, List.nil_append, List.replicate_zero, List.replicate_succ, List.append_nil, Nat.sub_self, Nat.zero_add]; first | done | rfl)) (h3 : tr ++ [⟨lk, d, rd, δ.map (·.1), false⟩] = tr' := by rfl) : C v rd δ := hC _ _ _ _ _ _ h1 h2 h3 h
theorem finDOb {CO : V → OS → Prop} (hC : ∀ v O' fr' tr', put d v fr = fr' → tr ++ [⟨lk, d, [], [], true⟩] = tr' → OD.aopsDO P base (i + 1) os lks fr' H O' tr' KD → CO v O') (h : OD.aopsDO P base (i + 1) os lks fr' H O' tr' KD) (h1 : put d v fr = fr' := by first | exact qqY | exact qqZ) (h3 : tr ++ [⟨lk, d, [], [], true⟩] = tr' := by rfl) : CO v O' := hC _ _ _ _ h1 h3 h
theorem aopsDO_call {fx : Operand} {args : List Operand} (h : ∀ C : Kont, (∀ v rd δ fr' H' tr', put d v fr = fr' → updL H δ = H' → tr ++ [⟨lk, d, rd, δ.map (·.1), false⟩] = tr' → OD.aopsDO P base (i + 1) os lks fr' H' O tr' KD → C v rd δ) →
    ACall P (base + i) (ev (get fr) fx) (args.map (ev (get fr))) (hget H) C) : OD.aopsDO P base i (⟨d, .call fx args, none⟩ :: os) (lk :: lks) fr H O tr KD := aopsDO_cons' h
theorem aopsDO_call0 {fx : Operand} {args : List Operand} {g : FuncId} {ps : List PV} {R : PV} {O1 : OS} (hc : OCall P g ps O fun r O' => r = R ∧ O' = O1) (hf : (ev (get fr) fx).pure = some (.fn g [])) (ha : V.pureL (args.map (ev (get fr))) = some ps)
    (h : ∀ fr' tr', put d (.pv R) fr = fr' → tr ++ [⟨lk, d, [], [], true⟩] = tr' → OD.aopsDO P base (i + 1) os lks fr' H O1 tr' KD) : OD.aopsDO P base i (⟨d, .call fx args, none⟩ :: os) (lk :: lks) fr H O tr KD :=
  .inr ⟨.pv R, O1, (⟨g, ps, [], fun r O' => r = R ∧ O' = O1, hf, ha, by rw [List.append_nil]; exact hc, fun r O' hp => ⟨by rw [hp.1], hp.2⟩⟩ : OX P (.call fx args) (get fr) O fun v' O'' => v' = .pv R ∧ O'' = O1), h _ _ rfl rfl⟩
theorem aopsDO_mupd {x y z : Operand} {m : Nat} {a : Int} {L : List (Int × PV)} (p : PV) (hx : ev (get fr) x = .pv (.lit (.map (some m)))) (hy : ev (get fr) y = .pv (.lit (.int .i64 a))) (hm : O m = some (.mp L)) (hz : Vw (fun _ => none) [] (ev (get fr) z) p)
    (h : ∀ fr' tr', put d (lv undef) fr = fr' → tr ++ [⟨lk, d, [], [], true⟩] = tr' → OD.aopsDO P base (i + 1) os lks fr' H (oupd O m (.mp (mins L a p))) tr' KD) : OD.aopsDO P base i (⟨d, .mupd x y z, none⟩ :: os) (lk :: lks) fr H O tr KD := by
  refine .inr ⟨lv undef, oupd O m (.mp (mins L a p)), ?_, h _ _ rfl rfl⟩
  simp only [OX, hx, hy, hm]
  exact ⟨p, hz, trivial, rfl⟩
theorem aopsDO_guard' {s : Nat} {want : Bool} {vg : V} (hb : get fr s = vg)
    (h : gk vg want (OD.aopsDO P base i (⟨d, op, none⟩ :: os) (lk :: lks) fr H O tr KD) (∀ fr' tr', put d (lv undef) fr = fr' → tr ++ [⟨lk, d, [], [], false⟩] = tr' → OD.aopsDO P base (i + 1) os lks fr' H O tr' KD)) : OD.aopsDO P base i (⟨d, op, some (s, want)⟩ :: os) (lk :: lks) fr H O tr KD := by
  simp only [OD.aopsDO, gsel] at h ⊢
  rw [hb]
  unfold gk at h
  split at h
  · split at h
    · rename_i h1; simp only [h1, if_true]; exact h
    · rename_i h1; simp only [h1, if_false]; exact h _ _ rfl rfl
  · exact h _ _ rfl rfl
  · exact h.elim
end
theorem awpO_cond_g {c : Operand} {a b : AC} {vg : V} (hc : ev (get fr) c = vg) (h : ck vg (awpO P a Q fr H O) (awpO P b Q fr H O)) : awpO P (.cond c a b) Q fr H O := by
  unfold ck at h
  simp only [awpO, hc]
  split at h
  · exact h
  · exact h.elim
theorem awpO_block_k {id : Nat} {a : AC} (h : awpO P a (catchO id Q) fr H O) : awpO P (.block id a) Q fr H O := h
theorem awpO_skip_k (h : Q .normal fr H O) : awpO P .skip Q fr H O := h
theorem awpO_exit_k {id : Nat} (h : Q (.exit id) fr H O) : awpO P (.exit id) Q fr H O := h
theorem awpO_ret_k (h : Q .ret fr H O) : awpO P .ret Q fr H O := h
theorem thnO_normal {Kn : Fr → Hp → OS → Prop} (h : Kn fr H O) : thnO Kn Q .normal fr H O := h
theorem thnO_exit {Kn : Fr → Hp → OS → Prop} {id : Nat} (h : Q (.exit id) fr H O) : thnO Kn Q (.exit id) fr H O := h
theorem thnO_ret {Kn : Fr → Hp → OS → Prop} (h : Q .ret fr H O) : thnO Kn Q .ret fr H O := h
theorem catchO_normal {id : Nat} (h : Q .normal fr H O) : catchO id Q .normal fr H O := h
theorem catchO_ret {id : Nat} (h : Q .ret fr H O) : catchO id Q .ret fr H O := h
theorem catchO_exit {id : Nat} (h : Q .normal fr H O) : catchO id Q (.exit id) fr H O := by simp only [catchO, if_true]; exact h
theorem catchO_other {id id' : Nat} (hne : ¬ id' = id) (h : Q (.exit id') fr H O) : catchO id Q (.exit id') fr H O := by simp only [catchO, hne, if_false]; exact h
theorem awpO_loop_k {a : AC} {ρ : Nat → Nat} (n : Nat) (hle : Le ρ fr H fr' H') (ho : OLe O O') (h : loopNO (awpO P a) Q n fr' H' O') : awpO P (.loop a) Q fr H O := ⟨ρ, fr', H', O', hle, ho, n, h⟩
theorem loopNO_k {a : AC} {n : Nat} (h : ∀ K : Fr → Hp → OS → Prop, (∀ fr H O ρ fr' H' O', Le ρ fr H fr' H' → OLe O O' → loopNO (awpO P a) Q n fr' H' O' → K fr H O) → awpO P a (thnO K Q) fr H O) : loopNO (awpO P a) Q (n + 1) fr H O :=
  h _ fun _ _ _ ρ fr' H' O' h1 h2 h3 => ⟨ρ, fr', H', O', h1, h2, h3⟩
theorem retPO_ret {rs : List RV} {Post : PV → OS → Prop} {vs : List V} {ps : List PV} (B : List Nat) (h1 : resVs fr H rs = some vs) (h2 : VwL (hget H) B vs ps) (ho : OLe O O') (hp : Post (one ps) O') : retPO rs Post .ret fr H O := ⟨vs, ps, O', h1, ⟨B, h2⟩, ho, hp⟩
end
section
variable {P : Program} {f : FV} {O : OS} {K : V → OS → Prop}
theorem ox_mkmap : OX P .mkmap f O K = (∀ k, O k = none → K (.pv (.lit (.map (some k)))) (oupd O k (.mp []))) := rfl
theorem ox_alloc (ty sz : Nat) (zero : List Value) : OX P (.alloc ty sz zero) f O K = (∀ k, O k = none → K (.pv (.lit (.pointer (some ⟨k, 0, none⟩)))) (oupd O k (.cells ty (zero.map .lit)))) := rfl
theorem ox_lookup (g : Bool) (zero : List Value) (ok : Bool) (x y : Operand) : OX P (.lookup g zero ok x y) f O K = (match ev f x, ev f y with
    | .pv (.lit (.map (some m))), .pv (.lit (.int .i64 a)) => match O m with
      | some (.mp L) => K (.pv (if ok then .tup [(lkm L a).getD (mkp g (zero.map .lit)), .lit (.bool (lkm L a).isSome)] else (lkm L a).getD (mkp g (zero.map .lit)))) O
      | _ => False
    | _, _ => False) := rfl
theorem ox_mupd (x y z : Operand) : OX P (.mupd x y z) f O K = (match ev f x, ev f y with
    | .pv (.lit (.map (some m))), .pv (.lit (.int .i64 a)) => match O m with
      | some (.mp L) => ∃ p, Vw (fun _ => none) [] (ev f z) p ∧ K (lv undef) (oupd O m (.mp (mins L a p)))
      | _ => False
    | _, _ => False) := rfl
theorem ox_box (ty sz : Nat) (x : Operand) : OX P (.box ty sz x) f O K = (match (ev f x).cells? with
    | some cs => match V.pureL cs with
      | some ps => cs.length = sz ∧ ∀ k, O k = none → K (.pv (.lit (.pointer (some ⟨k, 0, none⟩)))) (oupd O k (.cells ty ps))
      | none => False
    | none => False) := rfl
theorem ox_load (g : Bool) (n : Nat) (x : Operand) : OX P (.load g n x) f O K = (match ev f x with
    | .pv (.lit (.pointer (some ⟨m, off, none⟩))) => match O m with
      | some (.cells _ xs) => off + n ≤ xs.length ∧ K (.pv (mkp g ((xs.drop off).take n))) O
      | _ => False
    | _ => False) := rfl
theorem ox_store (n : Nat) (x y : Operand) : OX P (.store n x y) f O K = (match ev f x, (ev f y).cells? with
    | .pv (.lit (.pointer (some ⟨m, off, none⟩))), some cs => match O m, V.pureL cs with
      | some (.cells ty xs), some ps => ps.length = n ∧ off + n ≤ xs.length ∧ K (lv undef) (oupd O m (.cells ty (splP xs off ps)))
      | _, _ => False
    | _, _ => False) := rfl
theorem ox_faddr (off : Nat) (x : Operand) : OX P (.faddr off x) f O K = (match ev f x with
    | .pv (.lit (.pointer (some ⟨m, o, none⟩))) => K (.pv (.lit (.pointer (some ⟨m, o + off, none⟩)))) O
    | _ => False) := rfl
theorem ox_nilc (x : Operand) : OX P (.nilc x) f O K = (match ev f x with
    | .pv (.lit (.pointer (some a))) => K (.pv (.lit (.pointer (some a)))) O
    | _ => False) := rfl
theorem pure_pv (p : PV) : V.pure (.pv p) = some p := rfl
theorem pure_agg (cs : List V) : V.pure (.agg cs) = (V.pureL cs).map .agg := rfl
theorem pure_fn (g : FuncId) (cs : List V) : V.pure (.fn g cs) = (V.pureL cs).map (.fn g) := rfl
theorem pureL_nil : V.pureL [] = some [] := rfl
theorem pureL_cons (c : V) (cs : List V) : V.pureL (c :: cs) = (match V.pure c, V.pureL cs with
    | some p, some ps => some (p :: ps)
    | _, _ => none) := rfl
end
attribute [go_sem ↓] ox_mkmap ox_alloc ox_box ox_lookup ox_mupd ox_load ox_store ox_faddr ox_nilc
attribute [go_sem] pure_pv pure_agg pure_fn pureL_nil pureL_cons oupd_same splP
end Go.Ab
/- Objects: bounds on the arguments, boxes, maps and rows of fresh objects. -/
set_option linter.unusedVariables false
set_option linter.unusedSimpArgs false
namespace Go.Ab
theorem OCall.intro' {P : Program} {f : FuncId} {N : Nat} {ac : AC} {rs : List RV} (hf : Fun P f N ac rs) {args : List PV} {O : OS} {Post : PV → OS → Prop} (hN : args.length ≤ N) (h : PV.okL args → awpO P ac (retPO rs Post) (argFr 0 args) [] O) : OCall P f args O Post := by
  obtain ⟨fn, c, h1, h2, h3, h4, h5, h6⟩ := hf.ex
  exact ⟨⟨fn, h1, by rw [h2]; rfl, h3⟩, fun I w us hI hO hus => (OCall.intro hf hN (h (RPL_ok args us hus))).2 I w us hI hO hus⟩
theorem OLe.at {O O' : OS} {k : Nat} {x : OB} (h : OLe O O') (e : O' k = some x) : O k = some x := h k x e
theorem fresh_ne {O : OS} {j k : Nat} {x : OB} (hk : O k = none) (hj : O j = some x) : j ≠ k := fun e => by rw [e, hk] at hj; cases hj
theorem oupd_keep {O : OS} {j k : Nat} {x y : OB} (hk : O k = none) (hj : O j = some x) : oupd O k y j = some x := by rw [oupd_ne _ _ (fresh_ne hk hj)]; exact hj
theorem oupd_id {O : OS} {k : Nat} {x : OB} (h : O k = some x) : oupd O k x = O := by
  funext j; simp only [oupd]; split
  · rename_i e; rw [e, h]
  · rfl
theorem retPO_1 {fr : Fr} {H : Hp} {O O1 : OS} {rs : List RV} {p : PV} {vs : List V} (B : List Nat) (h1 : resVs fr H rs = some vs) (h2 : VwL (hget H) B vs [p]) (ho : OLe O O1) : retPO rs (fun r O' => r = p ∧ O' = O1) .ret fr H O :=
  retPO_ret B h1 h2 ho ⟨rfl, rfl⟩
section
variable {P : Program} {fr fr' : Fr} {H H' : Hp} {O O' : OS} {K : Fr → Hp → OS → Prop} {d : Nat} {os : List AOp}
theorem aopsO_boxO {ty sz : Nat} {x : Operand} {cs : List V} {ps : List PV} (hx : (ev (get fr) x).cells? = some cs) (hp : V.pureL cs = some ps) (hl : cs.length = sz)
    (h : ∀ k, O k = none → aopsO P os ((d, .pv (.lit (.pointer (some ⟨k, 0, none⟩)))) :: fr) H (oupd O k (.cells ty ps)) K) : aopsO P (⟨some d, .box ty sz x, none⟩ :: os) fr H O K := by
  refine .inr ?_
  simp only [OX, hx, hp]
  exact ⟨hl, h⟩
theorem aopsO_mkmapO (h : ∀ k, O k = none → aopsO P os ((d, .pv (.lit (.map (some k)))) :: fr) H (oupd O k (.mp [])) K) : aopsO P (⟨some d, .mkmap, none⟩ :: os) fr H O K := .inr h
end
theorem vc_map (a : Option Nat) : (V.pv (.lit (.map a))).cells? = some [.pv (.lit (.map a))] := rfl
attribute [go_sem] vc_map
end Go.Ab
