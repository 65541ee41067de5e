/- X6: joined from ZX6. -/
import Derived.Test.YtiediojibljpiaaVFnU
import Derived.Test.YtiediojibljpiaaVX5
/- UnifyOrderIndependent: the iterator's walk. -/
set_option maxRecDepth 10000
set_option linter.unusedSimpArgs false
set_option linter.unusedVariables false
namespace Go.Proofs.Ytiediojibljpiaa
open Go Go.Ab Go.RowKit
theorem Dw_nil {a : Act} (h : a.defers = []) : Dw [] a = a := by cases a; simp only at h; subst h; rfl
theorem reg_p {ro : Option Nat} {n : Nat} {P : Program} {N : Nat} {id : Nat} {ops : Array Oper} {aos : List AOp} {fr frT : Fr} {H HT : Hp} {G : Gh} {a : Act} {w : World} {Q : Exit → Act → World → Prop}
    (hc : compOps P N ops.toList ops.toList = some aos) (hA : awp P (.reg aos) (FrP frT HT) fr H) (st : ASt N G fr H a w)
    (hQ : ∀ G' a' w', ASt N G' frT HT a' w' → Tr G (hget H) w G' (hget HT) w' → Q .normal a' w') : (Code.region id ops false).wpIn (FW ro) n P Q a w := by
  have := reg_in (ro := ro) (n := n) (ds := []) (id := id) hc hA st (Q := Q) fun G' fr' H' a' w' h st' tr' => by
    rw [Dw_nil st'.defers]
    have st2 := st_frp h st'
    have e : H' = HT := h.2.1
    subst e
    exact hQ G' a' w' st2 tr'
  rwa [Dw_nil st.defers] at this
def rsOf (es : List Eqn) (k : Nat) : List Eqn := (es.drop k).reverse.map RQ
theorem rsOf_step {es : List Eqn} {k : Nat} {e : Eqn} (h : es[k]? = some e) : rsOf es k = rsOf es (k + 1) ++ [RQ e] := by
  obtain ⟨hlt, he⟩ := List.getElem?_eq_some_iff.1 h
  unfold rsOf
  rw [List.drop_eq_getElem_cons hlt, he]
  simp
theorem rsOf_end (es : List Eqn) : rsOf es es.length = [] := by simp [rsOf]
theorem rsOf_zero (es : List Eqn) : rsOf es 0 = es.reverse.map RQ := by simp [rsOf]
def mu49 (a : Act) : Nat := match a.tmps.getD 3 undef with
  | .int _ i => (i + 1).toNat
  | _ => 0
theorem mu49_eq {G : Gh} {es : List Eqn} {l : Nat} {k : Nat} {fr : Fr} {H : Hp} {a : Act} {w : World} (st : ASt 19 G fr H a w) (h : Ab.get fr 3 = .pv (ii ((k : Int) - 1))) : mu49 a = k := by
  have h3 := st.fr 3
  rw [h] at h3
  simp only [R, RP, ii] at h3
  unfold mu49
  rw [h3]
  simp
theorem YieldAt_mono {F : Fence} {m : Nat} {P : Program} {l : Nat} {args : Array Value} {W : World} {R R' : Ending → World → Prop} (h : YieldAt F m P l args W R) (hR : ∀ e w, R e w → R' e w) : YieldAt F m P l args W R' :=
  let ⟨fn, tmps, asg, b, hr, hh⟩ := h
  ⟨fn, tmps, asg, b, hr, hh.mono hR⟩
theorem f49_at : Try.prog.funcs[49]? = some Try.f49 := by kernel_rfl
theorem f49_n : Try.f49.ntmps = 19 := by kernel_rfl
theorem f49_r : Try.f49.results = #[] := by kernel_rfl
set_option maxHeartbeats 1000000 in
theorem it_ok {T : Nat × Nat × Nat} {n0 l D m : Nat} {fn : FuncId} {tm : Array Value} {es : List Eqn} {G : Gh} {W : World} {us : List Value} (hbig : es.length ≤ big) (htm : tm.size = 49) (h5 : tm.getD 5 undef = .pointer (some ⟨T.1, 0, none⟩))
    (hus : RPL G.I [.rptr [.list 6 (encQ es)]] us) (J : Jt T n0 l D fn tm [] G W) :
    CallsIn (FW none) m Try.prog 49 (#[.func (.yield l) #[] #[]] ++ us.toArray) W fun en W' => (∃ v, en = .returned v) ∧ ∃ G', Jt T n0 l D fn tm (es.reverse.map RQ) G' W' ∧ G.I.le G'.I ∧ Below n0 W W' := by
  refine callsIn_of_wp f49_at body49 trivial ?_
  have hul : us.length = 1 := RPL_length hus
  have hus2 : RPL G.I [.lit (.func (.yield l) #[] #[]), .rptr [.list 6 (encQ es)]] (.func (.yield l) #[] #[] :: us) := by
    simp only [RPL] at hus ⊢
    exact ⟨_, _, rfl, by simp only [RP], hus⟩
  have st0 := st_pure (N := 19) (by simp) J.rel hus2
  rw [f49_n]
  have pa := p49_a
  have pb := p49_b
  have hy := y49_ok
  generalize (o49[6]?.getD default) = o6 at pa pb hy ⊢
  generalize o49.take 6 = oA at pa pb ⊢
  generalize o49.drop 7 = oB at pa pb ⊢
  have hargs : (Value.func (Fn.yield l) #[] #[] :: us).toArray = #[.func (.yield l) #[] #[]] ++ us.toArray := by simp
  rw [hargs] at st0
  refine wpIn_seq (reg_p p49_0 (r0_ok es l _ hbig) st0 fun G1 a1 w1 st1 tr1 => ?_)
  have J1 := jt_tr J st1.rel tr1
  refine wpIn_block (wpIn_loop (fun a w => ∃ k G', k ≤ es.length ∧ ASt 19 G' (frI es l ((k : Int) - 1)) (Hc T (rsOf es k)) a w ∧ Jt T n0 l D fn tm (rsOf es k) G' w ∧ G.I.le G'.I ∧ Below n0 W w) (fun a _ => mu49 a)
    ⟨es.length, G1, Nat.le_refl _, by rw [rsOf_end]; exact st1, by rw [rsOf_end]; exact J1, tr1.I, tr_below tr1 J.lo J.size⟩ ?_)
  rintro a w ⟨k, G2, hk, st2, J2, hle2, hb2⟩
  have hmu := mu49_eq (es := es) (l := l) (k := k) st2 rfl
  refine wpIn_seq (wpIn_seq (reg_p p49_1 (r1_ok es l _ _) st2 fun G3 a3 w3 st3 tr3 => ?_))
  have J3 := jt_tr J2 st3.rel tr3
  have hb3 := hb2.trans (tr_below tr3 J2.lo J2.size)
  have e8 : a3.eval (.tmp 8) = .bool (decide (((k : Int) - 1) ≥ 0)) := by
    have := st3.fr 8
    simp only [Ab.get, if_true, R, RP, bb] at this
    exact this
  cases k with
  | zero =>
    refine wpIn_cond_false (by rw [e8]; simp) (wpIn_exit ?_)
    simp only [Exit.then, Exit.inBlock, if_true]
    refine ⟨st3.defers, _, by simp [results, f49_r, Sem.run_bind, Sem.run_pure, Result.andThen]; rfl, ⟨_, rfl⟩, G3, ?_, hle2.trans tr3.I, hb3⟩
    rw [rsOf_zero] at J3
    exact J3
  | succ k =>
    have hkk : ((k + 1 : Nat) : Int) - 1 = (k : Int) := by omega
    rw [hkk] at st3 e8
    refine wpIn_cond_true (by rw [e8]; simp) (wpIn_skip ?_)
    obtain ⟨e, he⟩ : ∃ e, es[k]? = some e := ⟨es[k], by simp⟩
    have hat : (encQ es)[k]? = some e.enc := by simp [encQ, he]
    have st3' : ASt 19 G3 (frI es l k) (Hc T (rsOf es (k + 1))) a3 w3 := st_frp (fr := (8, .pv (bb (decide ((k : Int) ≥ 0)))) :: frI es l k) (by exact ⟨rfl, rfl, ⟨_, rfl, rfl⟩, ⟨_, rfl, rfl⟩, ⟨_, rfl, rfl⟩, trivial⟩) st3
    have hrs := rsOf_step he
    have hrl : (rsOf es (k + 1)).length + 1 ≤ big := by simp [rsOf]; omega
    refine wpIn_seq (wpIn_block (wpIn_seq (wpIn_region_lit ?_)))
    have h := aops_in (ro := none) (n := m) (P := Try.prog) (N := 19) (ops := oA ++ o6 :: oB) (rest := o6 :: oB) (ds := [])
      (K := FrP ((11, .pv (.lit (.func (.yield l) #[] #[]))) :: (12, .pv (ii k)) :: (16, .pv e.enc) :: frI es l k) (Hc T (rsOf es (k + 1))) .normal) (Q := ?Q) (G0 := G3) (h0 := hget (Hc T (rsOf es (k + 1)))) (w0 := w3) ?hh
      oA ac49_a (frI es l k) _ G3 a3 w3 pa (ra_ok es e l k _ hat) st3' (Tr.refl _ _ _)
    rw [Dw_nil st3'.defers] at h
    exact h
    intro G4 fr4 H4 a4 w4 hK4 st4 tr4
    rw [Dw_nil st4.defers]
    have eH : H4 = Hc T (rsOf es (k + 1)) := hK4.2.1
    subst eH
    have st4' := st_frp hK4 st4
    have J4 := jt_tr J3 st4'.rel tr4
    have hb4 := hb3.trans (tr_below tr4 J3.lo J3.size)
    have u11 : a4.eval (.tmp 11) = .func (.yield l) #[] #[] := by have := st4'.fr 11; simp only [Ab.get, if_true, R, RP] at this; exact this
    have u16 : RP G4.I e.enc (a4.eval (.tmp 16)) := by have := st4'.fr 16; simp [Ab.get, R] at this; simpa [Act.eval] using this
    refine wpListIn_plain hy.2.2 fun K hK => ?_
    refine yield_in (l := l) (u1 := a4.eval (.tmp 12)) (u2 := a4.eval (.tmp 16)) hy.1 u11 rfl rfl (YieldAt_mono (round_ok hrl htm h5 u16 J4) ?_)
    rintro en W5 ⟨rfl, G5, J5, hle5, hb5⟩
    refine ⟨rfl, hK _ _ ?_⟩
    rw [hy.2.1]
    have st5 := st_next (d := 17) (p := bb true) (v := .bool true) st4' (fun t => by
      rcases frpL_get (fr := (11, .pv (.lit (.func (.yield l) #[] #[]))) :: (12, .pv (ii k)) :: (16, .pv e.enc) :: frI es l k) (frT := (11, .pv (.lit (.func (.yield l) #[] #[]))) :: (12, .pv (ii k)) :: (16, .pv e.enc) :: frI es l k)
        ⟨⟨_, rfl, rfl⟩, ⟨_, rfl, rfl⟩, ⟨_, rfl, rfl⟩, ⟨_, rfl, rfl⟩, ⟨_, rfl, rfl⟩, ⟨_, rfl, rfl⟩, trivial⟩ t with h | ⟨p, h, _⟩
      · exact .inl h
      · exact .inr ⟨p, h⟩) (by omega) J5.rel hle5 (by simp only [bb, RP])
    have h6 := aops_in (ro := none) (n := m) (P := Try.prog) (N := 19) (ops := oA ++ o6 :: oB) (rest := []) (ds := [])
      (K := FrP ((18, .pv (bb false)) :: frI es l k) (Hc T (rsOf es (k + 1) ++ [RQ e])) .normal) (Q := ?Q2) (G0 := G5) (h0 := hget (Hc T (rsOf es (k + 1) ++ [RQ e]))) (w0 := W5) ?hh2
      oB ac49_b _ _ G5 _ W5 pb (rb_ok _ es l k _ ⟨⟨_, rfl, rfl⟩, ⟨_, rfl, rfl⟩, ⟨_, rfl, rfl⟩, trivial⟩) st5 (Tr.refl _ _ _)
    rw [Dw_nil st5.defers, List.append_nil] at h6
    exact h6
    intro G6 fr6 H6 a6 w6 hK6 st6 tr6
    rw [Dw_nil st6.defers]
    have eH : H6 = Hc T (rsOf es (k + 1) ++ [RQ e]) := hK6.2.1
    subst eH
    have st6' := st_frp hK6 st6
    have J6 := jt_tr J5 st6'.rel tr6
    have hb6 := (hb4.trans hb5).trans (tr_below tr6 J5.lo J5.size)
    have u18 : a6.eval (.tmp 18) = .bool false := by have := st6'.fr 18; simp only [Ab.get, if_true, R, RP, bb] at this; exact this
    unfold wpListIn
    show (Code.cond (.tmp 18) .ret .skip).wpIn _ _ _ _ _ _
    refine wpIn_cond_false u18 (wpIn_skip ?_)
    show (Code.region 2 _ _).wpIn _ _ _ _ _ _
    have st6'' : ASt 19 G6 (frI es l k) (Hc T (rsOf es (k + 1) ++ [RQ e])) a6 w6 := st_frp (fr := (18, .pv (bb false)) :: frI es l k) (by exact ⟨rfl, rfl, ⟨_, rfl, rfl⟩, ⟨_, rfl, rfl⟩, ⟨_, rfl, rfl⟩, trivial⟩) st6'
    refine reg_p p49_2 (r2_ok es l k _ (by omega)) st6'' fun G7 a7 w7 st7 tr7 => ?_
    have J7 := jt_tr J6 st7.rel tr7
    refine ⟨⟨k, G7, by omega, by rw [hrs]; exact st7, by rw [hrs]; exact J7, hle2.trans (tr3.I.trans (tr4.I.trans (hle5.trans (tr6.I.trans tr7.I)))), hb6.trans (tr_below tr7 J6.lo J6.size)⟩, ?_⟩
    rw [hmu, mu49_eq (es := es) (l := l) (k := k) st7 rfl]
    omega
end Go.Proofs.Ytiediojibljpiaa
