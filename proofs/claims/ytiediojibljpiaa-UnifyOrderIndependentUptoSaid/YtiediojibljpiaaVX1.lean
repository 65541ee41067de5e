/- X1: joined from ZX1. -/
import Derived.Test.YtiediojibljpiaaVFnU
import Derived.Test.YtiediojibljpiaaVW2
import Derived.RangeFuncRecord
import Derived.TacticsIn
/- Regions inside a fence, with deferred entries; what a range over a function needs. -/
set_option maxRecDepth 10000
set_option linter.unusedSimpArgs false
set_option linter.unusedVariables false
namespace Go.Ab
open Go
/-- the wide fence, in a round or not -/
def FW (ro : Option Nat) : Fence := { Fence.wide with round := ro }
theorem callsIn_FW {ro : Option Nat} {n : Nat} {P : Program} {f : FuncId} {args : Array Value} {w : World} {R : Ending → World → Prop} (h : Calls P f args w R) : CallsIn (FW ro) n P f args w R :=
  (callsIn_wide (n := n)).2 h
theorem rowsIn_FW {ro : Option Nat} {n : Nat} {P : Program} {row : String} {args : Array Value} {w : World} {R : Value → World → Prop} (h : Go.Rows P row args w R) : Go.RowsIn (FW ro) n P row args w R := fun c cs _ =>
  let ⟨v, w', r, s⟩ := h c cs
  ⟨v, w', r, stepsIn_wide.2 s⟩
/-- deferred entries do not matter to an operation -/
def Dw (ds : List Deferred) (a : Act) : Act := { a with defers := ds }
theorem Dw_put (ds : List Deferred) (a : Act) (d : Option Nat) (u : Value) : (Dw ds a).put d u = Dw ds (a.put d u) := by cases d <;> rfl
theorem oper_in {ro : Option Nat} {n : Nat} {P : Program} {o : Oper} {a : Act} {ds : List Deferred} {w : World} {next0 next : Act → World → Prop} {Q : Exit → Act → World → Prop} (hnd : ∀ c, o.op ≠ .defer c) (h0 : a.defers = [])
    (h : o.wp P a w next0 (fun _ _ _ => False)) (hn : ∀ a' w', next0 a' w' → a'.defers = [] ∧ next (Dw ds a') w') : o.wpIn (FW ro) n P (Dw ds a) w next Q := by
  refine ⟨fun _ _ => trivial, ?_⟩
  have hs : o.semAt (FW ro).round (Dw ds a).eval = execOp a.eval o := Oper.semAt_eq _ _ _ hnd
  rw [hs]
  unfold Oper.wp at h
  have hdep : (FW ro).depth.isSome = true → 1 ≤ n := fun h => by cases h
  generalize (execOp a.eval o).run P w = r at h
  cases r with
  | ok x w' =>
    cases x with
    | value v => show next _ _; rw [Dw_put]; exact (hn _ _ h).2
    | skip => show next _ _; rw [Dw_put]; exact (hn _ _ h).2
    | defer d =>
      have h1 : next0 (({ a with defers := d :: a.defers } : Act).put o.dst undef) w' := h
      have := (hn _ _ h1).1
      cases hd : o.dst <;> rw [hd] at this <;> simp [Act.put] at this
    | enter f args =>
      refine ⟨hdep, callsIn_FW (Calls.mono h fun e w2 he => ?_)⟩
      cases e with
      | returned v => show next _ _; rw [Dw_put]; exact (hn _ _ he).2
      | panicked c => exact he.elim
      | outgrown => exact (by obtain ⟨_, _, h⟩ := he; exact h.elim)
    | row row args =>
      refine ⟨hdep, rowsIn_FW (Go.Rows.mono h fun v w2 he => ?_)⟩
      show next _ _; rw [Dw_put]; exact (hn _ _ he).2
    | _ => exact h.elim
  | halt x w' =>
    cases x <;> first | exact h.elim | done
theorem comp_nodefer {P : Program} {o : Op} {ao : AO} (h : compOp P o = some ao) : ∀ c, o ≠ .defer c := fun c e => by subst e; simp [compOp] at h
theorem aops_in {ro : Option Nat} {n : Nat} {P : Program} {N : Nat} {ops rest : List Oper} {ds : List Deferred} {K : Fr → Hp → Prop} {Q : Exit → Act → World → Prop} {G0 : Gh} {h0 : HF} {w0 : World}
    (hQ : ∀ G fr H a w, K fr H → ASt N G fr H a w → Tr G0 h0 w0 G (hget H) w → wpListIn (FW ro) n P ops.toArray Q rest (Dw ds a) w) : ∀ (l : List Oper) (aos : List AOp) (fr : Fr) (H : Hp) (G : Gh) (a : Act) (w : World),
    compOps P N ops l = some aos → aops P aos fr H K → ASt N G fr H a w → Tr G0 h0 w0 G (hget H) w → wpListIn (FW ro) n P ops.toArray Q (l ++ rest) (Dw ds a) w
  | [], aos, fr, H, G, a, w, hc, hA, st, tr => by
    simp only [compOps, Option.some.injEq] at hc; subst hc
    exact hQ G fr H a w hA st tr
  | o :: l, aos, fr, H, G, a, w, hc, hA, st, tr => by
    simp only [compOps] at hc
    split at hc
    case h_2 => cases hc
    rename_i ao aos' h1 h2
    simp only [Option.some.injEq] at hc; subst hc
    obtain ⟨hop, hdst, hd, _⟩ := compOper_spec h1
    simp only [aops] at hA
    rw [List.cons_append]
    unfold wpListIn
    have hy : yielded ops.toArray (Dw ds a).tmps = yielded ops.toArray a.tmps := rfl
    rw [hy]
    rcases gsel_spec h1 st hA with ⟨hw, hA⟩ | ⟨hw, hA⟩
    · rw [if_pos hw]
      obtain ⟨v, rd, δ, hK, hδ, hstp⟩ := AXo_sound hop hA
      refine oper_in (comp_nodefer hop) st.defers (next0 := fun a' w' => a'.defers = [] ∧ wpListIn (FW ro) n P ops.toArray Q (l ++ rest) (Dw ds a') w')
        (hstp N (lt H) G (get fr) (hget H) a w st (fun _ _ => rfl) (fun _ _ => rfl) (Nat.lt_irrefl _) _ _ fun u w' G' g1 g2 g3 g4 g5 => ?_) fun a' w' h => h
      rw [hdst] at hK
      have st2 := st.put hd g1 g2 g4 g5
      refine ⟨st2.defers, aops_in hQ l aos' _ _ G' _ w' h2 hK st2 (tr.trans ?_)⟩
      rw [hget_updL]; exact g3
    · rw [if_neg (by rw [hw]; simp)]
      rw [hdst] at hA
      refine ⟨fun _ _ => trivial, ?_⟩
      rw [Dw_put]
      refine aops_in hQ l aos' _ _ G _ w h2 hA ?_ tr
      exact st.put (δ := []) hd (Gh.le.refl _ _) (st.rel.monoS fun b hb => .inl hb) (by simp [R, lv, RP]) (by simp [lv, V.bd])
/-- a region -/
theorem reg_in {ro : Option Nat} {n : Nat} {P : Program} {N : Nat} {id : Nat} {ops : Array Oper} {aos : List AOp} {ds : List Deferred} {fr : Fr} {H : Hp} {G : Gh} {a : Act} {w : World} {Q' : Post} {Q : Exit → Act → World → Prop}
    (hc : compOps P N ops.toList ops.toList = some aos) (hA : awp P (.reg aos) Q' fr H) (st : ASt N G fr H a w)
    (hQ : ∀ G' fr' H' a' w', Q' .normal fr' H' → ASt N G' fr' H' a' w' → Tr G (hget H) w G' (hget H') w' → Q .normal (Dw ds a') w') : (Code.region id ops false).wpIn (FW ro) n P Q (Dw ds a) w := by
  refine wpIn_region_list ?_
  have := aops_in (ro := ro) (n := n) (rest := []) (ds := ds) (Q := Q) (P := P) (ops := ops.toList) (K := Q' .normal) (G0 := G) (h0 := hget H) (w0 := w) (fun G' fr' H' a' w' hK st' tr' => by unfold wpListIn; exact hQ G' fr' H' a' w' hK st' tr') ops.toList aos fr H G a w hc hA st (Tr.refl _ _ _)
  simpa using this
/-- what is left of the state -/
def LeP (frT : Fr) (HT : Hp) : Post := fun e fr H => e = .normal ∧ ∃ ρ, Le ρ fr H frT HT
theorem reg_le {ro : Option Nat} {n : Nat} {P : Program} {N : Nat} {id : Nat} {ops : Array Oper} {aos : List AOp} {ds : List Deferred} {fr frT : Fr} {H HT : Hp} {G : Gh} {a : Act} {w : World} {Q : Exit → Act → World → Prop}
    (hc : compOps P N ops.toList ops.toList = some aos) (hA : awp P (.reg aos) (LeP frT HT) fr H) (st : ASt N G fr H a w)
    (hQ : ∀ G' a' w', ASt N G' frT HT a' w' → Tr G (hget H) w G' (hget HT) w' → Q .normal (Dw ds a') w') : (Code.region id ops false).wpIn (FW ro) n P Q (Dw ds a) w :=
  reg_in hc hA st fun G' fr' H' a' w' ⟨_, ρ, hle⟩ st' tr' => by
    obtain ⟨G2, st2, tr2⟩ := st'.le hle
    exact hQ G2 a' w' st2 (tr'.trans tr2)
end Go.Ab
