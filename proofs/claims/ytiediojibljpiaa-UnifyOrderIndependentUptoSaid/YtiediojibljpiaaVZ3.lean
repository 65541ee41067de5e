/- Z3: joined from Zb3. -/
import Derived.Test.YtiediojibljpiaaVZ2
/- Code that writes objects: the walk over a function's compact text, its contract. -/
set_option linter.unusedVariables false
set_option linter.unusedSimpArgs false
namespace Go.Ab
open Go.RowKit
def aopsO (P : Program) : List AOp → Fr → Hp → OS → (Fr → Hp → OS → Prop) → Prop
  | [], fr, H, O, K => K fr H O
  | o :: os, fr, H, O, K => gsel o.g (get fr) ((AXo P o.op H.length (get fr) (hget H) fun v _ δ => aopsO P os (put o.dst v fr) (updL H δ) O K) ∨ OX P o.op (get fr) O fun v O' => aopsO P os (put o.dst v fr) H O' K) (aopsO P os (put o.dst (lv undef) fr) H O K)
theorem aopsO_sound {P : Program} {N : Nat} {ops : List Oper} {K : Fr → Hp → OS → Prop} {Q : Exit → Act → World → Prop} {G0 : Gh} {h0 : HF} {O0 : OS} {w0 : World} {rest : List Oper}
    (hQ : ∀ G fr H O a w, K fr H O → ASt N G fr H a w → ORel O G (hget H) w → TrO G0 h0 O0 w0 G (hget H) O w → wpList P ops.toArray Q rest a w) : ∀ (l : List Oper) (aos : List AOp) (fr : Fr) (H : Hp) (O : OS) (G : Gh) (a : Act) (w : World),
    compOps P N ops l = some aos → aopsO P aos fr H O K → ASt N G fr H a w → ORel O G (hget H) w → TrO G0 h0 O0 w0 G (hget H) O w → wpList P ops.toArray Q (l ++ rest) a w
  | [], aos, fr, H, O, G, a, w, hc, hA, st, r, tr => by
    simp only [compOps, Option.some.injEq] at hc; subst hc
    exact hQ G fr H O a w hA st r tr
  | o :: l, aos, fr, H, O, G, a, w, hc, hA, st, r, tr => by
    simp only [compOps] at hc
    split at hc
    case h_2 => cases hc
    rename_i ao aos' h1 h2
    simp only [Option.some.injEq] at hc; subst hc
    obtain ⟨hop, hdst, hd, _⟩ := compOper_spec h1
    simp only [aopsO] at hA
    rw [List.cons_append]
    unfold wpList
    rcases gsel_spec h1 st hA with ⟨hw, hA⟩ | ⟨hw, hA⟩
    · rw [if_pos hw]
      rcases hA with hA | hA
      · obtain ⟨v, rd, δ, hK, hδ, hstp⟩ := AXo_sound hop hA
        refine .inl (hstp N (lt H) G (get fr) (hget H) a w st (fun _ _ => rfl) (fun _ _ => rfl) (Nat.lt_irrefl _) _ _ fun u w' G' g1 g2 g3 g4 g5 => ?_)
        rw [hdst] at hK
        have g3' : Tr G (hget H) w G' (hget (updL H δ)) w' := by rw [hget_updL]; exact g3
        exact aopsO_sound hQ l aos' _ _ O G' _ w' h2 hK (st.put hd g1 g2 g4 g5) (r.step g3') (tr.trans (g3'.toO O))
      · refine .inl (OX_sound hop hA st (fun _ _ => rfl) r fun u w' G' v O' g0 g1 g2 g3 g4 g5 g6 => ?_)
        rw [hdst] at g0
        refine aopsO_sound hQ l aos' _ _ O' G' _ w' h2 g0 ?_ g3 (tr.trans g4)
        exact st.put (δ := []) hd g1 (g2.monoS fun b hb => .inl hb) g5 (V.bd_mono (fun b hb => .inl hb) _ g6)
    · rw [if_neg (by rw [hw]; simp)]
      rw [hdst] at hA
      refine aopsO_sound hQ l aos' _ _ O G _ w h2 hA ?_ r tr
      exact st.put (δ := []) hd (Gh.le.refl _ _) (st.rel.monoS fun b hb => .inl hb) (by simp [R, lv, RP]) (by simp [lv, V.bd])
abbrev PostO := Exit → Fr → Hp → OS → Prop
def liftO (N : Nat) (Q : PostO) (G0 : Gh) (H0 : Hp) (O0 : OS) (w0 : World) : Exit → Act → World → Prop := fun e a w =>
  ∃ G fr H O, Q e fr H O ∧ ASt N G fr H a w ∧ ORel O G (hget H) w ∧ TrO G0 (hget H0) O0 w0 G (hget H) O w
def AWpO (P : Program) (N : Nat) (c : Code) (Q : PostO) (fr : Fr) (H : Hp) (O : OS) : Prop :=
  ∀ G a w, ASt N G fr H a w → ORel O G (hget H) w → c.wp P (liftO N Q G H O w) a w
def thnO (K : Fr → Hp → OS → Prop) (Q : PostO) : PostO
  | .normal, fr, H, O => K fr H O
  | e, fr, H, O => Q e fr H O
def catchO (id : Nat) (Q : PostO) : PostO
  | .exit id', fr, H, O => if id' = id then Q .normal fr H O else Q (.exit id') fr H O
  | e, fr, H, O => Q e fr H O
/-- objects forgotten -/
def OLe (O O' : OS) : Prop := ∀ k x, O' k = some x → O k = some x
theorem OLe.refl (O : OS) : OLe O O := fun _ _ h => h
theorem OLe.trans {O O1 O2 : OS} (h : OLe O O1) (k : OLe O1 O2) : OLe O O2 := fun j x e => h j x (k j x e)
theorem OLe.fresh {O : OS} {k : Nat} {x : OB} (h : O k = none) : OLe (oupd O k x) O := fun j y e => by
  rw [oupd_ne]
  · exact e
  · rintro rfl; rw [h] at e; cases e
theorem OLe.upd {O O' : OS} {k : Nat} {x : OB} (h : OLe O O') : OLe (oupd O k x) (oupd O' k x) := fun j y e => by
  unfold oupd at e ⊢
  split at e
  · rename_i h; rw [if_pos h]; exact e
  · rename_i h'; rw [if_neg h']; exact h j y e
theorem ORel.le {O O' : OS} {G : Gh} {h : HF} {w : World} (r : ORel O G h w) (hl : OLe O O') : ORel O' G h w := ⟨fun k x e => r.at_ k x (hl k x e), fun k x e => r.sepB k x (hl k x e), fun k x e => r.sepI k x (hl k x e)⟩
theorem TrO.le {G G' : Gh} {h h' : HF} {O O1 O' : OS} {w w' : World} (t : TrO G h O w G' h' O1 w') (hl : OLe O1 O') : TrO G h O w G' h' O' w' :=
  ⟨t.os, t.tape, t.output, t.size, t.I, t.old, t.muts, t.lives, t.inew, fun k x e hlt => t.obj k x (hl k x e) hlt⟩
section
variable {P : Program} {N : Nat} {Q : PostO} {fr : Fr} {H : Hp} {O : OS}
theorem awpO_reg {id : Nat} {ops : Array Oper} {aos : List AOp} (hc : compOps P N ops.toList ops.toList = some aos) (hA : aopsO P aos fr H O (Q .normal)) : AWpO P N (.region id ops false) Q fr H O := by
  intro G a w st r
  refine wp_region_list ?_
  have := aopsO_sound (P := P) (ops := ops.toList) (K := Q .normal) (Q := liftO N Q G H O w) (G0 := G) (h0 := hget H) (O0 := O) (w0 := w) (rest := []) (fun G' fr' H' O' a' w' hK st' r' tr' => by
    unfold wpList; exact ⟨G', fr', H', O', hK, st', r', tr'⟩) ops.toList aos fr H O G a w hc hA st r (TrO.refl _ _ _ _)
  simpa using this
theorem AWpO.of {c : Code} {Q' : Post} (h : AWp P N c Q' fr H) (hq : ∀ e fr H, Q' e fr H → Q e fr H O) : AWpO P N c Q fr H O := fun G a w st r =>
  wp_mono (h G a w st) fun e a' w' ⟨G', fr', H', q, st', tr'⟩ => ⟨G', fr', H', O, hq _ _ _ q, st', r.step tr', tr'.toO O⟩
theorem AWpO.mono {c : Code} {Q' : PostO} (h : AWpO P N c Q fr H O) (hq : ∀ e fr H O, Q e fr H O → Q' e fr H O) : AWpO P N c Q' fr H O :=
  fun G a w st r => wp_mono (h G a w st r) fun e a' w' ⟨G', fr', H', O', q, st', r', tr'⟩ => ⟨G', fr', H', O', hq _ _ _ _ q, st', r', tr'⟩
theorem awpO_seq {x y : Code} (h : AWpO P N x (thnO (AWpO P N y Q) Q) fr H O) : AWpO P N (.seq x y) Q fr H O := by
  intro G a w st r
  refine wp_seq (wp_mono (h G a w st r) fun e a' w' hq => ?_)
  obtain ⟨G', fr', H', O', hQ, st', r', tr'⟩ := hq
  cases e with
  | normal => exact wp_mono (hQ G' a' w' st' r') fun e a2 w2 ⟨G2, fr2, H2, O2, q2, st2, r2, tr2⟩ => ⟨G2, fr2, H2, O2, q2, st2, r2, tr'.trans tr2⟩
  | _ => exact ⟨G', fr', H', O', hQ, st', r', tr'⟩
theorem awpO_cond {c : Operand} {x y : Code} {b : Bool} (hc : ev (get fr) c = .pv (.lit (.bool b))) (h1 : b = true → AWpO P N x Q fr H O) (h2 : b = false → AWpO P N y Q fr H O) : AWpO P N (.cond c x y) Q fr H O := by
  intro G a w st r
  have hv := st.ev c; rw [hc] at hv; simp only [R, RP] at hv
  exact wp_cond_split hv (fun hb => h1 hb G a w st r) (fun hb => h2 hb G a w st r)
theorem awpO_block {id : Nat} {x : Code} (h : AWpO P N x (catchO id Q) fr H O) : AWpO P N (.block id x) Q fr H O := by
  intro G a w st r
  refine wp_block (wp_mono (h G a w st r) fun e a' w' hq => ?_)
  obtain ⟨G', fr', H', O', hQ, st', r', tr'⟩ := hq
  cases e with
  | exit id' =>
    simp only [Exit.inBlock]
    simp only [catchO] at hQ
    split
    · rename_i he; rw [if_pos he] at hQ; exact ⟨G', fr', H', O', hQ, st', r', tr'⟩
    · rename_i he; rw [if_neg he] at hQ; exact ⟨G', fr', H', O', hQ, st', r', tr'⟩
  | _ => exact ⟨G', fr', H', O', hQ, st', r', tr'⟩
theorem awpO_skip (h : Q .normal fr H O) : AWpO P N .skip Q fr H O := fun G a w st r => wp_skip ⟨G, fr, H, O, h, st, r, TrO.refl _ _ _ _⟩
theorem awpO_exit {id : Nat} (h : Q (.exit id) fr H O) : AWpO P N (.exit id) Q fr H O := fun G a w st r => wp_exit ⟨G, fr, H, O, h, st, r, TrO.refl _ _ _ _⟩
theorem awpO_ret (h : Q .ret fr H O) : AWpO P N .ret Q fr H O := fun G a w st r => wp_ret ⟨G, fr, H, O, h, st, r, TrO.refl _ _ _ _⟩
theorem AWpO.le {c : Code} {ρ : Nat → Nat} {fr' : Fr} {H' : Hp} {O' : OS} (hle : Le ρ fr H fr' H') (ho : OLe O O') (h : AWpO P N c Q fr' H' O') : AWpO P N c Q fr H O := by
  intro G a w st r
  obtain ⟨G1, st1, tr1⟩ := st.le hle
  exact wp_mono (h G1 a w st1 ((r.step tr1).le ho)) fun e a' w' ⟨G2, fr2, H2, O2, q, st2, r2, tr2⟩ => ⟨G2, fr2, H2, O2, q, st2, r2, ((tr1.toO O).le ho).trans tr2⟩
end
end Go.Ab
