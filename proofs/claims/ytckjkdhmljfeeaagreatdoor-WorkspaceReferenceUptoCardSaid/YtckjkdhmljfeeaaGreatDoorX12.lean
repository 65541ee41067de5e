/- X12: joined from XE12. -/
import Derived.Test.YtckjkdhmljfeeaaGreatDoorX11
/- Code run on abstract values; calls; a whole run as a contract. -/
set_option linter.unusedVariables false
set_option linter.unusedSimpArgs false
namespace Go.Ev
open Go Go.RowKit
open Go.Ab (getD_set)
inductive EX where
  | nrm
  | ret
  | exit (id : Nat)
def EX.ex : EX → Exit
  | .nrm => .normal
  | .ret => .ret
  | .exit id => .exit id
def evReg (call : CallF) (P : Program) (ng N : Nat) (ops : Array Oper) (draw : Bool) (F : T X) (H : T Blk) (nb : Nat) : Option (T X × T Blk × Nat) := match compL P N ops.toList ops.toList with
  | some xs => match evOps call P ng xs F H nb with
    | some (F2, H2, nb2, fts) => match draw with
      | false => some (F2, H2, nb2)
      | true => match chkS ops.toList with
        | true => match chkH fts (prs ops.toList) with
          | true => some (F2, H2, nb2)
          | false => none
        | false => none
    | none => none
  | none => none
def resX (P : Program) (f : Nat → X) (h : HF) : List ResultVar → Option (List X)
  | [] => some []
  | .tmp t :: rs => match resX P f h rs with
    | some xs => some (f t :: xs)
    | none => none
  | .cell c t :: rs => match f c with
    | .ptr b off => match h b with
      | some k => match Ab.isAggB P t with
        | some g => match P.info? t with
          | some i => match (g || Nat.beq i.size 1) && Nat.ble (off + i.size) k.xs.length with
            | true => match resX P f h rs with
              | some xs => some (unc g ((k.xs.drop off).take i.size) :: xs)
              | none => none
            | false => none
          | none => none
        | none => none
      | none => none
    | _ => none
def oneX : List X → X
  | [x] => x
  | xs => .tup xs
def argT : Nat → List X → T X → T X
  | _, [], F => F
  | i, x :: xs, F => argT (i + 1) xs (T.put dpt F i (some x))
def callF (rec : Nat → Code → T X → T Blk → Nat → Option (EX × T X × T Blk × Nat)) (P : Program) (orc : CallF) : CallF := fun g args H nb => match orc g args H nb with
  | some r => some r
  | none => match P.funcs[g]? with
    | some fn => match fn.body with
      | some c => match Nat.ble args.length fn.ntmps && Nat.ble args.length lim with
        | true => match rec fn.ntmps c (argT 0 args .e) H nb with
          | some (.exit _, _, _, _) => none
          | some (_, F', H', nb') => match resX P (fD F') (hD H') fn.results.toList with
            | some xs => some (oneX xs, H', nb')
            | none => none
          | none => none
        | false => none
      | none => none
    | none => none
def ev (P : Program) (ng : Nat) (orc : CallF) : Nat → Nat → Code → T X → T Blk → Nat → Option (EX × T X × T Blk × Nat)
  | 0, _, _, _, _, _ => none
  | n + 1, N, c, F, H, nb => match c with
    | .skip => some (.nrm, F, H, nb)
    | .region _ ops draw => match evReg (callF (ev P ng orc n) P orc) P ng N ops draw F H nb with
      | some (F', H', nb') => some (.nrm, F', H', nb')
      | none => none
    | .seq a b => match ev P ng orc n N a F H nb with
      | some (.nrm, F', H', nb') => ev P ng orc n N b F' H' nb'
      | r => r
    | .cond x a b => match evX ng (fD F) x with
      | .v (.bool true) => ev P ng orc n N a F H nb
      | .v (.bool false) => ev P ng orc n N b F H nb
      | _ => none
    | .block id a => match ev P ng orc n N a F H nb with
      | some (.exit i, F', H', nb') => match Nat.beq i id with
        | true => some (.nrm, F', H', nb')
        | false => some (.exit i, F', H', nb')
      | r => r
    | .loop a => match ev P ng orc n N a F H nb with
      | some (.nrm, F', H', nb') => ev P ng orc n N (.loop a) F' H' nb'
      | r => r
    | .exit id => some (.exit id, F, H, nb)
    | .ret => some (.ret, F, H, nb)
    | _ => none
section
variable {P : Program} {ng : Nat} {orc : CallF}
def CPost (n0 ng N : Nat) (S : Nat → Prop) (M : Nm) (w : World) (nb : Nat) (e : EX) (F' : T X) (H' : T Blk) (nb' : Nat) : Exit → Act → World → Prop := fun e' a' w' => e' = e.ex ∧ ∃ M', Nm.le S M M' ∧ St n0 ng N (SI S nb nb') M' (fD F') (hD H') a' w' ∧ Below n0 w w'
def CodeOk (P : Program) (ng N : Nat) (c : Code) (F : T X) (H : T Blk) (nb : Nat) (e : EX) (F' : T X) (H' : T Blk) (nb' : Nat) : Prop :=
  nb ≤ nb' ∧ ∀ n0 S M a w, St n0 ng N S M (fD F) (hD H) a w → (∀ b, nb ≤ b → b < nb' → ¬ S b) → c.wp P (CPost n0 ng N S M w nb e F' H' nb') a w
theorem argT_ok {n0 : Nat} {S : Nat → Prop} {M : Nm} : ∀ (xs : List X) (us : List Value) (i : Nat) (F : T X) (pre : List Value) (k : Nat), RXL M xs us → bdL S xs → i = pre.length → i + xs.length ≤ lim → (∀ t, RX M (fD F t) ((pre.toArray ++ Array.replicate k undef).getD t undef) ∧ (fD F t).bd S) → xs.length ≤ k →
    ∀ t, RX M (fD (argT i xs F) t) (((pre ++ us).toArray ++ Array.replicate (k - xs.length) undef).getD t undef) ∧ (fD (argT i xs F) t).bd S
  | [], us, i, F, pre, k, hr, hb, hi, hl, hF, hk => by
    simp only [RXL] at hr; subst hr
    simpa [argT] using hF
  | x :: xs, us, i, F, pre, k, hr, hb, hi, hl, hF, hk => by
    simp only [RXL] at hr
    obtain ⟨u, us', rfl, r1, r2⟩ := hr
    simp only [bdL] at hb
    simp only [List.length_cons] at hl hk
    simp only [argT]
    have := argT_ok (n0 := n0) xs us' (i + 1) (T.put dpt F i (some x)) (pre ++ [u]) (k - 1) r2 hb.2 (by simp [hi]) (by omega) (fun t => ?_) (by omega)
    · simpa [List.append_assoc, show k - (xs.length + 1) = k - 1 - xs.length by omega] using this
    · simp only [fD, get_put (show i ≤ lim by omega)]
      by_cases ht : t = i
      · rw [if_pos ht]
        refine ⟨?_, hb.1⟩
        have : ((pre ++ [u]).toArray ++ Array.replicate (k - 1) undef).getD t undef = u := by
          rw [ht, hi, Array.getD_eq_getD_getElem?, Array.getElem?_append_left (by simp)]
          simp
        rw [this]; exact r1
      · rw [if_neg ht]
        obtain ⟨h1, h2⟩ := hF t
        simp only [fD] at h1 h2
        refine ⟨?_, h2⟩
        have : ((pre ++ [u]).toArray ++ Array.replicate (k - 1) undef).getD t undef = (pre.toArray ++ Array.replicate k undef).getD t undef := by
          simp only [Array.getD_eq_getD_getElem?]
          rw [hi] at ht
          rcases Nat.lt_or_ge t pre.length with h | h
          · rw [Array.getElem?_append_left (by simp; omega), Array.getElem?_append_left (by simp; omega)]
            simp [h, List.getElem?_append_left]
          · have h' : pre.length + 1 ≤ t := by omega
            rw [Array.getElem?_append_right (by simp; omega), Array.getElem?_append_right (by simp; omega)]
            simp only [Array.getElem?_replicate]
            split <;> split <;> simp_all <;> rfl
        rw [this]; exact h1
theorem resX_ok {n0 N : Nat} {S : Nat → Prop} {M : Nm} {f : Nat → X} {h : HF} {a : Act} {w : World} (st : St n0 ng N S M f h a w) : ∀ (rs : List ResultVar) (xs : List X), resX P f h rs = some xs → ∃ us, (rs.mapM (Ab.res1 a.tmps)).run P w = .ok us w ∧ RXL M xs us ∧ bdL S xs
  | [], xs, hr => by
    simp only [resX, Option.some.injEq] at hr; subst hr
    exact ⟨[], by simp, by simp [RXL], by simp [bdL]⟩
  | .tmp t :: rs, xs, hr => by
    simp only [resX] at hr
    split at hr
    case h_2 => cases hr
    rename_i ys hys
    simp only [Option.some.injEq] at hr; subst hr
    obtain ⟨us, h1, h2, h3⟩ := resX_ok st rs ys hys
    exact ⟨a.tmps.getD t undef :: us, by simp only [List.mapM_cons, Sem.run_bind, Sem.run_pure, Result.andThen_ok, h1, Ab.res1], by simp only [RXL]; exact ⟨_, _, rfl, st.fr t, h2⟩, by simp only [bdL]; exact ⟨st.bd t, h3⟩⟩
  | .cell c t :: rs, xs, hr => by
    simp only [resX] at hr
    split at hr
    case h_2 => cases hr
    rename_i b off hc
    split at hr
    case h_2 => cases hr
    rename_i k hk
    split at hr
    case h_2 => cases hr
    rename_i g hg
    split at hr
    case h_2 => cases hr
    rename_i i hi
    split at hr
    case h_2 => cases hr
    rename_i hcond
    split at hr
    case h_2 => cases hr
    rename_i ys hys
    simp only [Option.some.injEq] at hr; subst hr
    obtain ⟨us, h1, h2, h3⟩ := resX_ok st rs ys hys
    rw [Bool.and_eq_true, Bool.or_eq_true] at hcond
    have hle := Nat.le_of_ble_eq_true hcond.2
    have hcond : g = true ∨ i.size = 1 := hcond.1.imp id Nat.eq_of_beq_eq_true
    obtain ⟨vs, e1, e2, e3, e4⟩ := brel_cells (st.rel.blk b k hk) (off := off) (n := i.size) (by omega)
    have hp := st.fr c; rw [hc] at hp; simp only [RX] at hp
    have hload := Ab.run_loadAt' hg hi hcond (w := w) _ vs e1 e2
    have hr' : (loadVar t ⟨M.φ b, off, none⟩).run P w = .ok (Ab.mkc g vs) w := by
      simpa only [Instr.loadAt, Instr.sureAddr, Sem.run_bind, Sem.run_pure, Result.andThen_ok] using hload
    refine ⟨Ab.mkc g vs :: us, by simp only [List.mapM_cons, Sem.run_bind, Sem.run_pure, Result.andThen_ok, h1, Ab.res1, hp, asAddr, hr'], ?_, ?_⟩
    · simp only [RXL]
      refine ⟨_, _, rfl, unc_ok e4 e3 ?_, h2⟩
      rcases hcond with hcond | hcond
      · exact .inl hcond
      · right; simp; omega
    · simp only [bdL]
      exact ⟨unc_bd (bdL_sub (st.rel.bd b k hk) fun c hc => List.mem_of_mem_drop (List.mem_of_mem_take hc)), h3⟩
theorem oneX_ok {M : Nm} {xs : List X} {us : List Value} (h : RXL M xs us) : RX M (oneX xs) (Ab.oneV us) := by
  match xs, us, h with
  | [], us, h => simp only [RXL] at h; subst h; simp only [oneX, RX]; exact ⟨#[], rfl, by simp [RXL]⟩
  | [p], us, h =>
    simp only [RXL] at h
    obtain ⟨u, us', rfl, h1, rfl⟩ := h
    exact h1
  | p :: q :: ps, us, h =>
    have h' := h
    simp only [RXL] at h
    obtain ⟨u, us', rfl, h1, v, us'', rfl, h2, h3⟩ := h
    simp only [oneX, RX]
    exact ⟨_, rfl, h'⟩
theorem oneX_bd {S : Nat → Prop} {xs : List X} (h : bdL S xs) : (oneX xs).bd S := by
  unfold oneX
  split
  · simpa [bdL] using h
  · simpa only [X.bd] using h
/-- no function is the one whose calls the machine answers itself -/
def noNG (P : Program) : Prop := ∀ (f : Nat) fn, P.funcs[f]? = some fn → (fn.name == "runtime.NumGoroutine") = false
theorem callF_ok (hN : noNG P) (horc : CallsOk P ng orc) {rec : Nat → Code → T X → T Blk → Nat → Option (EX × T X × T Blk × Nat)} (hrec : ∀ N c F H nb e F' H' nb', rec N c F H nb = some (e, F', H', nb') → CodeOk P ng N c F H nb e F' H' nb') : CallsOk P ng (callF rec P orc) := by
  intro g args H nb v H' nb' h
  unfold callF at h
  split at h
  · rename_i r hr
    simp only [Option.some.injEq] at h; subst h
    exact horc _ _ _ _ _ _ _ hr
  split at h
  case h_2 => cases h
  rename_i fn hfn
  split at h
  case h_2 => cases h
  rename_i c hbody
  split at h
  case h_2 => cases h
  rename_i hlen
  rw [Bool.and_eq_true] at hlen
  have hl1 := Nat.le_of_ble_eq_true hlen.1
  have hl2 := Nat.le_of_ble_eq_true hlen.2
  split at h
  · cases h
  · rename_i e F1 H1 nb1 hne hrun
    split at h
    case h_2 => cases h
    rename_i xs hxs
    simp only [Option.some.injEq, Prod.mk.injEq] at h
    obtain ⟨rfl, rfl, rfl⟩ := h
    obtain ⟨hle, hcode⟩ := hrec _ _ _ _ _ _ _ _ _ hrun
    refine ⟨hle, ⟨fn, hfn, by rw [hbody]; rfl, hN _ _ hfn⟩, fun n0 S M w us hr hi hg ha hb hfr => ?_⟩
    refine calls_of_wp hfn hbody ?_
    have hul := RXL_len ha
    have st : St n0 ng fn.ntmps S M (fD (argT 0 args .e)) (hD H) { tmps := us.toArray ++ Array.replicate (fn.ntmps - us.toArray.size) undef, defers := [] } w := by
      have := argT_ok (n0 := n0) args us 0 .e [] fn.ntmps ha hb rfl (by omega) (fun t => ⟨by simp [fD, T.get_e, RX, Array.getD_eq_getD_getElem?, Array.getElem?_replicate]; split <;> rfl, by simp [fD, T.get_e, X.bd]⟩) hl1
      simp only [List.nil_append, ← hul] at this
      refine ⟨hr, fun t => (by simpa using (this t).1), fun t => (this t).2, by simp; omega, rfl, hi, hg⟩
    refine wp_mono (hcode n0 S M _ w st hfr) fun e' a' w' ⟨he, M', hle', st', hbel⟩ => ?_
    have fin : a'.defers = [] ∧ ∃ v, (results fn a'.tmps).run P w' = .ok v w' ∧ ∃ u M'', Ending.returned v = .returned u ∧ Nm.le S M M'' ∧ XRel n0 (SI S nb nb1) M'' (hD H1) w' ∧ Below n0 w w' ∧ RX M'' (oneX xs) u ∧ (oneX xs).bd (SI S nb nb1) := by
      obtain ⟨vs, q1, q2, q3⟩ := resX_ok st' fn.results.toList xs hxs
      exact ⟨st'.defers, _, Ab.results_run' q1, _, M', rfl, hle', st'.rel, hbel, oneX_ok q2, oneX_bd q3⟩
    cases e with
    | nrm => subst he; exact fin
    | ret => subst he; exact fin
    | exit i => exact absurd rfl (hne i)
  · cases h
theorem ev_ok (hm : P.follows .mixedOrders = true) (hN : noNG P) (horc : CallsOk P ng orc) : ∀ n N c F H nb e F' H' nb', ev P ng orc n N c F H nb = some (e, F', H', nb') → CodeOk P ng N c F H nb e F' H' nb' := by
  intro n
  induction n using Nat.strongRecOn with
  | _ n ih =>
  intro N c F H nb e F' H' nb' h
  cases n with
  | zero => simp [ev] at h
  | succ n =>
  have ih1 := ih n (Nat.lt_succ_self n)
  cases c with
  | skip =>
    simp only [ev, Option.some.injEq, Prod.mk.injEq] at h
    obtain ⟨rfl, rfl, rfl, rfl⟩ := h
    exact ⟨Nat.le_refl _, fun n0 S M a w st _ => wp_skip ⟨rfl, M, Nm.le.refl _ _, st.monoS fun b hb => .inl hb, Below.refl _ _⟩⟩
  | exit id =>
    simp only [ev, Option.some.injEq, Prod.mk.injEq] at h
    obtain ⟨rfl, rfl, rfl, rfl⟩ := h
    exact ⟨Nat.le_refl _, fun n0 S M a w st _ => wp_exit ⟨rfl, M, Nm.le.refl _ _, st.monoS fun b hb => .inl hb, Below.refl _ _⟩⟩
  | ret =>
    simp only [ev, Option.some.injEq, Prod.mk.injEq] at h
    obtain ⟨rfl, rfl, rfl, rfl⟩ := h
    exact ⟨Nat.le_refl _, fun n0 S M a w st _ => wp_ret ⟨rfl, M, Nm.le.refl _ _, st.monoS fun b hb => .inl hb, Below.refl _ _⟩⟩
  | region id ops draw =>
    simp only [ev] at h
    split at h
    case h_2 => cases h
    rename_i F1 H1 nb1 hreg
    simp only [Option.some.injEq, Prod.mk.injEq] at h
    obtain ⟨rfl, rfl, rfl, rfl⟩ := h
    have hcall := callF_ok hN horc ih1
    unfold evReg at hreg
    split at hreg
    case h_2 => cases hreg
    rename_i xs hxs
    split at hreg
    case h_2 => cases hreg
    rename_i F2 H2 nb2 fts hops
    have hle := (evOps_ok (Q := fun _ _ _ => True) (n0 := 0) (w0 := default) hcall _ _ _ _ _ _ _ _ _ hxs hops).1
    cases draw with
    | false =>
      simp only [Option.some.injEq, Prod.mk.injEq] at hreg
      obtain ⟨rfl, rfl, rfl⟩ := hreg
      refine ⟨hle, fun n0 S M a w st hfr => wp_region_list ?_⟩
      have := (evOps_ok (Q := CPost n0 ng N S M w nb .nrm F2 H2 nb2) (n0 := n0) (w0 := w) hcall _ _ _ _ _ _ _ _ _ hxs hops).2 S M a w st hfr (Below.refl _ _) fun M' a' w' h1 h2 h3 => ⟨rfl, M', h1, h2, h3⟩
      simpa using this
    | true =>
      simp only at hreg
      split at hreg
      case h_2 => cases hreg
      rename_i hs
      split at hreg
      case h_2 => cases hreg
      rename_i hh
      simp only [Option.some.injEq, Prod.mk.injEq] at hreg
      obtain ⟨rfl, rfl, rfl⟩ := hreg
      exact ⟨hle, fun n0 S M a w st hfr => evD_ok hm hcall hxs hops hs hh st hfr⟩
  | seq x y =>
    simp only [ev] at h
    split at h
    · rename_i F1 H1 nb1 hx
      obtain ⟨le1, w1⟩ := ih1 _ _ _ _ _ _ _ _ _ hx
      obtain ⟨le2, w2⟩ := ih1 _ _ _ _ _ _ _ _ _ h
      refine ⟨Nat.le_trans le1 le2, fun n0 S M a w st hfr => wp_seq (wp_mono (w1 n0 S M a w st fun b h1 h2 => hfr b h1 (by omega)) fun e1 a1 w' ⟨he, M1, k1, k2, k3⟩ => ?_)⟩
      subst he
      refine wp_mono (w2 n0 _ M1 a1 w' k2 fun b h1 h2 hS => ?_) fun e2 a2 w'' ⟨he2, M2, q1, q2, q3⟩ => ?_
      · rcases hS with hS | ⟨p, q⟩
        · exact hfr b (by omega) h2 hS
        · omega
      · exact ⟨he2, M2, k1.trans q1 fun b hb => .inl hb, q2.monoS (SI_trans le1 le2), k3.trans q3⟩
    · rename_i hne
      obtain ⟨le1, w1⟩ := ih1 _ _ _ _ _ _ _ _ _ h
      refine ⟨le1, fun n0 S M a w st hfr => wp_seq (wp_mono (w1 n0 S M a w st hfr) fun e1 a1 w' hq => ?_)⟩
      obtain ⟨he, hq2⟩ := hq
      cases e with
      | nrm => exact absurd h (hne _ _ _)
      | ret => subst he; exact ⟨rfl, hq2⟩
      | exit i => subst he; exact ⟨rfl, hq2⟩
  | cond x y z =>
    simp only [ev] at h
    split at h
    · rename_i hx
      obtain ⟨le1, w1⟩ := ih1 _ _ _ _ _ _ _ _ _ h
      refine ⟨le1, fun n0 S M a w st hfr => ?_⟩
      have hv := st.ev x; rw [hx] at hv; simp only [RX] at hv
      exact wp_cond_split hv (fun _ => w1 n0 S M a w st hfr) (fun hb => by cases hb)
    · rename_i hx
      obtain ⟨le1, w1⟩ := ih1 _ _ _ _ _ _ _ _ _ h
      refine ⟨le1, fun n0 S M a w st hfr => ?_⟩
      have hv := st.ev x; rw [hx] at hv; simp only [RX] at hv
      exact wp_cond_split hv (fun hb => by cases hb) (fun _ => w1 n0 S M a w st hfr)
    · cases h
  | block id x =>
    simp only [ev] at h
    split at h
    · rename_i i F1 H1 nb1 hx
      obtain ⟨le1, w1⟩ := ih1 _ _ _ _ _ _ _ _ _ hx
      split at h
      · rename_i hi
        have hi := beq_t.1 hi
        simp only [Option.some.injEq, Prod.mk.injEq] at h
        obtain ⟨rfl, rfl, rfl, rfl⟩ := h
        refine ⟨le1, fun n0 S M a w st hfr => wp_block (wp_mono (w1 n0 S M a w st hfr) fun e1 a1 w' ⟨he, hq2⟩ => ?_)⟩
        subst he
        simp only [EX.ex, Exit.inBlock, hi, if_true]
        exact ⟨rfl, hq2⟩
      · rename_i hi
        have hi := beq_f.1 hi
        simp only [Option.some.injEq, Prod.mk.injEq] at h
        obtain ⟨rfl, rfl, rfl, rfl⟩ := h
        refine ⟨le1, fun n0 S M a w st hfr => wp_block (wp_mono (w1 n0 S M a w st hfr) fun e1 a1 w' ⟨he, hq2⟩ => ?_)⟩
        subst he
        simp only [EX.ex, Exit.inBlock, if_neg hi]
        exact ⟨rfl, hq2⟩
    · rename_i hne
      obtain ⟨le1, w1⟩ := ih1 _ _ _ _ _ _ _ _ _ h
      refine ⟨le1, fun n0 S M a w st hfr => wp_block (wp_mono (w1 n0 S M a w st hfr) fun e1 a1 w' ⟨he, hq2⟩ => ?_)⟩
      cases e with
      | nrm => subst he; exact ⟨rfl, hq2⟩
      | ret => subst he; exact ⟨rfl, hq2⟩
      | exit i => exact absurd h (hne _ _ _ _)
  | loop x =>
    -- the names only grow
    have key : ∀ k, k ≤ n + 1 → ∀ F1 H1 nb1, ev P ng orc k N (.loop x) F1 H1 nb1 = some (e, F', H', nb') → nb1 ≤ nb' := by
      intro k
      induction k with
      | zero => intro _ F1 H1 nb1 h; simp [ev] at h
      | succ k ihk =>
        intro hk F1 H1 nb1 h
        simp only [ev] at h
        split at h
        · rename_i F2 H2 nb2 hx
          exact Nat.le_trans (ih k (by omega) _ _ _ _ _ _ _ _ _ hx).1 (ihk (by omega) _ _ _ h)
        · exact (ih k (by omega) _ _ _ _ _ _ _ _ _ h).1
    have hle := key (n + 1) (Nat.le_refl _) F H nb h
    refine ⟨hle, fun n0 S M a w st hfr => ?_⟩
    refine wp_loop_ghost (fun k a' w' => k ≤ n + 1 ∧ ∃ M1 F1 H1 nb1, ev P ng orc k N (.loop x) F1 H1 nb1 = some (e, F', H', nb') ∧ nb ≤ nb1 ∧ Nm.le S M M1 ∧ St n0 ng N (SI S nb nb1) M1 (fD F1) (hD H1) a' w' ∧ Below n0 w w') (n + 1)
      ⟨Nat.le_refl _, M, F, H, nb, h, Nat.le_refl _, Nm.le.refl _ _, st.monoS fun b hb => .inl hb, Below.refl _ _⟩ ?_
    rintro k a1 w1 ⟨hk, M1, F1, H1, nb1, h1, hnb, hle1, st1, hb1⟩
    cases k with
    | zero => simp [ev] at h1
    | succ k =>
    have hnb' := key (k + 1) hk F1 H1 nb1 h1
    simp only [ev] at h1
    have fresh : ∀ m, m ≤ nb' → ∀ b, nb1 ≤ b → b < m → ¬ SI S nb nb1 b := fun m hm b p q hS => by
      rcases hS with hS | ⟨p2, q2⟩
      · exact hfr b (by omega) (by omega) hS
      · omega
    split at h1
    · rename_i F2 H2 nb2 hx
      obtain ⟨le2, c2⟩ := ih k (by omega) _ _ _ _ _ _ _ _ _ hx
      have hnb2 := key k (by omega) F2 H2 nb2 h1
      refine wp_mono (c2 n0 _ M1 a1 w1 st1 (fresh nb2 hnb2)) fun e1 a2 w2 ⟨he, M2, q1, q2, q3⟩ => ?_
      subst he
      exact ⟨k, Nat.lt_succ_self k, by omega, M2, F2, H2, nb2, h1, by omega, hle1.trans q1 fun b hb => .inl hb, q2.monoS (SI_trans hnb le2), hb1.trans q3⟩
    · rename_i hne
      obtain ⟨le2, c2⟩ := ih k (by omega) _ _ _ _ _ _ _ _ _ h1
      refine wp_mono (c2 n0 _ M1 a1 w1 st1 (fresh nb' (Nat.le_refl _))) fun e1 a2 w2 ⟨he, M2, q1, q2, q3⟩ => ?_
      have fin : CPost n0 ng N S M w nb e F' H' nb' e.ex a2 w2 := ⟨rfl, M2, hle1.trans q1 fun b hb => .inl hb, q2.monoS (SI_trans hnb le2), hb1.trans q3⟩
      cases e with
      | nrm => exact absurd h1 (hne _ _ _)
      | ret => subst he; exact fin
      | exit i => subst he; exact fin
  | _ => simp [ev] at h
end
end Go.Ev
