/- A call by its contract; one operation in the machine's walk. -/
import Derived.Test.YtgphapkpoamcgaaBb12
set_option linter.unusedVariables false
set_option linter.unusedSimpArgs false
namespace Go.Ab
open Go.RowKit

mutual
/-- no memory stands behind it -/
def PV.scal : PV → Bool
  | .lit _ => true
  | .agg ps => PV.scalL ps
  | .tup ps => PV.scalL ps
  | .fn _ ps => PV.scalL ps
  | .rptr _ => false
  | .list _ _ => false
def PV.scalL : List PV → Bool
  | [] => true
  | p :: ps => PV.scal p && PV.scalL ps
end
mutual
theorem RP_scal {I J : Imm} : ∀ (p : PV) (u : Value), p.scal = true → RP J p u → RP I p u
  | .lit x, u, _, r => by simpa only [RP] using r
  | .agg ps, u, hs, r => by
    simp only [RP, PV.scal] at r hs ⊢
    obtain ⟨us, e, h1, r⟩ := r
    exact ⟨us, e, h1, RPL_scal ps _ hs r⟩
  | .tup ps, u, hs, r => by
    simp only [RP, PV.scal] at r hs ⊢
    obtain ⟨us, e, r⟩ := r
    exact ⟨us, e, RPL_scal ps _ hs r⟩
  | .fn f ps, u, hs, r => by
    simp only [RP, PV.scal] at r hs ⊢
    obtain ⟨us, e, r⟩ := r
    exact ⟨us, e, RPL_scal ps _ hs r⟩
  | .rptr _, _, hs, _ => by simp [PV.scal] at hs
  | .list _ _, _, hs, _ => by simp [PV.scal] at hs
theorem RPL_scal {I J : Imm} : ∀ (ps : List PV) (us : List Value), PV.scalL ps = true → RPL J ps us → RPL I ps us
  | [], us, _, r => by simpa only [RPL] using r
  | p :: ps, us, hs, r => by
    simp only [RPL, PV.scalL, Bool.and_eq_true] at r hs ⊢
    obtain ⟨u, us', e, r1, r2⟩ := r
    exact ⟨u, us', e, RP_scal p u hs.1 r1, RPL_scal ps us' hs.2 r2⟩
end

mutual
theorem Vw_congr {h h2 : HF} {B : List Nat} (hh : ∀ b ∈ B, h2 b = h b) : ∀ {v : V} {p : PV}, Vw h B v p → Vw h2 B v p
  | _, _, .pv p => .pv p
  | _, _, .weak p q hw => .weak p q hw
  | _, _, .ptr b i off k cs ps hb hk hcs hl => .ptr b i off k cs ps hb ((hh b hb).trans hk) hcs (VwL_congr hh hl)
  | _, _, .row b n fl k ps hb hk hn hl => .row b n fl k ps hb ((hh b hb).trans hk) hn (VwE_congr hh hl)
  | _, _, .agg cs ps hl => .agg cs ps (VwL_congr hh hl)
  | _, _, .tup cs ps hl => .tup cs ps (VwL_congr hh hl)
  | _, _, .fn f cs ps hl => .fn f cs ps (VwL_congr hh hl)
theorem VwL_congr {h h2 : HF} {B : List Nat} (hh : ∀ b ∈ B, h2 b = h b) : ∀ {v : List V} {p : List PV}, VwL h B v p → VwL h2 B v p
  | _, _, .nil => .nil
  | _, _, .cons c cs p ps h1 h2 => .cons c cs p ps (Vw_congr hh h1) (VwL_congr hh h2)
theorem VwE_congr {h h2 : HF} {B : List Nat} (hh : ∀ b ∈ B, h2 b = h b) : ∀ {sz : Nat} {v : List (List V)} {p : List PV}, VwE h B sz v p → VwE h2 B sz v p
  | _, _, _, .nil sz => .nil sz
  | _, _, _, .cons sz c cs p ps hs h1 h2 => .cons sz c cs p ps hs (VwL_congr hh h1) (VwE_congr hh h2)
end

/-- the blocks of B are written no more -/
def frz (h : HF) (B : List Nat) : List (Nat × Option Blk) := B.map fun b => (b, (h b).map fun k => { k with ro := true })
theorem updD_frz (h0 : HF) : ∀ (B : List Nat) (h : HF) (b : Nat), (∀ b, b ∉ B → True) → updD h (frz h0 B) b = if b ∈ B then (h0 b).map fun k => { k with ro := true } else h b
  | [], h, b, _ => by simp [frz, updD]
  | c :: B, h, b, _ => by
    have ih := updD_frz h0 B (upd h c ((h0 c).map fun k => { k with ro := true })) b (fun _ _ => trivial)
    simp only [frz, List.map_cons, updD] at ih ⊢
    rw [ih]
    by_cases hb : b ∈ B
    · simp [hb]
    · by_cases hc : b = c
      · subst hc; simp [hb, upd]
      · simp [hb, hc, upd]

/-- a call: what it hands back, the blocks it looks into, the blocks that turn -/
def CallOk (P : Program) (nb : Nat) (fv : V) (vs : List V) (h : HF) (v : V) (rd : List Nat) (δ : List (Nat × Option Blk)) : Prop :=
  ∀ S G h2 w u us, Rel S G h2 w → (∀ b ∈ rd, h2 b = h b) → ¬ S nb → R G fv u → RL G vs us → fv.bd S → V.bdL S vs →
    ∃ f caps, u = .func (.func f) #[] caps ∧ Enters P f ∧ Calls P f (us.toArray ++ caps) w fun e w' =>
      ∃ u' G', e = .returned u' ∧ Gh.le S G G' ∧ Rel (SD S δ) G' (updD h2 δ) w' ∧ Tr G h2 w G' (updD h2 δ) w' ∧ R G' v u' ∧ v.bd (SD S δ)
def ACall (P : Program) (nb : Nat) (fv : V) (vs : List V) (h : HF) (K : Kont) : Prop := ∃ v rd δ, K v rd δ ∧ (∀ b k, (b, k) ∈ δ → b = nb ∨ b ∈ rd) ∧ CallOk P nb fv vs h v rd δ

theorem RPL_append {I : Imm} : ∀ {ps qs : List PV} {us vs : List Value}, RPL I ps us → RPL I qs vs → RPL I (ps ++ qs) (us ++ vs)
  | [], qs, us, vs, h1, h2 => by simp only [RPL] at h1; subst h1; simpa using h2
  | p :: ps, qs, us, vs, h1, h2 => by
    simp only [RPL] at h1
    obtain ⟨u, us', rfl, r1, r2⟩ := h1
    simp only [List.cons_append, RPL]
    exact ⟨u, us' ++ vs, rfl, r1, RPL_append r2 h2⟩

theorem Rel.keep {S G h w w'} (r : Rel S G h w) (hb : Below w.heap.size w w') : Rel S G h w' :=
  ⟨fun a v e => by rw [World.cell?_of_block (w := w) (hb.block _ (r.imm_lt e))]; exact r.imm a v e,
   fun b k e => by obtain ⟨arr, e1, e2⟩ := r.blk b k e; exact ⟨arr, by rw [hb.block _ (r.lt e)]; exact e1, e2⟩, r.inj, r.sep, r.live, r.bd⟩

theorem CallOk.pure {P : Program} {nb : Nat} {fv : V} {vs : List V} {h : HF} {f : FuncId} {args caps : List PV} {r : PV} (B : List Nat) (hf : Vw h B fv (.fn f caps)) (hv : VwL h B vs args) (hc : PCall P f (args ++ caps) r) :
    CallOk P nb fv vs h (.pv r) B (if r.scal then [] else frz h B) := by
  intro S G h2 w u us rel hrd _ hru hrs hbf hbs
  have hf' := Vw_congr hrd hf
  have hv' := VwL_congr hrd hv
  have hu := Vw_R rel hf' hru
  have hus := VwL_R rel hv' hrs
  simp only [RP] at hu
  obtain ⟨cs, rfl, hcs⟩ := hu
  refine ⟨f, cs, rfl, hc.1, ?_⟩
  have := hc.2 (lend G h2 B w) w (us ++ cs.toList) (lend_ok rel) (RPL_append hus hcs)
  rw [show us.toArray ++ cs = (us ++ cs.toList).toArray by simp]
  refine this.mono fun e w' ⟨u', J, he, hIJ, hnew, hJ, hr, hbel⟩ => ?_
  have hold : ∀ k, k < w.heap.size → w'.heap[k]? = w.heap[k]? := hbel.block
  by_cases hs : r.scal = true
  · rw [if_pos hs]
    have rel' := rel.keep hbel
    refine ⟨u', G, he, Gh.le.refl S G, rel'.monoS fun b hb => .inl hb, ⟨hbel.os, hbel.tape, hbel.output, hbel.size, Imm.le.refl _, fun k hk _ => hold k hk, fun b blk e hro _ => ⟨b, blk, e, hro, rfl⟩, fun b blk e _ => ⟨b, blk, e, rfl⟩, fun a v e _ => .inl e⟩, ?_, by simp [V.bd]⟩
    simp only [R]; exact RP_scal r u' hs hr
  · rw [if_neg hs]
    -- the blocks that were lent are written no more
    have hupd : ∀ b, updD h2 (frz h B) b = if b ∈ B then (h2 b).map fun k => { k with ro := true } else h2 b := fun b => by
      rw [updD_frz h B h2 b (fun _ _ => trivial)]
      by_cases hb : b ∈ B
      · rw [if_pos hb, if_pos hb, hrd b hb]
      · rw [if_neg hb, if_neg hb]
    have get : ∀ b k, updD h2 (frz h B) b = some k → ∃ k0, h2 b = some k0 ∧ ((b ∈ B ∧ k = { k0 with ro := true }) ∨ (b ∉ B ∧ k = k0)) := fun b k e => by
      rw [hupd] at e
      split at e
      · rename_i hb
        obtain ⟨k0, e1, e2⟩ := Option.map_eq_some_iff.1 e
        exact ⟨k0, e1, .inl ⟨hb, e2.symm⟩⟩
      · rename_i hb
        exact ⟨k, e, .inr ⟨hb, rfl⟩⟩
    let G' : Gh := { G with I := J }
    have hle : Gh.le S G G' := ⟨fun _ _ => rfl, fun _ _ => rfl, fun _ _ => rfl, lend_le.trans hIJ⟩
    have hS : ∀ b, S b → SD S (frz h B) b := fun b hb => .inl hb
    refine ⟨u', G', he, hle, ⟨hJ, fun b k e => ?_, fun b b' k k' e e' eφ => ?_, fun b k e hro a v ea => ?_, fun b k e => ?_, fun b k e => ?_⟩,
      ⟨hbel.os, hbel.tape, hbel.output, hbel.size, lend_le.trans hIJ, fun k hk _ => hold k hk, fun b k e hro _ => ?_, fun b k e _ => ?_, fun a v e hlt => ?_⟩, by simp only [R]; exact hr, by simp [V.bd]⟩
    · obtain ⟨k0, e0, hk⟩ := get b k e
      obtain ⟨arr, e1, rr⟩ := rel.blk b k0 e0
      have e1' : w'.heap[G'.φ b]? = some (.cells arr k0.ty (0, 0)) := by rw [hold _ (rel.lt e0)]; exact e1
      have rr' := rr.mono hle (rel.live b k0 e0) (rel.bd b k0 e0)
      rcases hk with ⟨hb, rfl⟩ | ⟨hb, rfl⟩
      · refine ⟨arr, e1', rr'.sz, rr'.size, rr'.fits, rr'.len, rr'.cell, fun _ i hi => ?_, rr'.tag⟩
        have h1 : lend G h2 B w ⟨G.φ b, i, none⟩ = arr[i]? := by rw [lend_block rel hb e0 hi, cell_arr e1]
        have hlt : i < arr.size := Nat.lt_of_lt_of_le hi rr.fits
        rw [Array.getElem?_eq_getElem hlt] at h1 ⊢
        exact hIJ _ _ h1
      · exact ⟨arr, e1', rr'⟩
    · obtain ⟨k0, e0, _⟩ := get b k e
      obtain ⟨k0', e0', _⟩ := get b' k' e'
      exact rel.inj b b' k0 k0' e0 e0' eφ
    · obtain ⟨k0, e0, hk⟩ := get b k e
      rcases hk with ⟨hb, rfl⟩ | ⟨hb, rfl⟩
      · simp at hro
      · by_cases hlt : a.block < w.heap.size
        · rcases lend_spec (hnew a v ea hlt) with h1 | ⟨b', k', hb', hk', h1⟩
          · exact rel.sep b k e0 hro a v h1
          · rw [h1]
            intro hφ
            exact hb (rel.inj b' b k' k hk' e0 hφ ▸ hb')
        · have := rel.lt e0
          show a.block ≠ G.φ b
          omega
    · obtain ⟨k0, e0, _⟩ := get b k e
      exact hS b (rel.live b k0 e0)
    · obtain ⟨k0, e0, hk⟩ := get b k e
      have := rel.bd b k0 e0
      rcases hk with ⟨_, rfl⟩ | ⟨_, rfl⟩ <;> exact fun cs hcs => V.bdL_mono hS cs (this cs hcs)
    · obtain ⟨k0, e0, hk⟩ := get b k e
      rcases hk with ⟨_, rfl⟩ | ⟨_, rfl⟩
      · simp at hro
      · exact ⟨b, k, e0, hro, rfl⟩
    · obtain ⟨k0, e0, _⟩ := get b k e
      exact ⟨b, k0, e0, rfl⟩
    · rcases lend_spec (hnew a v e hlt) with h1 | ⟨b', k', _, hk', h1⟩
      · exact .inl h1
      · exact .inr ⟨b', k', hk', h1.symm⟩

theorem ACall.pure {P : Program} {nb : Nat} {fv : V} {vs : List V} {h : HF} {K : Kont} {f : FuncId} {args caps : List PV} {r : PV} (B : List Nat) (hf : Vw h B fv (.fn f caps)) (hv : VwL h B vs args) (hc : PCall P f (args ++ caps) r)
    (hK : K (.pv r) B (if r.scal then [] else frz h B)) : ACall P nb fv vs h K :=
  ⟨_, _, _, hK, fun b k hb => by
    right
    split at hb
    · cases hb
    · obtain ⟨c, hc, he⟩ := List.mem_map.1 hb
      simp only [Prod.mk.injEq] at he
      rw [← he.1]; exact hc, CallOk.pure B hf hv hc⟩

/-- an operation, calls too -/
def AX (P : Program) (o : AO) (nb : Nat) (f : FV) (h : HF) (K : Kont) : Prop :=
  match o with
  | .call fx args => ACall P nb (ev f fx) (args.map (ev f)) h K
  | o => AS o nb f h K

/-- one operation in the walk, from every state that agrees with this one where it looks -/
def Stp (P : Program) (co : Oper) (nb : Nat) (f : FV) (h : HF) (v : V) (rd : List Nat) (δ : List (Nat × Option Blk)) : Prop :=
  ∀ N S G f2 h2 a w, St N S G f2 h2 a w → (∀ x ∈ co.op.operands.toList, ev f2 x = ev f x) → (∀ b ∈ rd, h2 b = h b) → ¬ S nb →
    ∀ (Kn : Act → World → Prop) (Q : Exit → Act → World → Prop),
      (∀ u w' G', Gh.le S G G' → Rel (SD S δ) G' (updD h2 δ) w' → Tr G h2 w G' (updD h2 δ) w' → R G' v u → v.bd (SD S δ) → Kn (a.put co.dst u) w') → co.wp P a w Kn Q

theorem AX_sound {P : Program} {co : Oper} {o : AO} {nb : Nat} {f : FV} {h : HF} {K : Kont} (hc : compOp P co.op = some o) (hA : AX P o nb f h K) :
    ∃ v rd δ, K v rd δ ∧ (∀ b k, (b, k) ∈ δ → b = nb ∨ b ∈ rd) ∧ Stp P co nb f h v rd δ := by
  have fin : ∀ (hS : Snd P co.op nb f h K), ∃ v rd δ, K v rd δ ∧ (∀ b k, (b, k) ∈ δ → b = nb ∨ b ∈ rd) ∧ Stp P co nb f h v rd δ := fun ⟨v, rd, δ, hK, hδ, hs⟩ =>
    ⟨v, rd, δ, hK, hδ, fun N S G f2 h2 a w st hx hr hn Kn Q hk => by
      obtain ⟨u, w', G', hres, h1, h3, h4, h5, h6⟩ := hs N S G f2 h2 a w st hx hr hn co rfl
      unfold Oper.wp
      rcases hres with hres | ⟨hres, rfl⟩
      · rw [hres]; exact hk u w' G' h1 h3 h4 h5 h6
      · rw [hres]; exact hk undef w' G' h1 h3 h4 h5 h6⟩
  cases o with
  | call fx args =>
    simp only [AX] at hA
    obtain ⟨v, rd, δ, hK, hδ, hcall⟩ := hA
    refine ⟨v, rd, δ, hK, hδ, fun N S G f2 h2 a w st hx hr hn Kn Q hk => ?_⟩
    -- the machine's operation
    cases hop : co.op with
    | call c =>
      rw [hop] at hc
      obtain ⟨callee, cargs, tys⟩ := c
      have hcal : callee = .value fx ∧ cargs.toList = args := by
        cases callee with
        | value g => simp only [compOp, Option.some.injEq, AO.call.injEq] at hc; exact ⟨by rw [hc.1], hc.2⟩
        | invoke r m => simp [compOp] at hc
        | builtin b =>
          simp only [compOp] at hc
          repeat' split at hc
          all_goals first | (cases hc; done) | (simp at hc; done) | (simp_all; done)
      obtain ⟨rfl, rfl⟩ := hcal
      have ex : ev f2 fx = ev f fx := hx fx (by simp [hop, Op.operands, Call.operands])
      have hfx := st.ev fx; rw [ex] at hfx
      have hbx := st.evbd fx; rw [ex] at hbx
      obtain ⟨hargs, hbargs⟩ := RL_map_ev (f := f) st cargs.toList fun x hx' => hx x (by simp [hop, Op.operands, Call.operands]; right; simpa using hx')
      obtain ⟨g, caps, hg, ⟨fn, hfn, hbody, hname⟩, hcalls⟩ := hcall S G h2 w _ _ st.rel hr hn hfx hargs hbx hbargs
      unfold Oper.wp
      have hrun : (execOp a.eval co).run P w = .ok (.enter g (cargs.map a.eval ++ caps)) w := by
        obtain ⟨body, hb⟩ := Option.isSome_iff_exists.1 hbody
        have hname' : ¬ fn.name = "runtime.NumGoroutine" := by simpa using hname
        simp [execOp, hop, resolve, Deferred.ofValue, hg, invoke, callFunc, hfn, hb, hname']
      rw [hrun]
      simp only [Oper.upon]
      have : (List.map a.eval cargs.toList).toArray ++ caps = cargs.map a.eval ++ caps := by rw [← Array.toList_map]
      rw [this] at hcalls
      refine hcalls.mono fun e w' ⟨u', G', he, h1, h3, h4, h5, h6⟩ => ?_
      subst he
      exact hk u' w' G' h1 h3 h4 h5 h6
    | _ =>
      rw [hop] at hc
      (try simp only [compOp] at hc)
      repeat' split at hc
      all_goals first | (cases hc; done) | (simp at hc; done) | (simp_all; done)
  | _ => exact fin (AS_sound hc hA)
end Go.Ab
