/- Regions that draw their order. -/
import Derived.Test.YtgphapkpoamcgaaBb15
set_option linter.unusedVariables false
set_option linter.unusedSimpArgs false
namespace Go.Ab
open Go.RowKit

/-- operations in the order of the text, what each touches written down -/
def aopsD (P : Program) (base : Nat) : Nat → List AOp → List (List Nat) → Fr → Hp → List Foot → (List Foot → Fr → Hp → Prop) → Prop
  | _, [], _, fr, H, tr, K => K tr fr H
  | i, o :: os, lks, fr, H, tr, K => gsel o.g (get fr)
      (AX P o.op (base + i) (get fr) (hget H) fun v rd δ => aopsD P base (i + 1) os lks.tail (put o.dst v fr) (updL H δ) (tr ++ [⟨lks.headD [], o.dst, rd, δ.map (·.1)⟩]) K)
      (aopsD P base (i + 1) os lks.tail (put o.dst (lv undef) fr) H (tr ++ [⟨lks.headD [], o.dst, [], []⟩]) K)

theorem gsel_split {g : Option (Nat × Bool)} {f : FV} {A B : Prop} (h : gsel g f A B) : (A ∧ gsel g f True False) ∨ (B ∧ gsel g f False True) := by
  unfold gsel at *
  cases g with
  | none => exact .inl ⟨h, trivial⟩
  | some x =>
    obtain ⟨s, want⟩ := x
    simp only at h ⊢
    split at h
    · rename_i b hb
      split at h
      · rename_i hw; exact .inl ⟨h, by simp [hw]⟩
      · rename_i hw; exact .inr ⟨h, by simp [hw]⟩
    · exact .inr ⟨h, trivial⟩
    · exact h.elim
theorem gsel_congr {g : Option (Nat × Bool)} {f f' : FV} {A B : Prop} (he : ∀ s want, g = some (s, want) → f' s = f s) (h : gsel g f A B) : gsel g f' A B := by
  unfold gsel at *
  cases g with
  | none => exact h
  | some x => obtain ⟨s, want⟩ := x; simp only at h ⊢; rw [he s want rfl]; exact h

/-- what the walk in the order of the text has found -/
structure Trc (P : Program) (N base i : Nat) (ops l : List Oper) (lks : List (List Nat)) (fr : Fr) (H : Hp) (vs : Nat → V) (rds : Nat → List Nat) (δs : Nat → List (Nat × Option Blk)) (wts : Nat → Bool) (FS : Nat → Fr) (HS : Nat → Hp) (fs : List Foot) : Prop where
  f0 : FS 0 = fr
  h0 : HS 0 = H
  len : fs.length = l.length
  at_ : ∀ (m : Nat) o, l[m]? = some o → ∃ ao, compOper P N ops o = some ao ∧ fs[m]? = some ⟨lks.getD m [], o.dst, rds m, (δs m).map (·.1)⟩ ∧ FS (m + 1) = put o.dst (vs m) (FS m) ∧ HS (m + 1) = updL (HS m) (δs m) ∧
    gsel ao.g (get (FS m)) (wts m = true) (wts m = false) ∧ (wts m = true → Stp P o (base + (i + m)) (get (FS m)) (hget (HS m)) (vs m) (rds m) (δs m)) ∧ (wts m = false → vs m = lv undef ∧ rds m = [] ∧ δs m = [])

theorem trace {P : Program} {N base : Nat} {ops : List Oper} {K : List Foot → Fr → Hp → Prop} : ∀ (l : List Oper) (aos : List AOp) (lks : List (List Nat)) (fr : Fr) (H : Hp) (i : Nat) (tr : List Foot), compOps P N ops l = some aos →
    aopsD P base i aos lks fr H tr K → ∃ vs rds δs wts FS HS fs, Trc P N base i ops l lks fr H vs rds δs wts FS HS fs ∧ K (tr ++ fs) (FS l.length) (HS l.length)
  | [], aos, lks, fr, H, i, tr, hc, hA => by
    simp only [compOps, Option.some.injEq] at hc; subst hc
    exact ⟨fun _ => .junk, fun _ => [], fun _ => [], fun _ => false, fun _ => fr, fun _ => H, [], ⟨rfl, rfl, rfl, by simp⟩, by simpa [aopsD] using hA⟩
  | o :: l, aos, lks, fr, H, i, tr, hc, hA => by
    simp only [compOps] at hc
    split at hc
    case h_2 => cases hc
    rename_i ao aos' h1 h2
    simp only [Option.some.injEq] at hc; subst hc
    obtain ⟨hop, hdst, hd, _⟩ := compOper_spec h1
    simp only [aopsD] at hA
    have fin : ∀ (v : V) (rd : List Nat) (δ : List (Nat × Option Blk)) (wt : Bool), aopsD P base (i + 1) aos' lks.tail (put ao.dst v fr) (updL H δ) (tr ++ [⟨lks.headD [], ao.dst, rd, δ.map (·.1)⟩]) K →
        gsel ao.g (get fr) (wt = true) (wt = false) → (wt = true → Stp P o (base + i) (get fr) (hget H) v rd δ) → (wt = false → v = lv undef ∧ rd = [] ∧ δ = []) →
        ∃ vs rds δs wts FS HS fs, Trc P N base i ops (o :: l) lks fr H vs rds δs wts FS HS fs ∧ K (tr ++ fs) (FS (o :: l).length) (HS (o :: l).length) := by
      intro v rd δ wt hA' hg hs hu
      obtain ⟨vs, rds, δs, wts, FS, HS, fs, ht, hK⟩ := trace l aos' lks.tail _ _ (i + 1) _ h2 hA'
      refine ⟨fun m => m.casesOn v vs, fun m => m.casesOn rd rds, fun m => m.casesOn δ δs, fun m => m.casesOn wt wts, fun m => m.casesOn fr FS, fun m => m.casesOn H HS, ⟨lks.headD [], ao.dst, rd, δ.map (·.1)⟩ :: fs, ⟨rfl, rfl, by simp [ht.len], fun m o' ho => ?_⟩, by simpa using hK⟩
      cases m with
      | zero =>
        simp only [List.getElem?_cons_zero, Option.some.injEq] at ho; subst ho
        refine ⟨ao, h1, ?_, ?_, ?_, hg, (fun hw => by have := hs hw; rw [show base + (i + 0) = base + i by omega]; exact this), hu⟩
        · simp only [List.getElem?_cons_zero, hdst]
          cases lks <;> rfl
        · show FS 0 = put o.dst v fr
          rw [ht.f0, hdst]
        · show HS 0 = updL H δ
          rw [ht.h0]
      | succ m =>
        simp only [List.getElem?_cons_succ] at ho
        obtain ⟨ao', q1, q2, q3, q4, q5, q6, q7⟩ := ht.at_ m o' ho
        refine ⟨ao', q1, ?_, q3, q4, q5, fun hw => ?_, q7⟩
        · simp only [List.getElem?_cons_succ]
          rw [q2]
          cases lks <;> simp
        · have := q6 hw
          rw [show base + (i + 1 + m) = base + (i + (m + 1)) by omega] at this
          exact this
    rcases gsel_split hA with ⟨hA, hg⟩ | ⟨hA, hg⟩
    · obtain ⟨v, rd, δ, hK, hδ, hstp⟩ := AX_sound hop hA
      exact fin v rd δ true hK (by simpa using hg) (fun _ => hstp) (by simp)
    · exact fin (lv undef) [] [] false (by simpa [updL] using hA) (by simpa using hg) (by simp) fun _ => ⟨rfl, rfl, rfl⟩

/-! ### states as places -/
def staOf (f : FV) (h : HF) : Sta
  | .slot t => .v (f t)
  | .blk b => .k (h b)
def fOf (σ : Sta) : FV := fun t => match σ (.slot t) with
  | .v x => x
  | .k _ => .junk
def hOf (σ : Sta) : HF := fun b => match σ (.blk b) with
  | .k x => x
  | .v _ => none
def wrOf (d : Option Nat) (v : V) (δ : List (Nat × Option Blk)) : Wr :=
  (match d with | some d => [(Loc.slot d, Cnt.v v)] | none => []) ++ δ.map fun p => (Loc.blk p.1, Cnt.k p.2)
theorem wkeys_wrOf (d : Option Nat) (v : V) (δ : List (Nat × Option Blk)) (lk rd : List Nat) (l : Loc) : l ∈ wkeys (wrOf d v δ) ↔ l ∈ (⟨lk, d, rd, δ.map (·.1)⟩ : Foot).keys := by
  cases d <;> simp [wkeys, wrOf, Foot.keys]
/-- what it is: slots hold values, blocks hold blocks -/
def Shp (σ : Sta) : Prop := (∀ t, ∃ x, σ (.slot t) = .v x) ∧ ∀ b, ∃ x, σ (.blk b) = .k x
theorem wapp_blks (δ : List (Nat × Option Blk)) : ∀ (σ : Sta) (f : FV) (h : HF), σ = staOf f h → wapp σ (δ.map fun p => (Loc.blk p.1, Cnt.k p.2)) = staOf f (updD h δ) := by
  induction δ with
  | nil => intro σ f h e; simpa [wapp, updD] using e
  | cons p δ ih =>
    intro σ f h e
    obtain ⟨b, k⟩ := p
    simp only [List.map_cons, wapp, updD]
    refine ih _ f (upd h b k) ?_
    funext x
    subst e
    cases x with
    | slot t => simp [staOf]
    | blk c =>
      by_cases hc : c = b
      · subst hc; simp [staOf, upd]
      · simp [staOf, upd, hc]
def fput (d : Option Nat) (v : V) (f : FV) : FV := match d with
  | some d => fun t => if d = t then v else f t
  | none => f
theorem get_put (d : Option Nat) (v : V) (fr : Fr) : get (put d v fr) = fput d v (get fr) := by
  cases d <;> rfl
theorem wapp_wrOf (d : Option Nat) (v : V) (δ : List (Nat × Option Blk)) (f : FV) (h : HF) : wapp (staOf f h) (wrOf d v δ) = staOf (fput d v f) (updD h δ) := by
  cases d with
  | none => exact wapp_blks δ _ _ _ rfl
  | some d =>
    simp only [wrOf, List.cons_append, List.nil_append, wapp]
    refine wapp_blks δ _ _ _ ?_
    funext x
    cases x with
    | slot t =>
      by_cases ht : t = d
      · subst ht; simp [staOf, fput]
      · have ht2 : ¬ d = t := fun e => ht e.symm
        simp [staOf, fput, ht, ht2]
    | blk c => simp [staOf]
theorem staOf_of {σ : Sta} {f : FV} {h : HF} (e : σ = staOf f h) : fOf σ = f ∧ hOf σ = h := by
  subst e; exact ⟨rfl, rfl⟩

theorem rep_false (n i : Nat) : (Array.replicate n false).getD i false = false := by
  rw [Array.getD_eq_getD_getElem?, Array.getElem?_replicate]
  split <;> rfl
theorem awp_dreg {P : Program} {N : Nat} {Q : Post} {fr : Fr} {H : Hp} {id : Nat} {ops : Array Oper} {aos : List AOp} (hm : P.follows .mixedOrders = true) (hc : compOps P N ops.toList ops.toList = some aos)
    (hA : aopsD P H.length 0 aos (ops.toList.map (looksOf ops.toList)) fr H [] fun tr fr' H' => indep H.length (ops.toList.map edgesOf) tr = true ∧ Q .normal fr' H') : AWp P N (.region id ops true) Q fr H := by
  intro G0 a0 w0 st0
  obtain ⟨vs, rds, δs, wts, FS, HS, fs, ht, hind, hQ⟩ := trace ops.toList aos _ fr H 0 [] hc hA
  simp only [List.nil_append] at hind
  have hI := indep_spec hind
  have hlen : fs.length = ops.size := by rw [ht.len]; simp
  -- one operation's record
  have recd : ∀ i, i < ops.size → ∃ o ao, ops[i]? = some o ∧ compOper P N ops.toList o = some ao ∧ fs[i]? = some ⟨looksOf ops.toList o, o.dst, rds i, (δs i).map (·.1)⟩ ∧ FS (i + 1) = put o.dst (vs i) (FS i) ∧ HS (i + 1) = updL (HS i) (δs i) ∧
      gsel ao.g (get (FS i)) (wts i = true) (wts i = false) ∧ (wts i = true → Stp P o (H.length + i) (get (FS i)) (hget (HS i)) (vs i) (rds i) (δs i)) ∧ (wts i = false → vs i = lv undef ∧ rds i = [] ∧ δs i = []) := fun i hi => by
    have ho : ops.toList[i]? = some ops[i] := by rw [Array.getElem?_toList, Array.getElem?_eq_getElem hi]
    obtain ⟨ao, q1, q2, q3, q4, q5, q6, q7⟩ := ht.at_ i _ ho
    refine ⟨ops[i], ao, Array.getElem?_eq_getElem hi, q1, ?_, q3, q4, q5, fun hw => by simpa using q6 hw, q7⟩
    rw [q2, List.getD_eq_getElem?_getD, List.getElem?_map, ho]; rfl
  let ws : Nat → Wr := fun i => match ops[i]? with
    | some o => wrOf o.dst (vs i) (δs i)
    | none => []
  have hws : ∀ i o, ops[i]? = some o → ws i = wrOf o.dst (vs i) (δs i) := fun i o ho => by simp only [ws, ho]
  have hfit : Fits fs ws := fun i x hx l => by
    have hi : i < ops.size := by rw [← hlen]; exact (List.getElem?_eq_some_iff.1 hx).1
    obtain ⟨o, ao, q0, _, q2, _⟩ := recd i hi
    rw [q2] at hx; cases hx
    rw [hws i o q0]; exact wkeys_wrOf _ _ _ _ _ l
  have hlex : ∀ i, i ≤ ops.size → Ab.run ws (fun _ => true) (staOf (get fr) (hget H)) i = staOf (get (FS i)) (hget (HS i)) := by
    intro i
    induction i with
    | zero => intro _; simp only [Ab.run]; rw [ht.f0, ht.h0]
    | succ i ih =>
      intro hi
      obtain ⟨o, ao, q0, _, _, q3, q4, _⟩ := recd i (by omega)
      simp only [Ab.run, if_true]
      rw [ih (by omega), hws i o q0, wapp_wrOf, q3, q4, get_put, hget_updL]
  have hshape : ∀ (D : Nat → Bool) n, ∃ f h, Ab.run ws D (staOf (get fr) (hget H)) n = staOf f h := by
    intro D n
    induction n with
    | zero => exact ⟨_, _, rfl⟩
    | succ n ih =>
      obtain ⟨f, h, e⟩ := ih
      simp only [Ab.run]
      split
      · rw [e]
        cases ho : ops[n]? with
        | none => simp only [ws, ho]; exact ⟨f, h, rfl⟩
        | some o => rw [hws n o ho, wapp_wrOf]; exact ⟨_, _, rfl⟩
      · exact ⟨f, h, e⟩
  -- the state when the operations of D are done
  let SDn : (Nat → Bool) → Nat → Prop := fun D b => lt H b ∨ ∃ i, i < ops.size ∧ D i = true ∧ ∃ k, (b, some k) ∈ δs i
  have main : ∀ (fuel : Nat) (listed : Array Bool) (a : Act) (w : World), listed.size = ops.size → ((List.range ops.size).filter fun i => !listed.getD i true).length ≤ fuel →
      (∀ i j, listed.getD i false = true → j ∈ (ops.toList.map edgesOf).getD i [] → listed.getD j false = true) →
      (∃ G, St N (SDn fun i => listed.getD i false) G (fOf (Ab.run ws (fun i => listed.getD i false) (staOf (get fr) (hget H)) ops.size)) (hOf (Ab.run ws (fun i => listed.getD i false) (staOf (get fr) (hget H)) ops.size)) a w ∧
        Tr G0 (hget H) w0 G (hOf (Ab.run ws (fun i => listed.getD i false) (staOf (get fr) (hget H)) ops.size)) w) →
      wpAny P .any ops (lift N Q G0 H w0) fuel listed a w := by
    intro fuel
    -- when all is done
    have last : ∀ (listed : Array Bool) (a : Act) (w : World), (∀ i, i < ops.size → listed.getD i false = true) → (∃ G, St N (SDn fun i => listed.getD i false) G (fOf (Ab.run ws (fun i => listed.getD i false) (staOf (get fr) (hget H)) ops.size)) (hOf (Ab.run ws (fun i => listed.getD i false) (staOf (get fr) (hget H)) ops.size)) a w ∧
        Tr G0 (hget H) w0 G (hOf (Ab.run ws (fun i => listed.getD i false) (staOf (get fr) (hget H)) ops.size)) w) → lift N Q G0 H w0 .normal a w := by
      intro listed a w hall ⟨G, st, tr⟩
      have e : Ab.run ws (fun i => listed.getD i false) (staOf (get fr) (hget H)) ops.size = staOf (get (FS ops.size)) (hget (HS ops.size)) := by
        rw [← hlex ops.size (Nat.le_refl _)]
        exact run_le ops.size fun j hj => hall j hj
      rw [e] at st tr
      have hl : ops.toList.length = ops.size := by simp
      rw [hl] at hQ
      refine ⟨G, FS ops.size, HS ops.size, hQ, ?_, tr⟩
      have hS : ∀ b, SDn (fun i => listed.getD i false) b → lt (HS ops.size) b := by
        have grow : ∀ m, m ≤ ops.size → H.length ≤ (HS m).length ∧ ∀ i, i < m → ∀ b k, (b, some k) ∈ δs i → b < (HS m).length := by
          intro m
          induction m with
          | zero => intro _; rw [ht.h0]; exact ⟨Nat.le_refl _, by simp⟩
          | succ m ih =>
            intro hm'
            obtain ⟨o, ao, _, _, _, _, q4, _⟩ := recd m (by omega)
            obtain ⟨i1, i2⟩ := ih (by omega)
            obtain ⟨j1, j2⟩ := len_updL (δs m) (HS m)
            rw [q4]
            refine ⟨by omega, fun i hi b k hb => ?_⟩
            by_cases him : i = m
            · subst him; exact j2 b _ hb
            · have := i2 i (by omega) b k hb; omega
        obtain ⟨g1, g2⟩ := grow ops.size (Nat.le_refl _)
        intro b hb
        rcases hb with hb | ⟨i, hi, _, k, hk⟩
        · exact Nat.lt_of_lt_of_le hb g1
        · exact g2 i hi b k hk
      exact ⟨st.rel.monoS hS, st.fr, fun t => V.bd_mono hS _ (st.bd t), st.size, st.defers⟩
    have noneLeft : ∀ (listed : Array Bool), listed.size = ops.size → Region.ready .any ops listed = [] → ∀ i, i < ops.size → listed.getD i false = true := by
      intro listed hsz hr i
      induction i using Nat.strongRecOn with
      | _ i ih =>
        intro hi
        cases hd : listed.getD i false with
        | true => rfl
        | false =>
          exfalso
          have hun : listed.getD i true = false := by
            have : i < listed.size := by omega
            simp [this] at hd ⊢; exact hd
          have : i ∈ Region.ready .any ops listed := mem_ready.2 ⟨hun, ops[i], Array.getElem?_eq_getElem hi, fun e he hb => by
            have hmem : e.on ∈ (ops.toList.map edgesOf).getD i [] := by
              rw [List.getD_eq_getElem?_getD, List.getElem?_map, Array.getElem?_toList, Array.getElem?_eq_getElem hi]
              simp only [Option.map_some, Option.getD_some, edgesOf, List.mem_map, List.mem_filter]
              exact ⟨e, ⟨by simpa using he, hb⟩, rfl⟩
            have hlow := hI.low i (by omega) _ hmem
            exact ih e.on hlow (by omega)⟩
          rw [hr] at this; cases this
    induction fuel with
    | zero =>
      intro listed a w hsz hcnt hcl hst
      have hnil : Region.ready .any ops listed = [] := by
        cases hr : Region.ready .any ops listed with
        | nil => rfl
        | cons i is =>
          exfalso
          have hi : i ∈ Region.ready .any ops listed := by rw [hr]; simp
          obtain ⟨h1, o, ho, _⟩ := mem_ready.1 hi
          have hlt : i < ops.size := (Array.getElem?_eq_some_iff.1 ho).1
          have : i ∈ (List.range ops.size).filter fun i => !listed.getD i true := List.mem_filter.2 ⟨by simpa using hlt, by rw [h1]; rfl⟩
          rw [List.eq_nil_of_length_eq_zero (Nat.le_zero.1 hcnt)] at this; cases this
      exact ⟨hnil, last listed a w (noneLeft listed hsz hnil) hst⟩
    | succ fuel ih =>
      intro listed a w hsz hcnt hcl hst
      refine ⟨fun hnil => last listed a w (noneLeft listed hsz hnil) hst, fun i hi => ?_⟩
      obtain ⟨hun, o, ho, hpre⟩ := mem_ready.1 hi
      have hlt : i < ops.size := (Array.getElem?_eq_some_iff.1 ho).1
      obtain ⟨o', ao, q0, q1, q2, q3, q4, q5, q6, q7⟩ := recd i hlt
      rw [ho] at q0; cases q0
      have hunf : listed.getD i false = false := by
        have : i < listed.size := by omega
        simp [this] at hun ⊢; exact hun
      have hready : ∀ e ∈ (ops.toList.map edgesOf).getD i [], listed.getD e false = true := fun e he => by
        rw [List.getD_eq_getElem?_getD, List.getElem?_map, Array.getElem?_toList, ho] at he
        simp only [Option.map_some, Option.getD_some, edgesOf, List.mem_map, List.mem_filter] at he
        obtain ⟨ed, ⟨he1, he2⟩, rfl⟩ := he
        exact hpre ed (by simpa using he1) he2
      have hDn : ∀ i, listed.getD i false = true → i < fs.length := fun j hj => by
        rcases Nat.lt_or_ge j listed.size with h | h
        · omega
        · simp [Array.getElem?_eq_none h] at hj
      have hfound : ∀ l, l ∈ (⟨looksOf ops.toList o, o.dst, rds i, (δs i).map (·.1)⟩ : Foot).touch → Ab.run ws (fun i => listed.getD i false) (staOf (get fr) (hget H)) ops.size l = staOf (get (FS i)) (hget (HS i)) l := fun l hl => by
        have := found (σ := staOf (get fr) (hget H)) hI hfit hcl hDn q2 hunf hready hl
        rw [hlen] at this
        rw [this, hlex i (by omega)]
      have hstep := fun l => stepped (σ := staOf (get fr) (hget H)) hI hfit hcl q2 hunf hready l
      obtain ⟨G, st, tr⟩ := hst
      obtain ⟨fD, hD, eD⟩ := hshape (fun i => listed.getD i false) ops.size
      rw [(staOf_of eD).1, (staOf_of eD).2] at st
      rw [(staOf_of eD).2] at tr
      have hf : ∀ t, t ∈ looksOf ops.toList o → fD t = get (FS i) t := fun t htt => by
        have := hfound (.slot t) (by simp [Foot.touch, htt])
        rw [eD] at this; simpa [staOf] using this
      have hh : ∀ b, b ∈ rds i → hD b = hget (HS i) b := fun b hb => by
        have := hfound (.blk b) (by simp [Foot.touch, hb])
        rw [eD] at this; simpa [staOf] using this
      -- the state behind it
      have eD' : Ab.run ws (fun j => (listed.setIfInBounds i true).getD j false) (staOf (get fr) (hget H)) ops.size = staOf (fput o.dst (vs i) fD) (updD hD (δs i)) := by
        have e1 : ∀ j, (listed.setIfInBounds i true).getD j false = (listed.getD j false || j == i) := fun j => by
          by_cases hji : j = i
          · subst hji
            have : j < listed.size := by omega
            simp [this]
          · rw [getD_set_ne false (Ne.symm hji)]; simp [hji]
        have e2 : (fun j => (listed.setIfInBounds i true).getD j false) = fun j => listed.getD j false || j == i := funext e1
        rw [e2]
        funext l
        have := hstep l
        rw [hlen, eD, hws i o ho, wapp_wrOf] at this
        exact this.symm
      have hcl' : ∀ i' j, (listed.setIfInBounds i true).getD i' false = true → j ∈ (ops.toList.map edgesOf).getD i' [] → (listed.setIfInBounds i true).getD j false = true := fun i' j h1 h2 => by
        by_cases hii : i' = i
        · subst hii; exact getD_set_true (hready j h2)
        · rw [getD_set_ne false (Ne.symm hii)] at h1
          exact getD_set_true (hcl i' j h1 h2)
      have hcnt' : ((List.range ops.size).filter fun j => !(listed.setIfInBounds i true).getD j true).length ≤ fuel := by
        have hlt2 : ((List.range ops.size).filter fun j => !(listed.setIfInBounds i true).getD j true).length < ((List.range ops.size).filter fun j => !listed.getD j true).length := by
          have hsub : ((List.range ops.size).filter fun j => !(listed.setIfInBounds i true).getD j true) = ((List.range ops.size).filter fun j => !listed.getD j true).filter fun j => j != i := by
            rw [List.filter_filter]
            apply List.filter_congr
            intro j _
            by_cases hji : j = i
            · subst hji
              have : j < listed.size := by omega
              simp [this]
            · rw [getD_set_ne true (Ne.symm hji)]; simp [hji]
          rw [hsub]
          refine List.length_filter_lt_length_iff_exists.2 ⟨i, List.mem_filter.2 ⟨by simpa using hlt, by rw [hun]; rfl⟩, by simp⟩
        omega
      have hSD : ∀ b, SD (SDn fun i => listed.getD i false) (δs i) b → SDn (fun j => (listed.setIfInBounds i true).getD j false) b := fun b hb => by
        rcases hb with (hb | ⟨j, hj, hd, k, hk⟩) | ⟨k, hk⟩
        · exact .inl hb
        · exact .inr ⟨j, hj, getD_set_true hd, k, hk⟩
        · refine .inr ⟨i, hlt, ?_, k, hk⟩
          have : i < listed.size := by omega
          simp [this]
      have next : ∀ (u : Value) (w' : World) (G' : Gh), Gh.le (SDn fun i => listed.getD i false) G G' → Rel (SD (SDn fun i => listed.getD i false) (δs i)) G' (updD hD (δs i)) w' → Tr G hD w G' (updD hD (δs i)) w' → R G' (vs i) u → (vs i).bd (SD (SDn fun i => listed.getD i false) (δs i)) →
          wpAny P .any ops (lift N Q G0 H w0) fuel (listed.setIfInBounds i true) (a.put o.dst u) w' := by
        intro u w' G' g1 g2 g3 g4 g5
        refine ih _ _ _ (by simpa using hsz) hcnt' hcl' ⟨G', ?_, ?_⟩
        · rw [(staOf_of eD').1, (staOf_of eD').2]
          have hdN := (compOper_spec q1).2.2.1
          refine ⟨g2.monoS hSD, fun t => ?_, fun t => ?_, ?_, ?_⟩
          · cases hdst : o.dst with
            | none => simp only [fput, Act.put]; exact R_mono g1 _ _ (st.bd t) (st.fr t)
            | some d =>
              simp only [fput, Act.put]
              rw [getD_set st.size (hdN d hdst)]
              split
              · exact g4
              · exact R_mono g1 _ _ (st.bd t) (st.fr t)
          · cases hdst : o.dst with
            | none => exact V.bd_mono (fun b hb => hSD b (.inl hb)) _ (st.bd t)
            | some d =>
              simp only [fput]
              split
              · exact V.bd_mono hSD _ g5
              · exact V.bd_mono (fun b hb => hSD b (.inl hb)) _ (st.bd t)
          · cases o.dst <;> simp [Act.put, st.size]
          · cases o.dst <;> simp [Act.put, st.defers]
        · rw [(staOf_of eD').2]; exact tr.trans g3
      unfold wpOp
      simp only [ho]
      have hg : gsel ao.g fD (wts i = true) (wts i = false) := gsel_congr (fun s want hs => hf s (by
        obtain ⟨_, _, _, hgd⟩ := compOper_spec q1
        rcases hgd with ⟨_, h2⟩ | ⟨j, want', oj, s', h1, h2, h3, _, h5⟩
        · rw [h2] at hs; cases hs
        · rw [h5] at hs; cases hs
          simp only [looksOf, h1, h2, h3, List.mem_append]; right; simp)) q5
      have hwant := gsel_spec q1 st hg
      rw [show ops.toList.toArray = ops by simp] at hwant
      rcases hwant with ⟨hw, hwt⟩ | ⟨hw, hwt⟩
      · rw [if_pos hw]
        refine .inl (q6 hwt N _ G fD hD a w st (fun x hx => ?_) hh ?_ _ _ next)
        · cases x with
          | tmp t => exact hf t (by simp only [looksOf, List.mem_append]; left; exact List.mem_filterMap.2 ⟨.tmp t, hx, rfl⟩)
          | _ => rfl
        · intro hS
          rcases hS with hS | ⟨j, hj, hd, k, hk⟩
          · unfold lt at hS; omega
          · obtain ⟨oj, aoj, _, _, r2, _⟩ := recd j hj
            rcases hI.ids j _ r2 (H.length + i) (.inr (List.mem_map.2 ⟨_, hk, rfl⟩)) with h1 | h1 | ⟨m, h1, hp⟩
            · omega
            · have : i = j := by omega
              subst this; exact absurd (hunf.symm.trans hd) (by simp)
            · have : m = i := by omega
              subst this
              have := hp.closed hcl hd
              exact absurd (hunf.symm.trans this) (by simp)
      · rw [if_neg (by rw [hw]; simp)]
        obtain ⟨e1, e2, e3⟩ := q7 hwt
        refine next undef w G (Gh.le.refl _ _) ?_ ?_ (by rw [e1]; simp [R, lv, RP]) (by rw [e1]; simp [lv, V.bd])
        · rw [e3]; exact st.rel.monoS fun b hb => .inl hb
        · rw [e3]; exact Tr.refl _ _ _
  refine wp_region_any hm (main ops.size (Array.replicate ops.size false) a0 _ (by simp) ?_ ?_ ⟨G0, ?_, ?_⟩)
  · exact Nat.le_trans (List.length_filter_le _ _) (by simp)
  · intro i j h; rw [rep_false] at h; cases h
  all_goals
    have e0 : Ab.run ws (fun i => (Array.replicate ops.size false).getD i false) (staOf (get fr) (hget H)) ops.size = staOf (get fr) (hget H) := by
      have : ∀ n, Ab.run ws (fun i => (Array.replicate ops.size false).getD i false) (staOf (get fr) (hget H)) n = staOf (get fr) (hget H) := by
        intro n
        induction n with
        | zero => rfl
        | succ n ih =>
          simp only [Ab.run]
          rw [if_neg (by rw [rep_false]; simp)]; exact ih
      exact this _
  · rw [(staOf_of e0).1, (staOf_of e0).2]
    exact ⟨st0.rel.drew.monoS fun b hb => .inl hb, st0.fr, fun t => V.bd_mono (fun b hb => .inl hb) _ (st0.bd t), st0.size, st0.defers⟩
  · rw [(staOf_of e0).2]; exact (Tr.refl _ _ _).drew
end Go.Ab
