/- X11: joined from XE11. -/
import Derived.Test.YtckjkdhmljfeeaaGreatDoorX10
/- Regions that draw their order. -/
set_option linter.unusedVariables false
set_option linter.unusedSimpArgs false
namespace Go.Ev
open Go Go.RowKit
open Go.Ab (Path edgesOf looksOf getD_set rep_false)
section
variable {P : Program} {ng : Nat} {call : CallF}
structure Trc (P : Program) (ng N : Nat) (all l : List Oper) (F : T X) (H : T Blk) (nb : Nat) (fts : List Ft) (vs : Nat → X) (wts : Nat → Bool) (FS : Nat → T X) (HS : Nat → T Blk) (NS : Nat → Nat) : Prop where
  f0 : FS 0 = F
  h0 : HS 0 = H
  n0 : NS 0 = nb
  len : fts.length = l.length
  at_ : ∀ (m : Nat) o, l[m]? = some o → ∃ ft, fts[m]? = some ft ∧ (∃ g, guardX N all o.guard = some g ∧ wantX (FS m) g = some (wts m)) ∧ fD (FS (m + 1)) = fput o.dst (vs m) (fD (FS m)) ∧ (∀ x, o.dst = some x → x < N) ∧ (heapy o.op = false → ft = .ef .nop []) ∧
    (wts m = true → StpI P ng (FS m) (HS m) (NS m) o (vs m) (HS (m + 1)) (NS (m + 1)) ft) ∧ (wts m = false → vs m = .v undef ∧ ft = .ef .nop [] ∧ HS (m + 1) = HS m ∧ NS (m + 1) = NS m)
theorem trace (hc : CallsOk P ng call) {N : Nat} {all : List Oper} : ∀ (l : List Oper) (xs : List XOp) (F : T X) (H : T Blk) (nb : Nat) (F2 : T X) (H2 : T Blk) (nb2 : Nat) (fts : List Ft), compL P N all l = some xs → evOps call P ng xs F H nb = some (F2, H2, nb2, fts) →
    ∃ vs wts FS HS NS, Trc P ng N all l F H nb fts vs wts FS HS NS ∧ FS l.length = F2 ∧ HS l.length = H2 ∧ NS l.length = nb2
  | [], xs, F, H, nb, F2, H2, nb2, fts, hxs, h => by
    simp only [compL, Option.some.injEq] at hxs; subst hxs
    simp only [evOps, Option.some.injEq, Prod.mk.injEq] at h
    obtain ⟨rfl, rfl, rfl, rfl⟩ := h
    exact ⟨fun _ => .junk, fun _ => false, fun _ => F, fun _ => H, fun _ => nb, ⟨rfl, rfl, rfl, rfl, by simp⟩, rfl, rfl, rfl⟩
  | o :: l, xs, F, H, nb, F2, H2, nb2, fts, hxs, h => by
    obtain ⟨x, xs', rfl, hx, hl⟩ := compL_cons hxs
    obtain ⟨hd, hg, e1, e2, e3, e4⟩ := compO_ok hx
    have fin : ∀ (v : X) (b : Bool) (F' : T X) (H' : T Blk) (nb' : Nat) (ft : Ft) (fts3 : List Ft), evOps call P ng xs' F' H' nb' = some (F2, H2, nb2, fts3) → wantX F x.g = some b → fD F' = fput o.dst v (fD F) → (∀ x, o.dst = some x → x < N) → (heapy o.op = false → ft = .ef .nop []) →
        (b = true → StpI P ng F H nb o v H' nb' ft) → (b = false → v = .v undef ∧ ft = .ef .nop [] ∧ H' = H ∧ nb' = nb) → ∃ vs wts FS HS NS, Trc P ng N all (o :: l) F H nb (ft :: fts3) vs wts FS HS NS ∧ FS (o :: l).length = F2 ∧ HS (o :: l).length = H2 ∧ NS (o :: l).length = nb2 := by
      intro v b F' H' nb' ft fts3 hrest hw hp1 hp2 hnil ht hf
      obtain ⟨vs, wts, FS, HS, NS, t, e1, e2, e3⟩ := trace hc l xs' F' H' nb' F2 H2 nb2 fts3 hl hrest
      refine ⟨fun m => m.casesOn v vs, fun m => m.casesOn b wts, fun m => m.casesOn F FS, fun m => m.casesOn H HS, fun m => m.casesOn nb NS, ⟨rfl, rfl, rfl, by simp [t.len], fun m o' ho => ?_⟩, e1, e2, e3⟩
      cases m with
      | zero =>
        simp only [List.getElem?_cons_zero, Option.some.injEq] at ho; subst ho
        refine ⟨ft, by simp, ⟨_, hg, hw⟩, ?_, hp2, hnil, fun hb => ?_, fun hb => ?_⟩
        · show fD (FS 0) = _; rw [t.f0]; exact hp1
        · show StpI P ng F H nb o v (HS 0) (NS 0) ft; rw [t.h0, t.n0]; exact ht hb
        · obtain ⟨q1, q2, q3, q4⟩ := hf hb
          exact ⟨q1, q2, by show HS 0 = H; rw [t.h0]; exact q3, by show NS 0 = nb; rw [t.n0]; exact q4⟩
      | succ m =>
        simp only [List.getElem?_cons_succ] at ho
        obtain ⟨ft', q1, q2⟩ := t.at_ m o' ho
        exact ⟨ft', by simpa using q1, q2⟩
    simp only [evOps, e1, e2, e3, e4] at h
    split at h
    · rename_i hw
      split at h
      case h_2 => cases h
      rename_i v H' nb' ft hstep
      split at h
      case h_2 => cases h
      rename_i hnil
      split at h
      case h_2 => cases h
      rename_i F3 H3 nb3 fts3 hrest
      simp only [Option.some.injEq, Prod.mk.injEq] at h
      obtain ⟨rfl, rfl, rfl, rfl⟩ := h
      obtain ⟨hp1, hp2⟩ := putX_ok hd v F
      exact fin v true _ H' nb' ft fts3 hrest hw hp1 hp2 (fun hh => by rw [hh] at hnil; exact isNil_ok (by simpa using hnil)) (fun _ => stepX_ok hc hstep) (fun hb => by cases hb)
    · rename_i hw
      split at h
      case h_2 => cases h
      rename_i F3 H3 nb3 fts3 hrest
      simp only [Option.some.injEq, Prod.mk.injEq] at h
      obtain ⟨rfl, rfl, rfl, rfl⟩ := h
      obtain ⟨hp1, hp2⟩ := putX_ok hd (.v undef) F
      exact fin (.v undef) false _ H nb (.ef .nop []) fts3 hrest hw hp1 hp2 (fun _ => rfl) (fun hb => by cases hb) (fun _ => ⟨rfl, rfl, rfl, rfl⟩)
    · cases h
theorem wrF_nil (l : Loc) : wrF (.ef .nop []) l = none := by cases l <;> rfl
theorem evD_ok (hm : P.follows .mixedOrders = true) (hc : CallsOk P ng call) {N : Nat} {id : Nat} {ops : Array Oper} {F F2 : T X} {H H2 : T Blk} {nb nb2 : Nat} {fts : List Ft} {xs : List XOp} (hxs : compL P N ops.toList ops.toList = some xs) (h : evOps call P ng xs F H nb = some (F2, H2, nb2, fts)) (hs : chkS ops.toList = true) (hh : chkH fts (prs ops.toList) = true)
    {n0 : Nat} {S : Nat → Prop} {M : Nm} {a0 : Act} {w0 : World} (st0 : St n0 ng N S M (fD F) (hD H) a0 w0) (hfr : ∀ b, nb ≤ b → b < nb2 → ¬ S b) :
    (Code.region id ops true).wp P (fun e a' w' => e = .normal ∧ ∃ M', Nm.le S M M' ∧ St n0 ng N (SI S nb nb2) M' (fD F2) (hD H2) a' w' ∧ Below n0 w0 w') a0 w0 := by
  obtain ⟨vs, wts, FS, HS, NS, ht, eF, eH, eN⟩ := trace hc ops.toList xs F H nb F2 H2 nb2 fts hxs h
  have hlen : fts.length = ops.size := by rw [ht.len]; simp
  have hl0 : ops.toList.length = ops.size := by simp
  rw [hl0] at eF eH eN
  have recd : ∀ i, i < ops.size → ∃ o ft, ops[i]? = some o ∧ fts[i]? = some ft ∧ (∃ g, guardX N ops.toList o.guard = some g ∧ wantX (FS i) g = some (wts i)) ∧ fD (FS (i + 1)) = fput o.dst (vs i) (fD (FS i)) ∧ (∀ x, o.dst = some x → x < N) ∧ (heapy o.op = false → ft = .ef .nop []) ∧
      (wts i = true → StpI P ng (FS i) (HS i) (NS i) o (vs i) (HS (i + 1)) (NS (i + 1)) ft) ∧ (wts i = false → vs i = .v undef ∧ ft = .ef .nop [] ∧ HS (i + 1) = HS i ∧ NS (i + 1) = NS i) := fun i hi => by
    have ho : ops.toList[i]? = some ops[i] := by rw [Array.getElem?_toList, Array.getElem?_eq_getElem hi]
    obtain ⟨ft, q⟩ := ht.at_ i _ ho
    exact ⟨ops[i], ft, Array.getElem?_eq_getElem hi, q⟩
  let ws : Nat → Wr := fun i => match ops[i]? with
    | some o => match fts[i]? with
      | some ft => wrS o.dst (vs i) (wrF ft)
      | none => fun _ => none
    | none => fun _ => none
  have hws : ∀ i o ft, ops[i]? = some o → fts[i]? = some ft → ws i = wrS o.dst (vs i) (wrF ft) := fun i o ft ho hf => by simp only [ws, ho, hf]
  -- one operation's writes
  have hsta : ∀ i o ft, ops[i]? = some o → fts[i]? = some ft → i < ops.size → ∀ f h2, agF ft (hD (HS i)) h2 → staOf (fput o.dst (vs i) f) (trF ft h2) = wapp (staOf f h2) (ws i) := fun i o ft ho hf hi f h2 ha => by
    obtain ⟨o', ft', q0, q1, _, _, _, _, q6, q7⟩ := recd i hi
    rw [ho] at q0; cases q0
    rw [hf] at q1; cases q1
    rw [hws i o ft ho hf]
    refine wrS_ok ?_
    cases hw : wts i with
    | true => exact (q6 hw).sta f h2 ha
    | false =>
      obtain ⟨_, rfl, _⟩ := q7 hw
      funext l
      cases l <;> rfl
  have hsub : ∀ x ∈ fts, ∀ l, wrF x l ≠ none → tchH x l := fun x hx l hl => by
    obtain ⟨i, hi⟩ := List.getElem?_of_mem hx
    have hlt : i < ops.size := by rw [← hlen]; exact (List.getElem?_eq_some_iff.1 hi).1
    obtain ⟨o, ft, q0, q1, _, _, _, _, q6, q7⟩ := recd i hlt
    rw [hi] at q1; cases q1
    cases hw : wts i with
    | true => exact (q6 hw).sub l hl
    | false =>
      obtain ⟨_, rfl, _⟩ := q7 hw
      exact absurd (wrF_nil l) hl
  have hI := ind_ok (ws := ws) hs hh (by rw [hlen, hl0]) (fun i o x ho hx hn => by
    have hi : i < ops.size := by rw [← hlen]; exact (List.getElem?_eq_some_iff.1 hx).1
    obtain ⟨o', ft', q0, q1, _, _, _, q5, _⟩ := recd i hi
    rw [Array.getElem?_toList, q0] at ho; cases ho
    rw [hx] at q1; cases q1
    exact q5 hn) (fun i o x ho hx => ⟨vs i, hws i o x (by rw [← Array.getElem?_toList]; exact ho) hx⟩) hsub
  rw [hl0] at hI
  have hagi : ∀ i, i < ops.size → ∀ ft, fts[i]? = some ft → agF ft (hD (HS i)) (hD (HS i)) ∧ trF ft (hD (HS i)) = hD (HS (i + 1)) := fun i hi ft hf => by
    obtain ⟨o', ft', q0, q1, _, _, _, _, q6, q7⟩ := recd i hi
    rw [hf] at q1; cases q1
    cases hw : wts i with
    | true => exact ⟨(q6 hw).ag, (q6 hw).tr⟩
    | false =>
      obtain ⟨_, rfl, e, _⟩ := q7 hw
      exact ⟨agr_self _ _, by rw [e]; rfl⟩
  have hNle : ∀ i, i < ops.size → NS i ≤ NS (i + 1) := fun i hi => by
    obtain ⟨o', ft', _, _, _, _, _, _, q6, q7⟩ := recd i hi
    cases hw : wts i with
    | true => exact (q6 hw).le
    | false => rw [(q7 hw).2.2.2]; exact Nat.le_refl _
  have hNm : ∀ j i, i ≤ j → j ≤ ops.size → NS i ≤ NS j := by
    intro j
    induction j with
    | zero => intro i h1 _; have : i = 0 := by omega
              rw [this]; exact Nat.le_refl _
    | succ j ih =>
      intro i h1 h2
      by_cases he : i = j + 1
      · rw [he]; exact Nat.le_refl _
      · exact Nat.le_trans (ih i (by omega) (by omega)) (hNle j (by omega))
  have hNhi : ∀ i, i ≤ ops.size → nb ≤ NS i ∧ NS i ≤ nb2 := fun i hi => ⟨by rw [← ht.n0]; exact hNm i 0 (by omega) hi, by rw [← eN]; exact hNm _ i hi (Nat.le_refl _)⟩
  have hlex : ∀ i, i ≤ ops.size → Ev.run ws (fun _ => true) (staOf (fD F) (hD H)) i = staOf (fD (FS i)) (hD (HS i)) := by
    intro i
    induction i with
    | zero => intro _; simp only [Ev.run]; rw [ht.f0, ht.h0]
    | succ i ih =>
      intro hi
      obtain ⟨o, ft, q0, q1, _, q3, _⟩ := recd i (by omega)
      simp only [Ev.run, if_true]
      obtain ⟨ha, htr⟩ := hagi i (by omega) ft q1
      rw [ih (by omega), ← hsta i o ft q0 q1 (by omega) _ _ ha, q3, htr]
  let SDn : (Nat → Bool) → Nat → Prop := fun D b => S b ∨ ∃ i, i < ops.size ∧ D i = true ∧ NS i ≤ b ∧ b < NS (i + 1)
  let Post : Exit → Act → World → Prop := fun e a' w' => e = .normal ∧ ∃ M', Nm.le S M M' ∧ St n0 ng N (SI S nb nb2) M' (fD F2) (hD H2) a' w' ∧ Below n0 w0 w'
  let Inv : (Nat → Bool) → Act → World → Prop := fun D a w => ∃ M' f h, staOf f h = Ev.run ws D (staOf (fD F) (hD H)) ops.size ∧ Nm.le S M M' ∧ St n0 ng N (SDn D) M' f h a w ∧ Below n0 w0 w
  have last : ∀ (listed : Array Bool) (a : Act) (w : World), (∀ i, i < ops.size → listed.getD i false = true) → Inv (fun i => listed.getD i false) a w → Post .normal a w := by
    intro listed a w hall ⟨M', f, h, e, hle, st, hb⟩
    rw [run_le (D' := fun _ => true) fun j hj => hall j hj, hlex ops.size (Nat.le_refl _), eF, eH] at e
    obtain ⟨rfl, rfl⟩ := staOf_inj e
    refine ⟨rfl, M', hle, st.monoS fun b hb => ?_, hb⟩
    rcases hb with hb | ⟨i, hi, _, h1, h2⟩
    · exact .inl hb
    · exact .inr ⟨Nat.le_trans (hNhi i (by omega)).1 h1, Nat.lt_of_lt_of_le h2 (hNhi (i + 1) (by omega)).2⟩
  have noneLeft : ∀ (listed : Array Bool), listed.size = ops.size → Region.ready .any ops listed = [] → ∀ i, i < ops.size → listed.getD i false = true := by
    intro listed hsz hr i
    induction i using Nat.strongRecOn with
    | _ i ih =>
      intro hi
      cases hd : listed.getD i false with
      | true => rfl
      | false =>
        exfalso
        have hun : listed.getD i true = false := by
          have : i < listed.size := by omega
          simp [this] at hd ⊢; exact hd
        have : i ∈ Region.ready .any ops listed := mem_ready.2 ⟨hun, ops[i], Array.getElem?_eq_getElem hi, fun e he hb => by
          have hmem : e.on ∈ (edgs ops.toList).getD i [] := by
            rw [List.getD_eq_getElem?_getD, edgs, List.getElem?_map, Array.getElem?_toList, Array.getElem?_eq_getElem hi]
            simp only [Option.map_some, Option.getD_some, edgesOf, List.mem_map, List.mem_filter]
            exact ⟨e, ⟨by simpa using he, hb⟩, rfl⟩
          have hlow := hI.low i hi _ hmem
          exact ih e.on hlow (by omega)⟩
        rw [hr] at this; cases this
  have main : ∀ (fuel : Nat) (listed : Array Bool) (a : Act) (w : World), listed.size = ops.size → ((List.range ops.size).filter fun i => !listed.getD i true).length ≤ fuel →
      (∀ i j, listed.getD i false = true → j ∈ (edgs ops.toList).getD i [] → listed.getD j false = true) → Inv (fun i => listed.getD i false) a w → wpAny P .any ops Post fuel listed a w := by
    intro fuel
    induction fuel with
    | zero =>
      intro listed a w hsz hcnt hcl hst
      have hnil : Region.ready .any ops listed = [] := by
        cases hr : Region.ready .any ops listed with
        | nil => rfl
        | cons i is =>
          exfalso
          have hi : i ∈ Region.ready .any ops listed := by rw [hr]; simp
          obtain ⟨h1, o, ho, _⟩ := mem_ready.1 hi
          have hlt : i < ops.size := (Array.getElem?_eq_some_iff.1 ho).1
          have : i ∈ (List.range ops.size).filter fun i => !listed.getD i true := List.mem_filter.2 ⟨by simpa using hlt, by rw [h1]; rfl⟩
          rw [List.eq_nil_of_length_eq_zero (Nat.le_zero.1 hcnt)] at this; cases this
      exact ⟨hnil, last listed a w (noneLeft listed hsz hnil) hst⟩
    | succ fuel ih =>
      intro listed a w hsz hcnt hcl hst
      refine ⟨fun hnil => last listed a w (noneLeft listed hsz hnil) hst, fun i hi => ?_⟩
      obtain ⟨hun, o, ho, hpre⟩ := mem_ready.1 hi
      have hlt : i < ops.size := (Array.getElem?_eq_some_iff.1 ho).1
      obtain ⟨o', ft, q0, q1, q2, q3, q4, q5, q6, q7⟩ := recd i hlt
      rw [ho] at q0; cases q0
      have hunf : listed.getD i false = false := by
        have : i < listed.size := by omega
        simp [this] at hun ⊢; exact hun
      have hready : ∀ e ∈ (edgs ops.toList).getD i [], listed.getD e false = true := fun e he => by
        rw [List.getD_eq_getElem?_getD, edgs, List.getElem?_map, Array.getElem?_toList, ho] at he
        simp only [Option.map_some, Option.getD_some, edgesOf, List.mem_map, List.mem_filter] at he
        obtain ⟨ed, ⟨he1, he2⟩, rfl⟩ := he
        exact hpre ed (by simpa using he1) he2
      obtain ⟨M', f, h, e, hle, st, hb⟩ := hst
      have hfound : ∀ l, tch ops.toList fts i l → staOf f h l = staOf (fD (FS i)) (hD (HS i)) l := fun l hl => by
        rw [e, ← hlex i (by omega)]
        exact found hI hcl hlt hunf hready hl
      have hslot : ∀ t, t ∈ looksOf ops.toList o → f t = fD (FS i) t := fun t htt => by
        have := hfound (.slot t) ⟨o, ft, by rw [Array.getElem?_toList]; exact ho, q1, .inl ⟨t, htt, rfl⟩⟩
        simpa only [staOf, Cnt.x.injEq] using this
      have hheap : ∀ l, tchH ft l → staOf f h l = staOf (fD (FS i)) (hD (HS i)) l := fun l hl => hfound l ⟨o, ft, by rw [Array.getElem?_toList]; exact ho, q1, .inr (.inr hl)⟩
      have hag : agF ft (hD (HS i)) h := by
        cases ft with
        | ef ef rd =>
          intro r hr
          refine ⟨?_, fun k h1 h2 => ?_⟩
          · have := hheap (.hdr r.1) (.inr ⟨r, hr, .inl rfl⟩)
            simpa only [staOf, Cnt.h.injEq] using this
          · have := hheap (.cell r.1 k) (.inr ⟨r, hr, .inr ⟨k, h1, h2, rfl⟩⟩)
            simpa only [staOf, Cnt.c.injEq] using this
        | cl H0 H1 =>
          show h = hD (HS i)
          refine funext fun b => blk_ext ?_ fun k => ?_
          · have := hheap (.hdr b) (fun t e => by cases e)
            simpa only [staOf, Cnt.h.injEq] using this
          · have := hheap (.cell b k) (fun t e => by cases e)
            simpa only [staOf, Cnt.c.injEq] using this
      -- the state behind it
      have eD' : staOf (fput o.dst (vs i) f) (trF ft h) = Ev.run ws (fun j => (listed.setIfInBounds i true).getD j false) (staOf (fD F) (hD H)) ops.size := by
        have e1 : ∀ j, (listed.setIfInBounds i true).getD j false = (listed.getD j false || j == i) := fun j => by
          by_cases hji : j = i
          · subst hji
            have : j < listed.size := by omega
            simp [this]
          · rw [getD_set_ne false (Ne.symm hji)]; simp [hji]
        have e2 : (fun j => (listed.setIfInBounds i true).getD j false) = fun j => listed.getD j false || j == i := funext e1
        rw [e2, hsta i o ft ho q1 hlt f h hag]
        funext l
        rw [e]
        exact stepped hI hcl hlt hunf l
      have hcl' : ∀ i' j, (listed.setIfInBounds i true).getD i' false = true → j ∈ (edgs ops.toList).getD i' [] → (listed.setIfInBounds i true).getD j false = true := fun i' j h1 h2 => by
        by_cases hii : i' = i
        · subst hii; exact getD_set_true (hready j h2)
        · rw [getD_set_ne false (Ne.symm hii)] at h1
          exact getD_set_true (hcl i' j h1 h2)
      have hcnt' : ((List.range ops.size).filter fun j => !(listed.setIfInBounds i true).getD j true).length ≤ fuel := by
        have hlt2 : ((List.range ops.size).filter fun j => !(listed.setIfInBounds i true).getD j true).length < ((List.range ops.size).filter fun j => !listed.getD j true).length := by
          have hsub : ((List.range ops.size).filter fun j => !(listed.setIfInBounds i true).getD j true) = ((List.range ops.size).filter fun j => !listed.getD j true).filter fun j => j != i := by
            rw [List.filter_filter]
            apply List.filter_congr
            intro j _
            by_cases hji : j = i
            · subst hji
              have : j < listed.size := by omega
              simp [this]
            · rw [getD_set_ne true (Ne.symm hji)]; simp [hji]
          rw [hsub]
          refine List.length_filter_lt_length_iff_exists.2 ⟨i, List.mem_filter.2 ⟨by simpa using hlt, by rw [hun]; rfl⟩, by simp⟩
        omega
      have hSD : ∀ b, SI (SDn fun i => listed.getD i false) (NS i) (NS (i + 1)) b → SDn (fun j => (listed.setIfInBounds i true).getD j false) b := fun b hb => by
        rcases hb with (hb | ⟨j, hj, hd, k1, k2⟩) | ⟨k1, k2⟩
        · exact .inl hb
        · exact .inr ⟨j, hj, getD_set_true hd, k1, k2⟩
        · refine .inr ⟨i, hlt, ?_, k1, k2⟩
          have : i < listed.size := by omega
          simp [this]
      have hSD0 : ∀ b, (SDn fun i => listed.getD i false) b → SDn (fun j => (listed.setIfInBounds i true).getD j false) b := fun b hb => hSD b (.inl hb)
      have hfresh : ∀ b, NS i ≤ b → b < NS (i + 1) → ¬ (SDn fun i => listed.getD i false) b := fun b h1 h2 hS => by
        rcases hS with hS | ⟨j, hj, hd, k1, k2⟩
        · exact hfr b (Nat.le_trans (hNhi i (by omega)).1 h1) (Nat.lt_of_lt_of_le h2 (hNhi (i + 1) (by omega)).2) hS
        · have hne : j ≠ i := by rintro rfl; exact absurd (hunf.symm.trans hd) (by simp)
          rcases Nat.lt_or_ge j i with hji | hji
          · have := hNm i (j + 1) (by omega) (by omega); omega
          · have := hNm j (i + 1) (by omega) (by omega); omega
      have next : ∀ (u : Value) (w' : World) (M2 : Nm), Nm.le (SDn fun i => listed.getD i false) M' M2 → XRel n0 (SI (SDn fun i => listed.getD i false) (NS i) (NS (i + 1))) M2 (trF ft h) w' → Below n0 w w' → RX M2 (vs i) u → (vs i).bd (SI (SDn fun i => listed.getD i false) (NS i) (NS (i + 1))) →
          wpAny P .any ops Post fuel (listed.setIfInBounds i true) (a.put o.dst u) w' := by
        intro u w' M2 g1 g2 g3 g4 g5
        refine ih _ _ _ (by simpa using hsz) hcnt' hcl' ⟨M2, _, _, eD', hle.trans g1 (fun b hb => .inl hb), ?_, hb.trans g3⟩
        exact st.putS q4 hSD0 g1 (g2.monoS hSD) g3 g4 (bd_mono hSD _ g5)
      unfold wpOp
      simp only [ho]
      obtain ⟨gg, q2g, q2w⟩ := q2
      have hwant := want_ok q2g q2w st hslot
      rw [show ops.toList.toArray = ops by simp] at hwant
      cases hw : wts i with
      | true =>
        rw [hw] at hwant
        rw [if_pos hwant]
        refine .inl ((q6 hw).stp n0 N _ M' f h a w st (fun x hx => ?_) hag hfresh _ _ next)
        cases x with
        | tmp t => exact hslot t (by simp only [looksOf, List.mem_append]; left; exact List.mem_filterMap.2 ⟨.tmp t, hx, rfl⟩)
        | _ => rfl
      | false =>
        rw [hw] at hwant
        rw [if_neg (by rw [hwant]; simp)]
        obtain ⟨e1, e2, e3, e4⟩ := q7 hw
        refine next undef w M' (Nm.le.refl _ _) ?_ (Below.refl _ _) (by rw [e1]; simp [RX]) (by rw [e1]; simp [X.bd])
        rw [e2]
        exact st.rel.monoS fun b hb => .inl hb
  refine wp_region_any hm (main ops.size (Array.replicate ops.size false) a0 _ (by simp) ?_ ?_ ⟨M, fD F, hD H, ?_, Nm.le.refl _ _, ?_, ?_⟩)
  · exact Nat.le_trans (List.length_filter_le _ _) (by simp)
  · intro i j h; rw [rep_false] at h; cases h
  · have : ∀ n, Ev.run ws (fun i => (Array.replicate ops.size false).getD i false) (staOf (fD F) (hD H)) n = staOf (fD F) (hD H) := by
      intro n
      induction n with
      | zero => rfl
      | succ n ih =>
        simp only [Ev.run]
        rw [if_neg (by rw [rep_false]; simp)]; exact ih
    exact (this _).symm
  · exact ⟨⟨st0.rel.blk, st0.rel.inj, fun b k e => .inl (st0.rel.live b k e), fun b k e => bdL_mono (fun b hb => .inl hb) _ (st0.rel.bd b k e), st0.rel.lo⟩, st0.fr, fun t => bd_mono (fun b hb => .inl hb) _ (st0.bd t), st0.size, st0.defers, st0.hi, ⟨fun g hg => ⟨.inl (st0.gl.g g hg).1, (st0.gl.g g hg).2⟩, st0.gl.ld⟩⟩
  · exact ⟨rfl, rfl, rfl, Nat.le_refl _, fun _ _ => rfl⟩
end
end Go.Ev
