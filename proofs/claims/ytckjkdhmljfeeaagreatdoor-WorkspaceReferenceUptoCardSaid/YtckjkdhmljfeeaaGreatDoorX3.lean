/- X3: joined from XE3. -/
import Derived.Test.YtckjkdhmljfeeaaGreatDoorX2
/- One operation, carried out on abstract values: the rules (1). -/
set_option linter.unusedVariables false
set_option linter.unusedSimpArgs false
namespace Go.Ev
open Go Go.RowKit

theorem spl_get {cs new : List X} {j k : Nat} (hl : j + new.length ≤ cs.length) : (spl cs j new)[k]? = if j ≤ k ∧ k < j + new.length then new[k - j]? else cs[k]? := by
  unfold spl
  have h1 : (cs.take j).length = j := by rw [List.length_take]; omega
  by_cases h : k < j
  · rw [List.append_assoc, List.getElem?_append_left (by omega), List.getElem?_take, if_pos h, if_neg (by omega)]
  · by_cases h2 : k < j + new.length
    · rw [List.append_assoc, List.getElem?_append_right (by omega), h1, List.getElem?_append_left (by omega), if_pos ⟨by omega, h2⟩]
    · rw [List.getElem?_append_right (by simp; omega), if_neg (by omega), List.getElem?_drop]
      congr 1
      simp; omega
theorem spl_len {cs new : List X} {j : Nat} (hl : j + new.length ≤ cs.length) : (spl cs j new).length = cs.length := by
  unfold spl; simp; omega
theorem spl_bd {S : Nat → Prop} {cs new : List X} {j : Nat} (h1 : bdL S cs) (h2 : bdL S new) : bdL S (spl cs j new) := bdL_iff.2 fun c hc => by
  unfold spl at hc
  rcases List.mem_append.1 hc with hc | hc
  · rcases List.mem_append.1 hc with hc | hc
    · exact bdL_iff.1 h1 c (List.mem_of_mem_take hc)
    · exact bdL_iff.1 h2 c hc
  · exact bdL_iff.1 h1 c (List.mem_of_mem_drop hc)
/-- parts put into cells -/
def fillX (place : Nat → Option (Nat × Nat)) : List X → List (Nat × X) → Option (List X)
  | cs, [] => some cs
  | cs, (i, x) :: ps => match place i with
    | some (off, n) => match cells? x with
      | some ds => match Nat.beq ds.length n with
        | true => match Nat.ble (off + n) cs.length with
          | true => fillX place (spl cs off ds) ps
          | false => none
        | false => none
      | none => none
    | none => none
def RParts (M : Nm) : List (Nat × X) → List (Nat × Value) → Prop
  | [], qs => qs = []
  | (i, v) :: ps, qs => ∃ u qs', qs = (i, u) :: qs' ∧ RX M v u ∧ RParts M ps qs'
theorem fillX_ok {S : Nat → Prop} {M : Nm} {place : Nat → Option (Nat × Nat)} : ∀ (ps : List (Nat × X)) (qs : List (Nat × Value)) (cs : List X) (arr : Array Value) (cs' : List X), RParts M ps qs → (∀ p ∈ ps, p.2.bd S) → RXL M cs arr.toList → bdL S cs → (∀ u ∈ arr.toList, u.oneCell' = true) →
    fillX place cs ps = some cs' → ∃ arr', Instr.fill place arr qs = some arr' ∧ RXL M cs' arr'.toList ∧ bdL S cs' ∧ (∀ u ∈ arr'.toList, u.oneCell' = true) ∧ arr'.size = arr.size
  | [], qs, cs, arr, cs', hq, _, hr, hb, h1, he => by
    simp only [RParts] at hq; subst hq
    simp only [fillX, Option.some.injEq] at he; subst he
    exact ⟨arr, rfl, hr, hb, h1, rfl⟩
  | (i, v) :: ps, qs, cs, arr, cs', hq, hpb, hr, hb, h1, he => by
    simp only [RParts] at hq
    obtain ⟨u, qs', rfl, hu, hq⟩ := hq
    simp only [fillX] at he
    split at he
    case h_2 => cases he
    rename_i off n hpl
    split at he
    case h_2 => cases he
    rename_i new hnew
    split at he
    case h_2 => cases he
    rename_i hn
    split at he
    case h_2 => cases he
    rename_i hle
    have hn := Nat.eq_of_beq_eq_true hn
    have hle := Nat.le_of_ble_eq_true hle
    obtain ⟨h3, h4⟩ := cells_ok hnew hu
    have hbn := cells_bd hnew (hpb (i, v) (by simp))
    have hus : u.cells.size = n := by have := RXL_len h3; simp at this; omega
    have hcl : arr.size = cs.length := by have := RXL_len hr; simpa using this
    have hg := fun k => Ab.setAll_get (arr := arr) (off := off) (us := u.cells) (by omega) k
    have hsp := fun k => spl_get (cs := cs) (new := new) (j := off) (k := k) (by omega)
    have hr' : RXL M (spl cs off new) (Ab.setAll arr off u.cells).toList := by
      refine RXL_of (by rw [Array.length_toList, (hg 0).1, spl_len (by omega), hcl]) fun k c v' e1 e2 => ?_
      rw [hsp k] at e1
      rw [Array.getElem?_toList, (hg k).2] at e2
      by_cases hk : off ≤ k ∧ k < off + n
      · rw [if_pos (by omega)] at e1 e2
        obtain ⟨v2, e3, e4⟩ := RXL_get h3 _ c e1
        rw [Array.getElem?_toList, e2] at e3; cases e3; exact e4
      · rw [if_neg (by omega)] at e1 e2
        obtain ⟨v2, e3, e4⟩ := RXL_get hr _ c e1
        rw [Array.getElem?_toList, e2] at e3; cases e3; exact e4
    have h1' : ∀ v' ∈ (Ab.setAll arr off u.cells).toList, v'.oneCell' = true := fun v' hv' => by
      obtain ⟨k, hk⟩ := List.getElem?_of_mem hv'
      rw [Array.getElem?_toList, (hg k).2] at hk
      split at hk
      · exact h4 v' (Array.mem_toList_iff.2 (Array.mem_of_getElem? hk))
      · exact h1 v' (Array.mem_toList_iff.2 (Array.mem_of_getElem? hk))
    obtain ⟨arr', e1, e2, e3, e4, e5⟩ := fillX_ok ps qs' _ _ cs' hq (fun p hp => hpb p (by simp [hp])) hr' (spl_bd hb hbn) h1' he
    refine ⟨arr', ?_, e2, e3, e4, by rw [e5, (hg 0).1]⟩
    rw [Instr.fill]
    simp only [hpl]
    rw [if_neg (by simp; omega)]
    exact e1

/-! ### the rules -/
section
variable {P : Program} {ng nb : Nat} {f : Nat → X} {h : HF} {o : Oper} {out : Out}
def allV (ng : Nat) (f : Nat → X) : List Operand → Bool
  | [] => true
  | x :: xs => match toV (evX ng f x) with
    | some _ => allV ng f xs
    | none => false
theorem allV_ok : ∀ {l : List Operand}, allV ng f l = true → ∀ x ∈ l, ∃ u, toV (evX ng f x) = some u
  | [], _, x, hx => by cases hx
  | y :: l, h, x, hx => by
    simp only [allV] at h
    split at h
    · rename_i u hu
      rcases List.mem_cons.1 hx with rfl | hx
      · exact ⟨u, hu⟩
      · exact allV_ok h x hx
    · cases h
def notSel : Op → Bool
  | .select _ _ => false
  | _ => true
def rPure (P : Program) (ng : Nat) (f : Nat → X) (o : Oper) : Option Out := match allV ng f o.op.operands.toList with
  | true => match notSel o.op with
    | true => match pureRun P (execOp (fun x => (toV (evX ng f x)).getD undef) o) with
      | some (.value u) => some ⟨.v u, .nop, []⟩
      | some .skip => some ⟨.v undef, .nop, []⟩
      | _ => none
    | false => none
  | false => none
theorem rPure_ok (hr : rPure P ng f o = some out) : Snd P ng o f h nb out := by
  unfold rPure at hr
  split at hr
  case h_2 => cases hr
  rename_i hall
  split at hr
  case h_2 => cases hr
  rename_i hns
  intro n0 N S M f2 h2 a w st hx _ hn
  have hev : ∀ x ∈ o.op.operands, a.eval x = (toV (evX ng f x)).getD undef := fun x hx' => by
    have hm : x ∈ o.op.operands.toList := by simpa using hx'
    obtain ⟨u, hu⟩ := allV_ok hall x hm
    have h1 := st.ev x
    rw [hx x hm] at h1
    rw [hu, toV_ok _ _ _ hu h1]; rfl
  have hse : ∀ cs b, o.op ≠ .select cs b := fun cs b e => by rw [e] at hns; cases hns
  have e : execOp a.eval o = execOp (fun x => (toV (evX ng f x)).getD undef) o := execOp_congr o hse hev
  split at hr
  · rename_i u hu
    simp only [Option.some.injEq] at hr; subst hr
    exact outc_pure st (by rw [e, pureRun_ok w _ _ hu]) (by simp [RX]) (by simp [X.bd])
  · rename_i hu
    simp only [Option.some.injEq] at hr; subst hr
    exact ⟨undef, w, M, .inr ⟨by rw [e, pureRun_ok w _ _ hu], rfl⟩, Nm.le.refl _ _, st.rel, Below.refl _ _, by simp [RX], by simp [X.bd]⟩
  · cases hr
theorem rMov_ok {x : Operand} (ho : o.op = .move x ∨ o.op = .assign x) : Snd P ng o f h nb ⟨evX ng f x, .nop, []⟩ := by
  intro n0 N S M f2 h2 a w st hx _ hn
  have hm : x ∈ o.op.operands.toList := by rcases ho with ho | ho <;> simp [ho, Op.operands]
  refine outc_pure st (u := a.eval x) ?_ (hx x hm ▸ st.ev x) (hx x hm ▸ st.evbd x)
  rcases ho with ho | ho <;> simp [execOp, ho]
def rPick (ng : Nat) (f : Nat → X) (c x y : Operand) : Option Out := match evX ng f c with
  | .v (.bool true) => some ⟨evX ng f x, .nop, []⟩
  | .v (.bool false) => some ⟨evX ng f y, .nop, []⟩
  | _ => none
theorem rPick_ok {c x y : Operand} (ho : o.op = .pick c x y) (hr : rPick ng f c x y = some out) : Snd P ng o f h nb out := by
  unfold rPick at hr
  intro n0 N S M f2 h2 a w st hx _ hn
  have mc := hx c (by simp [ho, Op.operands])
  have mx := hx x (by simp [ho, Op.operands])
  have my := hx y (by simp [ho, Op.operands])
  have h1 := st.ev c
  rw [mc] at h1
  split at hr
  · rename_i hc
    simp only [Option.some.injEq] at hr; subst hr
    rw [hc] at h1; simp only [RX] at h1
    exact outc_pure st (u := a.eval x) (by simp [execOp, ho, h1, asBool]) (mx ▸ st.ev x) (mx ▸ st.evbd x)
  · rename_i hc
    simp only [Option.some.injEq] at hr; subst hr
    rw [hc] at h1; simp only [RX] at h1
    exact outc_pure st (u := a.eval y) (by simp [execOp, ho, h1, asBool]) (my ▸ st.ev y) (my ▸ st.evbd y)
  · cases hr
def rAlloc (P : Program) (nb : Nat) (e : TypeId) : Option Out := match Ab.zeroOf P e with
  | some (n, z) => some ⟨.ptr nb 0, .new nb ⟨false, e, z.map .v⟩, []⟩
  | none => none
theorem rAlloc_ok {e : TypeId} (ho : o.op = .alloc e) (hr : rAlloc P nb e = some out) : Snd P ng o f h nb out := by
  unfold rAlloc at hr
  split at hr
  case h_2 => cases hr
  rename_i n z hz
  simp only [Option.some.injEq] at hr; subst hr
  obtain ⟨i, v, hi, hv, hpos, hsz, hvs, rfl, hzl, hone⟩ := Ab.zeroOf_spec hz
  intro n0 N S M f2 h2 a w st hx _ hn
  refine outc_new st (hn rfl) e v.cells _ _ _ (.pointer (some ⟨w.heap.size, 0, none⟩)) rfl (Below.refl _ _) ?_ (by simp) (fun j x hj => ?_) (bdL_vs _) (by simp [RX, Nm.new]) (by simp [X.bd, SS])
  · simp [execOp, ho, Instr.alloc, zeroValue, typeInfo, hi, hv, newVar, newRow]
  · simp only [List.getElem?_map, Option.map_eq_some_iff] at hj
    obtain ⟨u, h3, rfl⟩ := hj
    exact ⟨u, by simpa using h3, hone u (List.mem_of_getElem? h3), by simp [RX]⟩
def rBox (ng : Nat) (f : Nat → X) (nb : Nat) (e : TypeId) (x : Operand) : Option Out := match cells? (evX ng f x) with
  | some cs => some ⟨.ptr nb 0, .new nb ⟨false, e, cs⟩, []⟩
  | none => none
theorem rBox_ok {e : TypeId} {x : Operand} (ho : o.op = .box e x) (hr : rBox ng f nb e x = some out) : Snd P ng o f h nb out := by
  unfold rBox at hr
  split at hr
  case h_2 => cases hr
  rename_i cs hcs
  simp only [Option.some.injEq] at hr; subst hr
  intro n0 N S M f2 h2 a w st hx _ hn
  have mx := hx x (by simp [ho, Op.operands])
  obtain ⟨h3, h4⟩ := cells_ok hcs (mx ▸ st.ev x)
  refine outc_new st (hn rfl) e (a.eval x).cells _ _ _ (.pointer (some ⟨w.heap.size, 0, none⟩)) rfl (Below.refl _ _) ?_ (by have := RXL_len h3; simp at this; omega) (fun j c hj => ?_) (cells_bd hcs (mx ▸ st.evbd x)) (by simp [RX, Nm.new]) (by simp [X.bd, SS])
  · simp [execOp, ho, Instr.box, newVar, newRow]
  · obtain ⟨u, h5, h6⟩ := RXL_get h3 j c hj
    exact ⟨u, by simpa using h5, h4 u (List.mem_of_getElem? h5), h6⟩
def evParts (ng : Nat) (f : Nat → X) : List (Nat × Operand) → List (Nat × X)
  | [] => []
  | (i, x) :: ps => (i, evX ng f x) :: evParts ng f ps
theorem RParts_ev {n0 N : Nat} {S : Nat → Prop} {M : Nm} {f2 : Nat → X} {h2 : HF} {a : Act} {w : World} (st : St n0 ng N S M f2 h2 a w) : ∀ (parts : List (Nat × Operand)), (∀ x ∈ parts.map (·.2), evX ng f2 x = evX ng f x) →
    RParts M (evParts ng f parts) (parts.map fun p => (p.1, a.eval p.2)) ∧ ∀ p ∈ evParts ng f parts, p.2.bd S
  | [], _ => by simp [RParts, evParts]
  | (i, x) :: parts, hx => by
    obtain ⟨h1, h2⟩ := RParts_ev st parts fun y hy => hx y (by simp at hy ⊢; exact .inr hy)
    have e := hx x (by simp)
    simp only [List.map_cons, RParts, evParts]
    refine ⟨⟨_, _, rfl, e ▸ st.ev x, h1⟩, fun p hp => ?_⟩
    rcases List.mem_cons.1 hp with rfl | hp
    · exact e ▸ st.evbd x
    · exact h2 p hp
def placesOf (P : Program) (t : TypeId) : Option (List X × List (Nat × Nat)) := match P.info? t, P.underlying t with
  | some i, some (.struct fields) => match i.zero, fields.toList.mapM (fun f => (P.info? f.type).map fun i => (f.offset, i.size)) with
    | some z, some places => match z.cells.toList.all Value.oneCell' with
      | true => some (z.cells.toList.map .v, places)
      | false => none
    | _, _ => none
  | _, _ => none
def rBuild (P : Program) (ng : Nat) (f : Nat → X) (t : TypeId) (parts : Array (Nat × Operand)) : Option Out := match placesOf P t with
  | some (z, places) => match fillX (places.toArray[·]?) z (evParts ng f parts.toList) with
    | some cs => some ⟨.agg cs, .nop, []⟩
    | none => none
  | none => none
theorem rBuild_ok {t : TypeId} {parts : Array (Nat × Operand)} (ho : o.op = .build t parts) (hr : rBuild P ng f t parts = some out) : Snd P ng o f h nb out := by
  unfold rBuild placesOf at hr
  split at hr
  case h_2 => cases hr
  rename_i z0 places hz0
  split at hz0
  case h_2 => cases hz0
  rename_i ti fields hi hu
  split at hz0
  case h_2 => cases hz0
  rename_i z places' hz hpl
  split at hz0
  case h_2 => cases hz0
  rename_i hone
  simp only [Option.some.injEq, Prod.mk.injEq] at hz0
  obtain ⟨rfl, rfl⟩ := hz0
  split at hr
  case h_2 => cases hr
  rename_i cs hcs
  simp only [Option.some.injEq] at hr; subst hr
  intro n0 N S M f2 h2 a w st hx _ hn
  obtain ⟨h1, h3⟩ := RParts_ev (f := f) st parts.toList fun x hx' => hx x (by simpa [ho, Op.operands] using hx')
  obtain ⟨arr, e1, e2, e3, e4, e5⟩ := fillX_ok _ _ _ z.cells cs h1 h3 (RXL_vs _) (bdL_vs _) (fun u hu => List.all_eq_true.1 hone u hu) hcs
  refine outc_pure st (u := .agg arr) ?_ (by simp only [RX]; exact ⟨arr, rfl, e4, e2⟩) (by simpa only [X.bd] using e3)
  have hb : P.built t (parts.map fun p => (p.1, a.eval p.2)).toList = some arr := by
    unfold Program.built
    simp only [hi, hu, hz, hpl, Array.toList_map]
    exact e1
  have := run_build (P := P) w t (parts.map fun p => (p.1, a.eval p.2)) arr hb
  simp only [execOp, ho, Sem.run_bind]
  rw [show (parts.map fun (i, x) => (i, a.eval x)) = parts.map fun p => (p.1, a.eval p.2) from rfl, this]
  rfl
def zeroesOf (P : Program) (t : TypeId) : Option (List X × Nat) := match P.info? t with
  | some i => match P.underlying t with
    | some (.array _ e) => match i.zero with
      | some z => match P.info? e with
        | some ie => match z.cells.toList.all Value.oneCell' with
          | true => some (z.cells.toList.map .v, ie.size)
          | false => none
        | none => none
      | none => none
    | _ => none
  | none => none
def rBuildA (P : Program) (ng : Nat) (f : Nat → X) (t : TypeId) (parts : Array (Nat × Operand)) : Option Out := match zeroesOf P t with
  | some (z, n) => match fillX (fun i => some (i * n, n)) z (evParts ng f parts.toList) with
    | some cs => some ⟨.agg cs, .nop, []⟩
    | none => none
  | none => none
theorem rBuildA_ok {t : TypeId} {parts : Array (Nat × Operand)} (ho : o.op = .build t parts) (hr : rBuildA P ng f t parts = some out) : Snd P ng o f h nb out := by
  unfold rBuildA zeroesOf at hr
  split at hr
  case h_2 => cases hr
  rename_i z0 n hz0
  split at hz0
  case h_2 => cases hz0
  rename_i ti hi
  split at hz0
  case h_2 => cases hz0
  rename_i m e hu
  split at hz0
  case h_2 => cases hz0
  rename_i z hz
  split at hz0
  case h_2 => cases hz0
  rename_i ie hie
  split at hz0
  case h_2 => cases hz0
  rename_i hone
  simp only [Option.some.injEq, Prod.mk.injEq] at hz0
  obtain ⟨rfl, rfl⟩ := hz0
  split at hr
  case h_2 => cases hr
  rename_i cs hcs
  simp only [Option.some.injEq] at hr; subst hr
  intro n0 N S M f2 h2 a w st hx _ hn
  obtain ⟨h1, h3⟩ := RParts_ev (f := f) st parts.toList fun x hx' => hx x (by simpa [ho, Op.operands] using hx')
  obtain ⟨arr, e1, e2, e3, e4, e5⟩ := fillX_ok _ _ _ z.cells cs h1 h3 (RXL_vs _) (bdL_vs _) (fun u hu => List.all_eq_true.1 hone u hu) hcs
  refine outc_pure st (u := .agg arr) ?_ (by simp only [RX]; exact ⟨arr, rfl, e4, e2⟩) (by simpa only [X.bd] using e3)
  have hb : P.built t (parts.map fun p => (p.1, a.eval p.2)).toList = some arr := by
    unfold Program.built
    simp only [hi, hu, hz, hie, Array.toList_map]
    exact e1
  have := run_build (P := P) w t (parts.map fun p => (p.1, a.eval p.2)) arr hb
  simp only [execOp, ho, Sem.run_bind]
  rw [show (parts.map fun (i, x) => (i, a.eval x)) = parts.map fun p => (p.1, a.eval p.2) from rfl, this]
  rfl
end
end Go.Ev
