/- X9: joined from XE9. -/
import Derived.Test.YtckjkdhmljfeeaaGreatDoorX8
/- Regions: operations one behind the other; the check where a region draws its order. -/
set_option linter.unusedVariables false
set_option linter.unusedSimpArgs false
namespace Go.Ev
open Go Go.RowKit
open Go.Ab (Path clos ahead ahead_spec edgesOf looksOf)
/-! ### values that are surely equal -/
def eqVal : Value → Value → Bool
  | .bool a, .bool b => a == b
  | .int k a, .int k' b => decide (k = k') && decide (a = b)
  | .string a, .string b => decide (a.data = b.data)
  | .pointer none, .pointer none => true
  | .slice none a b, .slice none c d => Nat.beq a c && Nat.beq b d
  | .nilFunc, .nilFunc => true
  | .nilIface, .nilIface => true
  | _, _ => false
theorem eqVal_ok {a b : Value} (h : eqVal a b = true) : a = b := by
  unfold eqVal at h
  split at h
  · rw [eq_of_beq h]
  · rw [Bool.and_eq_true] at h
    rw [of_decide_eq_true h.1, of_decide_eq_true h.2]
  · rename_i a b
    have := of_decide_eq_true h
    cases a; cases b; simp only at this; rw [this]
  · rfl
  · rw [Bool.and_eq_true] at h
    rw [beq_t.1 h.1, beq_t.1 h.2]
  · rfl
  · rfl
  · cases h
def eqON : Option Nat → Option Nat → Bool
  | none, none => true
  | some a, some b => Nat.beq a b
  | _, _ => false
theorem eqON_ok {a b : Option Nat} (h : eqON a b = true) : a = b := by
  unfold eqON at h
  split at h
  · rfl
  · rw [beq_t.1 h]
  · cases h
mutual
def eqX : X → X → Bool
  | .v a, .v b => eqVal a b
  | .ptr b o, .ptr c p => Nat.beq b c && Nat.beq o p
  | .sl b o n s c, .sl b' o' n' s' c' => Nat.beq b b' && Nat.beq o o' && Nat.beq n n' && Nat.beq s s' && eqON c c'
  | .agg xs, .agg ys => eqL xs ys
  | .fn f fs xs, .fn g gs ys => Nat.beq f g && eqL fs gs && eqL xs ys
  | .ifc t x, .ifc u y => Nat.beq t u && eqX x y
  | _, _ => false
def eqL : List X → List X → Bool
  | [], [] => true
  | x :: xs, y :: ys => eqX x y && eqL xs ys
  | _, _ => false
end
mutual
theorem eqX_ok : ∀ (a b : X), eqX a b = true → a = b
  | .v a, b, h => by
    cases b <;> simp only [eqX] at h <;> first | (cases h; done) | skip
    rw [eqVal_ok h]
  | .ptr b o, c, h => by
    cases c <;> simp only [eqX] at h <;> first | (cases h; done) | skip
    rw [Bool.and_eq_true] at h
    rw [beq_t.1 h.1, beq_t.1 h.2]
  | .sl b o n s c, d, h => by
    cases d <;> simp only [eqX] at h <;> first | (cases h; done) | skip
    simp only [Bool.and_eq_true] at h
    obtain ⟨⟨⟨⟨h1, h2⟩, h3⟩, h4⟩, h5⟩ := h
    rw [beq_t.1 h1, beq_t.1 h2, beq_t.1 h3, beq_t.1 h4, eqON_ok h5]
  | .agg xs, b, h => by
    cases b <;> simp only [eqX] at h <;> first | (cases h; done) | skip
    rw [eqL_ok _ _ h]
  | .fn f fs xs, b, h => by
    cases b <;> simp only [eqX] at h <;> first | (cases h; done) | skip
    simp only [Bool.and_eq_true] at h
    rw [beq_t.1 h.1.1, eqL_ok _ _ h.1.2, eqL_ok _ _ h.2]
  | .ifc t x, b, h => by
    cases b <;> simp only [eqX] at h <;> first | (cases h; done) | skip
    rw [Bool.and_eq_true] at h
    rw [beq_t.1 h.1, eqX_ok _ _ h.2]
  | .tup xs, b, h => by cases b <;> simp [eqX] at h
  | .junk, b, h => by cases b <;> simp [eqX] at h
theorem eqL_ok : ∀ (xs ys : List X), eqL xs ys = true → xs = ys
  | [], ys, h => by cases ys <;> simp [eqL] at h ⊢
  | x :: xs, ys, h => by
    cases ys with
    | nil => simp [eqL] at h
    | cons y ys =>
      simp only [eqL, Bool.and_eq_true] at h
      rw [eqX_ok x y h.1, eqL_ok xs ys h.2]
end
/-! ### what an operation of a region touches -/
inductive Ft where
  | ef (e : Ef) (rd : List (Nat × Nat × Nat))
  | cl (H0 H1 : T Blk)
def rdL (rd : List (Nat × Nat × Nat)) (l : Loc) : Prop := ∃ r ∈ rd, l = .hdr r.1 ∨ ∃ i, r.2.1 ≤ i ∧ i < r.2.1 + r.2.2 ∧ l = .cell r.1 i
def tchH : Ft → Loc → Prop
  | .ef e rd, l => wrE e l ≠ none ∨ rdL rd l
  | .cl _ _, l => ∀ t, l ≠ .slot t
noncomputable def wrF : Ft → Wr
  | .ef e _ => wrE e
  | .cl H0 H1 => wrH (hD H0) (hD H1)
def trF : Ft → HF → HF
  | .ef e _ => e.app
  | .cl _ H1 => fun _ => hD H1
def agF : Ft → HF → HF → Prop
  | .ef _ rd, h => agr rd h
  | .cl _ _, h => fun h2 => h2 = h
def bne' (a b : Nat) : Bool := !Nat.beq a b
theorem bne_t {a b : Nat} : bne' a b = true ↔ ¬ a = b := by
  unfold bne'; rw [Bool.not_eq_true', beq_f]
def rdOk (e : Ef) (r : Nat × Nat × Nat) : Bool := match e with
  | .nop => true
  | .put b off vs => bne' b r.1 || Nat.ble (off + vs.length) r.2.1 || Nat.ble (r.2.1 + r.2.2) off
  | .new nb _ => bne' nb r.1
  | .mv b nb _ => bne' b r.1 && bne' nb r.1
def efOk : Ef → Ef → Bool
  | .nop, _ => true
  | _, .nop => true
  | .put b off vs, .put b2 off2 vs2 => bne' b b2 || Nat.ble (off + vs.length) off2 || Nat.ble (off2 + vs2.length) off
  | .put b _ _, .new nb _ => bne' b nb
  | .new nb _, .put b _ _ => bne' b nb
  | .new nb _, .new nb2 _ => bne' nb nb2
  | .mv b nb _, .new nb2 _ => bne' b nb2 && bne' nb nb2
  | .new nb2 _, .mv b nb _ => bne' b nb2 && bne' nb nb2
  | .mv b nb _, .put b2 _ _ => bne' b b2 && bne' nb b2
  | .put b2 _ _, .mv b nb _ => bne' b b2 && bne' nb b2
  | .mv _ _ _, .mv _ _ _ => false
def sameRd (H0 H1 : T Blk) (r : Nat × Nat × Nat) : Bool := match H0.get r.1 with
  | some k0 => match H1.get r.1 with
    | some k1 => (k0.ro == k1.ro) && Nat.beq k0.ty k1.ty && Nat.beq k0.xs.length k1.xs.length && eqL ((k0.xs.drop r.2.1).take r.2.2) ((k1.xs.drop r.2.1).take r.2.2)
    | none => false
  | none => false
def okH : Ft → Ft → Bool
  | .ef e1 r1, .ef e2 r2 => efOk e1 e2 && r2.all (rdOk e1) && r1.all (rdOk e2)
  | .ef .nop rd, .cl H0 H1 => rd.all (sameRd H0 H1)
  | .cl H0 H1, .ef .nop rd => rd.all (sameRd H0 H1)
  | _, _ => false
theorem rdOk_ok {e : Ef} {r : Nat × Nat × Nat} (h : rdOk e r = true) {l : Loc} (hl : l = .hdr r.1 ∨ ∃ i, r.2.1 ≤ i ∧ i < r.2.1 + r.2.2 ∧ l = .cell r.1 i) : wrE e l = none := by
  cases e with
  | nop => rfl
  | put b off vs =>
    simp only [rdOk, Bool.or_eq_true, bne_t] at h
    rcases hl with rfl | ⟨i, h1, h2, rfl⟩
    · rfl
    · simp only [wrE]
      rw [if_neg]
      rintro ⟨hb, h3, h4⟩
      rcases h with (h | h) | h
      · exact h hb.symm
      · have := Nat.le_of_ble_eq_true h; omega
      · have := Nat.le_of_ble_eq_true h; omega
  | new nb k =>
    simp only [rdOk, bne_t] at h
    rcases hl with rfl | ⟨i, h1, h2, rfl⟩ <;> (simp only [wrE]; rw [if_neg (fun e => h e.symm)])
  | mv b nb k =>
    simp only [rdOk, Bool.and_eq_true, bne_t] at h
    rcases hl with rfl | ⟨i, h1, h2, rfl⟩ <;> (simp only [wrE]; rw [if_neg (fun e => h.2 e.symm), if_neg (fun e => h.1 e.symm)])
theorem efOk_ok {e1 e2 : Ef} (h : efOk e1 e2 = true) (l : Loc) : wrE e1 l = none ∨ wrE e2 l = none := by
  cases e1 with
  | nop => exact .inl (by cases l <;> rfl)
  | put b off vs =>
    cases e2 with
    | nop => exact .inr (by cases l <;> rfl)
    | put b2 off2 vs2 =>
      simp only [efOk, Bool.or_eq_true, bne_t] at h
      cases l with
      | slot t => exact .inl rfl
      | hdr c => exact .inl rfl
      | cell c i =>
        simp only [wrE]
        by_cases h1 : c = b ∧ off ≤ i ∧ i < off + vs.length
        · right
          rw [if_neg]
          rintro ⟨hc, h3, h4⟩
          rcases h with (h | h) | h
          · exact h (h1.1.symm.trans hc)
          · have := Nat.le_of_ble_eq_true h; omega
          · have := Nat.le_of_ble_eq_true h; omega
        · left; rw [if_neg h1]
    | new nb k =>
      simp only [efOk, bne_t] at h
      cases l with
      | slot t => exact .inl rfl
      | hdr c => exact .inl rfl
      | cell c i =>
        simp only [wrE]
        by_cases hc : c = nb
        · left; rw [if_neg]; rintro ⟨h1, _⟩; exact h (h1.symm.trans hc)
        · right; rw [if_neg hc]
    | mv b0 nb k =>
      simp only [efOk, Bool.and_eq_true, bne_t] at h
      cases l with
      | slot t => exact .inl rfl
      | hdr c => exact .inl rfl
      | cell c i =>
        simp only [wrE]
        by_cases hc : c = b
        · right; rw [if_neg (fun e => h.2 (e.symm.trans hc)), if_neg (fun e => h.1 (e.symm.trans hc))]
        · left; rw [if_neg]; rintro ⟨h1, _⟩; exact hc h1
  | new nb k =>
    cases e2 with
    | nop => exact .inr (by cases l <;> rfl)
    | put b off vs =>
      simp only [efOk, bne_t] at h
      cases l with
      | slot t => exact .inl rfl
      | hdr c => exact .inr rfl
      | cell c i =>
        simp only [wrE]
        by_cases hc : c = nb
        · right; rw [if_neg]; rintro ⟨h1, _⟩; exact h (h1.symm.trans hc)
        · left; rw [if_neg hc]
    | new nb2 k2 =>
      simp only [efOk, bne_t] at h
      cases l with
      | slot t => exact .inl rfl
      | hdr c =>
        simp only [wrE]
        by_cases hc : c = nb
        · right; rw [if_neg (fun e => h (hc.symm.trans e))]
        · left; rw [if_neg hc]
      | cell c i =>
        simp only [wrE]
        by_cases hc : c = nb
        · right; rw [if_neg (fun e => h (hc.symm.trans e))]
        · left; rw [if_neg hc]
    | mv b0 nb0 k0 =>
      simp only [efOk, Bool.and_eq_true, bne_t] at h
      cases l with
      | slot t => exact .inl rfl
      | hdr c =>
        simp only [wrE]
        by_cases hc : c = nb
        · right; rw [if_neg (fun e => h.2 (e.symm.trans hc)), if_neg (fun e => h.1 (e.symm.trans hc))]
        · left; rw [if_neg hc]
      | cell c i =>
        simp only [wrE]
        by_cases hc : c = nb
        · right; rw [if_neg (fun e => h.2 (e.symm.trans hc)), if_neg (fun e => h.1 (e.symm.trans hc))]
        · left; rw [if_neg hc]
  | mv b nb k =>
    cases e2 with
    | nop => exact .inr (by cases l <;> rfl)
    | put b2 off vs =>
      simp only [efOk, Bool.and_eq_true, bne_t] at h
      cases l with
      | slot t => exact .inl rfl
      | hdr c => exact .inr rfl
      | cell c i =>
        simp only [wrE]
        by_cases hc : c = b2
        · left; rw [if_neg (fun e => h.2 (e.symm.trans hc)), if_neg (fun e => h.1 (e.symm.trans hc))]
        · right; rw [if_neg]; rintro ⟨h1, _⟩; exact hc h1
    | new nb2 k2 =>
      simp only [efOk, Bool.and_eq_true, bne_t] at h
      cases l with
      | slot t => exact .inl rfl
      | hdr c =>
        simp only [wrE]
        by_cases hc : c = nb2
        · left; rw [if_neg (fun e => h.2 (e.symm.trans hc)), if_neg (fun e => h.1 (e.symm.trans hc))]
        · right; rw [if_neg hc]
      | cell c i =>
        simp only [wrE]
        by_cases hc : c = nb2
        · left; rw [if_neg (fun e => h.2 (e.symm.trans hc)), if_neg (fun e => h.1 (e.symm.trans hc))]
        · right; rw [if_neg hc]
    | mv _ _ _ => simp [efOk] at h
theorem wrH_eq {h h' : HF} {l : Loc} (e : staOf (fun _ => .junk) h l = staOf (fun _ => .junk) h' l) : wrH h h' l = none := by
  cases l with
  | slot t => rfl
  | hdr b => exact if_pos e
  | cell b i => exact if_pos e
theorem sameRd_ok {H0 H1 : T Blk} {r : Nat × Nat × Nat} (h : sameRd H0 H1 r = true) {l : Loc} (hl : l = .hdr r.1 ∨ ∃ i, r.2.1 ≤ i ∧ i < r.2.1 + r.2.2 ∧ l = .cell r.1 i) : wrH (hD H0) (hD H1) l = none := by
  unfold sameRd at h
  split at h
  case h_2 => cases h
  rename_i k0 e0
  split at h
  case h_2 => cases h
  rename_i k1 e1
  simp only [Bool.and_eq_true] at h
  obtain ⟨⟨⟨h1, h2⟩, h3⟩, h4⟩ := h
  have h1 := eq_of_beq h1
  have h2 := beq_t.1 h2
  have h3 := beq_t.1 h3
  have h4 := eqL_ok _ _ h4
  have e0' : hD H0 r.1 = some k0 := e0
  have e1' : hD H1 r.1 = some k1 := e1
  rcases hl with rfl | ⟨i, g1, g2, rfl⟩
  · refine wrH_eq ?_
    simp only [staOf, e0', e1', Option.map_some, hdr, h1, h2, h3]
  · refine wrH_eq ?_
    simp only [staOf, cellOf, e0', e1', Option.bind_some]
    have := congrArg (fun xs => xs[i - r.2.1]?) h4
    simp only [List.getElem?_take] at this
    rw [if_pos (by omega), if_pos (by omega), List.getElem?_drop, List.getElem?_drop, show r.2.1 + (i - r.2.1) = i by omega] at this
    rw [this]
theorem wrH_slot {h h' : HF} {t : Nat} : wrH h h' (.slot t) = none := rfl
theorem okH_ok {x y : Ft} (h : okH x y = true) (l : Loc) : ¬ (wrF x l ≠ none ∧ tchH y l) ∧ ¬ (wrF y l ≠ none ∧ tchH x l) := by
  cases x with
  | ef e1 r1 =>
    cases y with
    | ef e2 r2 =>
      simp only [okH, Bool.and_eq_true, List.all_eq_true] at h
      obtain ⟨⟨h1, h2⟩, h3⟩ := h
      refine ⟨fun ⟨g1, g2⟩ => ?_, fun ⟨g1, g2⟩ => ?_⟩
      · rcases g2 with g2 | ⟨r, hr, g2⟩
        · rcases efOk_ok h1 l with h | h
          · exact g1 h
          · exact g2 h
        · exact g1 (rdOk_ok (h2 r hr) g2)
      · rcases g2 with g2 | ⟨r, hr, g2⟩
        · rcases efOk_ok h1 l with h | h
          · exact g2 h
          · exact g1 h
        · exact g1 (rdOk_ok (h3 r hr) g2)
    | cl H0 H1 =>
      cases e1 <;> simp only [okH] at h <;> first | (cases h; done) | skip
      rw [List.all_eq_true] at h
      refine ⟨fun ⟨g1, g2⟩ => g1 (by cases l <;> rfl), fun ⟨g1, g2⟩ => ?_⟩
      rcases g2 with g2 | ⟨r, hr, g2⟩
      · exact g2 (by cases l <;> rfl)
      · exact g1 (sameRd_ok (h r hr) g2)
  | cl H0 H1 =>
    cases y with
    | cl _ _ => simp [okH] at h
    | ef e2 r2 =>
      cases e2 <;> simp only [okH] at h <;> first | (cases h; done) | skip
      rw [List.all_eq_true] at h
      refine ⟨fun ⟨g1, g2⟩ => ?_, fun ⟨g1, g2⟩ => g1 (by cases l <;> rfl)⟩
      rcases g2 with g2 | ⟨r, hr, g2⟩
      · exact g2 (by cases l <;> rfl)
      · exact g1 (sameRd_ok (h r hr) g2)
theorem okH_nil (x : Ft) : okH (.ef .nop []) x = true ∧ okH x (.ef .nop []) = true := by
  cases x with
  | ef e r =>
    have : ∀ r : List (Nat × Nat × Nat), r.all (rdOk .nop) = true := fun r => by rw [List.all_eq_true]; intro x _; rfl
    refine ⟨by simp [okH, efOk, this], ?_⟩
    cases e <;> simp [okH, efOk, this]
  | cl _ _ => exact ⟨rfl, rfl⟩
/-! ### the static check -/
def heapy : Op → Bool
  | .load _ _ => true
  | .store _ _ _ => true
  | .alloc _ => true
  | .box _ _ => true
  | .buildSlice _ _ _ => true
  | .makeSlice _ _ _ => true
  | .call _ => true
  | .convert _ _ _ => true
  | _ => false
def isDst (d : Option Nat) (t : Nat) : Bool := match d with
  | some x => Nat.beq x t
  | none => false
def slotOk (lj li : List Nat) (dj di : Option Nat) : Bool := !(li.any (isDst dj)) && !(lj.any (isDst di)) && (match dj with | some x => !isDst di x | none => true)
def edgs (ops : List Oper) : List (List Nat) := ops.map edgesOf
def chkS (ops : List Oper) : Bool :=
  (List.range ops.length).all fun i => match ops[i]? with
    | some oi => (edgesOf oi).all (fun e => Nat.ble (e + 1) i) && (List.range i).all fun j => match ops[j]? with
      | some oj => slotOk (looksOf ops oj) (looksOf ops oi) oj.dst oi.dst || Ab.ahead (Ab.clos (edgs ops) []) j i
      | none => false
    | none => false
/-- the pairs that are to be looked at while running -/
def prs (ops : List Oper) : List (Nat × Nat) :=
  (List.range ops.length).flatMap fun i => (List.range i).filterMap fun j => match ops[i]? with
    | some oi => match ops[j]? with
      | some oj => match heapy oi.op && heapy oj.op && !Ab.ahead (Ab.clos (edgs ops) []) j i with
        | true => some (j, i)
        | false => none
      | none => none
    | none => none
def chkH (fts : List Ft) (ps : List (Nat × Nat)) : Bool := ps.all fun p => match fts[p.1]? with
  | some x => match fts[p.2]? with
    | some y => okH x y
    | none => false
  | none => false
def isNil : Ft → Bool
  | .ef .nop [] => true
  | _ => false
theorem isNil_ok {x : Ft} (h : isNil x = true) : x = .ef .nop [] := by
  unfold isNil at h
  split at h
  · rfl
  · cases h
def tch (ops : List Oper) (fts : List Ft) (i : Nat) (l : Loc) : Prop := ∃ o x, ops[i]? = some o ∧ fts[i]? = some x ∧ ((∃ t ∈ looksOf ops o, l = .slot t) ∨ (∃ t, o.dst = some t ∧ l = .slot t) ∨ tchH x l)
theorem isDst_t {d : Option Nat} {t : Nat} : isDst d t = true ↔ d = some t := by
  unfold isDst
  cases d with
  | none => simp
  | some x => simp [beq_t]
theorem ind_ok {ops : List Oper} {fts : List Ft} {ws : Nat → Wr} (hs : chkS ops = true) (hh : chkH fts (prs ops) = true) (hlen : fts.length = ops.length) (hnil : ∀ (i : Nat) o x, ops[i]? = some o → fts[i]? = some x → heapy o.op = false → x = .ef .nop [])
    (hws : ∀ (i : Nat) o x, ops[i]? = some o → fts[i]? = some x → ∃ v, ws i = wrS o.dst v (wrF x)) (hsub : ∀ x : Ft, x ∈ fts → ∀ l, wrF x l ≠ none → tchH x l) : Ind ops.length (edgs ops) ws (tch ops fts) := by
  unfold chkS at hs
  rw [List.all_eq_true] at hs
  unfold chkH at hh
  rw [List.all_eq_true] at hh
  have get : ∀ i, i < ops.length → ∃ o x, ops[i]? = some o ∧ fts[i]? = some x := fun i hi => ⟨_, _, List.getElem?_eq_getElem hi, List.getElem?_eq_getElem (by omega)⟩
  refine ⟨by simp [edgs], fun i hi e he => ?_, fun i hi l hl => ?_, fun i j hi hj hl => ?_⟩
  · obtain ⟨o, x, ho, hx⟩ := get i hi
    have h1 := hs i (by simpa using hi)
    rw [ho] at h1
    simp only [Bool.and_eq_true, List.all_eq_true] at h1
    have : (edgs ops).getD i [] = edgesOf o := by rw [List.getD_eq_getElem?_getD, edgs, List.getElem?_map, ho]; rfl
    rw [this] at he
    exact Nat.le_of_ble_eq_true (h1.1 e he)
  · obtain ⟨o, x, ho, hx⟩ := get i hi
    obtain ⟨v, hv⟩ := hws i o x ho hx
    rw [hv] at hl
    refine ⟨o, x, ho, hx, ?_⟩
    cases l with
    | slot t =>
      simp only [wrS] at hl
      cases hd : o.dst with
      | none => rw [hd] at hl; exact absurd rfl hl
      | some d =>
        rw [hd] at hl
        simp only at hl
        by_cases ht : t = d
        · subst ht; exact .inr (.inl ⟨t, rfl, rfl⟩)
        · rw [if_neg ht] at hl; exact absurd rfl hl
    | hdr b => exact .inr (.inr (hsub x (List.mem_of_getElem? hx) _ hl))
    | cell b k => exact .inr (.inr (hsub x (List.mem_of_getElem? hx) _ hl))
  · obtain ⟨oi, xi, hoi, hxi⟩ := get i hi
    obtain ⟨oj, xj, hoj, hxj⟩ := get j (by omega)
    cases hah : Ab.ahead (Ab.clos (edgs ops) []) j i with
    | true => exact ahead_spec hah
    | false =>
    exfalso
    have h1 := hs i (by simpa using hi)
    rw [hoi] at h1
    simp only [Bool.and_eq_true, List.all_eq_true] at h1
    have h2 := h1.2 j (by simpa using hj)
    rw [hoj] at h2
    simp only [hah, Bool.or_false] at h2
    have hokH : okH xj xi = true := by
      cases e1 : heapy oi.op with
      | false => rw [hnil i oi xi hoi hxi e1]; exact (okH_nil _).2
      | true =>
        cases e2 : heapy oj.op with
        | false => rw [hnil j oj xj hoj hxj e2]; exact (okH_nil _).1
        | true =>
          have hm : (j, i) ∈ prs ops := by
            unfold prs
            refine List.mem_flatMap.2 ⟨i, by simpa using hi, List.mem_filterMap.2 ⟨j, by simpa using hj, ?_⟩⟩
            simp [hoi, hoj, e1, e2, hah]
          have := hh _ hm
          simp only [hxj, hxi] at this
          exact this
    obtain ⟨vi, hvi⟩ := hws i oi xi hoi hxi
    obtain ⟨vj, hvj⟩ := hws j oj xj hoj hxj
    unfold slotOk at h2
    simp only [Bool.and_eq_true, Bool.not_eq_true'] at h2
    obtain ⟨⟨s1, s2⟩, s3⟩ := h2
    rw [List.any_eq_false] at s1 s2
    obtain ⟨l, hl⟩ := hl
    obtain ⟨p1, p2⟩ := okH_ok hokH l
    have noslot : ∀ (x : Ft) (t : Nat), wrF x (.slot t) = none := fun x t => by
      cases x with
      | ef e r => cases e <;> rfl
      | cl _ _ => rfl
    rcases hl with ⟨w1, o', x', ho', hx', hc⟩ | ⟨w1, o', x', ho', hx', hc⟩
    · rw [hoi] at ho'; cases ho'
      rw [hxi] at hx'; cases hx'
      rw [hvj] at w1
      cases l with
      | slot t =>
        simp only [wrS] at w1
        cases hd : oj.dst with
        | none => rw [hd] at w1; exact w1 rfl
        | some d =>
          rw [hd] at w1
          simp only at w1
          by_cases ht : t = d
          · subst ht
            rcases hc with ⟨t', ht', e⟩ | ⟨t', ht', e⟩ | hc
            · cases e
              exact s1 t ht' (isDst_t.2 hd)
            · cases e
              rw [hd] at s3
              simp only [Bool.not_eq_true'] at s3
              rw [isDst_t.2 ht'] at s3; cases s3
            · cases xi with
              | ef e r =>
                rcases hc with hc | ⟨r', _, hc⟩
                · exact hc (noslot (.ef e r) t)
                · rcases hc with hc | ⟨_, _, _, hc⟩ <;> cases hc
              | cl _ _ => exact hc t rfl
          · rw [if_neg ht] at w1; exact w1 rfl
      | hdr b =>
        rcases hc with ⟨t', _, e⟩ | ⟨t', _, e⟩ | hc
        · cases e
        · cases e
        · exact p1 ⟨w1, hc⟩
      | cell b k =>
        rcases hc with ⟨t', _, e⟩ | ⟨t', _, e⟩ | hc
        · cases e
        · cases e
        · exact p1 ⟨w1, hc⟩
    · rw [hoj] at ho'; cases ho'
      rw [hxj] at hx'; cases hx'
      rw [hvi] at w1
      cases l with
      | slot t =>
        simp only [wrS] at w1
        cases hd : oi.dst with
        | none => rw [hd] at w1; exact w1 rfl
        | some d =>
          rw [hd] at w1
          simp only at w1
          by_cases ht : t = d
          · subst ht
            rcases hc with ⟨t', ht', e⟩ | ⟨t', ht', e⟩ | hc
            · cases e
              exact s2 t ht' (isDst_t.2 hd)
            · cases e
              rw [ht'] at s3
              simp only [Bool.not_eq_true'] at s3
              rw [isDst_t.2 hd] at s3; cases s3
            · cases xj with
              | ef e r =>
                rcases hc with hc | ⟨r', _, hc⟩
                · exact hc (noslot (.ef e r) t)
                · rcases hc with hc | ⟨_, _, _, hc⟩ <;> cases hc
              | cl _ _ => exact hc t rfl
          · rw [if_neg ht] at w1; exact w1 rfl
      | hdr b =>
        rcases hc with ⟨t', _, e⟩ | ⟨t', _, e⟩ | hc
        · cases e
        · cases e
        · exact p2 ⟨w1, hc⟩
      | cell b k =>
        rcases hc with ⟨t', _, e⟩ | ⟨t', _, e⟩ | hc
        · cases e
        · cases e
        · exact p2 ⟨w1, hc⟩
end Go.Ev
