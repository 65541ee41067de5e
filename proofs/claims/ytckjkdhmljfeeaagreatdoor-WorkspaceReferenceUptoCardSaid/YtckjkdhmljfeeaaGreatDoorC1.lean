/- C1: joined from D0 C1. -/
import Derived.Test.YtckjkdhmljfeeaaGreatDoorK3
import Derived.Test.YtckjkdhmljfeeaaGreatDoorRows
import Derived.ProofKit
import Derived.OpenShut
import Derived.JoinedCond
import Derived.Test.YtckjkdhmljfeeaaGreatDoorTbl
/- How the arguments are read: a data tree becomes a pure tree. The law's statement from its contract. -/
set_option linter.unusedVariables false
set_option linter.unusedSimpArgs false
namespace Go.Ab
open Go.RowKit Go.ChangeShapes Go.WideShapes Go.ChangeAt Go.Proofs.YtckjkdhmljfeeaaGreatDoor
mutual
/-- how many values and letters -/
def PV.bk : PV → Nat
  | .lit (.string s) => s.size + 1
  | .lit _ => 1
  | .rptr cs => PV.bkL cs + 1
  | .list _ xs => PV.bkL xs + 1
  | .agg cs => PV.bkL cs
  | .tup cs => PV.bkL cs
  | .fn _ cs => PV.bkL cs
def PV.bkL : List PV → Nat
  | [] => 0
  | p :: ps => PV.bk p + PV.bkL ps
end
def isSt (P : Program) (t : TypeId) : Bool := match P.underlying t with
  | some (.struct _) => true
  | _ => false
def wr (P : Program) (t : TypeId) (qs : List PV) : PV := if isSt P t then .agg qs else match qs with
  | [q] => q
  | _ => .agg qs
def TySF (S : TypeId → List PV → Prop) : List Field → List PV → Prop
  | [], qs => qs = []
  | f :: fs, qs => ∃ q1 q2, qs = q1 ++ q2 ∧ S f.type q1 ∧ TySF S fs q2
/-- cells of a type -/
def TyS (P : Program) : Nat → TypeId → List PV → Prop
  | 0, _, _ => False
  | n + 1, t, qs => match P.underlying t with
    | some .bool => ∃ b, qs = [.lit (.bool b)]
    | some (.int k) => ∃ a, (Lit.int k a).wf = true ∧ qs = [.lit (.int k a)]
    | some .string => ∃ s : ByteArray, qs = [.lit (.string s)]
    | some (.pointer e) => qs = [.lit (.pointer none)] ∨ ∃ ds, qs = [.rptr ds] ∧ TyS P n e ds
    | some (.slice e) => ∃ xs, qs = [.list (P.cellsOf e) xs] ∧ ∀ x ∈ xs, ∃ ds, x = wr P e ds ∧ TyS P n e ds
    | some (.struct fs) => TySF (TyS P n) fs.toList qs
    | _ => False
def consec (P : Program) : Nat → List Field → Option Nat
  | o, [] => some o
  | o, f :: fs => if f.offset = o then consec P (o + P.cellsOf f.type) fs else none
def okT (P : Program) (S : List TypeId) (t : TypeId) : Bool := match P.underlying t with
  | some .bool => true
  | some (.int _) => true
  | some .string => true
  | some (.pointer e) => S.contains e
  | some (.slice e) => S.contains e
  | some (.struct fs) => fs.toList.all (fun f => S.contains f.type) && consec P 0 fs.toList == some (P.cellsOf t)
  | _ => false
theorem shp_wr {P : Program} {n : Nat} {t : TypeId} {qs : List PV} (h : TyS P n t qs) : (wr P t qs).cells = qs ∧ (wr P t qs).bk = PV.bkL qs ∧ (isSt P t = false → ∃ q, qs = [q] ∧ wr P t qs = q) := by
  unfold wr isSt
  cases n with
  | zero => exact h.elim
  | succ n =>
    unfold TyS at h
    split at h
    · rename_i e; obtain ⟨b, rfl⟩ := h; simp [e, PV.cells, PV.bkL]
    · rename_i e; obtain ⟨b, _, rfl⟩ := h; simp [e, PV.cells, PV.bkL]
    · rename_i e; obtain ⟨b, rfl⟩ := h; simp [e, PV.cells, PV.bkL]
    · rename_i e; rcases h with rfl | ⟨ds, rfl, _⟩ <;> simp [e, PV.cells, PV.bkL]
    · rename_i e; obtain ⟨b, rfl, _⟩ := h; simp [e, PV.cells, PV.bkL]
    · rename_i e; simp [e, PV.cells, PV.bkL, PV.bk]
    · exact h.elim
theorem pick_list {α : Type} {Pr : Nat → α → Prop} : ∀ (n : Nat), (∀ i, i < n → ∃ x, Pr i x) → ∃ l : List α, l.length = n ∧ ∀ i x, l[i]? = some x → Pr i x
  | 0, _ => ⟨[], rfl, by simp⟩
  | n + 1, h => by
    obtain ⟨l, hl, hp⟩ := pick_list n fun i hi => h i (by omega)
    obtain ⟨x, hx⟩ := h n (by omega)
    refine ⟨l ++ [x], by simp [hl], fun i y hy => ?_⟩
    by_cases hi : i < n
    · rw [List.getElem?_append_left (by omega)] at hy; exact hp i y hy
    · by_cases hin : i = n
      · subst hin; rw [List.getElem?_append_right (by omega)] at hy; simp [hl] at hy; subst hy; exact hx
      · rw [List.getElem?_eq_none (by simp; omega)] at hy; cases hy
theorem RPL_app2 {I : Imm} : ∀ {q1 q2 : List PV} {u1 u2 : List Value}, RPL I q1 u1 → RPL I q2 u2 → RPL I (q1 ++ q2) (u1 ++ u2)
  | [], q2, u1, u2, h1, h2 => by simp only [RPL] at h1; subst h1; exact h2
  | q :: q1, q2, u1, u2, h1, h2 => by
    simp only [RPL] at h1
    obtain ⟨u, us, rfl, h3, h4⟩ := h1
    exact ⟨u, us ++ u2, rfl, h3, RPL_app2 h4 h2⟩
theorem bkL_append : ∀ (q1 q2 : List PV), PV.bkL (q1 ++ q2) = PV.bkL q1 + PV.bkL q2
  | [], q2 => by simp [PV.bkL]
  | q :: q1, q2 => by simp [PV.bkL, bkL_append q1 q2]; omega
theorem bkAll_append {H : Type} (l r : List (DataW H)) : Rows.uptoBulkAll (l ++ r) = Rows.uptoBulkAll l + Rows.uptoBulkAll r := by
  induction l with
  | nil => simp [Rows.uptoBulkAll]
  | cons x l ih => simp only [List.cons_append, Rows.uptoBulkAll, ih]; omega
theorem bk_pos {H : Type} (d : DataW H) : 1 ≤ Rows.uptoBulk d := by
  cases d with
  | lit l => cases l <;> simp [Rows.uptoBulk]
  | _ => simp [Rows.uptoBulk]
theorem bk_len {H : Type} (l : List (DataW H)) : l.length ≤ Rows.uptoBulkAll l := by
  induction l with
  | nil => simp [Rows.uptoBulkAll]
  | cons x r ih => have := bk_pos x; simp only [Rows.uptoBulkAll, List.length_cons]; omega
theorem bk_mem {H : Type} {d : DataW H} {l : List (DataW H)} (h : d ∈ l) : Rows.uptoBulk d ≤ Rows.uptoBulkAll l := by
  induction l with
  | nil => cases h
  | cons x r ih =>
    simp only [Rows.uptoBulkAll]
    cases List.mem_cons.1 h with
    | inl e => subst e; omega
    | inr e => have := ih e; omega
theorem bk_lists {H : Type} : ∀ {xs : List PV} {ds : List (DataW H)}, xs.length = ds.length → (∀ (i : Nat) x d, xs[i]? = some x → ds[i]? = some d → x.bk ≤ Rows.uptoBulk d) → PV.bkL xs ≤ Rows.uptoBulkAll ds
  | [], ds, _, _ => by simp [PV.bkL]
  | x :: xs, [], h, _ => by simp at h
  | x :: xs, d :: ds, h, hp => by
    have h0 := hp 0 x d rfl rfl
    have := bk_lists (xs := xs) (ds := ds) (by simpa using h) fun i y e h1 h2 => hp (i + 1) y e (by simpa using h1) (by simpa using h2)
    simp only [PV.bkL, Rows.uptoBulkAll]; omega
section
variable {H : Type} {enc : TypeId × Value → H} {P : Program} {w : World} {sp : Nat → Bool} {S : List TypeId}
theorem trod_fields {n : Nat} {cs : List Value} (ih : ∀ (t : TypeId) (cs : List Value) (x : DataW H × List MemPlace), t ∈ S → DataW.trod enc P w 0 sp true n t cs = some x → Rows.uptoBulk x.1 ≤ big →
    ∃ qs, TyS P n t qs ∧ RPL (fun a => w.cell? a) qs cs ∧ (∀ u ∈ cs, u.oneCell' = true) ∧ PV.bkL qs ≤ Rows.uptoBulk x.1) :
    ∀ (fs : List Field) (xs : List (DataW H × List MemPlace)) (o : Nat), (∀ f ∈ fs, f.type ∈ S) → consec P o fs = some cs.length → xs.length = fs.length →
      (∀ (i : Nat) f, fs[i]? = some f → DataW.trod enc P w 0 sp true n f.type ((cs.drop f.offset).take (P.cellsOf f.type)) = xs[i]?) → Rows.uptoBulkAll (xs.map (·.1)) ≤ big →
      ∃ qs, TySF (TyS P n) fs qs ∧ RPL (fun a => w.cell? a) qs (cs.drop o) ∧ (∀ u ∈ cs.drop o, u.oneCell' = true) ∧ PV.bkL qs ≤ Rows.uptoBulkAll (xs.map (·.1))
  | [], xs, o, _, hc, _, _, _ => by
    simp only [consec, Option.some.injEq] at hc
    subst hc
    exact ⟨[], rfl, by simp [RPL], by simp, by simp [PV.bkL]⟩
  | f :: fs, [], o, _, _, hl, _, _ => by simp at hl
  | f :: fs, x :: xs, o, hS, hc, hl, hp, hb => by
    simp only [consec] at hc
    split at hc
    · rename_i ho
      subst ho
      simp only [List.map_cons, Rows.uptoBulkAll] at hb
      obtain ⟨q1, s1, r1, o1, b1⟩ := ih _ _ x (hS f (by simp)) (by simpa using hp 0 f rfl) (by omega)
      obtain ⟨q2, s2, r2, o2, b2⟩ := trod_fields ih fs xs _ (fun g hg => hS g (by simp [hg])) hc (by simpa using hl) (fun i g hg => by simpa using hp (i + 1) g (by simpa using hg)) (by omega)
      have e : cs.drop f.offset = (cs.drop f.offset).take (P.cellsOf f.type) ++ cs.drop (f.offset + P.cellsOf f.type) := by
        rw [← List.drop_drop]; exact (List.take_append_drop _ _).symm
      refine ⟨q1 ++ q2, ⟨q1, q2, rfl, s1, s2⟩, ?_, ?_, ?_⟩
      · rw [e]; exact RPL_app2 r1 r2
      · rw [e]; intro u hu
        rcases List.mem_append.1 hu with hu | hu
        · exact o1 u hu
        · exact o2 u hu
      · rw [bkL_append]; simp only [List.map_cons, Rows.uptoBulkAll]; omega
    · cases hc
theorem trod_shp (hS : S.all (okT P S) = true) : ∀ (n : Nat) (t : TypeId) (cs : List Value) (x : DataW H × List MemPlace), t ∈ S → DataW.trod enc P w 0 sp true n t cs = some x → Rows.uptoBulk x.1 ≤ big →
    ∃ qs, TyS P n t qs ∧ RPL (fun a => w.cell? a) qs cs ∧ (∀ u ∈ cs, u.oneCell' = true) ∧ PV.bkL qs ≤ Rows.uptoBulk x.1
  | 0, t, cs, x, _, h, _ => by simp [DataW.trod] at h
  | n + 1, t, cs, x, ht, h, hb => by
    have hok := List.all_eq_true.1 hS t ht
    unfold okT at hok
    split at hok
    · rename_i hu
      obtain ⟨b, rfl, rfl⟩ := DataW.trod_bool hu h
      exact ⟨[.lit (.bool b)], by unfold TyS; rw [hu]; exact ⟨b, rfl⟩, ⟨_, _, rfl, rfl, rfl⟩, by simp [Value.oneCell'], by simp [PV.bkL, PV.bk, Rows.uptoBulk]⟩
    · rename_i k hu
      obtain ⟨a, rfl, rfl, hw⟩ := DataW.trod_int hu h
      exact ⟨[.lit (.int k a)], by unfold TyS; rw [hu]; exact ⟨a, hw, rfl⟩, ⟨_, _, rfl, rfl, rfl⟩, by simp [Value.oneCell'], by simp [PV.bkL, PV.bk, Rows.uptoBulk]⟩
    · rename_i hu
      obtain ⟨s, rfl, rfl, hm⟩ := DataW.trod_string hu h
      refine ⟨[.lit (.string s)], by unfold TyS; rw [hu]; exact ⟨s, rfl⟩, ⟨_, _, rfl, rfl, rfl⟩, by simp [Value.oneCell'], ?_⟩
      have e : s.data.toList.length = s.size := by rw [Array.length_toList]; rfl
      simp only [PV.bkL, PV.bk, Rows.uptoBulk]; omega
    · rename_i e hu
      have he : e ∈ S := by simpa using hok
      rcases DataW.trod_pointer hu h with ⟨rfl, rfl⟩ | ⟨a, cs', y, m, hm, rfl, rfl, hc, hy⟩
      · exact ⟨[.lit (.pointer none)], by unfold TyS; rw [hu]; exact .inl rfl, ⟨_, _, rfl, rfl, rfl⟩, by simp [Value.oneCell'], by simp [PV.bkL, PV.bk, Rows.uptoBulk]⟩
      · obtain rfl : n = m := by omega
        simp only [Rows.uptoBulk] at hb
        obtain ⟨qs, s1, r1, o1, b1⟩ := trod_shp hS n e cs' y he hy (by omega)
        obtain ⟨_, hlen, hcell⟩ := World.cells?_some hc
        refine ⟨[.rptr qs], by unfold TyS; rw [hu]; exact .inr ⟨qs, rfl, s1⟩, ⟨_, _, rfl, ?_, rfl⟩, by simp [Value.oneCell'], by simp only [PV.bkL, PV.bk, Rows.uptoBulk]; omega⟩
        simp only [RP]
        refine ⟨a, rfl, RPC_iff.2 fun j c hj => ?_⟩
        obtain ⟨u, e1, e2⟩ := RPL_get r1 j c hj
        have hj' : j < cs'.length := (List.getElem?_eq_some_iff.1 e1).1
        exact ⟨u, by rw [Nat.zero_add]; exact (hcell j (by omega)).trans e1, o1 u (List.mem_of_getElem? e1), e2⟩
    · rename_i e hu
      have he : e ∈ S := by simpa using hok
      rcases DataW.trod_slice hu h with ⟨rfl, rfl⟩ | ⟨a, len, cap, elems, rest, m, hm, rfl, rfl, _, hlc, hcm, hlen, hel, _, _⟩
      · exact ⟨[.list (P.cellsOf e) []], by unfold TyS; rw [hu]; exact ⟨[], rfl, by simp⟩, ⟨_, _, rfl, by simp only [RP]; exact ⟨none, 0, 0, rfl, rfl, Nat.le_refl _, by unfold big; omega, .inl ⟨rfl, fun _ => rfl⟩⟩, rfl⟩, by simp [Value.oneCell'], by simp [PV.bkL, PV.bk, Rows.uptoBulk]⟩
      · obtain rfl : n = m := by omega
        simp only [Rows.uptoBulk] at hb
        have hone : ∀ i, i < len → ∃ p : PV × DataW H, elems[i]?.map (·.1) = some p.2 ∧ (∃ qs, p.1 = wr P e qs ∧ TyS P n e qs ∧ p.1.cells = qs ∧ p.1.bk ≤ Rows.uptoBulk p.2 ∧ qs.length = P.cellsOf e ∧ RPC (fun a => w.cell? a) a (0 + i * P.cellsOf e) qs) := by
          intro i hi
          have h1 := hel i hi
          obtain ⟨y, hy⟩ : ∃ y, elems[i]? = some y := ⟨_, List.getElem?_eq_getElem (by omega)⟩
          rw [hy] at h1
          obtain ⟨cs', hc, ht'⟩ := Option.bind_eq_some_iff.1 h1
          have hbm : Rows.uptoBulk y.1 ≤ Rows.uptoBulkAll (elems.map (·.1)) := bk_mem (List.mem_map.2 ⟨y, List.mem_of_getElem? hy, rfl⟩)
          obtain ⟨qs, s1, r1, o1, b1⟩ := trod_shp hS n e cs' y he ht' (by omega)
          obtain ⟨_, hcl, hcell⟩ := World.cells?_some hc
          obtain ⟨w1, w2, _⟩ := shp_wr s1
          refine ⟨(wr P e qs, y.1), by simp [hy], qs, rfl, s1, w1, by rw [w2]; exact b1, by rw [← hcl]; exact (RPL_length r1).symm, RPC_iff.2 fun j c hj => ?_⟩
          obtain ⟨u, e1, e2⟩ := RPL_get r1 j c hj
          have hj' : j < cs'.length := (List.getElem?_eq_some_iff.1 e1).1
          refine ⟨u, ?_, o1 u (List.mem_of_getElem? e1), e2⟩
          have := (hcell j (by omega)).trans e1
          rw [add_add] at this
          rw [Nat.zero_add]; exact this
        obtain ⟨l, hl, hp⟩ := pick_list len hone
        have hbl : PV.bkL (l.map (·.1)) ≤ Rows.uptoBulkAll (elems.map (·.1)) := bk_lists (by simp [hl, hlen]) fun i x d hx hd => by
          rw [List.getElem?_map] at hx hd
          obtain ⟨p, hp1, rfl⟩ := Option.map_eq_some_iff.1 hx
          obtain ⟨e1, qs, _, _, _, b, _⟩ := hp i p hp1
          rw [hd] at e1; cases e1; exact b
        refine ⟨[.list (P.cellsOf e) (l.map (·.1))], by
          unfold TyS; rw [hu]
          refine ⟨_, rfl, fun x hx => ?_⟩
          obtain ⟨p, hp1, rfl⟩ := List.mem_map.1 hx
          obtain ⟨i, hi⟩ := List.mem_iff_getElem?.1 hp1
          obtain ⟨_, qs, e1, s1, _⟩ := hp i p hi
          exact ⟨qs, e1, s1⟩, ⟨_, _, rfl, ?_, rfl⟩, by simp [Value.oneCell'], by simp only [PV.bkL, PV.bk, Rows.uptoBulk]; omega⟩
        simp only [RP]
        have hbig := bk_len (elems.map (·.1))
        simp only [List.length_map] at hbig
        refine ⟨some a, len, cap, rfl, by simp [hl], hlc, by omega, .inr ⟨a, rfl, RPE_iff.2 fun i x hx => ?_⟩⟩
        rw [List.getElem?_map] at hx
        obtain ⟨p, hp1, rfl⟩ := Option.map_eq_some_iff.1 hx
        obtain ⟨_, qs, _, _, c1, _, l1, r1⟩ := hp i p hp1
        rw [c1]; exact ⟨l1, r1⟩
    · rename_i fs hu
      simp only [Bool.and_eq_true, List.all_eq_true, beq_iff_eq] at hok
      obtain ⟨xs, m, hm, rfl, hcl, hxl, hf⟩ := DataW.trod_struct hu h
      obtain rfl : n = m := by omega
      simp only [Rows.uptoBulk] at hb
      obtain ⟨qs, s1, r1, o1, b1⟩ := trod_fields (cs := cs) (fun t cs x ht h hb => trod_shp hS n t cs x ht h hb) fs.toList xs 0 (fun f hf => by simpa using hok.1 f hf) (by rw [hok.2, hcl]) (by simpa using hxl)
        (fun i f hf' => hf i f (by simpa using hf')) (by omega)
      rw [List.drop_zero] at r1 o1
      exact ⟨qs, by unfold TyS; rw [hu]; exact s1, r1, o1, by simp only [Rows.uptoBulk]; omega⟩
    · simp at hok
/-- an argument -/
theorem arg_shp {W : World} {base : Nat} {t : TypeId} {v : Value} {d : DataW H} {ps : List MemPlace} (hS : S.all (okT P S) = true) (ht : t ∈ S) (hv : Value.okWide P W .any base t v)
    (h : DataW.Trod enc P W 0 (fun _ => true) true t v d ps) (hb : Rows.uptoBulk d ≤ big) :
    ∃ n qs, TyS P n t qs ∧ RP (fun a => W.cell? a) (wr P t qs) v ∧ PV.bkL qs ≤ Rows.uptoBulk d := by
  obtain ⟨n, h⟩ := h
  obtain ⟨qs, s1, r1, o1, b1⟩ := trod_shp hS n t _ _ ht h hb
  refine ⟨n, qs, s1, ?_, b1⟩
  by_cases hs : isSt P t = true
  · have hs' := hs
    unfold isSt at hs'
    split at hs'
    · rename_i fs hu
      simp only [Value.okWide, hu] at hv
      obtain ⟨cs, rfl, _, _⟩ := hv
      simp only [wr, hs, if_true, RP]
      exact ⟨cs, rfl, by simpa [Value.cells] using o1, by simpa [Value.cells] using r1⟩
    · cases hs'
  · obtain ⟨q, rfl, e⟩ := (shp_wr s1).2.2 (by simpa using hs)
    rw [e]
    simp only [RPL] at r1
    obtain ⟨u, us, e1, r2, rfl⟩ := r1
    -- the value is one cell
    have hok := List.all_eq_true.1 hS t ht
    have hva : ∀ cs, v ≠ .agg cs := by
      intro cs hc
      subst hc
      unfold okT at hok
      unfold isSt at hs
      split at hok <;> (rename_i hu; simp only [hu] at hs; simp [Value.okWide, hu, Cell.okWide, Cell.ok] at hv) <;> simp_all
    have : v.cells = #[v] := by cases v <;> first | rfl | exact absurd rfl (hva _)
    rw [this] at e1
    simp at e1
    rw [e1]; exact r2
end
theorem trodAll_stays {H : Type} {enc : TypeId × Value → H} {P : Program} (hl : laidOutB P = true) {W W' : World} {sp : Nat → Bool} :
    ∀ {ts : List TypeId} {vs : List Value} {ds : List (DataW H)} {ps : List MemPlace}, (ts.all fun t => P.readableRec t && decide (t < P.types.size)) = true → DataW.TrodAll enc P W 0 (fun _ => true) true ts vs ds ps → Below W.heap.size W W' →
      (∀ p ∈ ps, p.block < W.heap.size) → (∀ p ∈ ps, sp p.block = true) → DataW.TrodAll enc P W' 0 sp true ts vs ds ps
  | [], [], [], ps, _, h, _, _, _ => h
  | t :: ts, v :: vs, d :: ds, ps, ht, ⟨p, q, h1, h2, e⟩, hb, hlt, hsp => by
    subst e
    simp only [List.all_cons, Bool.and_eq_true, decide_eq_true_eq] at ht
    exact ⟨p, q, WideElems.Trod_stays hl ht.1.1 ht.1.2 h1 (fun x hx => hb.same (hlt x (List.mem_append_left _ hx))) (fun x hx => hsp x (List.mem_append_left _ hx)),
      trodAll_stays hl ht.2 h2 hb (fun x hx => hlt x (List.mem_append_right _ hx)) (fun x hx => hsp x (List.mem_append_right _ hx)), rfl⟩
/-- what a law's statement asks behind the call -/
theorem post_of_below {H : Type} {enc : TypeId × Value → H} {P : Program} {f : Func} {s : ChangeSpec} {apart fresh handsOn again : Bool} {W W' : World} {args : Array Value} {ds : List (DataW H)} {before : List MemPlace}
    (hl : laidOutB P = true) (hts : (f.params.toList.all fun t => P.readableRec t && decide (t < P.types.size)) = true) (hvs : s.vars = []) {t : TypeId} (hr : f.resultTypes = #[t]) (ht : P.underlying t = some .bool)
    (hW : DataW.Whole enc P f.params.toList s.vars apart W args.toList ds [] before) (hs : s.fn H ds = { results := [.lit (.bool true)], args := ds }) (hb : Below W.heap.size W W') :
    s.post enc P f apart fresh handsOn again W args (.bool true) W' := by
  have hlt := hW.lt
  have hW' := hW
  obtain ⟨p, q, hA, hV, rfl, hz, hn⟩ := hW
  rw [hvs] at hV
  obtain ⟨_, rfl⟩ := trodVars_none hV
  have e : s.fn H (ds ++ []) = { results := [.lit (.bool true)], args := ds } := by rw [List.append_nil]; exact hs
  simp only [List.append_nil] at hlt hz hn hW'
  have hargs : ∀ sp : Nat → Bool, (∀ x ∈ p, sp x.block = true) → DataW.TrodAll enc P W' 0 sp true f.params.toList args.toList (s.fn H (ds ++ [])).args p := fun sp hsp => by
    rw [e]; exact trodAll_stays hl hts hA hb hlt hsp
  have hres : ∀ (b : Nat) (sp : Nat → Bool) (hd : Bool), DataW.TrodAll enc P W' b sp hd f.resultTypes.toList ((Value.bool true).resultList f.resultTypes.size) (s.fn H (ds ++ [])).results [] := fun b sp hd => by
    rw [e, hr]; exact trodAll_mk1 (shut_bool ht true)
  have hvars : ∀ sp : Nat → Bool, (∀ x ∈ p, sp x.block = true) → DataW.TrodVars enc P W' sp s.vars (s.fn H (ds ++ [])).vars [] := fun sp _ => by
    rw [e, hvs]; exact rfl
  have hold : ∀ x ∈ p, (fun b => decide (b < W.heap.size)) x.block = true := fun x hx => by simpa using hlt x hx
  refine ⟨ds, [], p, [], p, [], hW', hres _ _ _, hargs _ hold, hvars _ hold, World.keptBut_mono (fun x hx => ⟨hx, ?_⟩) (hb.frame _), fun _ => ?_⟩
  · exact Or.inr (by first | exact .inl hx | exact hx | simpa using hx)
  · refine ⟨ok_one hr rfl (okWide_bool_mk ht true), _, _, ([] ++ p) ++ [], ⟨[] ++ p, [], trodAll_append (hargs _ (fun _ _ => rfl)) (hres _ _ _), hvars _ (fun _ _ => rfl), rfl, ?_, ?_⟩, ?_⟩
    · intro b off hp
      have hp : MemPlace.cell b off ∈ p := by simpa using hp
      rw [hb.frozen (hlt _ hp)]
      exact hz b off hp
    · intro ha
      simpa using hn ha
    · intro x hx _
      simpa using hx
/-- the arguments -/
def ArgS (P : Program) : List TypeId → List PV → Prop
  | [], qs => qs = []
  | t :: ts, qs => ∃ n cs qs', TyS P n t cs ∧ qs = wr P t cs :: qs' ∧ ArgS P ts qs'
theorem args_shp {H : Type} {enc : TypeId × Value → H} {P : Program} {S : List TypeId} {W : World} {base : Nat} (hS : S.all (okT P S) = true) :
    ∀ {ts : List TypeId} {vs : List Value} {ds : List (DataW H)} {ps : List MemPlace}, (∀ t ∈ ts, t ∈ S) → DataW.TrodAll enc P W 0 (fun _ => true) true ts vs ds ps → (∀ (j : Nat) t v, ts[j]? = some t → vs[j]? = some v → Value.okWide P W .any base t v) →
      Rows.uptoBulkAll ds ≤ big → ∃ qs, ArgS P ts qs ∧ RPL (fun a => W.cell? a) qs vs ∧ PV.bkL qs ≤ Rows.uptoBulkAll ds ∧ ds.length = ts.length
  | [], [], [], ps, _, h, _, _ => ⟨[], rfl, rfl, by simp [PV.bkL], rfl⟩
  | t :: ts, v :: vs, d :: ds, ps, ht, ⟨p, q, h1, h2, e⟩, hv, hb => by
    simp only [Rows.uptoBulkAll] at hb
    obtain ⟨n, cs, s1, r1, b1⟩ := arg_shp hS (ht t (by simp)) (hv 0 t v rfl rfl) h1 (by omega)
    obtain ⟨qs, s2, r2, b2, l2⟩ := args_shp hS (fun t' h => ht t' (by simp [h])) h2 (fun j t' v' e1 e2 => hv (j + 1) t' v' (by simpa using e1) (by simpa using e2)) (by omega)
    refine ⟨wr P t cs :: qs, ⟨n, cs, qs, s1, rfl, s2⟩, ⟨v, vs, rfl, r1, r2⟩, ?_, by simp [l2]⟩
    simp only [PV.bkL, Rows.uptoBulkAll, (shp_wr s1).2.1]; omega
/-- a law's call, out of its contract -/
theorem law_contract {H : Type} {enc : TypeId × Value → H} {P : Program} {f : FuncId} {fn : Func} {s : ChangeSpec} {apart fresh handsOn again : Bool} {S : List TypeId} {W : World} {base : Nat} {args : Array Value} {ds gs : List (DataW H)} {before : List MemPlace}
    (hl : laidOutB P = true) (hts : (fn.params.toList.all fun t => P.readableRec t && decide (t < P.types.size)) = true) (hvs : s.vars = []) {t : TypeId} (hr : fn.resultTypes = #[t]) (ht : P.underlying t = some .bool)
    (hS : S.all (okT P S) = true) (hpar : fn.params.toList.all (fun t => S.contains t) = true) (hs : ∀ ds : List (DataW H), ds.length = fn.params.toList.length → s.fn H ds = { results := [.lit (.bool true)], args := ds })
    (hc : ∀ qs, ArgS P fn.params.toList qs → PV.bkL qs ≤ 1048576 → PCall P f qs (.lit (.bool true)))
    (hval : ∀ (j : Nat) t v, fn.params[j]? = some t → args[j]? = some v → Value.okWide P W .any base t v)
    (hW : DataW.Whole enc P fn.params.toList s.vars apart W args.toList ds gs before) (hk : Rows.uptoSmall H (ds ++ gs) = true) (hlaid : Laid fun a => W.cell? a := by intro b cs h; cases h) :
    Calls P f args W fun e W' => ∃ v, e = .returned v ∧ s.post enc P fn apart fresh handsOn again W args v W' := by
  have hW' := hW
  obtain ⟨p, q, hA, hV, rfl, hz, hn⟩ := hW
  rw [hvs] at hV
  obtain ⟨rfl, rfl⟩ := trodVars_none hV
  have hk : Rows.uptoBulkAll ds ≤ 1048576 := by simpa [Rows.uptoSmall] using hk
  obtain ⟨qs, a1, r1, b1, l1⟩ := args_shp hS (fun t ht => by simpa using List.all_eq_true.1 hpar t ht) hA (fun j t v e1 e2 => hval j t v (by simpa using e1) (by simpa using e2)) (by unfold big; omega)
  have := (hc qs a1 (by omega)).2 (fun a => W.cell? a) W args.toList ⟨fun a v e => e, hlaid⟩ r1
  rw [Array.toArray_toList] at this
  refine this.mono fun e W' ⟨u, J, he, _, _, _, hu, hb⟩ => ?_
  simp only [RP] at hu
  subst hu
  exact ⟨_, he, post_of_below hl hts hvs hr ht hW' (hs ds l1) hb⟩
theorem int_of {P : Program} {t : TypeId} {k : IntKind} {n : Nat} {qs : List PV} (hu : P.underlying t = some (.int k)) (h : TyS P n t qs) : ∃ a, qs = [.lit (.int k a)] := by
  cases n with
  | zero => exact h.elim
  | succ n => unfold TyS at h; rw [hu] at h; obtain ⟨a, _, e⟩ := h; exact ⟨a, e⟩
theorem wr_int {P : Program} {t : TypeId} {k : IntKind} {a : Int} (hu : P.underlying t = some (.int k)) : wr P t [.lit (.int k a)] = .lit (.int k a) := by
  simp [wr, isSt, hu]
theorem str_of {P : Program} {t : TypeId} {n : Nat} {qs : List PV} (hu : P.underlying t = some .string) (h : TyS P n t qs) : ∃ a : ByteArray, qs = [.lit (.string a)] := by
  cases n with
  | zero => exact h.elim
  | succ n => unfold TyS at h; rw [hu] at h; exact h
theorem bool_of {P : Program} {t : TypeId} {n : Nat} {qs : List PV} (hu : P.underlying t = some .bool) (h : TyS P n t qs) : ∃ a : Bool, qs = [.lit (.bool a)] := by
  cases n with
  | zero => exact h.elim
  | succ n => unfold TyS at h; rw [hu] at h; exact h
theorem list_of {α : Type} {f : α → PV} : ∀ {xs : List PV}, (∀ x ∈ xs, ∃ t, x = f t) → ∃ ts : List α, xs = ts.map f
  | [], _ => ⟨[], rfl⟩
  | x :: xs, h => by
    obtain ⟨t, rfl⟩ := h x (by simp)
    obtain ⟨ts, rfl⟩ := list_of (f := f) (xs := xs) fun y hy => h y (by simp [hy])
    exact ⟨t :: ts, rfl⟩
theorem slice_of {α : Type} {P : Program} {t e : TypeId} {n : Nat} {qs : List PV} {f : α → PV} (hu : P.underlying t = some (.slice e)) (h : TyS P n t qs) (hel : ∀ m, m < n → ∀ ds, TyS P m e ds → ∃ a, wr P e ds = f a) :
    ∃ ts : List α, qs = [.list (P.cellsOf e) (ts.map f)] := by
  cases n with
  | zero => exact h.elim
  | succ n =>
    unfold TyS at h; rw [hu] at h
    obtain ⟨xs, rfl, hx⟩ := h
    obtain ⟨ts, rfl⟩ := list_of (f := f) (xs := xs) fun x hxm => by
      obtain ⟨ds, e1, h1⟩ := hx x hxm
      obtain ⟨a, h2⟩ := hel n (by omega) ds h1
      exact ⟨a, e1.trans h2⟩
    exact ⟨ts, rfl⟩
theorem struct_of {P : Program} {t : TypeId} {n : Nat} {qs : List PV} {fs : Array Field} (hu : P.underlying t = some (.struct fs)) (h : TyS P n t qs) : ∃ m, m < n ∧ TySF (TyS P m) fs.toList qs ∧ wr P t qs = .agg qs := by
  cases n with
  | zero => exact h.elim
  | succ n => unfold TyS at h; rw [hu] at h; exact ⟨n, by omega, h, by simp [wr, isSt, hu]⟩
end Go.Ab
/- What a law's statement asks of the program's text, reckoned in small pieces: which functions are reached, by a table. -/
set_option maxRecDepth 100000
namespace Go.Proofs.YtckjkdhmljfeeaaGreatDoor
open Go
def viaT (T : List (List Nat)) : Nat → List Nat → List Nat → List Nat
  | 0, _, seen => seen.reverse
  | _ + 1, [], seen => seen.reverse
  | n + 1, f :: todo, seen => if seen.contains f then viaT T n todo seen else viaT T n ((T[f]?).getD [] ++ todo) (f :: seen)
theorem leads (f : Nat) : (Tryz.prog.funcs[f]?).elim [] Tryz.prog.leadsTo = (tbl[f]?).getD [] := by
  rw [← tbl_ok, List.getElem?_map, Array.getElem?_toList]
  cases Tryz.prog.funcs[f]? <;> rfl
theorem via_eq : ∀ (n : Nat) (todo seen : List Nat), Tryz.prog.closureVia n todo seen = viaT tbl n todo seen
  | 0, todo, seen => by simp only [Program.closureVia, viaT]
  | n + 1, [], seen => by simp only [Program.closureVia, viaT]
  | n + 1, f :: todo, seen => by
    simp only [Program.closureVia, viaT, leads]
    split
    · exact via_eq n todo seen
    · exact via_eq n _ _
def reach (f : Nat) : List Nat := viaT tbl (1 + (tbl.map fun l => l.length + 1).sum) [f] []
theorem closure_eq (f : Nat) : Tryz.prog.closure f = reach f := by
  unfold Program.closure reach
  rw [via_eq, ← tbl_ok, List.map_map]
  rfl
theorem rec_of {f : Nat} (g h : Nat) (h1 : (reach f).contains g = true) (h2 : ((tbl[g]?).getD []).contains h = true) (h3 : (reach h).contains g = true) : Tryz.prog.recurses f = true := by
  unfold Program.recurses
  rw [Bool.or_eq_true]
  right
  rw [closure_eq, List.any_eq_true]
  refine ⟨g, by simpa using h1, ?_⟩
  rw [leads, List.any_eq_true]
  exact ⟨h, by simpa using h2, by rw [closure_eq]; exact h3⟩
theorem band {a b : Bool} (h1 : a = true) (h2 : b = true) : (a && b) = true := by rw [h1, h2]; rfl
theorem laid_ok : laidOutB Tryz.prog = true := by kernel_rfl
theorem maps_ok : mapsRowed Tryz.prog = true := by kernel_rfl
theorem stops_ok : (Tryz.prog.stops == []) = true := by kernel_rfl
theorem knobs_ok : (Tryz.prog.stopKnobs == []) = true := by kernel_rfl
theorem heard_ok : Tryz.prog.stopsHeard = true := by kernel_rfl
theorem plain_ok : (true == Tryz.prog.plainKeys) = true := by kernel_rfl
theorem own_ok : ownKnob Tryz.prog.godebug = none := by kernel_rfl
theorem io_lit : Tryz.prog.initOrder = String.ofList (ioN.map Char.ofNat) := by kernel_rfl
theorem io_ok : Tryz.prog.initOrder.toList = ioN.map Char.ofNat := by rw [io_lit]; exact String.toList_ofList
def spChr : Char := Char.ofNat 32
def wsN : List Nat → List Nat → List (List Nat)
  | [], acc => [acc.reverse]
  | c :: r, acc => if Nat.beq c 32 then acc.reverse :: wsN r [] else wsN r (c :: acc)
theorem words_sp (r : List Char) : wordsSigns (spChr :: r) = [] :: wordsSigns r := rfl
theorem words_c {c : Char} (h : ¬ c = spChr) (r : List Char) : wordsSigns (c :: r) = match wordsSigns r with
    | w :: l => (c :: w) :: l
    | [] => [[c]] := by
  rw [wordsSigns.eq_3 _ _ (fun e => h e)]
  split <;> simp_all
theorem chr_sp {n : Nat} (h : n < 128) (e : Char.ofNat n = spChr) : n = 32 := by
  have : ∀ m : Fin 128, Char.ofNat m.val = spChr → m.val = 32 := by decide
  exact this ⟨n, h⟩ e
theorem ws_eq : ∀ (l acc : List Nat), (∀ n ∈ l, n < 128) → ∃ w r, wordsSigns (l.map Char.ofNat) = w :: r ∧ (wsN l acc).map (List.map Char.ofNat) = ((acc.reverse).map Char.ofNat ++ w) :: r
  | [], acc, _ => ⟨[], [], rfl, by simp [wsN]⟩
  | c :: l, acc, hb => by
    have hb' : ∀ n ∈ l, n < 128 := fun n hn => hb n (by simp [hn])
    by_cases h : c = 32
    · subst h
      obtain ⟨w, r, h1, h2⟩ := ws_eq l [] hb'
      refine ⟨[], wordsSigns (l.map Char.ofNat), words_sp _, ?_⟩
      have hb : Nat.beq 32 32 = true := rfl
      simp only [wsN, hb, if_true, List.append_nil, List.map_cons]
      rw [h2, h1]; rfl
    · obtain ⟨w, r, h1, h2⟩ := ws_eq l (c :: acc) hb'
      have hc : ¬ Char.ofNat c = spChr := fun e => h (chr_sp (hb c (by simp)) e)
      refine ⟨Char.ofNat c :: w, r, by rw [List.map_cons, words_c hc, h1], ?_⟩
      have hn : Nat.beq c 32 = false := by
        cases e : Nat.beq c 32 with
        | false => rfl
        | true => exact absurd (Nat.eq_of_beq_eq_true e) h
      simp only [wsN, hn, Bool.false_eq_true, if_false, h2]
      simp
theorem io_small : ∀ n ∈ ioN, n < 128 := by
  have : (ioN.all fun n => Nat.blt n 128) = true := by kernel_rfl
  intro n hn
  have := List.all_eq_true.1 this n hn
  simpa [Nat.blt_eq] using this
theorem ws_ok : wsN ioN [] = ioW := by kernel_rfl
theorem io_ws : wordsSigns Tryz.prog.initOrder.toList = ioW.map (List.map Char.ofNat) := by
  obtain ⟨w, r, h1, h2⟩ := ws_eq ioN [] io_small
  rw [io_ok, h1, ← ws_ok, h2]; rfl
def mkW (ws : List (List Char)) : Option Make :=
  match behindMainWord ws with
  | c :: rest => if c == "gc".toList || c == "spec".toList then some .whole else if c == "cut".toList || (c == "finals".toList && rest.head? == some "cut".toList) then some .cut else none
  | [] => none
theorem mkW_ok : mkW (ioW.map (List.map Char.ofNat)) = some .cut := by kernel_rfl
theorem make_of (P : Program) (W : List (List Char)) (h : wordsSigns P.initOrder.toList = W) (hW : mkW W = some .cut) : P.make = some .cut := by
  unfold Program.make
  rw [h]
  unfold mkW at hW
  revert hW
  cases behindMainWord W with
  | nil => intro hW; cases hW
  | cons c rest =>
    simp only
    intro hW
    split
    · rename_i h1; rw [if_pos h1] at hW; exact hW
    · rename_i h1
      rw [if_neg h1] at hW
      split
      · rfl
      · rename_i h2; rw [if_neg h2] at hW; cases hW
theorem make_ok : Tryz.prog.make = some .cut := make_of _ _ io_ws mkW_ok

def bw : List (List Char) := behindMainWord (ioW.map (List.map Char.ofNat))
theorem bw_cons : bw = bw.headD [] :: bw.tail := by kernel_rfl
theorem bw_strip : stripLifts liftWords (bw.headD [] :: bw.tail) = ([], bw.headD [] :: bw.tail) := by kernel_rfl
theorem bw_cut : (some (bw.headD []) == some "cut".toList) = true := by kernel_rfl
theorem lays_ok : Tryz.prog.laysLater = false := by kernel_rfl
theorem refl_ok : Tryz.prog.bearsReflect = false := by kernel_rfl
theorem door_ok : Tryz.prog.doorFits [] = true := by kernel_rfl
theorem enter_of (P : Program) (c : List Char) (rest : List (List Char)) (h : behindMainWord (wordsSigns P.initOrder.toList) = c :: rest) (hs : stripLifts liftWords (c :: rest) = ([], c :: rest))
    (hc : (some c == some "cut".toList) = true) (h1 : P.laysLater = false) (h2 : P.bearsReflect = false) (h3 : P.doorFits [] = true) : P.mayEnter = true := by
  unfold Program.mayEnter
  rw [h]
  simp only [hs, h1, h2, h3, List.head?_cons, hc, Bool.not_false, Bool.or_true, Bool.and_true, Bool.true_and]
  simp
theorem enter_ok : Tryz.prog.mayEnter = true := enter_of _ _ _ (by rw [io_ws]; exact bw_cons) bw_strip bw_cut lays_ok refl_ok door_ok
theorem lifts_of (P : Program) (W : List (List Char)) (h : wordsSigns P.initOrder.toList = W) (h1 : ((behindMainWord W).head? == some "carried".toList) = false) (h2 : stripLifts liftWords (behindMainWord W) = ([], behindMainWord W)) : P.liftsFinal = false := by
  unfold Program.liftsFinal Program.headLifts
  simp only [h, h1, h2, Bool.false_and, Bool.false_or]
  split <;> rfl
theorem lifts_ok : Tryz.prog.liftsFinal = false := lifts_of _ _ io_ws (by kernel_rfl) (by kernel_rfl)
end Go.Proofs.YtckjkdhmljfeeaaGreatDoor
