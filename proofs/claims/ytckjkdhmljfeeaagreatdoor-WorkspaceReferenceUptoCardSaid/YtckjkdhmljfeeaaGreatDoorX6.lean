/- X6: joined from XE6. -/
import Derived.Test.YtckjkdhmljfeeaaGreatDoorX5
import Derived.Lib.ConvBytes
/- One operation, carried out on abstract values: append; all the rules together. -/
set_option linter.unusedVariables false
set_option linter.unusedSimpArgs false
namespace Go.Ev
open Go Go.RowKit
/-- what is appended: how many, their cells, what is read -/
def srcX (ng : Nat) (f : Nat → X) (h : HF) (sz : Nat) (y : Operand) : Option (Nat × List X × List (Nat × Nat × Nat)) := match evX ng f y with
  | .sl b off m _ _ => match h b with
    | some k => match Nat.ble (off + m * sz) k.xs.length with
      | true => some (m, (k.xs.drop off).take (m * sz), [(b, off, m * sz)])
      | false => none
    | none => none
  | .v (.slice _ 0 _) => some (0, [], [])
  | _ => none
def rApp (P : Program) (ng : Nat) (f : Nat → X) (h : HF) (nb : Nat) (t : TypeId) (x y : Operand) : Option Out := match P.underlying t with
  | some (.slice e) => match Ab.zeroOf P e with
    | some (sz, _) => match P.info? e with
      | some ti => match srcX ng f h sz y with
        | some (m, news, rd) => match Nat.beq m 0 with
          | true => match evX ng f x with
            | .v (.slice none 0 0) => some ⟨.v (.slice none 0 0), .nop, []⟩
            | .sl b off n s c => some ⟨.sl b off n s c, .nop, []⟩
            | _ => none
          | false => match evX ng f x with
            | .v (.slice none 0 0) => match Nat.ble m 1000000 && Nat.ble ti.bytes 1000 with
              | true => some ⟨.sl nb 0 m sz none, .new nb ⟨false, e, news⟩, rd⟩
              | false => none
            | .sl b off n s c => match h b with
              | some k => match Nat.ble (n + m) 1000000 && Nat.ble ti.bytes 1000 && Nat.beq s sz && Nat.ble (off + n * sz) k.xs.length with
                | true => match c with
                  | some cc => match Nat.beq cc n with
                    | true => some ⟨.sl nb 0 (n + m) sz none, .new nb ⟨false, e, (k.xs.drop off).take (n * sz) ++ news⟩, (b, off, n * sz) :: rd⟩
                    | false => match Nat.beq off 0 && !k.ro && Nat.beq k.ty e with
                      | true => some ⟨.sl nb 0 (n + m) sz none, .mv b nb ⟨false, e, k.xs.take (n * sz) ++ news⟩, (b, 0, k.xs.length) :: rd⟩
                      | false => none
                  | none => match Nat.beq off 0 && !k.ro && Nat.beq k.ty e with
                    | true => some ⟨.sl nb 0 (n + m) sz none, .mv b nb ⟨false, e, k.xs.take (n * sz) ++ news⟩, (b, 0, k.xs.length) :: rd⟩
                    | false => none
                | false => none
              | none => none
            | _ => none
        | none => none
      | none => none
    | none => none
  | _ => none
theorem RXL_append {M : Nm} : ∀ {xs ys : List X} {us vs : List Value}, RXL M xs us → RXL M ys vs → RXL M (xs ++ ys) (us ++ vs)
  | [], ys, us, vs, h1, h2 => by simp only [RXL] at h1; subst h1; simpa using h2
  | x :: xs, ys, us, vs, h1, h2 => by
    simp only [RXL] at h1
    obtain ⟨u, us', rfl, r1, r2⟩ := h1
    simp only [List.cons_append, RXL]
    exact ⟨u, _, rfl, r1, RXL_append r2 h2⟩
section
variable {P : Program} {ng nb : Nat} {f : Nat → X} {h : HF} {o : Oper} {out : Out}
theorem bdL_app {S : Nat → Prop} {xs ys : List X} (h1 : bdL S xs) (h2 : bdL S ys) : bdL S (xs ++ ys) := bdL_iff.2 fun c hc => by
  rcases List.mem_append.1 hc with hc | hc
  · exact bdL_iff.1 h1 c hc
  · exact bdL_iff.1 h2 c hc
/-- what the source is in the machine -/
theorem src_ok {n0 N : Nat} {S : Nat → Prop} {M : Nm} {f2 : Nat → X} {h2 : HF} {a : Act} {w : World} (st : St n0 ng N S M f2 h2 a w) {sz : Nat} {y : Operand} {m : Nat} {news : List X} {rd rd' : List (Nat × Nat × Nat)} (hs : srcX ng f h sz y = some (m, news, rd))
    (hy : evX ng f2 y = evX ng f y) (hsub : ∀ r ∈ rd, r ∈ rd') (ha : agr rd' h h2) (hm : Nat.beq m 0 = false) :
    ∃ A c us, a.eval y = .slice (some A) m c ∧ us.length = m * sz ∧ (∀ (j : Nat) u, us[j]? = some u → w.cell? (A.add j) = some u) ∧ (∀ u ∈ us, u.oneCell' = true) ∧ RXL M news us ∧ bdL S news := by
  unfold srcX at hs
  have h1 := st.ev y; rw [hy] at h1
  split at hs
  · rename_i b off m' s c hy0
    split at hs
    case h_2 => cases hs
    rename_i k hk
    split at hs
    case h_2 => cases hs
    rename_i hle
    simp only [Option.some.injEq, Prod.mk.injEq] at hs
    obtain ⟨rfl, rfl, rfl⟩ := hs
    have hle := Nat.le_of_ble_eq_true hle
    rw [hy0] at h1; simp only [RX] at h1
    obtain ⟨cap, h1, _⟩ := h1
    obtain ⟨k2, hk2, _, _, hlen, hcells⟩ := agr_cells ha (b := b) (off := off) (n := m' * sz) (hsub _ (by simp)) hk
    obtain ⟨us, e1, e2, e3, e4⟩ := brel_cells (st.rel.blk b k2 hk2) (off := off) (n := m' * sz) (by omega)
    rw [hcells] at e4
    refine ⟨_, cap, us, h1, e1, e2, e3, e4, bdL_sub (st.rel.bd b k2 hk2) fun c hc => ?_⟩
    rw [← hcells] at hc
    exact List.mem_of_mem_drop (List.mem_of_mem_take hc)
  · simp only [Option.some.injEq, Prod.mk.injEq] at hs
    obtain ⟨rfl, _⟩ := hs
    cases hm
  · cases hs
theorem src_zero {n0 N : Nat} {S : Nat → Prop} {M : Nm} {f2 : Nat → X} {h2 : HF} {a : Act} {w : World} (st : St n0 ng N S M f2 h2 a w) {sz : Nat} {y : Operand} {m : Nat} {news : List X} {rd : List (Nat × Nat × Nat)} (hs : srcX ng f h sz y = some (m, news, rd))
    (hy : evX ng f2 y = evX ng f y) (hm : Nat.beq m 0 = true) : ∃ A c, a.eval y = .slice A 0 c := by
  have hm := Nat.eq_of_beq_eq_true hm
  subst hm
  unfold srcX at hs
  have h1 := st.ev y; rw [hy] at h1
  split at hs
  · rename_i b off m' s c hy0
    split at hs
    case h_2 => cases hs
    split at hs
    case h_2 => cases hs
    simp only [Option.some.injEq, Prod.mk.injEq] at hs
    obtain ⟨rfl, _⟩ := hs
    rw [hy0] at h1; simp only [RX] at h1
    obtain ⟨cap, h1, _⟩ := h1
    exact ⟨_, _, h1⟩
  · rename_i A c hy0
    rw [hy0] at h1; simp only [RX] at h1
    exact ⟨_, _, h1⟩
  · cases hs
theorem below_drew {n0 : Nat} (w : World) : Below n0 w w.drew := ⟨rfl, rfl, rfl, Nat.le_refl _, fun _ _ => rfl⟩
/-- a row that grows into a new block -/
theorem grown_ok {n0 N : Nat} {S : Nat → Prop} {M : Nm} {f2 : Nat → X} {h2 : HF} {a : Act} {w : World} (st : St n0 ng N S M f2 h2 a w) (hn : ¬ S nb) {e : TypeId} {z : Value} {sz n m gc : Nat} (hzs : z.cells.size = sz) {olds news : List X} {us vs : List Value}
    (h1 : RXL M olds us) (h3 : RXL M news vs) (o1 : ∀ u ∈ us, u.oneCell' = true) (o2 : ∀ u ∈ vs, u.oneCell' = true) (b1 : bdL S olds) (b2 : bdL S news) (l1 : us.length = n * sz) (l2 : vs.length = m * sz) (hgc : n + m ≤ gc) {res : Result Next}
    (hr : res = .ok (.value (.slice (some ⟨w.heap.size, 0, none⟩) (n + m) gc)) (w.drew.alloc (.cells (us.toArray ++ vs.toArray ++ Builtin.zeroCells z.cells (gc - (n + m))) e))) :
    Outc n0 S M w res (.sl nb 0 (n + m) sz none) (SS S nb) (upd h2 nb (some ⟨false, e, olds ++ news⟩)) := by
  have hsz : (us.toArray ++ vs.toArray ++ Builtin.zeroCells z.cells (gc - (n + m))).size = gc * sz := by
    simp only [Array.size_append, List.size_toArray, size_zeroCells, hzs, l1, l2, ← Nat.add_mul]
    congr 1; omega
  have hr1 := RXL_append h1 h3
  refine outc_new (w1 := w.drew) st hn e _ (olds ++ news) _ _ (.slice (some ⟨w.heap.size, 0, none⟩) (n + m) gc) rfl (below_drew w) hr ?_ (fun i x hi => ?_) (bdL_app b1 b2) ?_ (by simp [X.bd, SS])
  · have := RXL_len hr1
    rw [hsz]
    have h4 : (n + m) * sz ≤ gc * sz := Nat.mul_le_mul_right _ hgc
    rw [Nat.add_mul] at h4
    simp only [List.length_append] at this ⊢
    omega
  · obtain ⟨u, h5, h6⟩ := RXL_get hr1 i x hi
    refine ⟨u, ?_, ?_, h6⟩
    · rw [← Array.getElem?_toList]
      simp only [Array.toList_append]
      rw [List.getElem?_append_left (by have := (List.getElem?_eq_some_iff.1 h5).1; simpa using this)]
      exact h5
    · rcases List.mem_append.1 (List.mem_of_getElem? h5) with h | h
      · exact o1 u h
      · exact o2 u h
  · simp only [RX]
    exact ⟨gc, by simp [Nm.new], hgc, by simp only [Nm.new, if_true, hsz, Nat.zero_add]; exact Nat.le_refl _, by simp⟩
theorem bytes_ok {n bytes : Nat} (h1 : n ≤ 1000000) (h2 : bytes ≤ 1000) : n * bytes ≤ 140737488355328 := by
  have : n * bytes ≤ 1000000 * 1000 := Nat.mul_le_mul h1 h2
  omega
/-- a row that is the block's own: it grows in place, or into a new block -/
theorem moved_ok {n0 N : Nat} {S : Nat → Prop} {M : Nm} {f2 : Nat → X} {h2 : HF} {a : Act} {w : World} (st : St n0 ng N S M f2 h2 a w) (hn : ¬ S nb) {t e ty : TypeId} {ti : TypeInfo} {z : Value} (hu : P.underlying t = some (.slice e)) (hi : P.info? e = some ti) (hz : ti.zero = some z)
    (hzs : z.cells.size = ti.size) {b n m cap : Nat} {k2 : Blk} (hk2 : h2 b = some k2) (hro : k2.ro = false) (hty : k2.ty = e) (hcap : n ≤ cap) (hκ : cap * ti.size ≤ M.κ b) (hle : n * ti.size ≤ k2.xs.length) (hbig : n + m ≤ 1000000) (hby : ti.bytes ≤ 1000) (hm : 0 < m)
    {A : Addr} {c : Nat} {news : List X} {vs : List Value} (l2 : vs.length = m * ti.size) (hc2 : ∀ (j : Nat) u, vs[j]? = some u → w.cell? (A.add j) = some u) (o2 : ∀ u ∈ vs, u.oneCell' = true) (h3 : RXL M news vs) (b2 : bdL S news)
    {res : Result Next} (hr : ∀ u w', (Builtin.append_ #[t, t] ty #[.slice (some ⟨M.φ b, 0, none⟩) n cap, .slice (some A) m c]).run P w = .ok u w' → res = .ok (.value u) w') :
    Outc n0 S M w res (.sl nb 0 (n + m) ti.size none) (SS S nb) (upd (upd h2 b none) nb (some ⟨false, e, k2.xs.take (n * ti.size) ++ news⟩)) := by
  obtain ⟨us, e1, e2, e3, e4⟩ := brel_cells (st.rel.blk b k2 hk2) (off := 0) (n := n * ti.size) (by omega)
  simp only [List.drop_zero] at e4
  have b1 : bdL S (k2.xs.take (n * ti.size)) := bdL_sub (st.rel.bd b k2 hk2) fun c hc => List.mem_of_mem_take hc
  have st' : St n0 ng N S M f2 (upd h2 b none) a w := ⟨st.rel.drop b, st.fr, st.bd, st.size, st.defers, st.hi, st.gl⟩
  obtain ⟨arr, ty', fz, f1, f0, f3, f4, f5⟩ := st.rel.blk b k2 hk2
  obtain ⟨rfl, rfl⟩ := f0 hro
  rw [hty] at f1
  by_cases hroom : n + m ≤ cap
  · have hfit : n * ti.size + vs.length ≤ arr.size := by
      have : (n + m) * ti.size ≤ cap * ti.size := Nat.mul_le_mul_right _ hroom
      rw [Nat.add_mul] at this; omega
    have hrun := run_append_room (P := P) w t ty e ti hu hi (M.φ b) n cap arr f1 A m c vs l2 hc2 o2 hroom hfit
    have hres := hr _ _ hrun
    generalize harr : (arr.toList.take (n * ti.size) ++ vs ++ arr.toList.drop (n * ti.size + vs.length)).toArray = arr' at hres
    obtain ⟨g1, g2, g3⟩ := setRow_heap (arr := arr') f1
    have hsz' : arr'.size = arr.size := by rw [← harr]; simp; omega
    have hlo := st.rel.lo b k2 hk2 hro
    have hr1 := RXL_append e4 h3
    have hcell : ∀ (i : Nat) x, (k2.xs.take (n * ti.size) ++ news)[i]? = some x → ∃ u, arr'[i]? = some u ∧ u.oneCell' = true ∧ RX M x u := fun i x hi => by
      have htl : (k2.xs.take (n * ti.size)).length = n * ti.size := by rw [List.length_take]; omega
      rw [← harr]
      simp only [List.getElem?_toArray]
      have hl1 : (arr.toList.take (n * ti.size)).length = n * ti.size := by simp; omega
      by_cases hlt : i < n * ti.size
      · rw [List.getElem?_append_left (by omega), List.getElem?_take, if_pos hlt] at hi
        rw [List.append_assoc, List.getElem?_append_left (by omega), List.getElem?_take, if_pos hlt, Array.getElem?_toList]
        exact f5 i x hi
      · rw [List.getElem?_append_right (by omega), htl] at hi
        obtain ⟨u, q1, q2⟩ := RXL_get h3 _ x hi
        have hq := (List.getElem?_eq_some_iff.1 q1).1
        rw [List.append_assoc, List.getElem?_append_right (by omega), hl1, List.getElem?_append_left hq]
        exact ⟨u, q1, o2 u (List.mem_of_getElem? q1), q2⟩
    refine ⟨_, _, M.new nb (M.φ b) arr.size, .inl hres, Nm.new_le hn, ?_, g3 n0 hlo, ?_, by simp [X.bd, SS]⟩
    · refine st'.rel.named hn _ (fun c' l hc' => ?_) (fun c' l hc' => ?_) hlo ?_ (bdL_app b1 b2)
      · have hcb : c' ≠ b := by rintro rfl; rw [upd_same] at hc'; cases hc'
        rw [upd_other _ _ hcb] at hc'
        exact g2 _ fun hh => hcb (st.rel.inj c' b l k2 hc' hk2 hh)
      · have hcb : c' ≠ b := by rintro rfl; rw [upd_same] at hc'; cases hc'
        rw [upd_other _ _ hcb] at hc'
        exact fun hh => hcb (st.rel.inj c' b l k2 hc' hk2 hh)
      · refine ⟨arr', e, (0, 0), by simpa [Nm.new] using g1, fun _ => ⟨rfl, rfl⟩, by simp [Nm.new, hsz'], ?_, fun i x hi => ?_⟩
        · have := RXL_len hr1
          rw [hsz']
          simp only [List.length_append] at this ⊢; omega
        · obtain ⟨u, q1, q2, q3⟩ := hcell i x hi
          exact ⟨u, q1, q2, RX_mono (Nm.new_le hn) x u (bdL_iff.1 (bdL_app b1 b2) x (List.mem_of_getElem? hi)) q3⟩
    · simp only [RX]
      exact ⟨cap, by simp [Nm.new], hroom, by simp [Nm.new]; omega, by simp⟩
  · have hrun := run_append_grow (P := P) w t ty e ti z hu hi hz ⟨M.φ b, 0, none⟩ n cap us e1 e2 A m c vs l2 hc2 (by omega) (by omega) (growslice_fits (by omega) (bytes_ok hbig hby))
    exact grown_ok st' hn hzs e4 h3 e3 o2 b1 b2 e1 l2 (grownCap_ge w (n + m) cap e) (hr _ _ hrun)
theorem rApp_ok {t : TypeId} {x y : Operand} (ho : o.op = .call { callee := .builtin .append, args := #[x, y], argTypes := #[t, t] }) (hr : rApp P ng f h nb t x y = some out) : Snd P ng o f h nb out := by
  unfold rApp at hr
  split at hr
  case h_2 => cases hr
  rename_i e hu
  split at hr
  case h_2 => cases hr
  rename_i sz z0 hz0
  split at hr
  case h_2 => cases hr
  rename_i ti0 hi0
  split at hr
  case h_2 => cases hr
  rename_i m news rd hsrc
  obtain ⟨ti, z, hi, hz, hpos, hsz, hvs, rfl, hzl, hone⟩ := Ab.zeroOf_spec hz0
  have : ti0 = ti := by rw [hi] at hi0; exact (Option.some.inj hi0).symm
  subst this
  subst hsz
  intro n0 N S M f2 h2 a w st hx ha hn
  have mx := hx x (by simp [ho, Op.operands, Call.operands])
  have my := hx y (by simp [ho, Op.operands, Call.operands])
  have h1 := st.ev x; rw [mx] at h1
  have hb := st.evbd x; rw [mx] at hb
  have hex : ∀ (v1 v2 u : Value) (w' : World), a.eval x = v1 → a.eval y = v2 → (Builtin.append_ #[t, t] o.type #[v1, v2]).run P w = .ok u w' → (execOp a.eval o).run P w = .ok (.value u) w' := fun v1 v2 u w' e1 e2 e3 => by
    simp [execOp, ho, resolve, invoke, builtin, e1, e2, e3]
  split at hr
  · rename_i hm
    obtain ⟨A, c, hy⟩ := src_zero st hsrc my hm
    split at hr
    · rename_i hx0
      simp only [Option.some.injEq] at hr; subst hr
      rw [hx0] at h1; simp only [RX] at h1
      exact outc_pure st (hex _ _ _ _ h1 hy (Ab.run_append_zero t _ e ti0 hu hi _ _ _ _ _ (Nat.le_refl _) w)) (by simp [RX]) (by simp [X.bd])
    · rename_i b off n s c' hx0
      simp only [Option.some.injEq] at hr; subst hr
      rw [hx0] at h1 hb
      have h1' := h1
      simp only [RX] at h1
      obtain ⟨cap, h1, hcap, _⟩ := h1
      rw [h1] at h1'
      exact outc_pure st (hex _ _ _ _ h1 hy (Ab.run_append_zero t _ e ti0 hu hi _ _ _ _ _ hcap w)) h1' hb
    · cases hr
  · rename_i hm
    have hm0 : 0 < m := by
      rcases Nat.eq_zero_or_pos m with h0 | h0
      · subst h0; cases hm
      · exact h0
    split at hr
    · rename_i hx0
      split at hr
      case h_2 => cases hr
      rename_i hbd
      simp only [Option.some.injEq] at hr; subst hr
      rw [Bool.and_eq_true] at hbd
      have hb1 := Nat.le_of_ble_eq_true hbd.1
      have hb2 := Nat.le_of_ble_eq_true hbd.2
      obtain ⟨A, c, vs, hy, l2, hc2, o2, h3, b2⟩ := src_ok st hsrc my (fun r hr => hr) ha hm
      rw [hx0] at h1; simp only [RX] at h1
      have hbb := bytes_ok hb1 hb2
      have hrun := run_append_nil (P := P) w t o.type e ti0 z hu hi hz A m c vs l2 hc2 hm0 (by omega) (by omega)
      have := grown_ok (nb := nb) (e := e) (n := 0) (m := m) (gc := grownCap w m 0 e) (olds := []) (us := []) st (hn rfl) hvs (by simp [RXL]) h3 (by simp) o2 (by simp [bdL]) b2 (by simp) l2 (by simpa using grownCap_ge w m 0 e) (res := (execOp a.eval o).run P w)
        (by rw [hex _ _ _ _ h1 hy hrun]; simp)
      simp only [Nat.zero_add, List.nil_append] at this
      exact this
    · rename_i b off n s c' hx0
      split at hr
      case h_2 => cases hr
      rename_i k hk
      split at hr
      case h_2 => cases hr
      rename_i hcond
      simp only [Bool.and_eq_true] at hcond
      obtain ⟨⟨⟨hb1, hb2⟩, hs⟩, hle⟩ := hcond
      have hb1 := Nat.le_of_ble_eq_true hb1
      have hb2 := Nat.le_of_ble_eq_true hb2
      have hs := Nat.eq_of_beq_eq_true hs
      have hle := Nat.le_of_ble_eq_true hle
      subst hs
      rw [hx0] at h1 hb; simp only [RX] at h1; simp only [X.bd] at hb
      obtain ⟨cap, h1, hcap, hκ, hcc⟩ := h1
      have mv : ∀ out, (match Nat.beq off 0 && !k.ro && Nat.beq k.ty e with
          | true => some (⟨.sl nb 0 (n + m) ti0.size none, .mv b nb ⟨false, e, k.xs.take (n * ti0.size) ++ news⟩, (b, 0, k.xs.length) :: rd⟩ : Out)
          | false => none) = some out → agr out.rd h h2 → (out.ef.cnt = 1 → ¬ S nb) → Outc n0 S M w ((execOp a.eval o).run P w) out.v (eS out.ef S nb) (out.ef.app h2) := by
        intro out hr ha hn
        split at hr
        case h_2 => cases hr
        rename_i hc
        simp only [Option.some.injEq] at hr; subst hr
        simp only [Bool.and_eq_true, Bool.not_eq_true'] at hc
        obtain ⟨⟨h0, hro⟩, hty⟩ := hc
        have h0 := Nat.eq_of_beq_eq_true h0
        have hty := Nat.eq_of_beq_eq_true hty
        subst h0
        obtain ⟨k2, hk2, hro2, hty2, hlen, hcells⟩ := agr_cells ha (b := b) (off := 0) (n := k.xs.length) (by simp) hk
        have hxs : k2.xs = k.xs := by
          simp only [List.drop_zero] at hcells
          rw [List.take_of_length_le (by omega), List.take_of_length_le (by omega)] at hcells
          exact hcells
        obtain ⟨A, c, vs, hy, l2, hc2, o2, h3, b2⟩ := src_ok st hsrc my (fun r hr => List.mem_cons_of_mem _ hr) ha hm
        have := moved_ok (P := P) (nb := nb) (ty := o.type) (t := t) (e := e) (ti := ti0) (z := z) (b := b) (n := n) (m := m) (cap := cap) st (hn rfl) hu hi hz hvs hk2 (hro2.trans hro) (hty2.trans hty) hcap (by omega) (by rw [hxs]; omega) hb1 hb2 hm0 l2 hc2 o2 h3 b2
          (fun u w' hrun => hex _ _ _ _ h1 hy hrun)
        rw [hxs] at this
        exact this
      split at hr
      · rename_i cc
        split at hr
        · rename_i hfull
          have hfull := Nat.eq_of_beq_eq_true hfull
          subst hfull
          have hcapn : cap = cc := hcc _ rfl
          subst hcapn
          simp only [Option.some.injEq] at hr; subst hr
          obtain ⟨k2, hk2, hro2, hty2, hlen, hcells⟩ := agr_cells ha (b := b) (off := off) (n := cap * ti0.size) (by simp) hk
          obtain ⟨us, e1, e2, e3, e4⟩ := brel_cells (st.rel.blk b k2 hk2) (off := off) (n := cap * ti0.size) (by omega)
          rw [hcells] at e4
          obtain ⟨A, c, vs, hy, l2, hc2, o2, h3, b2⟩ := src_ok st hsrc my (fun r hr => List.mem_cons_of_mem _ hr) ha hm
          have hrun := run_append_grow (P := P) w t o.type e ti0 z hu hi hz ⟨M.φ b, off, none⟩ cap cap us e1 e2 A m c vs l2 hc2 (by omega) (by omega) (growslice_fits (by omega) (bytes_ok hb1 hb2))
          refine grown_ok st (hn rfl) hvs e4 h3 e3 o2 (bdL_sub (st.rel.bd b k2 hk2) fun c hc => ?_) b2 e1 l2 (grownCap_ge w (cap + m) cap e) (hex _ _ _ _ h1 hy hrun)
          rw [← hcells] at hc
          exact List.mem_of_mem_drop (List.mem_of_mem_take hc)
        · exact mv out hr ha hn
      · exact mv out hr ha hn
    · cases hr
def rSb (P : Program) (ng : Nat) (f : Nat → X) (nb : Nat) (src dst : TypeId) (x : Operand) : Option Out := match P.underlying src with
  | some .string => match P.underlying dst with
    | some (.slice e) => match P.underlying e with
      | some (.int .u8) => match evX ng f x with
        | .v (.string s) => some ⟨.sl nb 0 s.size 1 none, .new nb ⟨true, e, s.data.toList.map fun b => .v (.int .u8 b.toNat)⟩, []⟩
        | _ => none
      | _ => none
    | _ => none
  | _ => none
theorem rSb_ok {src dst : TypeId} {x : Operand} (ho : o.op = .convert src dst x) (hr : rSb P ng f nb src dst x = some out) : Snd P ng o f h nb out := by
  unfold rSb at hr
  split at hr
  case h_2 => cases hr
  rename_i hs
  split at hr
  case h_2 => cases hr
  rename_i e hd
  split at hr
  case h_2 => cases hr
  rename_i he
  split at hr
  case h_2 => cases hr
  rename_i s hx0
  simp only [Option.some.injEq] at hr; subst hr
  intro n0 N S M f2 h2 a w st hx ha hn
  have h1 := st.ev x; rw [hx x (by simp [ho, Op.operands]), hx0] at h1; simp only [RX] at h1
  have hb : Below n0 w (Lib.bytesWorld w e s) := ⟨rfl, rfl, rfl, by rw [Lib.bytesWorld_size]; omega, fun k hk => Lib.bytesWorld_at_old w e s k (Nat.lt_of_lt_of_le hk st.hi)⟩
  have hnew := Lib.bytesWorld_at_new w e s
  have hlen : (s.data.toList.map fun b => X.v (.int .u8 b.toNat)).length = s.size := by rw [List.length_map, Array.length_toList]; rfl
  have hcell : ∀ (i : Nat) x, (s.data.toList.map fun b => X.v (.int .u8 b.toNat))[i]? = some x → ∃ u, (Lib.bytesCells w e s)[i]? = some u ∧ u.oneCell' = true ∧ x = .v u := fun i x hi => by
    have hlt : i < s.size := by rw [← hlen]; exact (List.getElem?_eq_some_iff.1 hi).1
    have hc := Lib.bytesWorld_cell w e s i hlt
    simp only [World.cell?, hnew, Option.isSome_none, Bool.false_eq_true, if_false] at hc
    rw [List.getElem?_map] at hi
    obtain ⟨c, hc', rfl⟩ := Option.map_eq_some_iff.1 hi
    refine ⟨_, hc, rfl, ?_⟩
    rw [List.getD_eq_getElem?_getD, hc']; rfl
  have hge : s.size ≤ (Lib.bytesCells w e s).size := by
    rcases Nat.eq_zero_or_pos s.size with h0 | h0
    · omega
    · obtain ⟨u, hu, _⟩ := hcell (s.size - 1) _ (List.getElem?_eq_getElem (by rw [hlen]; omega))
      have := (Array.getElem?_eq_some_iff.1 hu).1
      omega
  refine ⟨.slice (some ⟨w.heap.size, 0, none⟩) s.size (grownCap w s.size 0 e), Lib.bytesWorld w e s, M.new nb w.heap.size (Lib.bytesCells w e s).size, .inl ?_, Nm.new_le (hn rfl), ?_, hb, ?_, by simp [X.bd, SS, eS]⟩
  · simp only [execOp, ho, h1]
    simp only [Sem.run_bind, Lib.run_convert_string_bytes w src dst e s hs hd he, Result.andThen_ok, Sem.run_pure]
  · refine st.rel.named (hn rfl) _ (fun c l hc => Lib.bytesWorld_at_old w e s _ (st.rel.lt hc)) (fun c l hc => Nat.ne_of_lt (st.rel.lt hc)) st.hi ?_ (bdL_iff.2 fun c hc => by obtain ⟨u, _, rfl⟩ := List.mem_map.1 hc; simp [X.bd])
    refine ⟨_, _, _, by simpa [Nm.new] using hnew, (fun h => by cases h), by simp [Nm.new], by rw [hlen]; exact hge, fun i x hi => ?_⟩
    obtain ⟨u, q1, q2, rfl⟩ := hcell i x hi
    exact ⟨u, q1, q2, by simp [RX]⟩
  · simp only [RX]
    refine ⟨_, by simp [Nm.new], grownCap_ge w s.size 0 e, ?_, by simp⟩
    simp only [Nm.new, if_true, Nat.zero_add, Nat.mul_one, Lib.bytesCells]
    have := grownCap_ge w s.size 0 e
    simp
    omega
/-- one operation -/
def exOp (P : Program) (ng : Nat) (f : Nat → X) (h : HF) (nb : Nat) (o : Oper) : Option Out := match o.op with
  | .move x => some ⟨evX ng f x, .nop, []⟩
  | .assign x => some ⟨evX ng f x, .nop, []⟩
  | .pick c x y => rPick ng f c x y
  | .alloc e => rAlloc P nb e
  | .box e x => rBox ng f nb e x
  | .build t parts => match rBuild P ng f t parts with
    | some r => some r
    | none => rBuildA P ng f t parts
  | .buildSlice t len parts => rBslice P ng f nb t len parts
  | .load t x => rLoad P ng f h t x
  | .store t x y => rStore P ng f h t x y
  | .nilCheck x => match rNilc ng f x with
    | some r => some r
    | none => rPure P ng f o
  | .binOp op t x y _ => match rPure P ng f o with
    | some r => some r
    | none => rNil P ng f op t x y
  | .convert s d x => match rPure P ng f o with
    | some r => some r
    | none => rSb P ng f nb s d x
  | .makeInterface t x => rIfc P ng f t x
  | .makeFunc g first caps => rMkfn ng f g first caps
  | .makeSlice t l c => rMkslice P ng f nb t l c
  | .slice t x lo hi mx => match rSlice P ng f t x lo hi mx with
    | some r => some r
    | none => rPure P ng f o
  | .fieldAddr t x j => rFaddr P ng f t x j
  | .field t x j => match rField P ng f t x j with
    | some r => some r
    | none => rPure P ng f o
  | .indexAddr t x y => rIaddr P ng f t x y
  | .extract x k => match rExt ng f x k with
    | some r => some r
    | none => rPure P ng f o
  | .call ⟨.builtin .len, args, ats⟩ => match args.toList, ats.toList with
    | [x], [t] => match rLen P ng f t x with
      | some r => some r
      | none => rPure P ng f o
    | _, _ => none
  | .call ⟨.builtin .cap, args, ats⟩ => match args.toList, ats.toList with
    | [x], [t] => match rCap P ng f t x with
      | some r => some r
      | none => rPure P ng f o
    | _, _ => none
  | .call ⟨.builtin .append, args, ats⟩ => match args.toList, ats.toList with
    | [x, y], [t, t'] => match Nat.beq t t' with
      | true => rApp P ng f h nb t x y
      | false => none
    | _, _ => none
  | _ => rPure P ng f o
theorem arr1 {α : Type} {a : Array α} {x : α} (h : a.toList = [x]) : a = #[x] := by rw [← Array.toArray_toList (xs := a), h]
theorem arr2 {α : Type} {a : Array α} {x y : α} (h : a.toList = [x, y]) : a = #[x, y] := by rw [← Array.toArray_toList (xs := a), h]
theorem orElse {a b : Option Out} {out : Out} (hr : (match a with | some r => some r | none => b) = some out) : a = some out ∨ b = some out := by
  cases a with
  | some r => exact .inl hr
  | none => exact .inr hr
theorem exOp_ok (hr : exOp P ng f h nb o = some out) : Snd P ng o f h nb out := by
  unfold exOp at hr
  split at hr
  · rename_i x ho; simp only [Option.some.injEq] at hr; subst hr; exact rMov_ok (.inl ho)
  · rename_i x ho; simp only [Option.some.injEq] at hr; subst hr; exact rMov_ok (.inr ho)
  · rename_i ho; exact rPick_ok ho hr
  · rename_i ho; exact rAlloc_ok ho hr
  · rename_i ho; exact rBox_ok ho hr
  · rename_i ho
    rcases orElse hr with hr | hr
    · exact rBuild_ok ho hr
    · exact rBuildA_ok ho hr
  · rename_i ho; exact rBslice_ok ho hr
  · rename_i ho; exact rLoad_ok ho hr
  · rename_i ho; exact rStore_ok ho hr
  · rename_i ho
    rcases orElse hr with hr | hr
    · exact rNilc_ok ho hr
    · exact rPure_ok hr
  · rename_i ho
    rcases orElse hr with hr | hr
    · exact rPure_ok hr
    · exact rNil_ok ho hr
  · rename_i ho
    rcases orElse hr with hr | hr
    · exact rPure_ok hr
    · exact rSb_ok ho hr
  · rename_i ho; exact rIfc_ok ho hr
  · rename_i ho; exact rMkfn_ok ho hr
  · rename_i ho; exact rMkslice_ok ho hr
  · rename_i ho
    rcases orElse hr with hr | hr
    · exact rSlice_ok ho hr
    · exact rPure_ok hr
  · rename_i ho; exact rFaddr_ok ho hr
  · rename_i ho
    rcases orElse hr with hr | hr
    · exact rField_ok ho hr
    · exact rPure_ok hr
  · rename_i ho; exact rIaddr_ok ho hr
  · rename_i ho
    rcases orElse hr with hr | hr
    · exact rExt_ok ho hr
    · exact rPure_ok hr
  · rename_i args ats ho
    split at hr
    · rename_i x t ha ht
      rw [arr1 ha, arr1 ht] at ho
      rcases orElse hr with hr | hr
      · exact rLen_ok ho hr
      · exact rPure_ok hr
    · cases hr
  · rename_i args ats ho
    split at hr
    · rename_i x t ha ht
      rw [arr1 ha, arr1 ht] at ho
      rcases orElse hr with hr | hr
      · exact rCap_ok ho hr
      · exact rPure_ok hr
    · cases hr
  · rename_i args ats ho
    split at hr
    · rename_i x y t t' ha ht
      split at hr
      · rename_i hte
        have hte := Nat.eq_of_beq_eq_true hte
        subst hte
        rw [arr2 ha, arr2 ht] at ho
        exact rApp_ok ho hr
      · cases hr
    · cases hr
  · exact rPure_ok hr
end
end Go.Ev
