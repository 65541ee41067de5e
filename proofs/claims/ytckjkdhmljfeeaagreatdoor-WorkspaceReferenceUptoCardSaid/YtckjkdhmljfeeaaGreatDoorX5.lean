/- X5: joined from XE5. -/
import Derived.Test.YtckjkdhmljfeeaaGreatDoorX4
/- One operation, carried out on abstract values: the rules (3); all of them together. -/
set_option linter.unusedVariables false
set_option linter.unusedSimpArgs false
namespace Go.Ev
open Go Go.RowKit
section
variable {P : Program} {ng nb : Nat} {f : Nat → X} {h : HF} {o : Oper} {out : Out}
def rIaddr (P : Program) (ng : Nat) (f : Nat → X) (t : TypeId) (x y : Operand) : Option Out := match evX ng f y with
  | .v (.int _ (.ofNat n)) => match evX ng f x with
    | .sl b off m _ _ => match P.underlying t with
      | some (.slice e) => match P.info? e with
        | some ti => match Nat.ble (n + 1) m with
          | true => some ⟨.ptr b (off + n * ti.size), .nop, []⟩
          | false => none
        | none => none
      | _ => none
    | .ptr b off => match P.underlying t with
      | some (.array m e) => match P.info? e with
        | some ti => match Nat.ble (n + 1) m with
          | true => some ⟨.ptr b (off + n * ti.size), .nop, []⟩
          | false => none
        | none => none
      | _ => none
    | _ => none
  | _ => none
theorem rIaddr_ok {t : TypeId} {x y : Operand} (ho : o.op = .indexAddr t x y) (hr : rIaddr P ng f t x y = some out) : Snd P ng o f h nb out := by
  unfold rIaddr at hr
  split at hr
  case h_2 => cases hr
  rename_i kd n hy0
  intro n0 N S M f2 h2 a w st hx ha hn
  have h2' := st.ev y; rw [hx y (by simp [ho, Op.operands]), hy0] at h2'; simp only [RX] at h2'
  have h1 := st.ev x; rw [hx x (by simp [ho, Op.operands])] at h1
  have hb := st.evbd x; rw [hx x (by simp [ho, Op.operands])] at hb
  split at hr
  · rename_i b off m sz c hx0
    split at hr
    case h_2 => cases hr
    rename_i e hu
    split at hr
    case h_2 => cases hr
    rename_i ti hi
    split at hr
    case h_2 => cases hr
    rename_i hlt
    simp only [Option.some.injEq] at hr; subst hr
    have hlt := Nat.le_of_ble_eq_true hlt
    rw [hx0] at h1 hb; simp only [RX] at h1
    obtain ⟨cap, h1, _⟩ := h1
    have h5 : (sizeOf e).run P w = .ok ti.size w := by simp [sizeOf, typeInfo, hi]
    have hel : P.elem t = e := by simp [Program.elem, hu]
    have hrun : (Instr.indexAt t (a.eval x) (a.eval y)).run P w = .ok (.pointer (some ⟨M.φ b, off + n * ti.size, none⟩)) w := by
      rw [h1, h2', run_indexAt_slice w t _ m cap kd _ (by rw [hel]; exact hu), if_pos ⟨Int.natCast_nonneg n, by show (n : Int) < m; omega⟩, hel, h5]
      simp [add_lit']
    exact outc_pure st (u := .pointer (some ⟨M.φ b, off + n * ti.size, none⟩)) (by simp only [execOp, ho, Sem.run_bind, hrun, Result.andThen_ok, Sem.run_pure]) (by simp [RX]) (by simpa only [X.bd] using hb)
  · rename_i b off hx0
    split at hr
    case h_2 => cases hr
    rename_i m e hu
    split at hr
    case h_2 => cases hr
    rename_i ti hi
    split at hr
    case h_2 => cases hr
    rename_i hlt
    simp only [Option.some.injEq] at hr; subst hr
    have hlt := Nat.le_of_ble_eq_true hlt
    rw [hx0] at h1 hb; simp only [RX] at h1
    have h5 : (sizeOf e).run P w = .ok ti.size w := by simp [sizeOf, typeInfo, hi]
    have hc : 0 ≤ Int.ofNat n ∧ Int.ofNat n < (m : Int) := ⟨Int.natCast_nonneg n, by show (n : Int) < m; omega⟩
    have hrun : (Instr.indexAt t (a.eval x) (a.eval y)).run P w = .ok (.pointer (some ⟨M.φ b, off + n * ti.size, none⟩)) w := by
      rw [h1, h2']
      simp only [Instr.indexAt, asIntOf, Sem.run_bind, Sem.run_pure, Result.andThen_ok, run_underlying hu, Instr.sureAddr]
      rw [if_pos hc]
      simp only [Sem.run_bind, h5, Result.andThen_ok, Sem.run_pure, add_lit']
      rfl
    exact outc_pure st (u := .pointer (some ⟨M.φ b, off + n * ti.size, none⟩)) (by simp only [execOp, ho, Sem.run_bind, hrun, Result.andThen_ok, Sem.run_pure]) (by simp [RX]) (by simpa only [X.bd] using hb)
  · cases hr
/-- something that is there, compared with nil -/
def nilX (d : TypeDesc) (x y : X) : Bool := match d with
  | .pointer _ => match x, y with
    | .ptr _ _, .v (.pointer none) => true
    | _, _ => false
  | .slice _ => match x, y with
    | .sl _ _ _ _ _, .v (.slice none 0 0) => true
    | _, _ => false
  | .func _ _ _ => match x, y with
    | .fn _ _ _, .v .nilFunc => true
    | _, _ => false
  | _ => false
def rNil (P : Program) (ng : Nat) (f : Nat → X) (op : BinOp) (t : TypeId) (x y : Operand) : Option Out := match P.underlying t with
  | some d => match nilX d (evX ng f x) (evX ng f y) with
    | true => match Ab.beq? op false with
      | some v => some ⟨.v v, .nop, []⟩
      | none => none
    | false => none
  | none => none
theorem rNil_ok {op : BinOp} {t yt : TypeId} {x y : Operand} (ho : o.op = .binOp op t x y yt) (hr : rNil P ng f op t x y = some out) : Snd P ng o f h nb out := by
  unfold rNil at hr
  split at hr
  case h_2 => cases hr
  rename_i d hu
  split at hr
  case h_2 => cases hr
  rename_i hnil
  split at hr
  case h_2 => cases hr
  rename_i v hv
  simp only [Option.some.injEq] at hr; subst hr
  intro n0 N S M f2 h2 a w st hx ha hn
  have h1 := st.ev x; rw [hx x (by simp [ho, Op.operands])] at h1
  have h2' := st.ev y; rw [hx y (by simp [ho, Op.operands])] at h2'
  have key : (eqGuard op t x y (a.eval x) (a.eval y)).run P w = .ok () w ∧ (binOp op t (a.eval x) (a.eval y)).run P w = .ok v w := by
    unfold nilX at hnil
    cases d <;> simp only at hnil <;> first | (cases hnil; done) | skip
    · split at hnil
      · rename_i b off hx0 hy0
        rw [hx0] at h1; rw [hy0] at h2'; simp only [RX] at h1 h2'
        rw [h1, h2']
        exact ⟨Ab.run_eqGuard _ _ _ _ _ _ (by simp) (by simp) _, Ab.run_beq hv (Ab.eq_run fun d => by simp [Op.equalIn, run_underlying hu]) (by rintro op rfl; rfl) (by rintro op rfl; rfl)⟩
      · cases hnil
    · split at hnil
      · rename_i b off n sz c hx0 hy0
        rw [hx0] at h1; rw [hy0] at h2'; simp only [RX] at h1 h2'
        obtain ⟨cap, h1, _⟩ := h1
        rw [h1, h2']
        exact ⟨Ab.run_eqGuard _ _ _ _ _ _ (by simp) (by simp) _, Ab.run_beq hv (Ab.eq_run fun d => by simp [Op.equalIn, run_underlying hu]) (by rintro op rfl; rfl) (by rintro op rfl; rfl)⟩
      · cases hnil
    · split at hnil
      · rename_i g fs caps hx0 hy0
        rw [hx0] at h1; rw [hy0] at h2'; simp only [RX] at h1 h2'
        obtain ⟨vs, us, h1, _⟩ := h1
        rw [h1, h2']
        exact ⟨Ab.run_eqGuard _ _ _ _ _ _ (by simp) (by simp) _, Ab.run_beq hv (Ab.eq_run fun d => by simp [Op.equalIn, run_underlying hu]) (by rintro op rfl; rfl) (by rintro op rfl; rfl)⟩
      · cases hnil
  refine outc_pure st (u := v) ?_ (by simp [RX]) (by simp [X.bd])
  simp only [execOp, ho, Sem.run_bind, key.1, key.2, Result.andThen_ok, Sem.run_pure]
def rIfc (P : Program) (ng : Nat) (f : Nat → X) (t : TypeId) (x : Operand) : Option Out := match P.underlying t with
  | some (.interface _) => none
  | some _ => some ⟨.ifc t (evX ng f x), .nop, []⟩
  | none => none
theorem rIfc_ok {t : TypeId} {x : Operand} (ho : o.op = .makeInterface t x) (hr : rIfc P ng f t x = some out) : Snd P ng o f h nb out := by
  unfold rIfc at hr
  intro n0 N S M f2 h2 a w st hx ha hn
  have mx := hx x (by simp [ho, Op.operands])
  split at hr
  · cases hr
  · rename_i d hni hu
    simp only [Option.some.injEq] at hr; subst hr
    refine outc_pure st (u := .iface t (a.eval x)) ?_ (by simp only [RX]; exact ⟨_, rfl, mx ▸ st.ev x⟩) (by simp only [X.bd]; exact mx ▸ st.evbd x)
    have : (Instr.makeInterface t (a.eval x)).run P w = .ok (.iface t (a.eval x)) w := by
      cases d <;> first | (exact absurd rfl (hni _)) | simp [Instr.makeInterface, run_underlying hu]
    simp only [execOp, ho, Sem.run_bind, this, Result.andThen_ok, Sem.run_pure]
  · cases hr
def rMkslice (P : Program) (ng : Nat) (f : Nat → X) (nb : Nat) (t : TypeId) (l c : Operand) : Option Out := match P.underlying t with
  | some (.slice e) => match P.info? e with
    | some ti => match Ab.zeroOf P e with
      | some (n, z) => match evX ng f l with
        | .v (.int _ (.ofNat ln)) => match evX ng f c with
          | .v (.int _ (.ofNat cn)) => match Nat.ble ti.bytes 128 with
            | true => match Nat.ble ln cn with
              | true => match Nat.ble cn 1000000 with
                | true => some ⟨.sl nb 0 ln n (some cn), .new nb ⟨false, e, repX (z.map .v) cn⟩, []⟩
                | false => none
              | false => none
            | false => none
          | _ => none
        | _ => none
      | none => none
    | none => none
  | _ => none
theorem rMkslice_ok {t : TypeId} {l c : Operand} (ho : o.op = .makeSlice t l c) (hr : rMkslice P ng f nb t l c = some out) : Snd P ng o f h nb out := by
  unfold rMkslice at hr
  split at hr
  case h_2 => cases hr
  rename_i e hu
  split at hr
  case h_2 => cases hr
  rename_i ti0 hi0
  split at hr
  case h_2 => cases hr
  rename_i n z hz0
  split at hr
  case h_2 => cases hr
  rename_i kl ln hl0
  split at hr
  case h_2 => cases hr
  rename_i kc cn hc0
  split at hr
  case h_2 => cases hr
  rename_i hby
  split at hr
  case h_2 => cases hr
  rename_i hlc
  split at hr
  case h_2 => cases hr
  rename_i hbig
  simp only [Option.some.injEq] at hr; subst hr
  obtain ⟨ti, zv, hi, hz, hpos, hsz, hvs, rfl, hzl, hone⟩ := Ab.zeroOf_spec hz0
  have : ti0 = ti := by rw [hi] at hi0; exact (Option.some.inj hi0).symm
  subst this
  have hby := Nat.le_of_ble_eq_true hby
  have hlc := Nat.le_of_ble_eq_true hlc
  have hbig := Nat.le_of_ble_eq_true hbig
  intro n0 N S M f2 h2 a w st hx ha hn
  have h1 := st.ev l; rw [hx l (by simp [ho, Op.operands]), hl0] at h1; simp only [RX] at h1
  have h2' := st.ev c; rw [hx c (by simp [ho, Op.operands]), hc0] at h2'; simp only [RX] at h2'
  have hb1 : (ti0.bytes : Int) * (cn : Int) ≤ 281474976710656 := by
    have : ti0.bytes * cn ≤ 128 * 1000000 := Nat.mul_le_mul hby hbig
    have h3 : ((ti0.bytes * cn : Nat) : Int) ≤ 281474976710656 := by omega
    rwa [Int.natCast_mul] at h3
  have hr := run_make (P := P) w t e ti0 zv hu hi hz kl kc ln cn (by omega) (by omega) hb1 (by omega)
  simp only [Int.toNat_natCast, hsz] at hr
  have hmd := made_ok (M := M) (n := cn) hvs hpos
  refine outc_new st (hn rfl) e (madeCells zv.cells (cn * n)) _ _ _ (.slice (some ⟨w.heap.size, 0, none⟩) ln cn) rfl (Below.refl _ _) ?_ (by have := RXL_len hmd; simp at this ⊢; omega) (fun i x hi' => ?_) (repX_bd (bdL_vs _) _) ?_ (by simp [X.bd, SS])
  · have e1 : a.eval l = .int kl (ln : Int) := h1
    have e2 : a.eval c = .int kc (cn : Int) := h2'
    simp only [execOp, ho, e1, e2, Sem.run_bind, hr, Result.andThen_ok, Sem.run_pure]
  · obtain ⟨u, h5, h6⟩ := RXL_get hmd i x hi'
    exact ⟨u, by simpa using h5, made_one hvs hpos hone u (List.mem_of_getElem? h5), h6⟩
  · simp only [RX]
    exact ⟨cn, by simp [Nm.new], hlc, by simp [Nm.new, size_madeCells], fun k hk => by cases hk; rfl⟩
def optN (ng : Nat) (f : Nat → X) : Option Operand → Option (Option Nat)
  | none => some none
  | some y => match evX ng f y with
    | .v (.int _ (.ofNat k)) => some (some k)
    | _ => none
theorem optN_ok {n0 N : Nat} {S : Nat → Prop} {M : Nm} {f2 : Nat → X} {h2 : HF} {a : Act} {w : World} (st : St n0 ng N S M f2 h2 a w) {x : Option Operand} {r : Option Nat} (hr : optN ng f x = some r) (hx : ∀ y, x = some y → evX ng f2 y = evX ng f y) (d : Nat) : Ab.BoundV a x d (r.getD d) := by
  cases x with
  | none => simp only [optN, Option.some.injEq] at hr; subst hr; exact .none d
  | some y =>
    simp only [optN] at hr
    split at hr
    · rename_i kd k hy
      simp only [Option.some.injEq] at hr; subst hr
      have h1 := st.ev y; rw [hx y rfl, hy] at h1; simp only [RX] at h1
      exact .some y kd k d h1
    · cases hr
/-- where a cut lies, what of its capacity is known -/
def cutX (b off n sz : Nat) (c : Option Nat) (l u : Nat) (mx : Option Nat) : Option X := match mx with
  | some m => match Nat.ble m (c.getD n) with
    | true => match Nat.ble u m with
      | true => some (.sl b (if Nat.beq m l then off else off + l * sz) (u - l) sz (some (m - l)))
      | false => none
    | false => none
  | none => match c with
    | some m => match Nat.ble u m with
      | true => some (.sl b (if Nat.beq m l then off else off + l * sz) (u - l) sz (some (m - l)))
      | false => none
    | none => match Nat.ble u n with
      | true => match Nat.ble (l + 1) u || Nat.beq l 0 with
        | true => some (.sl b (off + l * sz) (u - l) sz none)
        | false => none
      | false => none
def rSlice (P : Program) (ng : Nat) (f : Nat → X) (t : TypeId) (x : Operand) (lo hi mx : Option Operand) : Option Out := match evX ng f x with
  | .sl b off n sz c => match P.underlying t with
    | some (.slice e) => match P.info? e with
      | some ti => match Nat.beq sz ti.size with
        | true => match optN ng f lo with
          | some l => match optN ng f hi with
            | some u => match optN ng f mx with
              | some m => match Nat.ble (l.getD 0) (u.getD n) with
                | true => match (mx.isNone || hi.isSome) with
                  | true => match cutX b off n sz c (l.getD 0) (u.getD n) m with
                    | some r => some ⟨r, .nop, []⟩
                    | none => none
                  | false => none
                | false => none
              | none => none
            | none => none
          | none => none
        | false => none
      | none => none
    | _ => none
  | _ => none
theorem cut_ok {M : Nm} {b off n sz cap l u : Nat} {c mx : Option Nat} {r : X} (hc : cutX b off n sz c l u mx = some r) (hlu : l ≤ u) (hn : n ≤ cap) (hκ : off + cap * sz ≤ M.κ b) (hk : ∀ k, c = some k → cap = k) :
    u ≤ mx.getD cap ∧ mx.getD cap ≤ cap ∧ RX M r (.slice (if mx.getD cap = l then some ⟨M.φ b, off, none⟩ else some ((⟨M.φ b, off, none⟩ : Addr).add (l * sz))) (u - l) (mx.getD cap - l)) ∧ ∀ S : Nat → Prop, S b → r.bd S := by
  have fin : ∀ (m : Nat), m ≤ cap → u ≤ m → RX M (.sl b (if Nat.beq m l then off else off + l * sz) (u - l) sz (some (m - l))) (.slice (if m = l then some ⟨M.φ b, off, none⟩ else some ((⟨M.φ b, off, none⟩ : Addr).add (l * sz))) (u - l) (m - l)) := fun m hm hum => by
    simp only [RX]
    by_cases hml : m = l
    · subst hml
      exact ⟨0, by simp, by omega, by simp; omega, fun k e => by simp at e; omega⟩
    · have hb : Nat.beq m l = false := by cases hb : Nat.beq m l with | false => rfl | true => exact absurd (Nat.eq_of_beq_eq_true hb) hml
      refine ⟨m - l, by simp [hml, hb, add_lit'], by omega, ?_, fun k e => by simp at e; omega⟩
      simp only [hb, Bool.false_eq_true, if_false]
      have : m * sz ≤ cap * sz := Nat.mul_le_mul_right _ hm
      rw [Nat.sub_mul]
      have : l * sz ≤ m * sz := Nat.mul_le_mul_right _ (by omega)
      omega
  unfold cutX at hc
  split at hc
  · rename_i m
    split at hc
    case h_2 => cases hc
    rename_i h1
    split at hc
    case h_2 => cases hc
    rename_i h2
    simp only [Option.some.injEq] at hc; subst hc
    have h1 := Nat.le_of_ble_eq_true h1
    have h2 := Nat.le_of_ble_eq_true h2
    have hm : m ≤ cap := by
      cases c with
      | none => simp at h1; omega
      | some k => simp at h1; rw [hk k rfl]; exact h1
    exact ⟨h2, hm, fin m hm h2, fun S hS => by simpa only [X.bd] using hS⟩
  · split at hc
    · rename_i m
      split at hc
      case h_2 => cases hc
      rename_i h2
      simp only [Option.some.injEq] at hc; subst hc
      have h2 := Nat.le_of_ble_eq_true h2
      have hm : cap = m := hk m rfl
      subst hm
      exact ⟨h2, Nat.le_refl _, fin cap (Nat.le_refl _) h2, fun S hS => by simpa only [X.bd] using hS⟩
    · split at hc
      case h_2 => cases hc
      rename_i h2
      split at hc
      case h_2 => cases hc
      rename_i h3
      simp only [Option.some.injEq] at hc; subst hc
      have h2 := Nat.le_of_ble_eq_true h2
      refine ⟨by simp; omega, by simp, ?_, fun S hS => by simpa only [X.bd] using hS⟩
      simp only [Option.getD_none, RX]
      rw [Bool.or_eq_true] at h3
      refine ⟨cap - l, ?_, by omega, ?_, by simp⟩
      · by_cases hcl : cap = l
        · rw [if_pos hcl]
          rcases h3 with h3 | h3
          · have := Nat.le_of_ble_eq_true h3; omega
          · have := Nat.eq_of_beq_eq_true h3; subst this; simp
        · rw [if_neg hcl, add_lit']
      · rw [Nat.sub_mul]
        have : l * sz ≤ cap * sz := Nat.mul_le_mul_right _ (by omega)
        omega
theorem rSlice_ok {t : TypeId} {x : Operand} {lo hi mx : Option Operand} (ho : o.op = .slice t x lo hi mx) (hr : rSlice P ng f t x lo hi mx = some out) : Snd P ng o f h nb out := by
  unfold rSlice at hr
  split at hr
  case h_2 => cases hr
  rename_i b off n sz c hx0
  split at hr
  case h_2 => cases hr
  rename_i e hu
  split at hr
  case h_2 => cases hr
  rename_i ti hi'
  split at hr
  case h_2 => cases hr
  rename_i hsz
  split at hr
  case h_2 => cases hr
  rename_i l hl
  split at hr
  case h_2 => cases hr
  rename_i u hu'
  split at hr
  case h_2 => cases hr
  rename_i m hm
  split at hr
  case h_2 => cases hr
  rename_i hlu
  split at hr
  case h_2 => cases hr
  rename_i hmh
  split at hr
  case h_2 => cases hr
  rename_i r hcut
  simp only [Option.some.injEq] at hr; subst hr
  have hsz := Nat.eq_of_beq_eq_true hsz
  have hlu := Nat.le_of_ble_eq_true hlu
  intro n0 N S M f2 h2 a w st hx ha hn
  have h1 := st.ev x; rw [hx x (by simp [ho, Op.operands]), hx0] at h1; simp only [RX] at h1
  have hb := st.evbd x; rw [hx x (by simp [ho, Op.operands]), hx0] at hb; simp only [X.bd] at hb
  obtain ⟨cap, h1, hcap, hκ, hk⟩ := h1
  obtain ⟨g1, g2, g3, g4⟩ := cut_ok hcut hlu hcap hκ hk
  have bl := optN_ok st hl (fun y e => hx y (by simp [ho, Op.operands, e])) 0
  have bh := optN_ok st hu' (fun y e => hx y (by simp [ho, Op.operands, e])) n
  have bm := optN_ok st hm (fun y e => hx y (by simp [ho, Op.operands, e])) cap
  have hrun := Ab.run_cut (P := P) hu hi' (some ⟨M.φ b, off, none⟩) n cap _ _ _ a w hcap hlu g1 g2 bl bh (by simpa [Bool.or_eq_true] using hmh) bm
  rw [← hsz] at hrun
  refine outc_pure st (u := .slice (if m.getD cap = l.getD 0 then some ⟨M.φ b, off, none⟩ else some ((⟨M.φ b, off, none⟩ : Addr).add (l.getD 0 * sz))) (u.getD n - l.getD 0) (m.getD cap - l.getD 0)) ?_ g3 (g4 S hb)
  simp only [execOp, ho, h1, Sem.run_bind, hrun, Result.andThen_ok, Sem.run_pure, Option.map_some]
def rLen (P : Program) (ng : Nat) (f : Nat → X) (t : TypeId) (x : Operand) : Option Out := match evX ng f x with
  | .sl _ _ n _ _ => match P.underlying t with
    | some (.slice _) => some ⟨.v (.int .i64 (.ofNat n)), .nop, []⟩
    | _ => none
  | _ => none
theorem rLen_ok {t : TypeId} {x : Operand} (ho : o.op = .call { callee := .builtin .len, args := #[x], argTypes := #[t] }) (hr : rLen P ng f t x = some out) : Snd P ng o f h nb out := by
  unfold rLen at hr
  split at hr
  case h_2 => cases hr
  rename_i b off n sz c hx0
  split at hr
  case h_2 => cases hr
  rename_i e hu
  simp only [Option.some.injEq] at hr; subst hr
  intro n0 N S M f2 h2 a w st hx ha hn
  have h1 := st.ev x; rw [hx x (by simp [ho, Op.operands, Call.operands]), hx0] at h1; simp only [RX] at h1
  obtain ⟨cap, h1, _⟩ := h1
  exact outc_pure st (u := .int .i64 n) (by simp [execOp, ho, h1, resolve, invoke, builtin, Builtin.len_, run_underlying hu, goInt]) (by simp [RX]) (by simp [X.bd])
def rCap (P : Program) (ng : Nat) (f : Nat → X) (t : TypeId) (x : Operand) : Option Out := match evX ng f x with
  | .sl _ _ _ _ (some k) => match P.underlying t with
    | some (.slice _) => some ⟨.v (.int .i64 (.ofNat k)), .nop, []⟩
    | _ => none
  | _ => none
theorem rCap_ok {t : TypeId} {x : Operand} (ho : o.op = .call { callee := .builtin .cap, args := #[x], argTypes := #[t] }) (hr : rCap P ng f t x = some out) : Snd P ng o f h nb out := by
  unfold rCap at hr
  split at hr
  case h_2 => cases hr
  rename_i b off n sz k hx0
  split at hr
  case h_2 => cases hr
  rename_i e hu
  simp only [Option.some.injEq] at hr; subst hr
  intro n0 N S M f2 h2 a w st hx ha hn
  have h1 := st.ev x; rw [hx x (by simp [ho, Op.operands, Call.operands]), hx0] at h1; simp only [RX] at h1
  obtain ⟨cap, h1, _, _, hk⟩ := h1
  have := hk k rfl
  subst this
  exact outc_pure st (u := .int .i64 cap) (by simp [execOp, ho, h1, resolve, invoke, builtin, Builtin.cap_, run_underlying hu, goInt]) (by simp [RX]) (by simp [X.bd])
end
end Go.Ev
