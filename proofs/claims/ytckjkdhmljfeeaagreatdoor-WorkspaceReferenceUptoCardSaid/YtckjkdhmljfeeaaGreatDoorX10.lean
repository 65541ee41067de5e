/- X10: joined from XE10. -/
import Derived.Test.YtckjkdhmljfeeaaGreatDoorX9
/- Regions run: one operation behind the other; in whatever order. -/
set_option linter.unusedVariables false
set_option linter.unusedSimpArgs false
namespace Go.Ev
open Go Go.RowKit
open Go.Ab (Path edgesOf looksOf)
abbrev CallF := FuncId → List X → T Blk → Nat → Option (X × T Blk × Nat)
def fitsB (e : Ef) (rd : List (Nat × Nat × Nat)) (H : T Blk) : Bool := match e with
  | .put b off vs => match H.get b with
    | some k => Nat.ble (off + vs.length) k.xs.length && rd.any (fun r => Nat.beq r.1 b)
    | none => false
  | _ => true
def stepB (P : Program) (ng : Nat) (F : T X) (H : T Blk) (nb : Nat) (o : Oper) : Option (X × T Blk × Nat × Ft) := match exOp P ng (fD F) (hD H) nb o with
  | some out => match fitsB out.ef out.rd H with
    | true => match Ef.run out.ef H with
      | some H' => some (out.v, H', nb + out.ef.cnt, .ef out.ef out.rd)
      | none => none
    | false => none
  | none => none
/-- a call that was carried out on abstract values -/
def CallOk (P : Program) (ng : Nat) (g : FuncId) (args : List X) (h : HF) (nb : Nat) (v : X) (h' : HF) (nb' : Nat) : Prop :=
  nb ≤ nb' ∧ Ab.Enters P g ∧ ∀ n0 S M w us, XRel n0 S M h w → n0 ≤ w.heap.size → GlS n0 ng S M w → RXL M args us → bdL S args → (∀ b, nb ≤ b → b < nb' → ¬ S b) →
    Calls P g us.toArray w fun e w' => ∃ u M', e = .returned u ∧ Nm.le S M M' ∧ XRel n0 (SI S nb nb') M' h' w' ∧ Below n0 w w' ∧ RX M' v u ∧ v.bd (SI S nb nb')
def CallsOk (P : Program) (ng : Nat) (call : CallF) : Prop := ∀ g args H nb v H' nb', call g args H nb = some (v, H', nb') → CallOk P ng g args (hD H) nb v (hD H') nb'
section
variable {P : Program} {ng : Nat} {call : CallF}
/-- what a step is -/
structure StpI (P : Program) (ng : Nat) (F : T X) (H : T Blk) (nb : Nat) (o : Oper) (v : X) (H' : T Blk) (nb' : Nat) (ft : Ft) : Prop where
  le : nb ≤ nb'
  stp : Stp P ng o (fD F) v (trF ft) (agF ft (hD H)) nb nb'
  tr : trF ft (hD H) = hD H'
  ag : agF ft (hD H) (hD H)
  sta : ∀ f h2, agF ft (hD H) h2 → staOf f (trF ft h2) = wapp (staOf f h2) (wrF ft)
  sub : ∀ l, wrF ft l ≠ none → tchH ft l
theorem fitsB_ok {e : Ef} {rd : List (Nat × Nat × Nat)} {H : T Blk} (h : fitsB e rd H = true) {h2 : HF} (ha : agr rd (hD H) h2) : e.fits h2 := by
  cases e with
  | put b off vs =>
    simp only [fitsB] at h
    split at h
    case h_2 => cases h
    rename_i k hk
    rw [Bool.and_eq_true, List.any_eq_true] at h
    obtain ⟨h1, r, hr, hb⟩ := h
    have hb := beq_t.1 hb
    subst hb
    have := (ha r hr).1
    have hk' : hD H r.1 = some k := hk
    rw [hk'] at this
    cases e2 : h2 r.1 with
    | none => rw [e2] at this; simp at this
    | some k2 =>
      rw [e2] at this
      simp only [Option.map_some, Option.some.injEq, hdr, Prod.mk.injEq] at this
      exact ⟨k2, e2, by rw [this.2.2]; exact Nat.le_of_ble_eq_true h1⟩
  | _ => trivial
theorem stepB_ok {F : T X} {H H' : T Blk} {nb nb' : Nat} {o : Oper} {v : X} {ft : Ft} (h : stepB P ng F H nb o = some (v, H', nb', ft)) : StpI P ng F H nb o v H' nb' ft := by
  unfold stepB at h
  split at h
  case h_2 => cases h
  rename_i out hout
  split at h
  case h_2 => cases h
  rename_i hfit
  split at h
  case h_2 => cases h
  rename_i H1 hrun
  simp only [Option.some.injEq, Prod.mk.injEq] at h
  obtain ⟨rfl, rfl, rfl, rfl⟩ := h
  exact ⟨by omega, stp_of_snd (exOp_ok hout), (Ef.run_ok hrun).symm, agr_self _ _, fun f h2 ha => wrE_ok (fitsB_ok hfit ha), fun l hl => .inl hl⟩
theorem stpI_of_snd {F : T X} {H H' : T Blk} {nb : Nat} {o : Oper} {out : Out} (hs : Snd P ng o (fD F) (hD H) nb out) (hfit : fitsB out.ef out.rd H = true) (hrun : Ef.run out.ef H = some H') : StpI P ng F H nb o out.v H' (nb + out.ef.cnt) (.ef out.ef out.rd) :=
  ⟨by omega, stp_of_snd hs, (Ef.run_ok hrun).symm, agr_self _ _, fun f h2 ha => wrE_ok (fitsB_ok hfit ha), fun l hl => .inl hl⟩
theorem stpI_nop {F : T X} {H : T Blk} {nb : Nat} {o : Oper} {v : X} {rd : List (Nat × Nat × Nat)} (hs : Snd P ng o (fD F) (hD H) nb ⟨v, .nop, rd⟩) : StpI P ng F H nb o v H nb (.ef .nop rd) :=
  stpI_of_snd (out := ⟨v, .nop, rd⟩) hs rfl rfl
/-! ### operations, made ready -/
inductive XO where
  | mov (x : Operand)
  | pick (c x y : Operand)
  | load (g : Bool) (n : Nat) (x : Operand)
  | iadr (arr : Option Nat) (n : Nat) (x y : Operand)
  | faddr (off : Nat) (x : Operand)
  | len (x : Operand)
  | slen (x : Operand)
  | bin (op : BinOp) (x y : Operand)
  | conv (k : IntKind) (x : Operand)
  | sidx (x y : Operand)
  | nilc (x : Operand)
  | unot (x : Operand)
  | store (n : Nat) (x y : Operand)
  | call (fx : Operand) (args : List Operand)
  | gen
def compX (P : Program) (op : Op) : XO := match op with
  | .move x => .mov x
  | .assign x => .mov x
  | .pick c x y => .pick c x y
  | .load t x => match Ab.isAggB P t with
    | some g => match P.info? t with
      | some i => match (g || Nat.beq i.size 1) with
        | true => .load g i.size x
        | false => .gen
      | none => .gen
    | none => .gen
  | .store t x y => match P.info? t with
    | some i => .store i.size x y
    | none => .gen
  | .indexAddr t x y => match P.underlying t with
    | some (.slice e) => match P.info? e with
      | some ti => .iadr none ti.size x y
      | none => .gen
    | some (.array m e) => match P.info? e with
      | some ti => .iadr (some m) ti.size x y
      | none => .gen
    | _ => .gen
  | .fieldAddr t x j => match P.underlying t with
    | some (.struct fs) => match fs[j]? with
      | some fd => match P.info? fd.type with
        | some i => match Nat.beq i.size 0 with
          | false => .faddr fd.offset x
          | true => .gen
        | none => .gen
      | none => .gen
    | _ => .gen
  | .binOp op _ x y _ => .bin op x y
  | .convert src dst x => match P.underlying dst with
    | some (.int k) => match P.underlying src with
      | some _ => .conv k x
      | none => .gen
    | _ => .gen
  | .index t x y => match P.underlying t with
    | some .string => .sidx x y
    | _ => .gen
  | .nilCheck x => .nilc x
  | .unOp .not _ x => .unot x
  | .call c => match c.callee with
    | .value fx => .call fx c.args.toList
    | .builtin .len => match c.args.toList with
      | [x] => match c.argTypes.toList with
        | [t] => match P.underlying t with
          | some (.slice _) => .len x
          | some .string => .slen x
          | _ => .gen
        | _ => .gen
      | _ => .gen
    | _ => .gen
  | _ => .gen
abbrev Rs := Option (X × T Blk × Nat × Ft)
abbrev StF := CallF → Program → Nat → Oper → T X → T Blk → Nat → Rs
def xGen : StF := fun _ P ng o F H nb => stepB P ng F H nb o
def xMov (x : Operand) : StF := fun _ _ ng _ F H nb => some (evX ng (fD F) x, H, nb, .ef .nop [])
def xPick (c x y : Operand) : StF := fun _ _ ng _ F H nb => match evX ng (fD F) c with
  | .v (.bool true) => some (evX ng (fD F) x, H, nb, .ef .nop [])
  | .v (.bool false) => some (evX ng (fD F) y, H, nb, .ef .nop [])
  | _ => none
def xLoad (g : Bool) (n : Nat) (x : Operand) : StF := fun _ _ ng _ F H nb => match evX ng (fD F) x with
  | .ptr b off => match hD H b with
    | some k => match Nat.ble (off + n) k.xs.length with
      | true => some (unc g ((k.xs.drop off).take n), H, nb, .ef .nop [(b, off, n)])
      | false => none
    | none => none
  | _ => none
def xIadr (arr : Option Nat) (n : Nat) (x y : Operand) : StF := fun _ _ ng _ F H nb => match evX ng (fD F) y with
  | .v (.int _ (.ofNat i)) => match evX ng (fD F) x with
    | .sl b off m _ _ => match arr with
      | none => match Nat.ble (i + 1) m with
        | true => some (.ptr b (off + i * n), H, nb, .ef .nop [])
        | false => none
      | some _ => none
    | .ptr b off => match arr with
      | some m => match Nat.ble (i + 1) m with
        | true => some (.ptr b (off + i * n), H, nb, .ef .nop [])
        | false => none
      | none => none
    | _ => none
  | _ => none
def xFaddr (off : Nat) (x : Operand) : StF := fun _ _ ng _ F H nb => match evX ng (fD F) x with
  | .ptr b o => some (.ptr b (o + off), H, nb, .ef .nop [])
  | _ => none
def xLen (x : Operand) : StF := fun c P ng o F H nb => match evX ng (fD F) x with
  | .sl _ _ n _ _ => some (.v (.int .i64 (.ofNat n)), H, nb, .ef .nop [])
  | _ => xGen c P ng o F H nb
def xSlen (x : Operand) : StF := fun c P ng o F H nb => match evX ng (fD F) x with
  | .v (.string s) => some (.v (.int .i64 (.ofNat s.size)), H, nb, .ef .nop [])
  | _ => xGen c P ng o F H nb
def iBits (op : BinOp) (k : IntKind) (a b : Int) : Option Value := match op with
  | .and => some (.int k (k.wrap (BitVec.ofInt k.bits a &&& BitVec.ofInt k.bits b).toNat))
  | .or => some (.int k (k.wrap (BitVec.ofInt k.bits a ||| BitVec.ofInt k.bits b).toNat))
  | .xor => some (.int k (k.wrap (BitVec.ofInt k.bits a ^^^ BitVec.ofInt k.bits b).toNat))
  | _ => none
def sameK (a b : IntKind) : Bool := decide (a = b)
def binV (op : BinOp) (u v : Value) : Option Value := match u with
  | .int k a => match v with
    | .int k' b => match sameK k k' with
      | true => match Ab.bint op k a b with
        | some r => some r
        | none => iBits op k a b
      | false => none
    | _ => none
  | .string a => match v with
    | .string b => Ab.bstr op a b
    | _ => none
  | .bool a => match v with
    | .bool b => Ab.beq? op (a == b)
    | _ => none
  | _ => none
/-- a comparison of two truth values: what kind the type is must be known -/
def noBool (u : Value) : Bool := match u with
  | .bool _ => false
  | _ => true
def xBin (op : BinOp) (x y : Operand) : StF := fun c P ng o F H nb => match evX ng (fD F) x with
  | .v u => match evX ng (fD F) y with
    | .v u' => match noBool u with
      | true => match binV op u u' with
        | some r => some (.v r, H, nb, .ef .nop [])
        | none => xGen c P ng o F H nb
      | false => xGen c P ng o F H nb
    | _ => xGen c P ng o F H nb
  | _ => xGen c P ng o F H nb
def xConv (k : IntKind) (x : Operand) : StF := fun c P ng o F H nb => match evX ng (fD F) x with
  | .v (.int _ n) => some (.v (.int k (k.wrap n)), H, nb, .ef .nop [])
  | _ => xGen c P ng o F H nb
def xSidx (x y : Operand) : StF := fun c P ng o F H nb => match evX ng (fD F) x with
  | .v (.string s) => match evX ng (fD F) y with
    | .v (.int _ (.ofNat n)) => match s.data[n]? with
      | some b => some (.v (.int .u8 (.ofNat b.toNat)), H, nb, .ef .nop [])
      | none => none
    | _ => none
  | _ => none
def xNilc (x : Operand) : StF := fun c P ng o F H nb => match evX ng (fD F) x with
  | .ptr b off => some (.ptr b off, H, nb, .ef .nop [])
  | _ => xGen c P ng o F H nb
def xUnot (x : Operand) : StF := fun c P ng o F H nb => match evX ng (fD F) x with
  | .v (.bool b) => some (.v (.bool (!b)), H, nb, .ef .nop [])
  | _ => none
def xStore (n : Nat) (x y : Operand) : StF := fun _ _ ng _ F H nb => match evX ng (fD F) x with
  | .ptr b off => match hD H b with
    | some k => match k.ro with
      | false => match cells? (evX ng (fD F) y) with
        | some vs => match Nat.beq vs.length n with
          | true => match Nat.ble (off + vs.length) k.xs.length with
            | true => match Nat.ble b lim with
              | true => some (.v undef, T.put dpt H b (some { k with xs := spl k.xs off vs }), nb, .ef (.put b off vs) [(b, 0, 0)])
              | false => none
            | false => none
          | false => none
        | none => none
      | true => none
    | none => none
  | _ => none
def evL (ng : Nat) (f : Nat → X) : List Operand → List X
  | [] => []
  | x :: xs => evX ng f x :: evL ng f xs
theorem evL_eq {ng : Nat} {f : Nat → X} : ∀ xs, evL ng f xs = xs.map (evX ng f)
  | [] => rfl
  | x :: xs => by simp [evL, evL_eq xs]
def xCall (fx : Operand) (args : List Operand) : StF := fun call P ng o F H nb => match evX ng (fD F) fx with
  | .fn g fs caps => match call g (fs ++ evL ng (fD F) args ++ caps) H nb with
    | some (v, H', nb') => some (v, H', nb', .cl H H')
    | none => stepB P ng F H nb o
  | _ => none
def stepX (x : XO) : StF := match x with
  | .mov x => xMov x
  | .pick c x y => xPick c x y
  | .load g n x => xLoad g n x
  | .iadr arr n x y => xIadr arr n x y
  | .faddr off x => xFaddr off x
  | .len x => xLen x
  | .slen x => xSlen x
  | .bin op x y => xBin op x y
  | .conv k x => xConv k x
  | .sidx x y => xSidx x y
  | .nilc x => xNilc x
  | .unot x => xUnot x
  | .store n x y => xStore n x y
  | .call fx args => xCall fx args
  | .gen => xGen
theorem snd_val {F : T X} {H : T Blk} {nb : Nat} {o : Oper} {v : Value} (hr : ∀ n0 N S M f2 h2 a w, St n0 ng N S M f2 h2 a w → (∀ x ∈ o.op.operands.toList, evX ng f2 x = evX ng (fD F) x) → (execOp a.eval o).run P w = .ok (.value v) w) : StpI P ng F H nb o (.v v) H nb (.ef .nop []) :=
  stpI_nop fun n0 N S M f2 h2 a w st hx ha hn => outc_pure st (hr n0 N S M f2 h2 a w st hx) (by simp [RX]) (by simp [X.bd])
theorem ev_v {n0 N : Nat} {S : Nat → Prop} {M : Nm} {f2 f : Nat → X} {h2 : HF} {a : Act} {w : World} (st : St n0 ng N S M f2 h2 a w) {x : Operand} {u : Value} (hx : evX ng f2 x = evX ng f x) (h : evX ng f x = .v u) : a.eval x = u := by
  have h1 := st.ev x
  rw [hx, h] at h1
  simpa only [RX] using h1
theorem stepX_ok (hc : CallsOk P ng call) {F : T X} {H H' : T Blk} {nb nb' : Nat} {o : Oper} {v : X} {ft : Ft} (h : stepX (compX P o.op) call P ng o F H nb = some (v, H', nb', ft)) : StpI P ng F H nb o v H' nb' ft := by
  unfold compX at h
  split at h
  · rename_i x ho
    simp only [stepX, xMov, Option.some.injEq, Prod.mk.injEq] at h
    obtain ⟨rfl, rfl, rfl, rfl⟩ := h
    exact stpI_nop (rMov_ok (.inl ho))
  · rename_i x ho
    simp only [stepX, xMov, Option.some.injEq, Prod.mk.injEq] at h
    obtain ⟨rfl, rfl, rfl, rfl⟩ := h
    exact stpI_nop (rMov_ok (.inr ho))
  · rename_i c x y ho
    simp only [stepX, xPick] at h
    split at h
    · rename_i hcc
      simp only [Option.some.injEq, Prod.mk.injEq] at h
      obtain ⟨rfl, rfl, rfl, rfl⟩ := h
      exact stpI_nop (rPick_ok ho (by simp [rPick, hcc]))
    · rename_i hcc
      simp only [Option.some.injEq, Prod.mk.injEq] at h
      obtain ⟨rfl, rfl, rfl, rfl⟩ := h
      exact stpI_nop (rPick_ok ho (by simp [rPick, hcc]))
    · cases h
  · rename_i t x ho
    split at h
    case h_2 => exact stepB_ok h
    rename_i g hg
    split at h
    case h_2 => exact stepB_ok h
    rename_i i hi
    split at h
    case h_2 => exact stepB_ok h
    rename_i hcond
    simp only [stepX, xLoad] at h
    split at h
    case h_2 => cases h
    rename_i b off hx0
    split at h
    case h_2 => cases h
    rename_i k hk
    split at h
    case h_2 => cases h
    rename_i hle
    simp only [Option.some.injEq, Prod.mk.injEq] at h
    obtain ⟨rfl, rfl, rfl, rfl⟩ := h
    exact stpI_nop (rLoad_ok ho (by simp only [rLoad, hx0, hk, hg, hi, hcond, hle]))
  · rename_i t x y ho
    split at h
    case h_2 => exact stepB_ok h
    rename_i i hi
    simp only [stepX, xStore] at h
    split at h
    case h_2 => cases h
    rename_i b off hx0
    split at h
    case h_2 => cases h
    rename_i k hk
    split at h
    case h_2 => cases h
    rename_i hro
    split at h
    case h_2 => cases h
    rename_i vs hvs
    split at h
    case h_2 => cases h
    rename_i hn
    split at h
    case h_2 => cases h
    rename_i hle
    split at h
    case h_2 => cases h
    rename_i hb
    simp only [Option.some.injEq, Prod.mk.injEq] at h
    obtain ⟨rfl, rfl, rfl, rfl⟩ := h
    have hk' : H.get b = some k := hk
    exact stpI_of_snd (out := ⟨.v undef, .put b off vs, [(b, 0, 0)]⟩) (rStore_ok ho (by simp only [rStore, hx0, hk, hro, hvs, hi, hn, hle])) (by simp [fitsB, hk', hle, beq_t]) (by simp [Ef.run, hb, hk'])
  · rename_i t x y ho
    split at h
    · rename_i e hu
      split at h
      case h_2 => exact stepB_ok h
      rename_i ti hi
      simp only [stepX, xIadr] at h
      split at h
      case h_2 => cases h
      rename_i kd n hy0
      split at h
      · rename_i b off m s c hx0
        split at h
        case h_2 => cases h
        rename_i hle
        simp only [Option.some.injEq, Prod.mk.injEq] at h
        obtain ⟨rfl, rfl, rfl, rfl⟩ := h
        exact stpI_nop (rIaddr_ok ho (by simp only [rIaddr, hy0, hx0, hu, hi, hle]))
      · cases h
      · cases h
    · rename_i m e hu
      split at h
      case h_2 => exact stepB_ok h
      rename_i ti hi
      simp only [stepX, xIadr] at h
      split at h
      case h_2 => cases h
      rename_i kd n hy0
      split at h
      · cases h
      · rename_i b off hx0
        split at h
        case h_2 => cases h
        rename_i hle
        simp only [Option.some.injEq, Prod.mk.injEq] at h
        obtain ⟨rfl, rfl, rfl, rfl⟩ := h
        exact stpI_nop (rIaddr_ok ho (by simp only [rIaddr, hy0, hx0, hu, hi, hle]))
      · cases h
    · exact stepB_ok h
  · rename_i t x j ho
    split at h
    case h_2 => exact stepB_ok h
    rename_i fs hu
    split at h
    case h_2 => exact stepB_ok h
    rename_i fd hfd
    split at h
    case h_2 => exact stepB_ok h
    rename_i i hi
    split at h
    case h_2 => exact stepB_ok h
    rename_i hpos
    simp only [stepX, xFaddr] at h
    split at h
    case h_2 => cases h
    rename_i b off hx0
    simp only [Option.some.injEq, Prod.mk.injEq] at h
    obtain ⟨rfl, rfl, rfl, rfl⟩ := h
    exact stpI_nop (rFaddr_ok ho (by simp only [rFaddr, hx0, hu, hfd, hi, hpos]))
  · rename_i op t x y yt ho
    simp only [stepX, xBin] at h
    split at h
    case h_2 => exact stepB_ok h
    rename_i u hx0
    split at h
    case h_2 => exact stepB_ok h
    rename_i u' hy0
    split at h
    case h_2 => exact stepB_ok h
    rename_i hnb
    split at h
    case h_2 => exact stepB_ok h
    rename_i r hr
    simp only [Option.some.injEq, Prod.mk.injEq] at h
    obtain ⟨rfl, rfl, rfl, rfl⟩ := h
    refine snd_val fun n0 N S M f2 h2 a w st hx => ?_
    have e1 := ev_v st (hx x (by simp [ho, Op.operands])) hx0
    have e2 := ev_v st (hx y (by simp [ho, Op.operands])) hy0
    have key : (eqGuard op t x y (a.eval x) (a.eval y)).run P w = .ok () w ∧ (binOp op t (a.eval x) (a.eval y)).run P w = .ok r w := by
      rw [e1, e2]
      unfold binV at hr
      split at hr
      · rename_i k i
        split at hr
        case h_2 => cases hr
        rename_i k' j
        split at hr
        case h_2 => cases hr
        rename_i hk
        have hk : k = k' := of_decide_eq_true hk
        subst hk
        refine ⟨Ab.run_eqGuard _ _ _ _ _ _ (by simp) (by simp) _, ?_⟩
        split at hr
        · rename_i r' hr'
          simp only [Option.some.injEq] at hr; subst hr
          exact Ab.run_bint hr' t w
        · unfold iBits at hr
          split at hr <;> first | (cases hr; done) | (simp only [Option.some.injEq] at hr; subst hr; simp [binOp, Op.intBits])
      · rename_i s
        split at hr
        case h_2 => cases hr
        rename_i s'
        exact ⟨Ab.run_eqGuard _ _ _ _ _ _ (by simp) (by simp) _, Ab.run_bstr hr t w⟩
      · cases hnb
      · cases hr
    simp only [execOp, ho, Sem.run_bind, key.1, key.2, Result.andThen_ok, Sem.run_pure]
  · rename_i src dst x ho
    split at h
    case h_2 => exact stepB_ok h
    rename_i k hk
    split at h
    case h_2 => exact stepB_ok h
    rename_i sd hs
    simp only [stepX, xConv] at h
    split at h
    case h_2 => exact stepB_ok h
    rename_i k0 n hx0
    simp only [Option.some.injEq, Prod.mk.injEq] at h
    obtain ⟨rfl, rfl, rfl, rfl⟩ := h
    refine snd_val fun n0 N S M f2 h2 a w st hx => ?_
    have e1 := ev_v st (hx x (by simp [ho, Op.operands])) hx0
    have : (convert src dst (.int k0 n)).run P w = .ok (.int k (k.wrap n)) w := by
      simp [convert, run_underlying hs, run_underlying hk, Conv.intToInt]
    simp only [execOp, ho, e1, Sem.run_bind, this, Result.andThen_ok, Sem.run_pure]
  · rename_i t x y ho
    split at h
    case h_2 => exact stepB_ok h
    rename_i hu
    simp only [stepX, xSidx] at h
    split at h
    case h_2 => cases h
    rename_i s hx0
    split at h
    case h_2 => cases h
    rename_i kd n hy0
    split at h
    case h_2 => cases h
    rename_i b hb
    simp only [Option.some.injEq, Prod.mk.injEq] at h
    obtain ⟨rfl, rfl, rfl, rfl⟩ := h
    refine snd_val fun n0 N S M f2 h2 a w st hx => ?_
    have e1 := ev_v st (hx x (by simp [ho, Op.operands])) hx0
    have e2 := ev_v st (hx y (by simp [ho, Op.operands])) hy0
    have hb' : s[n]? = some b := by
      have hlt := (Array.getElem?_eq_some_iff.1 hb).1
      rw [Array.getElem?_eq_getElem hlt] at hb
      have h2 : n < s.size := hlt
      rw [getElem?_pos s n h2]
      exact hb
    have : (Instr.index t (.string s) (.int kd (.ofNat n))).run P w = .ok (.int .u8 (.ofNat b.toNat)) w := by
      simp [Instr.index, asIntOf, run_underlying hu, hb']
    simp only [execOp, ho, e1, e2, Sem.run_bind, this, Result.andThen_ok, Sem.run_pure]
  · rename_i x ho
    simp only [stepX, xNilc] at h
    split at h
    case h_2 => exact stepB_ok h
    rename_i b off hx0
    simp only [Option.some.injEq, Prod.mk.injEq] at h
    obtain ⟨rfl, rfl, rfl, rfl⟩ := h
    exact stpI_nop (rNilc_ok ho (by simp only [rNilc, hx0]))
  · rename_i t x ho
    simp only [stepX, xUnot] at h
    split at h
    case h_2 => cases h
    rename_i b hx0
    simp only [Option.some.injEq, Prod.mk.injEq] at h
    obtain ⟨rfl, rfl, rfl, rfl⟩ := h
    refine snd_val fun n0 N S M f2 h2 a w st hx => ?_
    have e1 := ev_v st (hx x (by simp [ho, Op.operands])) hx0
    simp [execOp, ho, e1, Op.unary]
  · rename_i c ho
    split at h
    · rename_i fx hcal
      simp only [stepX, xCall] at h
      split at h
      case h_2 => cases h
      rename_i g fs caps hfx
      split at h
      case h_2 => exact stepB_ok h
      rename_i v1 H1 nb1 hcall
      simp only [Option.some.injEq, Prod.mk.injEq] at h
      obtain ⟨rfl, rfl, rfl, rfl⟩ := h
      rw [evL_eq] at hcall
      obtain ⟨cal, args, ats⟩ := c
      simp only at hcal hcall; subst hcal
      obtain ⟨hle, ⟨fn, hfn, hbody, hname⟩, hcalls⟩ := hc _ _ _ _ _ _ _ hcall
      refine ⟨hle, ?_, rfl, rfl, fun f h2 ha => ?_, fun l hl t e => ?_⟩
      · intro n0 N S M f2 h2 a w st hx ha hn Kn Q hk
        have hh : h2 = hD H := ha
        subst hh
        have ex : evX ng f2 fx = evX ng (fD F) fx := hx fx (by simp [ho, Op.operands, Call.operands])
        have h1 := st.ev fx; rw [ex, hfx] at h1; simp only [RX] at h1
        have hb := st.evbd fx; rw [ex, hfx] at hb; simp only [X.bd] at hb
        obtain ⟨vs, us, hg, hv, hr⟩ := h1
        obtain ⟨q1, q2⟩ := RXL_map_ev (f := fD F) st args.toList fun x hx' => hx x (by simp [ho, Op.operands, Call.operands]; right; simpa using hx')
        have hrun : (execOp a.eval o).run P w = .ok (.enter g (vs ++ args.map a.eval ++ us)) w := by
          obtain ⟨body, hb⟩ := Option.isSome_iff_exists.1 hbody
          have hname' : ¬ fn.name = "runtime.NumGoroutine" := by simpa using hname
          simp [execOp, ho, resolve, Deferred.ofValue, hg, invoke, callFunc, hfn, hb, hname']
        unfold Oper.wp
        rw [hrun]
        simp only [Oper.upon]
        have := hcalls n0 S M w (vs.toList ++ args.toList.map a.eval ++ us.toList) st.rel st.hi st.gl (RXL_append (RXL_append hv q1) hr) (bdL_app (bdL_app hb.1 q2) hb.2) hn
        have e : (vs.toList ++ args.toList.map a.eval ++ us.toList).toArray = vs ++ args.map a.eval ++ us := by apply Array.ext'; simp
        rw [e] at this
        refine this.mono fun e w' ⟨u, M', he, g1, g2, g3, g4, g5⟩ => ?_
        subst he
        exact hk u w' M' g1 g2 g3 g4 g5
      · have hh : h2 = hD H := ha
        subst hh
        exact wrH_ok
      · subst e; exact hl rfl
    · rename_i hcal
      obtain ⟨cal, args, ats⟩ := c
      simp only at hcal; subst hcal
      simp only at h
      split at h
      case h_2 => exact stepB_ok h
      rename_i x ha
      split at h
      case h_2 => exact stepB_ok h
      rename_i t ht
      rw [arr1 ha, arr1 ht] at ho
      split at h
      · rename_i e hu
        simp only [stepX, xLen] at h
        split at h
        · rename_i b off n s c hx0
          simp only [Option.some.injEq, Prod.mk.injEq] at h
          obtain ⟨rfl, rfl, rfl, rfl⟩ := h
          exact stpI_nop (rLen_ok ho (by simp only [rLen, hx0, hu]))
        · exact stepB_ok h
      · rename_i hu
        simp only [stepX, xSlen] at h
        split at h
        · rename_i s hx0
          simp only [Option.some.injEq, Prod.mk.injEq] at h
          obtain ⟨rfl, rfl, rfl, rfl⟩ := h
          refine snd_val fun n0 N S M f2 h2 a w st hx => ?_
          have e1 := ev_v st (hx x (by simp [ho, Op.operands, Call.operands])) hx0
          simp [execOp, ho, e1, resolve, invoke, builtin, Builtin.len_, run_underlying hu, goInt]
        · exact stepB_ok h
      · exact stepB_ok h
    · exact stepB_ok h
  · exact stepB_ok h
/-- an operation of a region, made ready -/
structure XOp where
  o : Oper
  x : XO
  dst : Option Nat
  g : Option (Nat × Bool)
  hp : Bool
def dstB (N : Nat) (d : Option Nat) : Bool := match d with
  | some d => Nat.ble (d + 1) N && Nat.ble d lim
  | none => true
def guardX (N : Nat) (all : List Oper) (g : Option (Nat × Bool)) : Option (Option (Nat × Bool)) := match g with
  | none => some none
  | some (j, w) => match all[j]? with
    | some oj => match oj.dst with
      | some s => match Nat.ble (s + 1) N with
        | true => some (some (s, w))
        | false => none
      | none => none
    | none => none
def compO (P : Program) (N : Nat) (all : List Oper) (o : Oper) : Option XOp := match dstB N o.dst with
  | true => match guardX N all o.guard with
    | some g => some ⟨o, compX P o.op, o.dst, g, heapy o.op⟩
    | none => none
  | false => none
def compL (P : Program) (N : Nat) (all : List Oper) : List Oper → Option (List XOp)
  | [] => some []
  | o :: os => match compO P N all o with
    | some a => match compL P N all os with
      | some l => some (a :: l)
      | none => none
    | none => none
/-- is the operation carried out? -/
def wantX (F : T X) (g : Option (Nat × Bool)) : Option Bool := match g with
  | none => some true
  | some (s, w) => match fD F s with
    | .v (.bool b) => some (b == w)
    | .v (.tuple _) => some false
    | _ => none
def putX (d : Option Nat) (v : X) (F : T X) : T X := match d with
  | none => F
  | some d => T.put dpt F d (some v)
theorem putX_ok {N : Nat} {d : Option Nat} (hd : dstB N d = true) (v : X) (F : T X) : fD (putX d v F) = fput d v (fD F) ∧ ∀ x, d = some x → x < N := by
  have : putD N d v F = some (putX d v F) := by
    unfold putD putX
    cases d with
    | none => rfl
    | some d => simp only [dstB] at hd; simp only [hd]
  exact putD_ok this
theorem want_ok {N n0 : Nat} {F : T X} {all : List Oper} {o : Oper} {g : Option (Nat × Bool)} {b : Bool} (hg : guardX N all o.guard = some g) (h : wantX F g = some b) {S : Nat → Prop} {M : Nm} {f : Nat → X} {hp : HF} {a : Act} {w : World} (st : St n0 ng N S M f hp a w) (hf : ∀ t ∈ looksOf all o, f t = fD F t) :
    Region.wanted o (yielded all.toArray a.tmps) = b := by
  unfold guardX at hg
  split at hg
  · rename_i hgd
    simp only [Option.some.injEq] at hg; subst hg
    simp only [wantX, Option.some.injEq] at h; subst h
    simp [Region.wanted, hgd]
  · rename_i j wt hgd
    split at hg
    case h_2 => cases hg
    rename_i oj hj
    split at hg
    case h_2 => cases hg
    rename_i s hs
    split at hg
    case h_2 => cases hg
    rename_i hlt
    simp only [Option.some.injEq] at hg; subst hg
    have hlt := Nat.le_of_ble_eq_true hlt
    have hs' : a.tmps[s]? = some (a.tmps.getD s undef) := by
      have : s < a.tmps.size := by rw [st.size]; exact Nat.lt_of_lt_of_le (Nat.lt_succ_self s) hlt
      simp [this]
    have hy : ∀ v, a.tmps.getD s undef = v → yielded all.toArray a.tmps j = match v with | .bool b => some b | _ => none := fun v hv => by
      unfold yielded
      simp only [List.getElem?_toArray, hj, Option.bind_some, hs]
      rw [hs', hv]
      cases v <;> rfl
    have hfr := st.fr s
    rw [hf s (by simp [looksOf, hgd, hj, hs])] at hfr
    simp only [wantX] at h
    split at h
    · rename_i c hc
      simp only [Option.some.injEq] at h; subst h
      rw [hc] at hfr; simp only [RX] at hfr
      have := hy _ hfr
      simp [Region.wanted, hgd, this]
    · rename_i us hc
      simp only [Option.some.injEq] at h; subst h
      rw [hc] at hfr; simp only [RX] at hfr
      have := hy _ hfr
      simp [Region.wanted, hgd, this]
    · cases h
def evOps (call : CallF) (P : Program) (ng : Nat) : List XOp → T X → T Blk → Nat → Option (T X × T Blk × Nat × List Ft)
  | [], F, H, nb => some (F, H, nb, [])
  | o :: os, F, H, nb => match wantX F o.g with
    | some true => match stepX o.x call P ng o.o F H nb with
      | some (v, H', nb', ft) => match o.hp || isNil ft with
        | true => match evOps call P ng os (putX o.dst v F) H' nb' with
          | some (F2, H2, nb2, fts) => some (F2, H2, nb2, ft :: fts)
          | none => none
        | false => none
      | none => none
    | some false => match evOps call P ng os (putX o.dst (.v undef) F) H nb with
      | some (F2, H2, nb2, fts) => some (F2, H2, nb2, .ef .nop [] :: fts)
      | none => none
    | none => none
theorem compO_ok {P : Program} {N : Nat} {all : List Oper} {o : Oper} {a : XOp} (h : compO P N all o = some a) : dstB N o.dst = true ∧ guardX N all o.guard = some a.g ∧ a.o = o ∧ a.x = compX P o.op ∧ a.dst = o.dst ∧ a.hp = heapy o.op := by
  unfold compO at h
  split at h
  case h_2 => cases h
  rename_i hd
  split at h
  case h_2 => cases h
  rename_i g hg
  simp only [Option.some.injEq] at h; subst h
  exact ⟨hd, hg, rfl, rfl, rfl, rfl⟩
theorem compL_cons {P : Program} {N : Nat} {all os : List Oper} {o : Oper} {xs : List XOp} (h : compL P N all (o :: os) = some xs) : ∃ a l, xs = a :: l ∧ compO P N all o = some a ∧ compL P N all os = some l := by
  simp only [compL] at h
  split at h
  case h_2 => cases h
  rename_i a ha
  split at h
  case h_2 => cases h
  rename_i l hl
  simp only [Option.some.injEq] at h; subst h
  exact ⟨a, l, rfl, ha, hl⟩
theorem St.putS {n0 N : Nat} {S S' : Nat → Prop} {M M' : Nm} {f : Nat → X} {h h' : HF} {a : Act} {w w' : World} {d : Option Nat} {v : X} {u : Value} (st : St n0 ng N S M f h a w) (hd : ∀ x, d = some x → x < N) (hS : ∀ b, S b → S' b) (hle : Nm.le S M M') (hr : XRel n0 S' M' h' w')
    (hb : Below n0 w w') (hv : RX M' v u) (hvb : v.bd S') : St n0 ng N S' M' (fput d v f) h' (a.put d u) w' := by
  refine ⟨hr, fun t => ?_, fun t => ?_, ?_, ?_, Nat.le_trans st.hi hb.size, st.gl.next hS hle hb⟩
  · cases d with
    | none => exact RX_mono hle _ _ (st.bd t) (st.fr t)
    | some d =>
      simp only [fput, Act.put]
      rw [Ab.getD_set st.size (hd d rfl)]
      by_cases ht : t = d
      · subst ht; simp only [if_true]; exact hv
      · rw [if_neg ht, if_neg (Ne.symm ht)]; exact RX_mono hle _ _ (st.bd t) (st.fr t)
  · cases d with
    | none => exact bd_mono hS _ (st.bd t)
    | some d =>
      simp only [fput]
      split
      · exact hvb
      · exact bd_mono hS _ (st.bd t)
  · cases d <;> simp [Act.put, st.size]
  · cases d <;> simp [Act.put, st.defers]
theorem SI_trans {S : Nat → Prop} {a b c : Nat} (h1 : a ≤ b) (h2 : b ≤ c) : ∀ x, SI (SI S a b) b c x → SI S a c x := fun x hx => by
  rcases hx with (hx | ⟨p, q⟩) | ⟨p, q⟩
  · exact .inl hx
  · exact .inr ⟨p, Nat.lt_of_lt_of_le q h2⟩
  · exact .inr ⟨Nat.le_trans h1 p, q⟩
theorem SI_sub {S : Nat → Prop} {a b c : Nat} (h2 : b ≤ c) : ∀ x, SI S a b x → SI S a c x := fun x hx => by
  rcases hx with hx | ⟨p, q⟩
  · exact .inl hx
  · exact .inr ⟨p, Nat.lt_of_lt_of_le q h2⟩
theorem St.monoS {n0 N : Nat} {S S' : Nat → Prop} {M : Nm} {f : Nat → X} {h : HF} {a : Act} {w : World} (hS : ∀ b, S b → S' b) (st : St n0 ng N S M f h a w) : St n0 ng N S' M f h a w :=
  ⟨st.rel.monoS hS, st.fr, fun t => bd_mono hS _ (st.bd t), st.size, st.defers, st.hi, st.gl.next hS (Nm.le.refl _ _) (Below.refl _ _)⟩
/-- in the order of the text -/
theorem evOps_ok (hc : CallsOk P ng call) {N : Nat} {all : List Oper} {Q : Exit → Act → World → Prop} {n0 : Nat} {w0 : World} : ∀ (l : List Oper) (xs : List XOp) (F : T X) (H : T Blk) (nb : Nat) (F2 : T X) (H2 : T Blk) (nb2 : Nat) (fts : List Ft), compL P N all l = some xs → evOps call P ng xs F H nb = some (F2, H2, nb2, fts) →
    nb ≤ nb2 ∧ ∀ (S : Nat → Prop) (M : Nm) (a : Act) (w : World), St n0 ng N S M (fD F) (hD H) a w → (∀ b, nb ≤ b → b < nb2 → ¬ S b) → Below n0 w0 w →
      (∀ M' a' w', Nm.le S M M' → St n0 ng N (SI S nb nb2) M' (fD F2) (hD H2) a' w' → Below n0 w0 w' → Q .normal a' w') → wpList P all.toArray Q l a w
  | [], xs, F, H, nb, F2, H2, nb2, fts, hxs, h => by
    simp only [compL, Option.some.injEq] at hxs; subst hxs
    simp only [evOps, Option.some.injEq, Prod.mk.injEq] at h
    obtain ⟨rfl, rfl, rfl, rfl⟩ := h
    exact ⟨Nat.le_refl _, fun S M a w st _ hb hQ => hQ M a w (Nm.le.refl _ _) (st.monoS fun b hb => .inl hb) hb⟩
  | o :: l, xs, F, H, nb, F2, H2, nb2, fts, hxs, h => by
    obtain ⟨x, xs', rfl, hx, hl⟩ := compL_cons hxs
    obtain ⟨hd, hg, e1, e2, e3, e4⟩ := compO_ok hx
    simp only [evOps, e1, e2, e3, e4] at h
    split at h
    · rename_i hw
      split at h
      case h_2 => cases h
      rename_i v H' nb' ft hstep
      split at h
      case h_2 => cases h
      split at h
      case h_2 => cases h
      rename_i F3 H3 nb3 fts3 hrest
      simp only [Option.some.injEq, Prod.mk.injEq] at h
      obtain ⟨rfl, rfl, rfl, rfl⟩ := h
      have hs := stepX_ok hc hstep
      obtain ⟨hp1, hp2⟩ := putX_ok hd v F
      obtain ⟨hle, ih⟩ := evOps_ok hc l xs' (putX o.dst v F) H' nb' F3 H3 nb3 fts3 hl hrest
      refine ⟨Nat.le_trans hs.le hle, fun S M a w st hn hb hQ => ?_⟩
      unfold wpList
      rw [want_ok hg hw st (fun _ _ => rfl), if_pos rfl]
      refine .inl (hs.stp n0 N S M _ _ a w st (fun _ _ => rfl) hs.ag (fun b h1 h2 => hn b h1 (by omega)) _ _ fun u w' M' g1 g2 g3 g4 g5 => ?_)
      rw [hs.tr] at g2
      have st' := st.putS hp2 (fun b hb => .inl hb) g1 g2 g3 g4 g5
      rw [← hp1] at st'
      refine ih (SI S nb nb') M' _ w' st' (fun b h1 h2 hS => ?_) (hb.trans g3) fun M2 a2 w2 k1 k2 k3 => hQ M2 a2 w2 (g1.trans k1 fun b hb => .inl hb) (k2.monoS (SI_trans hs.le hle)) k3
      rcases hS with hS | hS
      · exact hn b (Nat.le_trans hs.le h1) h2 hS
      · omega
    · rename_i hw
      split at h
      case h_2 => cases h
      rename_i F3 H3 nb3 fts3 hrest
      simp only [Option.some.injEq, Prod.mk.injEq] at h
      obtain ⟨rfl, rfl, rfl, rfl⟩ := h
      obtain ⟨hp1, hp2⟩ := putX_ok hd (.v undef) F
      obtain ⟨hle, ih⟩ := evOps_ok hc l xs' (putX o.dst (.v undef) F) H nb F3 H3 nb3 fts3 hl hrest
      refine ⟨hle, fun S M a w st hn hb hQ => ?_⟩
      unfold wpList
      rw [want_ok hg hw st (fun _ _ => rfl), if_neg (by simp)]
      have st' := st.putS (d := o.dst) (v := .v undef) (u := undef) hp2 (fun b hb => hb) (Nm.le.refl _ _) st.rel (Below.refl _ _) (by simp [RX]) (by simp [X.bd])
      rw [← hp1] at st'
      exact ih S M _ w st' hn hb hQ
    · cases h
end
end Go.Ev
